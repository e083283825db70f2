/- Part 25 of 40. -/
import Derived.Test.YtehaoggjlciobaaGreatQbh
set_option linter.all false
set_option maxRecDepth 20000
set_option maxHeartbeats 16000000
namespace Go.Proofs.YtehaoggjlciobaaGreat
open Go.Maps Go.RowKit Go.Proofs.Tryz
variable {D:DataW Value} {B:Int} {os ps:List Int} {X es:List Nat} {N U b c gb i n:Nat} {l:Nat->List ax} {p:Nat->cZ} {ov pv rv sv:Value} {w w2 wr:World} {V:e9}
def Ew (g:aG) (σ':Nat->ci) (t:Nat):Prop:=∀ i,i<g.n->(i<t->∃ L',An (g.σ i).L L'/\σ' i={g.σ i with L:=L'})/\(t<=i->σ' i=g.σ i)
def WR (g g':aG):Prop:=∃ σ',Ew g σ' g.n/\g'={g with σ:=σ'}
theorem Ew.step {g:aG} {σ':Nat->ci} {t:Nat} {L':ByteArray->List ax} (h:Ew g σ' t) (ht:t<g.n) (hc:An (σ' t).L L'):Ew g (ed σ' t {σ' t with L:=L'}) (t+1):=by
 intro i hi;by_cases e:i=t
 ·subst e;have e2:=(h i hi).2 (CP _);rw[nO,e2];rw[e2]at hc;exact⟨λ_=>⟨L',hc,rfl⟩,λg=>absurd g ab⟩
 ·rw[pT e];exact⟨λg=>(h i hi).1 ab,λg=>(h i hi).2 ab⟩
theorem AX {g:aG} (h1:GB w gb g V) (h2:fo w B gb g V):∃ SA sc,w.cell? ⟨gb,3,none⟩=some (.slice SA g.n sc)/\Rw w 83 1 qk (.slice SA g.n sc) ((List.range g.n).map λi=>(g.p i).sb):=by
 have dO:w.cell? ⟨gb,3,none⟩=some V.sv:=aE h1 3;obtain⟨SA,sc,mx,_,_⟩:=h2.a6.sites.form;have hS:=h2.a6.sites;have eO:((List.range g.n).map λi=>(g.p i).sb).length=g.n:=ao;rw[mx,eO]at dO hS;exact⟨SA,sc,dO,hS⟩
theorem pY {SA:Option Addr} {sc:Nat} (h:Rw w 83 1 qk (.slice SA n sc) ((List.range n).map λi=>(p i).sb)) (hi:i<n):∃ b off,SA=some ⟨b,off,none⟩/\w.cell? ⟨b,off+i,none⟩=some (.pointer (some ⟨(p i).sb,0,none⟩)):=by
 have hx:((List.range n).map λi=>(p i).sb)[i]? =some (p i).sb:=by rw[List.getElem?_map,List.getElem?_range hi];rfl
 obtain⟨b,off,rfl,hb,fE⟩:=h.af hx;have c0:=iU fE;simp only[Nat.mul_one]at c0;exact⟨b,off,rfl,c0⟩
theorem sx.fr {v:Value} {ps:List cf} (h:sx w v ps) (hf:Fr bq w w2):sx w2 v ps:=⟨h.1.fr hf (by unfold bq;decide),λx hx=>⟨(h.2 x hx).1.fr hf (by unfold bq;decide),(h.2 x hx).2⟩⟩
theorem WS:∀ {ps:List cf},(∀ x∈ps,x.ds.length<=4)->(gi ps).length<=4*ps.length
 |[],_=>by simp[gi]
 |p::t,h=>by
  have h1:=WS (ps:=t) (λx hx=>h x (zM _ hx));have h2:=h p ao;unfold gi at h1⊢;rw[List.flatMap_cons,zH,List.length_cons];omega
theorem qhe (B:Int) (gb:Nat) (g:aG) (qD:ee) (w:World) (h:aT w B gb g) (hB:0<=B) (h9:B<=900):
  Calls prog 65 #[.pointer (some ⟨gb,0,none⟩),dx qD] w λe w'=>∃ g',e= .returned (gm 0 yo)/\aT w' B gb g'/\WR g g'/\bN w w':=by
 have HG:=aa h;have an:=h.lt;obtain⟨V,h1,h2⟩:=h;obtain⟨SA,sc,c3,bR⟩:=AX h1 h2;have gV:0<g.n:=h2.a6.fit.fit.one;have jJ:g.n<=6:=h2.a6.fit.fit.cV;have HS:ag (∀ W,ad w W->∀ i,i<g.n->ba W B (g.p i) i (g.σ i)):=λW hW i hi=>(h2.bi i hi).kept hW;obtain⟨b0,ud,rfl,Nu⟩:=pY bR gV;simp only[Nat.add_zero]at Nu;have dW:=Aa w _ Nu;obtain⟨n,hn⟩:=eqQ g.n;have HN:=aa hn;rw[hn]at c3 gV jJ bR;have cU:=aa bR;have rp:=aa c3;clear h1 h2 bR hn;obtain⟨ok,oc,os,ot,oa,oh,bT,dj,dq,dH,dI,dJ⟩:=qD;unfold dx il;simp only at*;obtain⟨bS,dT⟩:=pU (w:=w) (xs:= #[.int .i64 ok,.int .i64 oc,.int .i64 os,.int .i64 ot,.int .i64 oa,.int .i64 oh,.string bT,.string dj,dq,dH,dI,dJ]) (ys:= #[.int .i64 0,.slice none 0 0]) (a:=36) (b:=42);have dG:=aa bS;have dy:=aa dT;clear bS dT;go_in;go_wp2_with fail
 refine(Uc B (g.p 0) _ (g.σ 0) _ (HS.o _ al 0 (by rw[HN.o];exact gV))).mono ?_;rintro e w1 ⟨rfl,k1⟩;have K1:ad w w1:=ad.call al k1;have cC:=aa (k1.heap dy.o);have c3:=K1.af c3;have aY:=K1.size;have kp:w.heap.size+1<w1.heap.size:=(aQ cC.o);have cx:=aa K1;clear k1 Nu K1;generalize (g.σ 0).cn=Nv;generalize (g.σ 0).cs=fx;have aV:=yY w1 (.cells #[.int .i64 Nv,.int .i64 fx] 45);have bb:ad w1 (w1.alloc (.cells #[.int .i64 Nv,.int .i64 fx] 45)):=(ad.refl _).alloc _;have si:gb<w1.heap.size:=ab;have hV:=aa aV;have eb:=aa bb;clear aV bb;go_wp2;go_loopw [22] (λiv wr=>∃ (U:Nat) (x y:Int),U<=n/\iv= .int .i64 U/\ag (ad w wr)/\ag (wr.heap[w.heap.size+1]? =some (.cells #[.int .i64 0,.slice none 0 0] 42 (0,0)))/\ag (wr.heap[w1.heap.size]? =some (.cells #[.int .i64 x,.int .i64 y] 45 (0,0)))) (λiv _=>n-(intOf iv).toNat)
 case atStart=>exact⟨0,Nv,fx,ab,rfl,cx.o.call eb.o,eb.o.heap cC.o,hV.o⟩
 case round=>
  obtain⟨U,x,y,hj,rfl,hk,ha,hs⟩:=hrel;have ou:=hk.o.size;have Nw:w1.heap.size<wr.heap.size:=(aQ hs.o);have s0:=ap hs.o 0;have s1:=ap hs.o 1;have f0:=aI hs.o 0;have f1:=aI hs.o 1;by_cases iT:U<n
  ·obtain⟨b,off,fQ,dU⟩:=pY (cU.o.kept hk.o) iT;injection fQ with fQ;injection fQ with e1 e2;subst e1 e2;obtain⟨cn,Dr⟩:=eqQ ((g.σ U).cn);obtain⟨cs,fa⟩:=eqQ ((g.σ U).cs)
   have qU:ag (∀ W,ad wr W->Calls prog 113 #[.pointer (some ⟨(g.p U).sb,0,none⟩)] W λe w'=>e= .returned (.agg #[.int .i64 cn,.int .i64 cs])/\ad W w'):=λW hW=>by
    have:=Uc B (g.p U) _ (g.σ U) W (HS.o W (hk.o.call hW) U (by rw[HN.o];exact iT));rw[Dr,fa]at this;exact this
   obtain⟨jA,mh⟩:=eqQ (c8 cn cs x y);have pj:=aa mh;clear Dr fa mh;go_wp2;refine bz (λwB=>ad wr wB/\wB.cell? ⟨w1.heap.size,0,none⟩=some (.int .i64 x)/\wB.cell? ⟨w1.heap.size,1,none⟩=some (.int .i64 y)) λwB SS=> ?_;obtain⟨au,aB,aC⟩:=SS.o _ (ad.refl _);repeat(apply DW.ct;(focus (intro wd hI;obtain⟨ae,ai,aj⟩:=SS.o wd hI;go_wp2_with (first|(go_at_call 113;refine(qU.o _ (au.call hI)).mono ?_;rintro e w5 ⟨rfl,cF⟩)|(go_at_call 114;refine(qw cn cs x y _).mono ?_;rw[pj.o];rintro e w5 ⟨rfl,cF⟩));exact aP));refine DW.np ?_)
   refine DW.nl SS ?_;rintro wd hI ⟨ae,ai,aj⟩;have dr:=aa (hk.o.call ae);have cI:=aa (ae.heap ha.o);have sH:=aa (ae.heap hs.o)
   cases jA
   ·go_wp2;go_roundw
    case rel=>exact⟨U+1,x,y,ab,aA,dr,cI,sH⟩
    case measure=>exact dY
   ·go_wp2_with fail
    refine(qU.o _ ae).mono ?_;rintro e w5 ⟨rfl,k5⟩;have gv:=aa (dr.o.call k5);have dh:=aa (k5.heap cI.o);have dQ:=aa (k5.heap sH.o);have f0:=aI dQ.o 0;have f1:=aI dQ.o 1;have xS:w1.heap.size<w5.heap.size:=(aQ dQ.o);have aV:=bC dQ.o (.int .i64 cn) (.int .i64 cs);have e0:=ap dQ.o 0;have e1:=ap dQ.o 1;have fk:=ah.bC (w:=w5) w1.heap.size (.int .i64 cn) (.int .i64 cs);have qhf:=aa aV;have WT:=aa fk;clear k5 aV fk ae au hI ai aj aB aC;go_wp2;go_roundw
    case rel=>exact⟨U+1,cn,cs,ab,aA,ad.but gv.o WT.o (by simp;omega),(WT.o.heap dh.o (by simp;omega)),qhf⟩
    case measure=>exact dY
  ·obtain rfl:U=n:=ab;obtain⟨W2,rfl⟩:=eqR wr;have c3:=hk.o.af rp.o;have vA:=aa (HG.o.kept hk.o);clear s0 s1 f0 f1;go_wp2;go_loopw [38] (λiv wr=>∃ (t:Nat) (σ':Nat->ci),t<=U/\iv= .int .i64 t/\ag (aT wr B gb {g with σ:=σ'})/\ag (Ew g σ' t)/\ag (bN W2 wr)/\ag (wr.heap[w.heap.size+1]? =some (.cells #[.int .i64 0,.slice none 0 0] 42 (0,0)))/\ag (wr.heap[w1.heap.size]? =some (.cells #[.int .i64 x,.int .i64 y] 45 (0,0)))) (λiv _=>U-(intOf iv).toNat)
   case atStart=>exact⟨0,g.σ,ab,rfl,vA,λi hi=>⟨λh=>absurd h ab,λ_=>rfl⟩,.ar (ad.refl _),ha,hs⟩
   case round=>
    obtain⟨t,σ',ht,rfl,hg,CN,hf,gg,dp⟩:=hrel;have s0:=ap dp.o 0;have s1:=ap dp.o 1;by_cases sI:t<U
    ·obtain⟨b,off,fQ,dU⟩:=pY ((cU.o.kept hk.o).fr hf.o ak) sI;injection fQ with fQ;injection fQ with e1 e2;subst e1 e2;have lS:t<g.n:=by rw[HN.o];exact sI
     obtain⟨V2,h1,h2⟩:=hg.o;obtain⟨fN,_,Ex,ue⟩:=h2.a6.pins;obtain⟨PA,pc,lD,_,_⟩:=fN.1.form;have gZ:wr.cell? ⟨gb,21,none⟩=some V2.nv:=aE h1 21;rw[lD]at gZ fN;generalize (aG.pins _).length=pm at gZ fN;have kG:ag (sx wr (.slice PA pm pc) g.pins):=fN;have Nx:ag (g.pins.length<=8):=Ex;have AY:ag (∀ x∈g.pins,x.ds.length<=4):=λx hx=>(ue x hx).1
     have Iw:ag ((gi g.pins).length<=1000000):=by
      have h:=WS (ps:=g.pins) (λx hx=>(ue x hx).1);have:g.pins.length<=8:=Ex;unfold ag;omega
     have Io:=aa (h2.bi t lS);clear h1 h2 fN Ex ue lD;go_wp2;refine ey [none,none,none,none,none,none,some (λu w'=>Rw w' 60 3 aS u (gi g.pins))] (λwB=>ad wr wB/\wB.cell? ⟨w1.heap.size,0,none⟩=some (.int .i64 x)/\wB.cell? ⟨w1.heap.size,1,none⟩=some (.int .i64 y)/\wB.cell? ⟨gb,21,none⟩=some (.slice PA pm pc)) λwB SS=> ?_;obtain⟨au,aB,aC,aF⟩:=SS.o _ (ad.refl _);iterate 6 refine SP.on ?_
     refine SP.ew ?_ λv1=> ?_
     ·intro wd hI hF;obtain⟨ae,ai,aj,aq⟩:=SS.o wd hI;clear hF;go_wp2_with ((go_at_call 116;refine(qeY PA pm pc g.pins _ (kG.o.fr (.ar ae)) (by have:=Nx.o;omega) (λx hx=>by have:=AY.o x hx;omega) Iw.o).mono ?_;rintro e w5 ⟨v5,rfl,h5,k5⟩));exact bn rfl h5
     refine SP.ml SS ?_;rintro wd hI hF ⟨ae,ai,aj,aq⟩;have h1:=hF.1;clear hF SS;obtain⟨w9,fA,k9⟩:=h1;have ii:=aa (fA.kept k9);have sH:=aa (Io.o.kept ae);have yp:=aa (hg.o.kept ae);have cI:=aa (ae.heap gg.o);have MA:=aa (ae.heap dp.o);have Ny:=aa (hf.o.trans (.ar ae));clear fA k9 ae au hI ai aj aq aB aC aF;go_wp2_with fail
     refine(qeE B (g.p t) _ (σ' t) x y _ (gi g.pins) wd sH.o ii.o Iw.o hB ab).mono ?_;rintro e w6 ⟨L',rfl,q1,q2,q3,q4⟩;obtain⟨r1,r2⟩:=yp.o.tY (i:=t) lS q1 (q3.mono (by intro y hy;simp at hy⊢;subst hy;simp)) q4 (Int.le_refl _);have eS:=aa r1;have sq:=aa (CN.o.step lS q2);have DK:=aa (Ny.o.trans r2);have aZ:=aa (gY cI.o r2);have Ey:=aa (r2.block _ _ _ MA.o ak);clear q1 q2 q3 q4 r1 r2;go_wp2;go_roundw
     case rel=>exact⟨t+1,_,ab,aA,eS,sq,DK,aZ,Ey⟩
     case measure=>exact dY
    ·obtain rfl:t=U:=ab;obtain⟨p0,p1,p2,p3⟩:=dg gg.o;go_wp2;have aL:=bC gg.o (.int .i64 0) (.slice none 0 0);have y0:=ap aL 0;have y1:=ap aL 1;refine KV (v:= .agg #[.int .i64 0,.slice none 0 0]) (by simp[results,results65,go_sem,y0,y1]) rfl ?_;obtain⟨r1,r2⟩:=df hk.o ab ha.o hg.o hf.o;exact⟨_,rfl,r1,⟨σ',by rw[HN.o];exact CN.o,rfl⟩,r2⟩
theorem qhg (rv ov pv:Value) (es:List Nat) (os ps:List Int) (k:ByteArray) (w:World) (h:fm w rv ov pv es os ps) (hf:eA es os ps ps.length):
  Calls prog 98 #[.agg #[rv,ov,pv],.string k] w λe w'=>∃ a:Nat,e= .returned (.int .i64 a)/\a<ps.length/\ad w w':=by
 obtain⟨A,B,C,n1,c1,n2,c2,c3,hh,hr⟩:=h.mu;injection hh with hh;have jl:=congrArg Array.toList hh;simp only[List.cons.injEq,and_true]at jl;obtain⟨rfl,rfl,rfl⟩:=jl;refine(UN A B C n1 c1 n2 c2 _ c3 es os ps k w hr hf.fit).mono ?_;rintro e w' ⟨r,rfl,h1,h2⟩;obtain⟨q1,q2,_⟩:=Vc hf.fit h1;obtain⟨a,rfl⟩:∃ a:Nat,r=a:=⟨r.toNat,ab⟩;exact⟨a,rfl,ab,h2⟩
def OA (e:TypeId):Prop:=e=36∨e=42∨e=9
structure oM (w wr:World) (P Q:Nat) (id:Int) (kv pv wv fv:Value) (ds:List aD) (ws:List Int) (fl:List ax):Prop where
 uf:wr.heap[P]? =some (.cells #[.int .i64 id,pv] 166 (0,0))
 jA:wr.heap[Q]? =some (.cells #[kv,wv] 78 (0,0))
 po:wr.ownsRow w.heap.size 60 3 pv ds.length (ds.flatMap aS)
 wo:wr.ownsRow w.heap.size 3 1 wv ws.length (ws.flatMap cJ)
 ic:wr.ownsRow w.heap.size 48 6 fv fl.length (fl.flatMap a8)
section
variable {w wr w2:World} {P Q:Nat} {id:Int} {kv pv wv fv:Value} {ds:List aD} {ws:List Int} {fl:List ax}
theorem oM.keep (h:oM w wr P Q id kv pv wv fv ds ws fl) (hk:ad wr w2):oM w w2 P Q id kv pv wv fv ds ws fl:=⟨hk.heap h.uf,hk.heap h.jA,ad.own h.po hk,ad.own h.wo hk,ad.own h.ic hk⟩
theorem oM.qhh (h:oM w wr P Q id kv pv wv fv ds ws fl) (hB:ah wv.ownBlock.toList wr w2) {v6:Value} {yu:List Int} (ho:w2.ownsRow w.heap.size 3 1 v6 yu.length (yu.flatMap cJ)) (hK:ad w wr) (o3:w.heap.size<=Q):
  oM w (w2.setCell ⟨Q,1,none⟩ v6) P Q id kv pv v6 fv ds yu fl/\ad w (w2.setCell ⟨Q,1,none⟩ v6)/\Fr OA wr (w2.setCell ⟨Q,1,none⟩ v6)/\w2.frozen? ⟨Q,1,none⟩=false/\w2.cell? ⟨Q,1,none⟩=some wv:=by
 have n1:=ec h.wo h.uf ak;have n2:=ec h.wo h.jA ak;have rq:=hB.heap h.uf n1;have rr:=hB.heap h.jA n2;have WU:=cB h.po hB (nJ h.po h.wo ak);have Ez:=cB h.ic hB (nJ h.ic h.wo ak);have hb:=ah.set (w:=w2) Q 1 v6;have Nz:=fB rq rr ak;refine⟨⟨hb.heap rq (by simpa using Nz),Ok w2 Q 1 _ _ v6 rr,cB WU hb (gL WU rr ak),cB ho hb (gL ho rr ak),cB Ez hb (gL Ez rr ak)⟩,(hK.but hB λx hx=>(h.wo.lt x (Option.mem_toList.1 hx)).1).but hb (by simpa using o3),?_,aI rr 1,aE rr 1⟩;exact((ye h.wo hB).mono (λe he=>by rcases he with rfl|rfl|rfl <;>decide)).trans (Fr.one hb rr (by unfold OA;decide))
theorem oM.qhi (h:oM w wr P Q id kv pv wv fv ds ws fl) (hB:ah pv.ownBlock.toList wr w2) {v6:Value} {vM:List aD} (ho:w2.ownsRow w.heap.size 60 3 v6 vM.length (vM.flatMap aS)) (hK:ad w wr) (hP:w.heap.size<=P):
  oM w (w2.setCell ⟨P,1,none⟩ v6) P Q id kv v6 wv fv vM ws fl/\ad w (w2.setCell ⟨P,1,none⟩ v6)/\Fr OA wr (w2.setCell ⟨P,1,none⟩ v6)/\w2.frozen? ⟨P,1,none⟩=false/\w2.cell? ⟨P,1,none⟩=some pv:=by
 have n1:=ec h.po h.uf ak;have n2:=ec h.po h.jA ak;have rq:=hB.heap h.uf n1;have rr:=hB.heap h.jA n2;have WV:=cB h.wo hB (nJ h.wo h.po ak);have Ez:=cB h.ic hB (nJ h.ic h.po ak);have hb:=ah.set (w:=w2) P 1 v6;have Nz:=fB rr rq ak;refine⟨⟨Ok w2 P 1 _ _ v6 rq,hb.heap rr (by simpa using Nz),cB ho hb (gL ho rq ak),cB WV hb (gL WV rq ak),cB Ez hb (gL Ez rq ak)⟩,(hK.but hB λx hx=>(h.po.lt x (Option.mem_toList.1 hx)).1).but hb (by simpa using hP),?_,aI rq 1,aE rq 1⟩;exact((ye h.po hB).mono (λe he=>by rcases he with rfl|rfl|rfl <;>decide)).trans (Fr.one hb rq (by unfold OA;decide))
theorem oM.qhj (h:oM w wr P Q id kv pv wv fv ds ws fl) (hB:ah fv.ownBlock.toList wr w2) {v6:Value} {Ix:List ax} (ho:w2.ownsRow w.heap.size 48 6 v6 Ix.length (Ix.flatMap a8)) (hK:ad w wr):
  oM w w2 P Q id kv pv wv v6 ds ws Ix/\ad w w2/\Fr OA wr w2:=by
 have n1:=ec h.ic h.uf ak;have n2:=ec h.ic h.jA ak;exact⟨⟨hB.heap h.uf n1,hB.heap h.jA n2,cB h.po hB (nJ h.po h.ic ak),cB h.wo hB (nJ h.wo h.ic ak),ho⟩,hK.but hB λx hx=>(h.ic.lt x (Option.mem_toList.1 hx)).1,(ye h.ic hB).mono (λe he=>by rcases he with rfl|rfl|rfl <;>decide)⟩
end
theorem GB.oJ {g:aG} (h:GB w gb g V) (hc:c<4):w.cell? ⟨gb,13+c*2,none⟩=some (V.kv c)/\w.cell? ⟨gb,13+c*2+1,none⟩=some (V.wv c):=by
 rcases(by omega:c=0∨c=1∨c=2∨c=3)with rfl|rfl|rfl|rfl <;>exact⟨aE h _,aE h _⟩
theorem aT.WW {g:aG} (h:aT w B gb g) {nv:Value} {ps:List cf} (hp:sx w nv ps/\lq ps/\ps.length<=8/\∀ x∈ps,x.ds.length<=4/\∀ d∈x.ds,Let d.key):
  aT (w.setCell ⟨gb,21,none⟩ nv) B gb {g with pins:=ps}/\bN w (w.setCell ⟨gb,21,none⟩ nv):=by
 obtain⟨V,h1,h2⟩:=h;have hb:ah [gb] w (w.setCell ⟨gb,21,none⟩ nv):=ah.set gb _ _;have cG:=(h1.fr hb).j7;have h3:=h2.Il h1 hb;refine⟨⟨{V with nv:=nv},?_,⟨⟨h3.a6.row,h3.a6.fit,h3.a6.sites,h3.a6.bY,h3.a6.oJ,⟨hp.1.fr cG,hp.2⟩,h3.a6.rl⟩,h3.bi,h3.apart,h3.cm,h3.bx,h3.bJ,h3.cX,h3.old.oU rfl rfl rfl⟩⟩,h1.fr hb⟩;have h4:=Ok w gb 21 _ _ nv h1;unfold GB;rw[h4];rfl
theorem aT.bk_ {g:aG} (h:aT w B gb g) (hc:c<4) {kv wv:Value} {ks:List ByteArray} {ws:List Int} (hk:Rw w 9 1 cd kv ks) (hw:Rw w 3 1 cJ wv ws) (hx:(∀ k∈ks,Let k)/\ks.length<=4/\ws.length=ks.length/\∀ s∈ws,0<=s/\s<(g.n:Int)):
  aT ((w.setCell ⟨gb,13+c*2,none⟩ kv).setCell ⟨gb,13+c*2+1,none⟩ wv) B gb {g with jn:=ed g.jn c (ks,ws)}/\bN w ((w.setCell ⟨gb,13+c*2,none⟩ kv).setCell ⟨gb,13+c*2+1,none⟩ wv):=by
 obtain⟨V,h1,h2⟩:=h;have hb:ah [gb] w ((w.setCell ⟨gb,13+c*2,none⟩ kv).setCell ⟨gb,13+c*2+1,none⟩ wv):=(ah.set gb _ _).trans (ah.set gb _ _);have cG:=(h1.fr hb).j7;have h3:=h2.Il h1 hb;refine⟨⟨{V with kv:=ed V.kv c kv,wv:=ed V.wv c wv},?_,⟨⟨h3.a6.row,h3.a6.fit,h3.a6.sites,h3.a6.bY,λd sZ=> ?_,h3.a6.pins,h3.a6.rl⟩,h3.bi,h3.apart,h3.cm,h3.bx,h3.bJ,h3.cX,h3.old.oU rfl rfl rfl⟩⟩,h1.fr hb⟩
 ·have h4:=Ok _ gb (13+c*2+1) _ _ wv (Ok w gb (13+c*2) _ _ kv h1);unfold GB;rw[h4];congr 2
  rcases(show c=0∨c=1∨c=2∨c=3 by omega)with rfl|rfl|rfl|rfl <;>rfl
 ·by_cases e:d=c
  ·subst e;simp only[nO];exact⟨hk.fr cG (by unfold bq;decide),hw.fr cG (by unfold bq;decide),hx⟩
  ·simp only[pT e];exact h3.a6.oJ d sZ
theorem Iy:Keyed prog 3:=int_keyed underlying3
def pZ (i:Nat):Lit:= .int .i64 (i:Int)
theorem NC (h:i<6):keyOf prog 3 (.int .i64 (i:Int))=some (pZ i):=by
 refine keyOf_int_mk underlying3 ?_;have h1:IntKind.i64.min= -9223372036854775808:=ak;have h2:IntKind.i64.max=9223372036854775807:=ak;simp[Lit.wf,h1,h2];omega
theorem qhk {a:Nat} (h:pZ a=pZ b):a=b:=by
 unfold pZ at h;injection h with _ h;omega
abbrev mz:=Nat->Option Value
def jq (w:World) (b:Nat) (C:mz):Prop:=∃ D,w.ownsMap prog 3 RV b (Maps.size D) D/\Maps.size D<=6/\
 (∀ i,i<6->∀ z,D.atKey (pZ i) z=match C i with|some v=> .held v|none=>z)/\
 (∀ kl,Maps.has D kl=true->∃ i v,i<6/\C i=some v/\kl=pZ i)
theorem qhl (h:w.ownsMap prog 3 RV b n D):w.ownsMap prog 3 RV b (Maps.size D) D:=by
 obtain⟨es,clock,hb,F,hs,ja⟩:=h;refine⟨es,clock,hb,F,?_,ja⟩;rw[ja,size_eq,length_sorted,List.length_map];simp
theorem qhm {C:mz} (h:w.ownsMap prog 3 RV b n D) (h2:∀ kl,Maps.has D kl=true->∃ i v,i<6/\C i=some v/\kl=pZ i):Maps.size D<=6:=by
 obtain⟨es,rfl,hp⟩:=h.tidy Iy;rw[size_eq]
 have hk:∀ p∈es,∃ c:Nat,c<6/\p.1=pZ c:=λp hp=>by
  obtain⟨i,v,h4,_,e⟩:=h2 p.1 (by
   rw[has_eq,List.any_eq_true]
   exact⟨p,hp,by
    have mf:=(h.keysOf);obtain⟨aH,he,bb⟩:=mf;injection he with he;subst he;obtain⟨x,hx⟩:=bb p hp;obtain⟨s,_,hs,_⟩:=Maps.keyOf_int_inv underlying3 hx;rw[hs];simp[Lit.sameKey]⟩)
  exact⟨i,h4,e⟩
 have code:∃ f:Lit->Nat,∀ c:Nat,f (pZ c)=c:=⟨λl=>match l with| .int _ x=>x.toNat|_=>0,λc=>by
  show((c:Int)).toNat=_
  simp⟩
 obtain⟨f,hf⟩:=code
 have h3:(es.map λp=>f p.1).Nodup:=List.pairwise_map.2 (hp.imp_of_mem λ{p q} iH py aN e=>aN (by
  obtain⟨c,h4,h6⟩:=hk p iH;obtain⟨d,h7,h9⟩:=hk q py;rw[h6,h9,hf c,hf d]at e;rw[h6,h9,e]))
 have:=L3 6 _ h3 λx hx=>by
  obtain⟨p,iH,rfl⟩:=List.mem_map.1 hx;obtain⟨c,h4,h6⟩:=hk p iH;rw[h6,hf c];omega
 simpa using this
theorem jq.lt {C:mz} (h:jq w b C):b<w.heap.size:=by
 obtain⟨D,h1,_⟩:=h;exact h1.lt
theorem jq.but {C:mz} (h:jq w b C) (hb:ah X w w2) (hn:b∉X):jq w2 b C:=by
 obtain⟨D,⟨es,clock,h1,h2⟩,h3⟩:=h;exact⟨D,⟨es,clock,hb.heap h1 hn,h2⟩,h3⟩
theorem jq.keep {C:mz} (h:jq w b C) (hk:ad w w2):jq w2 b C:=h.but (.ar (S:=[]) hk) ao
theorem jq.new (w:World):jq (w.alloc (.map #[] 0)) w.heap.size (λ_=>none):=
 ⟨.map [],World.ownsMap_made w _ _ _,by simp[size_eq],λk _ z=>rfl,λk h=>by simp[Maps.has]at h⟩
theorem jq.look {C:mz} (h:jq w b C) (hk:i<6):
  (Instr.lookup 194 (.map (some b)) (.int .i64 (i:Int)) false).run prog w= .ok (jC (C i)) w:=by
 obtain⟨D,h1,_,h2,_⟩:=h;obtain⟨v,ps,cr,hv⟩:=h1.lookup Iy underlying194 (TD w) (show RV _=some (_,_)from rfl) (NC hk);rw[cr];rw[h2 i hk]at hv;unfold RV at hv;unfold jC
 cases hc:C i with
 |none=>rw[hc]at hv;simp at hv;rw[hv.1];rfl
 |some s=>rw[hc]at hv;simp at hv;rw[hv.1];rfl
def ug (C:mz) (k:Nat) (v:Value):mz:=λx=>if x=k then some v else C x
theorem jq.put {C:mz} (h:jq w b C) {k:Nat} (hk:k<6) (v:Value):
  ∃ w',(Instr.mapUpdate 194 (.map (some b)) (.int .i64 (k:Int)) v).run prog w= .ok () w'/\jq w' b (ug C k v)/\ah [b] w w':=by
 obtain⟨D,h1,h8,h2,h3⟩:=h;obtain⟨w',cr,ho,hg⟩:=h1.update Iy underlying194 (by unfold maxLen;omega) (NC hk) (show RV v=some (_,_)from rfl);have hm:IsMap D:=h1.isMap
 have h4:∀ kl,Maps.has (D.put (pZ k) (.held v)) kl=true->∃ k2 v2,k2<6/\ug C k v k2=some v2/\kl=pZ k2:=λkl gC=>by
  by_cases e:kl=pZ k
  ·exact⟨k,v,hk,by simp[ug],e⟩
  ·rw[has_put_other e]at gC;obtain⟨k2,v2,h5,h6,rfl⟩:=h3 kl gC;exact⟨k2,v2,h5,by unfold ug;rw[if_neg];exact h6;rintro rfl;exact e rfl,rfl⟩
 refine⟨w',cr,⟨_,qhl ho,qhm ho h4,λx hx z=> ?_,h4⟩,(ah.refl [b] w).grown hg (λg hg=>by injection hg with hg;exact .inl (by simp[hg]))⟩;unfold ug;by_cases e:x=k
 ·subst e;rw[if_pos rfl,atKey_put_same hm (Iy.key (NC hx))]
 ·rw[if_neg e,atKey_put_other (λg=>e (qhk g)),h2 x hx]
structure ru (w wr:World) (b:Nat) (C:mz) (l:Nat->List ax):Prop where
 map:jq wr b C
 row:∀ i,i<6->wr.ownsRow w.heap.size 48 6 (jC (C i)) (l i).length ((l i).flatMap a8)
 own:∀ i U,i<6->U<6->i≠U->∀ g,(jC (C i)).ownBlock=some g->(jC (C U)).ownBlock≠some g
theorem ru.keep {C:mz} (h:ru w wr b C l) (hk:ad wr w2):ru w w2 b C l:=⟨h.map.keep hk,λi hi=>ad.own (h.row i hi) hk,h.own⟩
theorem ru.new (w wr:World):ru w (wr.alloc (.map #[] 0)) wr.heap.size (λ_=>none) (λ_=>[]):=
 ⟨jq.new wr,λi _=>qcb _ _ _ _,λi U _ _ _ g hg=>by cases hg⟩
theorem ru.put {w6 w7:World} {C:mz} {v6:Value} {DB:List ax} (h:ru w wr b C l) (hi:i<6) (hB:ah (jC (C i)).ownBlock.toList wr w6) (ho:w6.ownsRow w.heap.size 48 6 v6 DB.length (DB.flatMap a8)) (ri:∀ g,v6.ownBlock=some g->(jC (C i)).ownBlock=some g∨wr.heap.size<=g) (hm:jq w7 b (ug C i v6)) (uh:ah [b] w6 w7):ru w w7 b (ug C i v6) (λU=>if U=i then DB else l U):=by
 have xf:∀ {v:Value} {n:Nat} {xs:List Value},w6.ownsRow w.heap.size 48 6 v n xs->w7.ownsRow w.heap.size 48 6 v n xs:=λ{v n xs} h2=>cB h2 uh λg hg hy=>by
  simp only[At]at hy;subst hy;obtain⟨cur,hc⟩:=j5 h2 hg;obtain⟨D,⟨es,clock,hb,_⟩,_⟩:=h.map
  have:=hB.heap hb (λhx=>by
   obtain⟨c2,cz⟩:=j5 (h.row i hi) (Option.mem_toList.1 hx);rw[hb]at cz;cases cz)
  rw[this]at hc;cases hc
 refine⟨hm,λU hj=> ?_,λU k hj hk aN g hg=> ?_⟩
 ·unfold ug;by_cases e:U=i
  ·subst e;simp only[if_pos];exact xf ho
  ·simp only[if_neg e];exact xf (cB (h.row U hj) hB λg hg hy=>h.own U i hj hi e g hg (Option.mem_toList.1 hy))
 ·unfold ug at hg⊢;by_cases e:U=i
  ·subst e;simp only[if_pos]at hg;rw[if_neg (Ne.symm aN)];intro h2;rcases ri g hg with h3|h3
   ·exact h.own U k hj hk aN g h3 h2
   ·have:=((h.row k hk).lt g h2).2;omega
  ·rw[if_neg e]at hg;by_cases e2:k=i
   ·subst e2;simp only[if_pos];intro h2;rcases ri g h2 with h3|h3
    ·exact h.own U k hj hk aN g hg h3
    ·have:=((h.row U hj).lt g hg).2;omega
   ·rw[if_neg e2];exact h.own U k hj hk aN g hg
def lE (es:List Nat) (os:List Int) (i:Int):List Rg:=dd es os i (es.length+1)
def sJ (es:List Nat) (os:List Int) (i:Nat):ci:=⟨lE es os i,λ_=>[],[],0,0⟩
def AZ (e:TypeId):Prop:=e=63∨e=48
theorem ba.Iz {p:cZ} {id:Int} {own:List Rg} (h:ba w B p id ⟨own,λ_=>[],[],0,0⟩) (hk:ah X w w2) (hf:Fr AZ w w2) (h1:p.sb∉X) (h2:p.hb∉X) (h3:p.mb∉X):ba w2 B p id ⟨own,λ_=>[],[],0,0⟩:=by
 obtain⟨A,c,hb,hw⟩:=h.bB;obtain⟨v,l0,dp⟩:=h.sh.bB;obtain⟨C,hm,hc⟩:=h.sh.fz;refine⟨⟨A,c,hk.heap hb h1,hw.fr hf (.inr rfl)⟩,⟨⟨v,hk.heap l0 h2,dp.fr hf (.inl rfl)⟩,h.sh.bx,C,hm.but hk h3,λk hl=> ?_⟩,λv hv=>(by cases hv),h.bx,h.pF⟩;have hn:C k=none:=Classical.byContradiction λg=>((hc k hl).2 g).2 rfl;rw[hn];exact⟨⟨Rw.nil _,λx hx=>(by cases hx),.nil⟩,λg=>absurd rfl g⟩
theorem dF.qhn {w0:World} {X':List Nat} {P:Nat->Nat->Bool} {st:Nat->Nat->bF} (h:dF w0 X w N P st) (hX:∀ x,x∈X'->x∈X):dF w0 X' w N P st:=by
 obtain⟨M,k,S,F,h⟩:=h
 exact⟨M,k,S,F,h.cm,h.map,h.many,h.ne,h.nN,h.nM,h.lN,λx hx=>h.lX x (hX x hx),h.gy,h.bY,λa c s ha hc hs x hx=>by
  obtain⟨q1,q2,q3,q4,q5⟩:=h.own a c s ha hc hs x hx;exact⟨q1,q2,q3,q4,λg=>q5 (hX x g)⟩,h.apart⟩
theorem qho (h:fm w rv ov pv es os ps) (hf:Fr (λe=>e=63∨e=3) w w2):fm w2 rv ov pv es os ps:=⟨h.r.fr hf (.inl rfl),h.qD.fr hf (.inr rfl),h.p.fr hf (.inr rfl)⟩
structure sK (w wr:World) (gb N n U:Nat) (rv ov pv sv:Value) (es:List Nat) (os ps:List Int) (p:Nat->cZ):Prop where
 k:ad w wr
 bB:wr.heap[gb]? =some (.cells #[rv,ov,pv,sv,.pointer (some ⟨N,0,none⟩),.int .i64 0,.slice none 0 0,.int .i64 0,.slice none 0 0,.int .i64 0,.slice none 0 0,.int .i64 0,.slice none 0 0,.slice none 0 0,.slice none 0 0,.slice none 0 0,.slice none 0 0,.slice none 0 0,.slice none 0 0,.slice none 0 0,.slice none 0 0,.slice none 0 0,.slice none 0 0] 82 (0,0))
 row:fm wr rv ov pv es os ps
 own:wr.ownsRow w.heap.size 83 1 sv U (((List.range U).map λi=>(p i).sb).flatMap qk)
 bi:∀ i,i<U->ba wr 0 (p i) i (sJ es os i)
 apart:∀ i k,i<U->k<U->i≠k->(p i).sb≠(p k).sb/\(p i).hb≠(p k).hb/\(p i).mb≠(p k).mb
 ND:∀ i,i<U->w.heap.size<=(p i).sb/\w.heap.size<=(p i).hb/\w.heap.size<=(p i).mb
 cm:dF w ((List.range U).map λi=>(p i).mb) wr N (de n) (λ_ _=>sC)
theorem WX:∀ a,(qk a).length=1:=λ_=>rfl
theorem sK.go (h:sK w wr gb N n U rv ov pv sv es os ps p) (hk:ad wr w2):sK w w2 gb N n U rv ov pv sv es os ps p:=
 ⟨h.k.call hk,hk.heap h.bB,h.row.fr (.ar hk),ad.own h.own hk,λi hi=>(h.bi i hi).kept hk,h.apart,h.ND,h.cm.keep hk⟩
theorem sK.next (h:sK w wr gb N n U rv ov pv sv es os ps p) (hB:ah sv.ownBlock.toList wr w2) {x:cZ} (hs:ba w2 0 x U (sJ es os U)) (h1:wr.heap.size<=x.sb) (h2:wr.heap.size<=x.hb) (h3:wr.heap.size<=x.mb)
  {v6:Value} (ho:w2.ownsRow w.heap.size 83 1 v6 (U+1) (((List.range U).map λi=>(p i).sb).flatMap qk++[.pointer (some ⟨x.sb,0,none⟩)])) (eP:w.heap.size<=gb):
  sK w (w2.setCell ⟨gb,3,none⟩ v6) gb N n (U+1) rv ov pv v6 es os ps (ed p U x):=by
 have hd:=h;have ht:∀ y∈sv.ownBlock.toList,∃ cur,wr.heap[y]? =some (.cells cur 83 (0,0)):=λy hy=>j5 hd.own (Option.mem_toList.1 hy);have nb:=ec hd.own hd.bB ak;have hblk:=hB.heap hd.bB nb;have EA:=ah.set (w:=w2) gb 3 v6;have r9:ah (gb::sv.ownBlock.toList) wr (w2.setCell ⟨gb,3,none⟩ v6):=(hB.mono (λy hy=>zM _ hy)).trans (EA.mono ao)
 have hY:∀ y∈gb::sv.ownBlock.toList,∃ cur e,wr.heap[y]? =some (.cells cur e (0,0))/\(e=82∨e=83):=λy hy=>by
  rcases KX.1 hy with rfl|hy
  ·exact⟨_,_,hd.bB,.inl rfl⟩
  ·obtain⟨cur,hc⟩:=ht y hy;exact⟨cur,_,hc,.inr rfl⟩
 have hF:∀ {P:TypeId->Prop},¬P 82->¬P 83->Fr P wr (w2.setCell ⟨gb,3,none⟩ v6):=λ{P} n1 n2=>Fr.gn r9 λy hy cur e he hp=>by
  obtain⟨c2,e2,h5,h6⟩:=hY y hy;rw[he]at h5;simp only[Option.some.injEq,Obj.cells.injEq]at h5;obtain⟨_,rfl,_⟩:=h5;rcases h6 with rfl|rfl
  ·exact n1 hp
  ·exact n2 hp
 have bW:∀ {q:Nat} {cur:Array Value} {e:TypeId},wr.heap[q]? =some (.cells cur e (0,0))->e≠82->e≠83->q∉gb::sv.ownBlock.toList:=λ{q cur e} hq n1 n2 hy=>by
  obtain⟨c2,e2,h5,h6⟩:=hY q hy;rw[hq]at h5;simp only[Option.some.injEq,Obj.cells.injEq]at h5;obtain⟨_,rfl,_⟩:=h5;rcases h6 with h6|h6
  ·exact n1 h6
  ·exact n2 h6
 have tg:∀ {q:Nat} {yv:_} {dD:_},wr.heap[q]? =some (.map yv dD)->q∉gb::sv.ownBlock.toList:=λ{q yv dD} hq hy=>by
  obtain⟨c2,e2,h5,h6⟩:=hY q hy;rw[hq]at h5;cases h5
 have tM:∀ {y:cZ} {i:Nat},ba wr 0 y i (sJ es os i)->ba (w2.setCell ⟨gb,3,none⟩ v6) 0 y i (sJ es os i):=λ{y i} hs=>by
  obtain⟨c1,t1⟩:=hs.nL;obtain⟨c2,t2⟩:=hs.rm;obtain⟨yv,dD,t3⟩:=hs.mw;exact ba.Iz hs r9 (hF (by unfold AZ;decide) (by unfold AZ;decide)) (bW t1 ak ak) (bW t2 ak ak) (tg t3)
 have WY:ba (w2.setCell ⟨gb,3,none⟩ v6) 0 x U (sJ es os U):=by
  have hZ:gb<wr.heap.size:=(aQ h.bB)
  exact ba.Iz hs EA (Fr.gn EA λy hy cur e he hp=>by
   simp only[At]at hy;subst hy;rw[hblk]at he;simp only[Option.some.injEq,Obj.cells.injEq]at he;obtain⟨_,rfl,_⟩:=he;exact absurd hp (by unfold AZ;decide)) (by simp;omega) (by simp;omega) (by simp;omega)
 have an:∀ i,i<U->(p i).sb<wr.heap.size/\(p i).hb<wr.heap.size/\(p i).mb<wr.heap.size:=λi hi=>by
  obtain⟨c1,t1⟩:=(h.bi i hi).nL;obtain⟨c2,t2⟩:=(h.bi i hi).rm;obtain⟨yv,dD,t3⟩:=(h.bi i hi).mw;exact⟨(aQ t1),(aQ t2),(aQ t3)⟩
 have jm:∀ i,i<U->ed p U x i=p i:=λi hi=>pT ab
 have NE:∀ (f:cZ->Nat),(List.range (U+1)).map (λi=>f (ed p U x i))=(List.range U).map (λi=>f (p i))++[f x]:=λf=>by
  rw[List.range_succ,List.map_append,List.map_cons,List.map_nil,nO];congr 1
  exact List.map_congr_left λi hi=>by rw[jm i (List.mem_range.1 hi)]
 refine⟨(hd.k.but hB λy hy=>(hd.own.lt y (Option.mem_toList.1 hy)).1).but EA (by simpa using eP),Ok w2 gb 3 _ _ v6 hblk,qho hd.row (hF ak ak),?_,λi hi=> ?_,λi k hi hk' aN=> ?_,λi hi=> ?_,?_⟩
 ·have h9:=cB ho EA (gL ho hblk ak);rw[NE (·.sb),List.flatMap_append];exact h9
 ·by_cases e:i=U
  ·subst e;rw[nO];exact WY
  ·rw[pT e];exact tM (hd.bi i ab)
 ·by_cases e:i=U
  ·subst e;rw[nO,pT (Ne.symm aN)];have:=an k ab;omega
  ·rw[pT e];by_cases e2:k=U
   ·subst e2;rw[nO];have:=an i ab;omega
   ·rw[pT e2];exact h.apart i k ab ab aN
 ·by_cases e:i=U
  ·subst e;rw[nO];have:=h.k.size;omega
  ·rw[pT e];exact h.ND i ab
 ·obtain⟨yv,dD,t3⟩:=WY.mw;have Mh:=(aQ t3);obtain⟨M,k,S,F,A8⟩:=h.cm
  have h9:=A8.oK r9 λy hy _=>by
   obtain⟨c2,e2,h5,h6⟩:=hY y hy;exact .inr ⟨c2,e2,h5,by rcases h6 with rfl|rfl <;>decide,by rcases h6 with rfl|rfl <;>decide⟩
  refine⟨M,k,S,F,h9.cm,h9.map,h9.many,h9.ne,h9.nN,h9.nM,h9.lN,λy hy=> ?_,h9.gy,h9.bY,λa c s ha hc IA y hy=> ?_,h9.apart⟩
  ·rw[NE (·.mb),Pv,At]at hy;rcases hy with hy|rfl
   ·exact h9.lX y hy
   ·have h5:=A8.lN;obtain⟨D,h6,_⟩:=A8.map;have h7:=h6.lt;exact⟨Mh,ab,ab⟩
  ·obtain⟨q1,q2,q3,q4,q5⟩:=h9.own a c s ha hc IA y hy;refine⟨q1,q2,q3,q4,λhx=> ?_⟩;rw[NE (·.mb),Pv,At]at hx;rcases hx with hx|rfl
   ·exact q5 hx
   ·have:=(A8.own a c s ha hc IA _ hy).1;omega
end Go.Proofs.YtehaoggjlciobaaGreat

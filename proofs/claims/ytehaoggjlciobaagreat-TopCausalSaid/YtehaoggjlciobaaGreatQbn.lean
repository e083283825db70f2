/- Part 30 of 40. -/
import Derived.Test.YtehaoggjlciobaaGreatQbi
import Derived.Deep.CutBlock
import Derived.Deep.DeepCutAuto
set_option linter.all false
set_option maxRecDepth 20000
set_option maxHeartbeats 16000000
namespace Go.Proofs.YtehaoggjlciobaaGreat
open Go.Maps Go.RowKit Go.Proofs.Tryz
variable {c:Int} {x:Nat} {w w2:World}
def Yi (g:aG) (c:Nat) (er:Int) (fl:List ax) (g':aG):Prop:=
 (er≠0/\fl=[]/\g'=g)∨(er=0/\(∀ x∈fl,∃ (s:Nat) (k:ByteArray),s<g.n/\Let k/\x∈(g.σ s).L k)/\∃ lH b,g'={g with pins:=lH,jn:=ed g.jn c b})
structure EZ (w wr:World) (g:aG) (U P Q:Nat) (id:Int) (kv pv wv fv:Value) (ds:List aD) (ws:List Int) (fl:List ax):Prop where
 t:oM w wr P Q id kv pv wv fv ds ws fl
 k:ad w wr
 a:wr.heap[w.heap.size+1]? =some (.cells #[.int .i64 0,.slice none 0 0] 42 (0,0))
 dl:ds.length<=U
 I8:∀ d∈ds,Let d.key
 wl:ws.length=U
 wb:∀ s∈ws,0<=s/\s<(g.n:Int)
 Oz:fl.length<=U
 I9:∀ x∈fl,∃ (s:Nat) (k:ByteArray),s<g.n/\Let k/\x∈(g.σ s).L k
def yN (w:World) (x:Nat) (c:Int):Prop:=∃ XC:Array Value,w.heap[x]? =some (.cells XC 36 (0,0))/\XC[1]? =some (.int .i64 c)
theorem yN.fr (h:yN w x c) (hf:Fr OA w w2):yN w2 x c:=by
 obtain⟨XC,h1,h2⟩:=h;exact⟨XC,hf.block _ _ _ h1 (by unfold OA;decide),h2⟩
theorem yN.cell (h:yN w x c):w.cell? ⟨x,1,none⟩=some (.int .i64 c):=by
 obtain⟨XC,h1,h2⟩:=h;rw[aE h1 1];exact h2
theorem EZ.go {wr:World} {g:aG} {U P Q:Nat} {id:Int} {kv pv wv fv:Value} {ds:List aD} {ws:List Int} {fl:List ax} (h:EZ w wr g U P Q id kv pv wv fv ds ws fl) (hk:ad wr w2):EZ w w2 g U P Q id kv pv wv fv ds ws fl:=
 ⟨h.t.keep hk,h.k.call hk,hk.heap h.a,h.dl,h.I8,h.wl,h.wb,h.Oz,h.I9⟩
theorem qil (B:Int) (gb:Nat) (g:aG) (qD:ee) (c i:Nat) (keys:List ByteArray) (w:World) (h:aT w B gb g) (hB:0<=B) (h9:B<=900) (hc:qD.c=c) (bO:c<4) (ji:(g.ss c).1=(i:Int)) (qa:Rw w 9 1 cd qD.kv keys) (kV:∀ k∈keys,Let k) (tm:keys.length<=5):
  Calls prog 60 #[.pointer (some ⟨gb,0,none⟩),dx qD] w λe w'=>∃ er fv fl g',e= .returned (gm er fv)/\Rw w' 48 6 a8 fv fl/\aT w' B gb g'/\Yi g c er fl g'/\bN w w':=by
 have HG:=aa h;have an:=h.lt;obtain⟨V,h1,h2⟩:=h;obtain⟨hi,_,_,_,_,_,_,_,_,_,fq⟩:=t'.of h1 h2 bO ji;have fx:=fq.s0;obtain⟨SA,sc,c3,bR⟩:=AX h1 h2;obtain⟨Hn,qlB,rfl,_⟩:=pY bR hi;have jJ:g.n<=6:=h2.a6.fit.fit.cV;obtain⟨RA,rc,ei,_,_⟩:=h2.a6.row.r.form;obtain⟨RB,rd,cE,_,_⟩:=h2.a6.row.qD.form;obtain⟨RC,qhu,cv,_,_⟩:=h2.a6.row.p.form;have cU:=aa h2.a6.row;have jW:ag (eA g.es g.os g.ps g.ps.length):=h2.a6.fit;have r0:w.cell? ⟨gb,0,none⟩=some V.rv:=aE h1 0;have r1:w.cell? ⟨gb,1,none⟩=some V.ov:=aE h1 1;have r2:w.cell? ⟨gb,2,none⟩=some V.pv:=aE h1 2;rw[ei]at r0;rw[cE]at r1;rw[cv]at r2;rw[ei,cE,cv]at cU;have H1:=aa h1;have H2:=aa h2;obtain⟨n,hn⟩:=eqQ g.n;have HN:=aa hn;have mj:g.ps.length=n:=hn;generalize (bw g.es).length=m1 at r0 cU;generalize g.os.length=m2 at r1 cU;rw[mj]at r2 cU;rw[hn]at c3 hi jJ bR;have yK:ag (∀ W,ad w W->∀ s,s<n->ba W B (g.p s) s (g.σ s)):=λW hW s hs=>(h2.bi s (by rw[hn];exact hs)).kept hW;have sM:=aa bR;have o0:=aa r0;have dv:=aa r1;have di:=aa r2;have rp:=aa c3;have pA:=aa fx;clear h1 h2 fq bR ei cE cv hn mj r0 r1 r2;obtain⟨ok,oc,os,ot,oa,oh,bT,dj,dq,dH,dI,dJ⟩:=qD;unfold dx il;simp only at*;obtain⟨bS,dT⟩:=pU (w:=w) (xs:= #[.int .i64 ok,.int .i64 oc,.int .i64 os,.int .i64 ot,.int .i64 oa,.int .i64 oh,.string bT,.string dj,dq,dH,dI,dJ]) (ys:= #[.int .i64 0,.slice none 0 0]) (a:=36) (b:=42);have dG:=aa bS;have dy:=aa dT;clear bS dT;subst hc;obtain⟨KA,kc,rfl,gC,OC⟩:=qa.form;obtain⟨m,hm⟩:=eqQ keys.length;have HM:=aa hm;rw[hm]at qa gC tm;rw[hm]at dG dy;rw[hm];have xG:=aa qa;have OD:=aa kV;clear qa kV hm;go_in;go_wp2_with fail
 refine(qe7 _ keys _ (xG.o.kept al) OD.o (by rw[HM.o];omega)).mono ?_;rintro e w1 ⟨b,rfl,hb,k1⟩;rw[HM.o]at hb;have K1:ad w w1:=ad.call al k1;have cx:=aa K1;have cC:=aa (k1.heap dy.o);have b6:=aa (k1.heap dG.o);have HB:=aa hb;have kp:w.heap.size+1<w1.heap.size:=(aQ cC.o);have e1:=ap b6.o 1;have ua:=ap b6.o 8;clear k1 hb K1
 cases b
 ·go_wp2_with fail
  refine(gl 1 _).mono ?_;rintro e w6 ⟨rfl,k6⟩;have aZ:=aa (k6.heap cC.o);have aR:=aa k6;clear k6;obtain⟨p0,p1,p2,p3⟩:=dg aZ.o;go_wp2;have aL:=bC aZ.o (.int .i64 1) (.slice none 0 0);have y0:=ap aL 0;have y1:=ap aL 1;refine KV (v:= .agg #[.int .i64 1,.slice none 0 0]) (by simp[results,results60,go_sem,y0,y1]) rfl ?_;obtain⟨r1,r2⟩:=df cx.o ab cC.o (HG.o.kept (cx.o.call aR.o)) (.ar aR.o);exact⟨1,_,[],_,rfl,Rw.nil _,r1,.inl ⟨ak,rfl,rfl⟩,r2⟩
 have Hb:m<=4:=HB.o rfl;have ko:w.heap.size<w1.heap.size:=ab;have bL:=QJ (.slice KA m kc) keys (w1.alloc (.cells #[.int .i64 ((c:Int)+1),.slice none 0 0] 166)) (xG.o.kept (cx.o.alloc _)) (by rw[HM.o];omega);rw[HM.o]at bL;have qU:=aa bL;clear bL;go_wp2_with fail
 refine qU.o.mono ?_;rintro e w2 ⟨kv,rfl,dA,k2⟩;obtain⟨KB,sS,rfl⟩:=ca dA;have Bo:ad w1 w2:=ad.call al k2;have K2:ad w w2:=cx.o.call Bo;have eb:=aa K2;have ll:=aa (Bo.heap cC.o);have iE:=aa (Bo.heap b6.o);have l8:ag (w2.heap[w1.heap.size]? =some (.cells #[.int .i64 ((c:Int)+1),.slice none 0 0] 166 (0,0))):=k2.heap (yY _ _);have aW:=k2.size;simp only[World.size_alloc]at aW;have HKB:ag (Rw w2 9 1 cd (.slice KB m sS) keys):=Rw.bp (n:=m) dA jU ak;have gE:w.heap.size<w2.heap.size:=ab;have e1:=Bo.af e1;have ua:=Bo.af ua
 have Yj:EZ w (w2.alloc (.cells #[.slice KB m sS,.slice none 0 0] 78)) g 0 w1.heap.size w2.heap.size ((c:Int)+1) (.slice KB m sS) (.slice none 0 0) (.slice none 0 0) (.slice none 0 0) [] [] []:=
  ⟨⟨((ad.refl _).alloc _).heap l8.o,yY _ _,qcb _ _ _ _,qcb _ _ _ _,qcb _ _ _ _⟩,K2.alloc _,((ad.refl _).alloc _).heap ll.o,CP _,λd hd=>by(cases hd),rfl,λd hd=>by(cases hd),CP _,λd hd=>by(cases hd)⟩
 have ze:=aa Yj;have im:ag (yN (w2.alloc (.cells #[.slice KB m sS,.slice none 0 0] 78)) w.heap.size c):=⟨_,((ad.refl _).alloc _).heap iE.o,rfl⟩;obtain⟨P,hP⟩:=eqQ w1.heap.size;obtain⟨Q,o3⟩:=eqQ w2.heap.size;have hPQ:w.heap.size+1<P/\P<Q:=ab;have jz:=aa hP;have HQQ:=aa o3;rw[hP,o3]at ze;clear k2 Bo K2 dA Yj hP o3;go_wp2;rw[jz.o,HQQ.o];go_loopw [7,32] (λfv iv wr=>∃ (U:Nat) (pv wv:Value) (ds:List aD) (ws:List Int) (fl:List ax),U<=m/\iv= .int .i64 U/\ag (EZ w wr g U P Q ((c:Int)+1) (.slice KB m sS) pv wv fv ds ws fl)/\ag (yN wr w.heap.size c)/\ag (Rw wr 9 1 cd (.slice KB m sS) keys)) (λ_ iv _=>m-(intOf iv).toNat)
 case atStart=>exact⟨0,_,_,_,_,_,ab,rfl,ze,im,HKB.o.kept ((ad.refl _).alloc _)⟩
 case round=>
  obtain⟨U,pv,wv,ds,ws,fl,hj,rfl,eE,hx,E1⟩:=hrel;have OE:=eE.o.k;have ep:=aa OE;have I6:=hx.o.cell;have ou:=OE.size;clear OE;by_cases iT:U<m
  ·obtain⟨k,hk⟩:=exQ keys U (by rw[HM.o];exact iT);obtain⟨kb,EQ,rfl,Ee,vY⟩:=(xG.o.kept ep.o).af hk;have dD:=iU vY;simp only[Nat.mul_one]at dD;have yG:=aa (OD.o k (zV hk));have fx:=ep.o.af pA.o;have c3:=ep.o.af rp.o;clear hk Ee vY;go_wp2;refine bz (λwB=>ad wr wB/\wB.cell? ⟨w.heap.size,1,none⟩=some (.int .i64 c)/\wB.cell? ⟨gb,5+c*2,none⟩=some (.int .i64 i)) λwB SS=> ?_;obtain⟨au,aB,aC⟩:=SS.o _ (ad.refl _);repeat refine DW.dt ?_
   refine DW.nl SS ?_;rintro wd hI ⟨ae,ai,aj⟩;have io:=aa (eE.o.go ae);have Hm:=aa (hx.o.fr (.ar ae));have OF:=aa (E1.o.kept ae);have jg:=aa (ep.o.call ae);have fx:=ae.af fx;have c3:=ae.af c3;obtain⟨bS',oS',fQ,dU⟩:=pY (sM.o.kept jg.o) hi;injection fQ with fQ;injection fQ with e1 e2;subst e1 e2;have r0:=jg.o.af o0.o;have r1:=jg.o.af dv.o;have r2:=jg.o.af di.o;clear ae au hI ai aj aB aC dD I6 eE hx;obtain⟨W3,rfl⟩:=eqR wd;have hg3:gb<W3.heap.size:=by have:=jg.o.size;omega
   go_upto_if 54 with (first|(go_at_call 85;refine(tD B (g.p i) _ (g.σ i) _ (yK.o _ (jg.o) i hi)).mono ?_;rintro e w4 ⟨v4,rfl,h4,k4⟩;have GO:=aa h4;clear h4)|(go_at_call 84;refine(Eu v4 (g.σ i).own k _ GO.o).mono ?_;rintro e w5 ⟨r,rfl,h5,k5⟩;have K5:=aa (k4.call k5)))
   go_cut [10] (λfF wx=>∃ a:Nat,a<n/\fF= .int .i64 a/\ag (ad W3 wx))
   case first=>
    by_cases hr:r<0
    ·have r0:=K5.o.af r0;have r1:=K5.o.af r1;have r2:=K5.o.af r2;have pW:=R4 hg3 K5.o.size;go_wp2_with fail
     refine(qhg _ _ _ g.es g.os g.ps k _ (cU.o.fr (.ar (jg.o.call K5.o))) jW.o).mono ?_;rintro e w6 ⟨a,rfl,ha,k6⟩;have K6:=aa (K5.o.call k6);have aZ:a<n:=by have:=HN.o;unfold aG.n at this;omega
     go_wp2;go_meet
     case rel=>exact⟨a,aZ,rfl,K6⟩
    ·go_wp2;go_meet
     case rel=>exact⟨i,hi,rfl,K5⟩
   case rest=>
    obtain⟨a,ha,rfl,kc⟩:=hcut;clear r0 r1 r2 dU c3 fx k4 k5 GO h5;have Bp:=aa (io.o.go kc.o);have Ja:=aa (Hm.o.fr (.ar kc.o));have HYc:=aa (OF.o.kept kc.o);have Yk:=aa (jg.o.call kc.o);obtain⟨VA,vc,rfl⟩:=ca Bp.o.t.wo;have OG:=Bp.o.t.jA;have q1:=ap OG 1;have hQw:Q<wc.heap.size:=(aQ OG);have Bk:=aa Bp.o.wl;clear OG;go_upto_region 13 with (at_builtin;refine jh rfl _ _ 22 3 _ 1 8 cJ rfl underlying22 J5 rfl ak ak Wl QF w.heap.size _ ws [(a:Int)] rfl (ad.own Bp.o.t.wo ((ad.refl _).alloc _)) _ 0 1 1 rfl (Rw.one (yY _ _)) (by have:=Bk.o;simp;omega) (by have:=Yk.o.size;simp;omega) ?_;intro v6 w6 O6 cj _;obtain⟨yu,OH⟩:∃ l,l=ws++[(a:Int)]:=⟨_,rfl⟩;rw[<- OH]at O6;have Jb:=aa OH;clear OH;obtain⟨A6,gu,rfl⟩:=ca O6;have DJ:=aa ((Bp.o.t.keep ((ad.refl _).alloc (.cells #[.int .i64 (a:Int)] 3))).qhh cj O6 (Yk.o.alloc _) ab);obtain⟨_,_,_,f61,c61⟩:=DJ.o)
    obtain⟨sE,uZ,iB,_,_⟩:=DJ.o;obtain⟨W7,lp⟩:=eqR (w6.setCell ⟨Q,1,none⟩ (.slice A6 yu.length gu));rw[<- lp]at sE uZ iB⊢;have Of:=aa sE;have fC:=aa uZ;have Bh:=aa ((Ja.o.fr (.ar ((ad.refl _).alloc _))).fr iB);have yJ:=aa ((HYc.o.kept ((ad.refl _).alloc _)).fr iB (by unfold OA;decide));have p9:=aa (iB.block _ _ _ (((ad.refl wc).alloc (.cells #[.int .i64 (a:Int)] 3)).heap Bp.o.a) (by unfold OA;decide));obtain⟨bS',oS',fQ,dU⟩:=pY (sM.o.kept uZ) ha;injection fQ with fQ;injection fQ with e1 e2;subst e1 e2;have c3:=uZ.af rp.o;have xo:gb<W7.heap.size:=by have:=uZ.size;omega
    clear sE uZ iB lp DJ O6 cj f61 c61 q1 hQw;go_wp2_with fail
    refine(Ug B (g.p a) _ (g.σ a) W7 (yK.o W7 fC.o a ha) hB ab k yG.o).mono ?_;rintro e w8 ⟨⟨x0,x1,x2,x3,x4,x5,x6,x7,x8⟩,b,er,rfl,nR,k8⟩;have Nn:=aa nR;have vW:=aa (Of.o.keep k8);have v8:=aa (fC.o.call k8);have AB:=aa (Bh.o.fr (.ar k8));have Yl:=aa (yJ.o.kept k8);have vR:=aa (k8.heap p9.o);unfold aM;clear nR k8 dU c3;have En:VB (w8.alloc (.cells #[.string x0,.string x1,.bool x2,.int .i64 x3,.int .i64 x4,.slice x5 x6 x7] 48)) w8.heap.size (.string x0) (.string x1) (.bool x2) (.int .i64 x3) (.int .i64 x4) (.slice x5 x6 x7):=yY _ _;have Ir:=aa En;clear En
    cases b
    ·go_wp2;go_roundw
     case rel=>
      refine⟨U+1,_,_,ds,yu,fl,ab,aA,⟨vW.o.keep ((ad.refl _).alloc _),v8.o.alloc _,((ad.refl _).alloc _).heap vR.o,Nat.le_succ_of_le io.o.dl,io.o.I8,by rw[Jb.o,zH,Bk.o];rfl,λs hs=> ?_,Nat.le_succ_of_le io.o.Oz,io.o.I9⟩,AB.o.fr (.ar ((ad.refl _).alloc _)),Yl.o.kept ((ad.refl _).alloc _)⟩;rw[Jb.o]at hs;rcases Pv.1 hs with hs|hs
      ·exact io.o.wb s hs
      ·simp only[At]at hs;subst hs;rw[HN.o];omega
     case measure=>exact dY
    ·obtain⟨DA,dz,rfl⟩:=ca vW.o.po;have lk:=vW.o.uf;have p1:=ap lk 1;have hPw:P<w8.heap.size:=(aQ lk);have tu:=aa io.o.dl;clear lk;go_upto_region 16 with (at_builtin;refine jh rfl _ _ 46 60 _ 3 32 aS rfl underlying46 uP rfl ak ak gT J1 w.heap.size _ ds [(⟨k,x3,x4⟩:aD)] rfl (ad.own vW.o.po (((ad.refl _).alloc _).alloc _)) _ 0 1 1 rfl (Rw.one (ea ao)) (by have:=tu.o;simp;omega) (by have:=v8.o.size;simp;omega) ?_;intro v9 w9 O9 OI _;obtain⟨vM,tl⟩:∃ l,l=ds++[(⟨k,x3,x4⟩:aD)]:=⟨_,rfl⟩;rw[<- tl]at O9;have uT:=aa tl;clear tl;obtain⟨A9,lQ,rfl⟩:=ca O9;have EW:=aa ((vW.o.keep (((ad.refl _).alloc (.cells #[.string x0,.string x1,.bool x2,.int .i64 x3,.int .i64 x4,.slice x5 x6 x7] 48)).alloc (.cells #[.string k,.int .i64 x3,.int .i64 x4] 60))).qhi OI O9 ((v8.o.alloc _).alloc _) ab);obtain⟨_,_,_,f91,c91⟩:=EW.o;have IN:=aa (OI.heap (((ad.refl _).alloc _).heap Ir.o) (ec (ad.own vW.o.po (((ad.refl _).alloc (.cells #[.string x0,.string x1,.bool x2,.int .i64 x3,.int .i64 x4,.slice x5 x6 x7] 48)).alloc (.cells #[.string k,.int .i64 x3,.int .i64 x4] 60))) (((ad.refl _).alloc _).heap Ir.o) ak)))
     obtain⟨vP,OJ,uq,_,_⟩:=EW.o;obtain⟨Jc,Ym⟩:=eqR (w9.setCell ⟨P,1,none⟩ (.slice A9 vM.length lQ));have OK:=(ah.set (w:=w9) P 1 (.slice A9 vM.length lQ)).heap IN.o (by simp;omega);rw[<- Ym]at vP OJ uq OK⊢;have Jd:ad w8 ((w8.alloc (.cells #[.string x0,.string x1,.bool x2,.int .i64 x3,.int .i64 x4,.slice x5 x6 x7] 48)).alloc (.cells #[.string k,.int .i64 x3,.int .i64 x4] 60)):=((ad.refl _).alloc _).alloc _;have Ox:=aa ((AB.o.fr (.ar Jd)).fr uq);have qim:=aa ((Yl.o.kept Jd).fr uq (by unfold OA;decide));have qin:=aa (uq.block _ _ _ (Jd.heap vR.o) (by unfold OA;decide));have OL:=aa vP;have yA:=aa OJ;have qio:ag (VB Jc w8.heap.size (.string x0) (.string x1) (.bool x2) (.int .i64 x3) (.int .i64 x4) (.slice x5 x6 x7)):=OK;obtain⟨z0,z1,z2,z3,z4,z5,_,zl⟩:=qio.o.cells;have E2:=aa io.o.Oz;obtain⟨FA,gU,rfl⟩:=ca OL.o.ic;clear vP OJ uq OK Ym EW O9 OI f91 c91 Jd p1 hPw;go_wp2_with (at_builtin;refine jh rfl _ _ 33 48 _ 6 80 a8 rfl underlying33 ql rfl ak ak gp uO w.heap.size _ fl [(⟨x0,x1,x2,x3,x4,x5,x6,x7,x8⟩:ax)] rfl (ad.own OL.o.ic ((ad.refl _).alloc _)) _ 0 1 1 rfl (Rw.one (ea ao)) (by have:=E2.o;simp;omega) (by have:=yA.o.size;simp;omega) ?_;intro v11 yM O11 qip _;have qiq:=aa ((OL.o.keep ((ad.refl _).alloc (.cells #[.string x0,.string x1,.bool x2,.int .i64 x3,.int .i64 x4,.slice x5 x6 x7] 48))).qhj qip O11 (yA.o.alloc _)))
     go_roundw
     case rel=>
      obtain⟨qir,Je,qis⟩:=qiq.o;have OM:Fr OA Jc yM:=(Fr.ar ((ad.refl _).alloc _)).trans qis;refine⟨U+1,_,_,vM,yu,_,ab,aA,⟨qir,Je,OM.block _ _ _ qin.o (by unfold OA;decide),?_,λd hd=> ?_,by rw[Jb.o,zH,Bk.o];rfl,λs hs=> ?_,?_,λx hx=> ?_⟩,Ox.o.fr OM,qim.o.fr OM (by unfold OA;decide)⟩
      ·rw[uT.o,zH];have:=tu.o;simp;omega
      ·rw[uT.o]at hd;rcases Pv.1 hd with hd|hd
       ·exact io.o.I8 d hd
       ·simp only[At]at hd;subst hd;exact yG.o
      ·rw[Jb.o]at hs;rcases Pv.1 hs with hs|hs
       ·exact io.o.wb s hs
       ·simp only[At]at hs;subst hs;rw[HN.o];omega
      ·rw[zH];have:=E2.o;simp;omega
      ·rcases Pv.1 hx with hx|hx
       ·exact io.o.I9 x hx
       ·simp only[At]at hx;subst hx;refine⟨a,k,by rw[HN.o];exact ha,yG.o,?_⟩;rcases Nn.o with ⟨_,_,h⟩|⟨_,_,_,h⟩
        ·rcases h with ⟨_,qlC,_,h⟩|⟨h,_⟩
         ·exact zV h
         ·cases h
        ·cases h
     case measure=>exact dY
  ·obtain rfl:U=m:=ab;obtain⟨DA,dz,rfl⟩:=ca eE.o.t.po;obtain⟨VA,vc,rfl⟩:=ca eE.o.t.wo;obtain⟨FA,gU,rfl⟩:=ca eE.o.t.ic;have lk:=aE eE.o.t.uf;have p0:=lk 0;have p1:=lk 1;have mh:=aE eE.o.t.jA;have b0:=mh 0;have b1:=mh 1;simp only[List.getElem?_toArray,List.getElem?_cons_zero,List.getElem?_cons_succ]at p0 p1 b0 b1;obtain⟨fN,ez,mg,ue⟩:=H2.o.a6.pins;obtain⟨PA,pc,lD,_,_⟩:=fN.1.form;have gZ:w.cell? ⟨gb,21,none⟩=some V.nv:=aE H1.o 21;rw[lD]at gZ fN;generalize iN:g.pins.length=pm at gZ fN;have gZ:=ep.o.af gZ;have jd:=aa fN;have l8:=aa ez;have vm:ag (pm<=8):=by unfold ag;rw[<- iN];exact mg
   have AY:=aa ue;have pX:=aa iN;clear fN ez mg ue lD iN lk mh;go_wp2;refine ey [none,none,none,none,none,some (λu w'=>∃ v' er,u= .tuple #[v',.int .i64 er]/\UE w' g.pins ⟨(c:Int)+1,DA,ds.length,dz,ds⟩ v' er),none,none,none] (λwB=>ad wr wB/\wB.cell? ⟨gb,21,none⟩=some (.slice PA pm pc)/\wB.cell? ⟨P,0,none⟩=some (.int .i64 ((c:Int)+1))/\wB.cell? ⟨P,1,none⟩=some (.slice DA ds.length dz)) λwB SS=> ?_;obtain⟨au,aB,aC,aF⟩:=SS.o _ (ad.refl _);iterate 5 refine SP.on ?_
   refine SP.ew ?_ λv1=> ?_
   ·intro wd hI hF;obtain⟨ae,ai,aj,aq⟩:=SS.o wd hI;clear hF;go_wp2_with ((go_at_call 99;refine(qeL _ g.pins ⟨(c:Int)+1,DA,ds.length,dz,ds⟩ _ (jd.o.1.kept (ep.o.call ae)) l8.o (by have:=vm.o;have:=pX.o;omega)).mono ?_;rintro e w5 ⟨v',er,rfl,h5,k5⟩));exact bn rfl ⟨v',er,rfl,h5⟩
   refine SP.on (v:=v1) ?_;refine SP.oe (v:=eH v1 0) ?_ ?_
   ·intro wd hI hF;obtain⟨ae,ai,aj,aq⟩:=SS.o wd hI;have h1:=hF.1;clear hF;(obtain⟨w9,⟨v',er,rfl,_⟩,_⟩:=h1);go_wp2;exact aP
   refine SP.oe (v:=eH v1 1) ?_ ?_
   ·intro wd hI hF;obtain⟨ae,ai,aj,aq⟩:=SS.o wd hI;have h1:=hF.1;clear hF;(obtain⟨w9,⟨v',er,rfl,_⟩,_⟩:=h1);go_wp2;exact aP
   refine SP.late [8] av av ?_;intro wd hI hF;obtain⟨ae,ai,aj,aq⟩:=SS.o wd hI;have h1:=hF.1;clear hF SS;obtain⟨w9,⟨v',er,rfl,mX⟩,k9⟩:=h1;simp only[tz,tA];have oF:=aa mX;have e':=aa k9;have qit:=aa ae;have dr:=aa (ep.o.call ae);have io:=aa (eE.o.go ae);have xX:=aa (hx.o.fr (.ar ae));have b0:=ae.af b0;have b1:=ae.af b1;clear mX k9 ae au hI ai aj aq aB aC aF p0 p1 gZ;refine TL.go ?_;refine TL.go ?_;refine TL.nil ?_;by_cases he:er=0
   ·subst he;have I6:=xX.o.cell;have yp:=HG.o.kept dr.o;obtain⟨Yn,yO,Yo⟩:=yp;have Oa:wd.cell? ⟨gb,21,none⟩=some Yn.nv:=aE yO 21;obtain⟨yD,yE⟩:=yO.oJ bO;have f21:=yO.fP 21;have f13:=yO.fP (13+c*2);have f14:=yO.fP (13+c*2+1);have qiu:21≠13+c*2:=ab;have Ar:21≠13+c*2+1:=ab
    obtain⟨NA,nn,nc,rfl⟩:∃ A n c,v'= .slice A n c:=by
     rcases oF.o with ⟨h,_⟩|⟨_,_,_,_,i,_,h⟩
     ·exact absurd rfl h
     ·obtain⟨A,c,h,_⟩:=h;exact⟨_,_,_,h⟩
    have Dk:=aa yO;have GV:=aa Yo;clear yO Yo;go_upto_region 21 with fail
    go_cut [7] (λfv wx=>fv= .slice FA fl.length gU/\wx=(((wd.setCell ⟨gb,21,none⟩ (.slice NA nn nc)).setCell ⟨gb,13+c*2,none⟩ (.slice KB U sS)).setCell ⟨gb,13+c*2+1,none⟩ (.slice VA ws.length vc)).drew)
    case first=>
     go_region_with (fail)
     all_goals
      go_wp2;go_meet
      case rel=>exact⟨rfl,rfl⟩
    case rest=>
     obtain⟨rfl,rfl⟩:=hcut;have Yp:=oF.o
     obtain⟨Ex,hid,ri,jN,jm,bU⟩:(g.pins.length<8/\1<=(c:Int)+1/\(∀ y∈g.pins,y.id≠(c:Int)+1)/\∃ i,lq (g.pins.take i++(⟨(c:Int)+1,DA,ds.length,dz,ds⟩:cf)::g.pins.drop i)/\Rw w9 166 2 gS (.slice NA nn nc) (g.pins.take i++(⟨(c:Int)+1,DA,ds.length,dz,ds⟩:cf)::g.pins.drop i)):=by
      rcases Yp with ⟨h,_⟩|⟨_,h⟩
      ·exact absurd rfl h
      ·exact h
     have OF:=aa (E1.o.kept qit.o)
     have zZ:sx wd (.slice NA nn nc) (g.pins.take jN++(⟨(c:Int)+1,DA,ds.length,dz,ds⟩:cf)::g.pins.drop jN):=by
      refine⟨bU.kept e'.o,λx hx=> ?_⟩;rw[Pv,KX]at hx;rcases hx with hx|rfl|hx
      ·exact⟨(jd.o.2 x (List.mem_of_mem_take hx)).1.kept dr.o,(jd.o.2 x (List.mem_of_mem_take hx)).2⟩
      ·exact⟨Rw.bp io.o.t.po gT ak,rfl⟩
      ·exact⟨(jd.o.2 x (List.mem_of_mem_drop hx)).1.kept dr.o,(jd.o.2 x (List.mem_of_mem_drop hx)).2⟩
     obtain⟨g1,f1⟩:=aT.WW ⟨Yn,Dk.o,GV.o⟩ (nv:= .slice NA nn nc) (ps:=g.pins.take jN++(⟨(c:Int)+1,DA,ds.length,dz,ds⟩:cf)::g.pins.drop jN) ⟨zZ,jm,by rw[zH,List.length_cons,qcd,ql1];omega,λx hx=>by
      rw[Pv,KX]at hx;rcases hx with hx|rfl|hx
      ·exact AY.o x (List.mem_of_mem_take hx)
      ·exact⟨by have:=io.o.dl;simp only;omega,io.o.I8⟩
      ·exact AY.o x (List.mem_of_mem_drop hx)⟩
     obtain⟨g2,f2⟩:=g1.bk_ bO (kv:= .slice KB U sS) (wv:= .slice VA ws.length vc) (ks:=keys) (ws:=ws) (OF.o.fr f1 (by unfold iM iK;decide)) ((Rw.bp io.o.t.wo Wl ak).fr f1 (by unfold iM iK;decide)) ⟨OD.o,by rw[HM.o];exact Hb,by rw[HM.o];exact io.o.wl,io.o.wb⟩;have oP:=ad.drew (ad.refl (((wd.setCell ⟨gb,21,none⟩ (.slice NA nn nc)).setCell ⟨gb,13+c*2,none⟩ (.slice KB U sS)).setCell ⟨gb,13+c*2+1,none⟩ (.slice VA ws.length vc)));have pV:=aa (g2.kept oP);have ON:=aa ((f1.trans f2).trans (.ar oP));have cI:=aa io.o.a;have gM:=aa (gY cI.o ON.o);have qiv:=aa ((Rw.bp io.o.t.ic gp ak).fr ON.o (by unfold iM iK;decide));have HFK:=aa io.o.I9;clear g1 f1 g2 f2 zZ bU jm Yp ri Ex hid I6 yD yE Oa f21 f13 f14 b0 b1;generalize db:(((wd.setCell ⟨gb,21,none⟩ (.slice NA nn nc)).setCell ⟨gb,13+c*2,none⟩ (.slice KB U sS)).setCell ⟨gb,13+c*2+1,none⟩ (.slice VA ws.length vc)).drew=W3 at*;clear db oP;go_wp2_with fail
     refine(AQ _ _ _ _).mono ?_;rintro e w6 ⟨rfl,k6⟩;have aZ:=aa (k6.heap gM.o);have aR:=aa k6;have GS:=aa (qiv.o.kept k6);clear k6;obtain⟨p0,p1,p2,p3⟩:=dg aZ.o;go_wp2;have aL:=bC aZ.o (.int .i64 0) (.slice FA fl.length gU);have y0:=ap aL 0;have y1:=ap aL 1;refine KV (v:= .agg #[.int .i64 0,.slice FA fl.length gU]) (by simp[results,results60,go_sem,y0,y1]) rfl ?_;obtain⟨r1,r2⟩:=df dr.o ab cI.o (pV.o.kept aR.o) (ON.o.trans (.ar aR.o));exact⟨0,_,fl,_,rfl,GS.o.fr (yq aZ.o) (by unfold bq;decide),r1,.inr ⟨rfl,HFK.o,_,_,rfl⟩,r2⟩
   ·have he2:(er==0)=false:=by simp[he]
    have cI:=aa io.o.a;go_wp2_with fail
    refine(gl er _).mono ?_;rintro e w6 ⟨rfl,k6⟩;have aZ:=aa (k6.heap cI.o);have aR:=aa k6;clear k6;obtain⟨p0,p1,p2,p3⟩:=dg aZ.o;go_wp2;have aL:=bC aZ.o (.int .i64 er) (.slice none 0 0);have y0:=ap aL 0;have y1:=ap aL 1;refine KV (v:= .agg #[.int .i64 er,.slice none 0 0]) (by simp[results,results60,go_sem,y0,y1]) rfl ?_;obtain⟨r1,r2⟩:=df dr.o ab cI.o (HG.o.kept (dr.o.call aR.o)) (.ar aR.o);exact⟨er,_,[],_,rfl,Rw.nil _,r1,.inl ⟨he,rfl,rfl⟩,r2⟩
end Go.Proofs.YtehaoggjlciobaaGreat

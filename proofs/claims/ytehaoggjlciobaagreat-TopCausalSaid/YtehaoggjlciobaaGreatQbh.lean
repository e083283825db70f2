/- Part 24 of 40. -/
import Derived.Test.YtehaoggjlciobaaGreatQbg
set_option linter.all false
set_option maxRecDepth 20000
set_option maxHeartbeats 16000000
namespace Go.Proofs.YtehaoggjlciobaaGreat
open Go.Maps Go.RowKit Go Go.Proofs.Tryz
variable {k:ByteArray} {B:Int} {a c gb i s t:Nat} {w w2:World} {p:cZ} {σ:ci} {V:e9}
theorem ba.Az {id:Int} (h:ba w B p id σ) (hk:Let k) {x:ax} (hx:x∈σ.L k):b7 w B x/\x.key=k:=by
 obtain⟨C,_,h2⟩:=h.sh.fz;exact(h2 k hk).1.iG x hx
theorem ba.told {id:Int} (h:ba w B p id σ) (hk:Let k) {i:Int} {x:ax} {b:Bool} (hx:Told (σ.L k) i x b):r' w x x.ds/\(∀ d∈x.ds,Let d.key/\d.n<=B)/\(b=true->b7 w B x/\x.key=k):=by
 rcases hx.one with ⟨rfl,hm⟩|⟨rfl,rfl⟩
 ·obtain⟨h1,h2⟩:=h.Az hk hm;exact⟨h1.jB,λd hd=>⟨(h1.cg.ok d hd).1,h1.gR d hd⟩,λ_=>⟨h1,h2⟩⟩
 ·exact⟨Rw.nil w,λd hd=>(by cases hd),λh=>(by cases h)⟩
theorem qg3:∀ a,(Gy a).length=1:=λ_=>rfl
theorem qg4 (PA:Option Addr) (pl pc:Nat) (ps:List aD) (A:Option Addr) (n c:Nat) (ds:List aD) (q:Nat) (w:World) (hq:w.heap[q]? =some (.cells #[.slice PA pl pc,.slice A n c] 46 (0,0))) (h1:Rw w 60 3 aS (.slice PA pl pc) ps) (h2:Rw w 60 3 aS (.slice A n c) ds) (k1:∀ d∈ps,Let d.key) (k2:∀ d∈ds,Let d.key):
  Calls prog 93 #[.slice (some ⟨q,0,none⟩) 2 2] w λe w'=>∃ v' l',e= .returned v'/\Rw w' 60 3 aS v' l'/\cA (ps++ds) l'/\ad w w':=by
 refine(Ld _ [(.slice PA pl pc,ps),(.slice A n c,ds)] w (Rw.lit [(.slice PA pl pc,ps),(.slice A n c,ds)] qg3 hq (by show 2<=maxLen;decide)) (λx hx=> ?_) (λd hd=> ?_)).mono ?_
 ·simp only[KX,List.not_mem_nil,or_false]at hx;rcases hx with rfl|rfl
  ·exact h1
  ·exact h2
 ·simp only[l7,List.flatMap_cons,List.flatMap_nil,List.append_nil,Pv]at hd;rcases hd with hd|hd
  ·exact k1 d hd
  ·exact k2 d hd
 ·rintro e w' ⟨v',l',rfl,h3,h4,h5⟩;exact⟨v',l',rfl,h3,by simpa [l7]using h4,h5⟩
theorem WE (B s:Int) (PA:Option Addr) (pl pc:Nat) (ps:List aD) (x:ax) (q:Nat) (w:World) (hq:w.heap[q]? =some (.cells #[.string x.key,.string x.val,.bool x.gone,.int .i64 x.n,.int .i64 x.s,.slice x.pa x.pn x.pc] 48 (0,0))) (h1:Rw w 60 3 aS (.slice PA pl pc) ps) (b':b9 ps) (hx:b7 w B x):
  Calls prog 90 #[cY s (.slice PA pl pc),.slice (some ⟨q,0,none⟩) 1 1] w λe w'=>∃ A n c p,e= .returned (cY s (.slice A n c))/\Rw w' 60 3 aS (.slice A n c) p/\p.length=n/\cA (ps++lm x) p/\ad w w':=by
 refine(T3 B s (.slice PA pl pc) _ ps [x] w h1 b' (Rw.one hq) ao (λy hy=>by simp only[At]at hy;subst hy;exact hx)).mono ?_;rintro e w' ⟨jG,p',rfl,h3,h4,h5⟩;obtain⟨A,c,rfl,_,_⟩:=h3.form;exact⟨A,_,c,p',rfl,h3,rfl,by simpa using h4,h5⟩
def WG (g:aG) (c i:Nat) (k:ByteArray) (er:Int) (fl:List ax) (g':aG):Prop:=
 (er≠0/\fl=[]/\g'=g/\¬b4 (g.σ i).own k)∨(er=0/\b4 (g.σ i).own k/\∃ x b ev,Told ((g.σ i).L k) ((((g.σ i).L k).length:Int)-1) x b/\ev.kind=2/\ev.Ij=(c:Int)/\ev.key=k/\ev.n=x.n/\ev.s=x.s/\cA ((g.ss c).2++x.ds) ev.ds/\
  ((b=false/\fl=[]/\g'={g with bJ:=g.bJ++[ev]})∨(b=true/\fl=[x]/\∃ p',cA ((g.ss c).2++lm x) p'/\g'={g with bJ:=g.bJ++[ev],ss:=ed g.ss c ((i:Int),p')})))
structure t' (w:World) (gb:Nat) (g:aG) (V:e9) (c i:Nat) (PA:Option Addr) (pl pc SK so sc:Nat) (ps:List aD):Prop where
 s0:w.cell? ⟨gb,5+c*2,none⟩=some (.int .i64 (i:Int))
 s1:w.cell? ⟨gb,5+c*2+1,none⟩=some (.slice PA pl pc)
 jB:Rw w 60 3 aS (.slice PA pl pc) ps
 c3:w.cell? ⟨gb,3,none⟩=some (.slice (some ⟨SK,so,none⟩) g.n sc)
 dU:w.cell? ⟨SK,so+i,none⟩=some (.pointer (some ⟨(g.p i).sb,0,none⟩))
 dD:∃ cur,w.heap[SK]? =some (.cells cur 83 (0,0))
theorem t'.of {g:aG} (h1:GB w gb g V) (h2:fo w B gb g V) (hc:c<4) (hs:(g.ss c).1=(i:Int)):i<g.n/\b9 (g.ss c).2/\(∀ d∈(g.ss c).2,d.n<=B)/\∃ PA pl pc SK so sc,pl=(g.ss c).2.length/\t' w gb g V c i PA pl pc SK so sc (g.ss c).2:=by
 obtain⟨fx,nQ⟩:=h1.bY hc;obtain⟨tZ,cg,pn,_,an⟩:=h2.a6.bY c hc;obtain⟨PA,pc,cv,_,_⟩:=tZ.form;have hi:i<g.n:=ab;have dO:w.cell? ⟨gb,3,none⟩=some V.sv:=aE h1 3;obtain⟨SA,sc,mx,_,_⟩:=h2.a6.sites.form;have hS:=h2.a6.sites;rw[mx]at dO hS;have eO:((List.range g.n).map λi=>(g.p i).sb).length=g.n:=ao;rw[eO]at dO hS;have hx:((List.range g.n).map λi=>(g.p i).sb)[i]? =some (g.p i).sb:=by rw[List.getElem?_map,List.getElem?_range hi];rfl
 obtain⟨b,off,rfl,hb,fE⟩:=hS.af hx;have c0:=iU fE;simp only[Nat.mul_one]at c0
 refine⟨hi,cg,pn,PA,_,pc,b,off,sc,rfl,⟨by rw[fx,hs],by rw[nQ,cv],by rw[<- cv];exact tZ,dO,c0,by
  obtain⟨A',c',fJ,_,_,_,h4⟩:=hS;injection fJ with fJ;obtain⟨xt,CS,cur,ua,h9,_⟩:=h4 _ fJ.symm
  cases ua
  exact⟨cur,h9⟩⟩⟩
theorem t'.kept {g:aG} {PA:Option Addr} {pl pc SK so sc:Nat} {ps:List aD} (h:t' w gb g V c i PA pl pc SK so sc ps) (k:ad w w2):t' w2 gb g V c i PA pl pc SK so sc ps:=
 ⟨k.af h.s0,k.af h.s1,h.jB.kept k,k.af h.c3,k.af h.dU,by obtain⟨cur,h9⟩:=h.dD;exact⟨cur,k.heap h9⟩⟩
theorem qg5 (B:Int) (gb:Nat) (g:aG) (qD:ee) (c i:Nat) (w:World) (h:aT w B gb g) (hB:0<=B) (h9:B+1<=900) (hc:qD.c=c) (bO:c<4) (ji:(g.ss c).1=(i:Int)) (hk:Let qD.key):
  Calls prog 57 #[.pointer (some ⟨gb,0,none⟩),dx qD] w λe w'=>∃ er fv fl g',e= .returned (gm er fv)/\Rw w' 48 6 a8 fv fl/\aT w' (B+1) gb g'/\WG g c i qD.key er fl g'/\bN w w':=by
 have HG:=aa h;have an:=h.lt;obtain⟨V,h1,h2⟩:=h;have cX:=h2.cX;obtain⟨hi,cg,pn,PA,pl,pc,SK,so,sc,cO,fq⟩:=t'.of h1 h2 bO ji;have bX:=aa cg;have kG:=aa pn;have jY:=aa cO;have kL:=aa fq;have H1:=aa h1;have H2:=aa h2;have HS:ag (∀ W,ad w W->ba W B (g.p i) i (g.σ i)):=λW hW=>(H2.o.bi i hi).kept hW;obtain⟨fx,nQ,_,c3,dU,_⟩:=fq;obtain⟨ps,b'⟩:=eqQ ((g.ss c).2);have jz:=aa b';rw[b']at bX kG kL jY;obtain⟨n,hn⟩:=eqQ g.n;have HN:=aa hn;rw[hn]at c3 hi;clear h1 h2 cg pn cO b' hn;obtain⟨ok,oc,os,ot,oa,oh,bT,dj,dq,dH,dI,dJ⟩:=qD;unfold dx il;simp only at*;obtain⟨bS,dT⟩:=pU (w:=w) (xs:= #[.int .i64 ok,.int .i64 oc,.int .i64 os,.int .i64 ot,.int .i64 oa,.int .i64 oh,.string bT,.string dj,dq,dH,dI,dJ]) (ys:= #[.int .i64 0,.slice none 0 0]) (a:=36) (b:=42);have dG:=aa bS;have dy:=aa dT;clear bS dT;subst hc;go_wp2;refine ey [none,none,none,none,none,none,none,some (λu w'=>∃ q,u= .pointer (some ⟨q,0,none⟩)/\w.heap.size+1+1<=q/\SB w' q (.int .i64 0) (.slice none 0 0))] (λwB=>ad w wB/\ad ((w.alloc (.cells #[.int .i64 ok,.int .i64 c,.int .i64 os,.int .i64 ot,.int .i64 oa,.int .i64 oh,.string bT,.string dj,dq,dH,dI,dJ] 36)).alloc (.cells #[.int .i64 0,.slice none 0 0] 42)) wB/\wB.cell? ⟨w.heap.size,1,none⟩=some (.int .i64 c)/\wB.cell? ⟨gb,5+c*2,none⟩=some (.int .i64 i)/\wB.cell? ⟨gb,5+c*2+1,none⟩=some (.slice PA pl pc)) λwB SS=> ?_;obtain⟨au,br,aB,aC,aF⟩:=SS.o _ (ad.refl _);iterate 7 refine SP.on ?_
 refine SP.ew ?_ λv1=> ?_
 ·intro wd hI hF;obtain⟨ae,ay,ai,aj,aq⟩:=SS.o wd hI;clear hF;go_wp2;exact bn rfl ⟨_,rfl,by have:=ay.size;simpa using this,yY _ _⟩
 refine SP.ml SS ?_;rintro wd hI hF ⟨ae,ay,ai,aj,aq⟩;have h1:=hF.1;clear hF SS;obtain⟨w8,⟨q1,rfl,kp,pP⟩,k8⟩:=h1;have S2:SB wd q1 (.int .i64 0) (.slice none 0 0):=k8.heap pP;obtain⟨z0,z1,zf,zl⟩:=S2.cells;have g0:=zf 0;have g1:=zf 1;obtain⟨W1,eZ⟩:=eqR ((wd.setCell ⟨q1,0,none⟩ (.int .i64 i)).setCell ⟨q1,1,none⟩ (.slice PA pl pc));have b1:ah [q1] wd W1:=by rw[eZ];exact ah.bC q1 _ _
 have jV:ag (SB W1 q1 (.int .i64 i) (.slice PA pl pc)):=by rw[eZ];exact(S2.s0 _).s1 _
 have K1:ad w W1:=ad.but ae b1 (by simp;omega);have yr:=ad.but ay b1 (by simp;omega);have cC:=aa (yr.heap dy.o);have b6:=aa (yr.heap dG.o);have Nl:q1<W1.heap.size:=by have:=b1.size;omega
 clear pP k8 zf S2;go_wp2;rw[<- eZ];clear b1 yr eZ;obtain⟨s0,s1,sf,sl⟩:=jV.o.cells;have lB:=ap b6.o 6;have c3:=K1.af c3;have dU:=K1.af dU;clear sf z0 z1 g0 g1 zl ae ay au br hI fx nQ ai aj aq aB aC aF;refine ey [none,none,none,none,none,none,none,none,none,none,some (λu w'=>∃ x b er,u= .tuple #[aM x,.bool b,.int .i64 er]/\Uf (g.σ i) bT x b er),none,none,none,none,some (λu w'=>∃ q,u= .pointer (some ⟨q,0,none⟩)/\W1.heap.size<=q/\VB w' q (.string ⟨#[]⟩) (.string ⟨#[]⟩) (.bool false) (.int .i64 0) (.int .i64 0) (.slice none 0 0))] (λwB=>ad w wB/\ad W1 wB/\wB.cell? ⟨w.heap.size,6,none⟩=some (.string bT)/\wB.cell? ⟨q1,0,none⟩=some (.int .i64 i)/\wB.cell? ⟨gb,3,none⟩=some (.slice (some ⟨SK,so,none⟩) n sc)/\wB.cell? ⟨SK,so+i,none⟩=some (.pointer (some ⟨(g.p i).sb,0,none⟩))) λwB SS=> ?_;obtain⟨au,br,aB,aC,aF,aX⟩:=SS.o _ (ad.refl _);iterate 10 refine SP.on ?_
 refine SP.ew ?_ λv1=> ?_
 ·intro wd hI hF;obtain⟨ae,ay,ai,aj,aq,az⟩:=SS.o wd hI;clear hF;go_wp2_with ((go_at_call 92;refine(Ug B (g.p i) i (g.σ i) _ (HS.o _ ae) hB ab bT hk).mono ?_;rintro e w5 ⟨x,b,er,rfl,h5,k5⟩));exact bn rfl ⟨x,b,er,rfl,h5⟩
 refine SP.on (v:=v1) ?_;refine SP.oe (v:=eH v1 0) ?_ ?_
 ·intro wd hI hF;obtain⟨ae,ay,ai,aj,aq,az⟩:=SS.o wd hI;have h1:=hF.1;clear hF;(obtain⟨w9,⟨x,b,er,rfl,_⟩,_⟩:=h1);go_wp2;exact aP
 refine SP.oe (v:=eH v1 1) ?_ ?_
 ·intro wd hI hF;obtain⟨ae,ay,ai,aj,aq,az⟩:=SS.o wd hI;have h1:=hF.1;clear hF;(obtain⟨w9,⟨x,b,er,rfl,_⟩,_⟩:=h1);go_wp2;exact aP
 refine SP.oe (v:=eH v1 2) ?_ ?_
 ·intro wd hI hF;obtain⟨ae,ay,ai,aj,aq,az⟩:=SS.o wd hI;have h1:=hF.1;clear hF;(obtain⟨w9,⟨x,b,er,rfl,_⟩,_⟩:=h1);go_wp2;exact aP
 refine SP.ew ?_ λv2=> ?_
 ·intro wd hI hF;obtain⟨ae,ay,ai,aj,aq,az⟩:=SS.o wd hI;clear hF;go_wp2;exact bn rfl ⟨_,rfl,ay.size,yY _ _⟩
 refine SP.late [13,14] av av ?_;intro wd hI hF;obtain⟨ae,ay,ai,aj,aq,az⟩:=SS.o wd hI;have h1:=hF.2.1;have h2:=hF.1;clear hF SS;obtain⟨w9,⟨x,b,er,rfl,nR⟩,k9⟩:=h1;obtain⟨w8,⟨q,rfl,ko,hq⟩,k8⟩:=h2;simp only[L4,L5,L6];have V2:VB wd q (.string ⟨#[]⟩) (.string ⟨#[]⟩) (.bool false) (.int .i64 0) (.int .i64 0) (.slice none 0 0):=k8.heap hq;obtain⟨z0,z1,z2,z3,z4,z5,zf,zl⟩:=V2.cells;have eY:=aa V2;have g0:=zf 0;have g1:=zf 1;have g2:=zf 2;have g3:=zf 3;have g4:=zf 4;have g5:=zf 5;have Nn:=aa nR;have aY:=K1.size;have kp:w.heap.size+1<W1.heap.size:=(aQ cC.o);obtain⟨x0,x1,x2,x3,x4,x5,x6,x7,x8⟩:=x;unfold aM;clear nR k8 hq V2 zf k9;refine TL.go ?_;refine TL.go ?_;refine TL.go ?_;refine TL.nil ?_;obtain⟨W3,db⟩:=eqR ((((((wd.setCell ⟨q,0,none⟩ (.string x0)).setCell ⟨q,1,none⟩ (.string x1)).setCell ⟨q,2,none⟩ (.bool x2)).setCell ⟨q,3,none⟩ (.int .i64 x3)).setCell ⟨q,4,none⟩ (.int .i64 x4)).setCell ⟨q,5,none⟩ (.slice x5 x6 x7));have ck:ah [q] wd W3:=by rw[db];exact ah.all q _ _ _ _ _ _
 have K3:ad w W3:=ad.but ae ck (by simp;omega);have sj:ad W1 W3:=ad.but ay ck (by simp;omega);have HX:VB W3 q (.string x0) (.string x1) (.bool x2) (.int .i64 x3) (.int .i64 x4) (.slice x5 x6 x7):=by rw[db];exact eY.o.all _ _ _ _ _ _
 rw[<- db];have gM:=aa (sj.heap cC.o);have im:=aa (sj.heap b6.o);have ny:ag (SB W3 q1 (.int .i64 i) (.slice PA pl pc)):=sj.heap jV.o;have pV:=aa (HG.o.kept K3);have eI:=aa K3;have AU:=aa HX;have Lr:gb≠q:=ab;have Ls:q≠gb:=ab;have hlq:w.heap.size<=q:=ab;clear db ck z0 z1 z2 z3 z4 z5 g0 g1 g2 g3 g4 g5 zl ae ay au br K1 sj hI K3 HX s0 s1 sl lB c3 dU ai aj aq az aB aC aF aX eY;rcases Nn.o with ⟨rfl,eT,No⟩|⟨rfl,bW,_,_⟩
 ·have e7:=aa eT;have It:=aa No;have pg:=aa ((HS.o W3 eI.o).told hk No);clear eT No;obtain⟨z0,z1,z2,z3,z4,z5,_,_⟩:=AU.o.cells;obtain⟨s0,s1,_,_⟩:=ny.o.cells;have e1:=ap im.o 1;have lB:=ap im.o 6;go_wp2;refine ey [none,none,none,none,none,none,none,none,none,none,none,some (λu w'=>∃ q9,u= .slice (some ⟨q9,0,none⟩) 2 2/\w'.heap[q9]? =some (.cells #[.slice PA pl pc,.slice x5 x6 x7] 46 (0,0))),some (λu w'=>∃ l,Rw w' 60 3 aS u l/\cA (ps++x8) l)] (λwB=>ad W3 wB/\wB.cell? ⟨w.heap.size,1,none⟩=some (.int .i64 c)/\wB.cell? ⟨w.heap.size,6,none⟩=some (.string bT)/\wB.cell? ⟨q,3,none⟩=some (.int .i64 x3)/\wB.cell? ⟨q,4,none⟩=some (.int .i64 x4)/\wB.cell? ⟨q,5,none⟩=some (.slice x5 x6 x7)/\wB.cell? ⟨q1,1,none⟩=some (.slice PA pl pc)) λwB SS=> ?_;obtain⟨au,aB,aC,aF,aX,bK,fg⟩:=SS.o _ (ad.refl _);iterate 11 refine SP.on ?_
  refine SP.ew ?_ λv1=> ?_
  ·intro wd hI hF;obtain⟨ae,ai,aj,aq,az,aK,a1⟩:=SS.o wd hI;clear hF;go_wp2_with (fail);exact bn rfl ⟨_,rfl,yY _ _⟩
  refine SP.ew ?_ λv2=> ?_
  ·intro wd hI hF;obtain⟨ae,ai,aj,aq,az,aK,a1⟩:=SS.o wd hI;have h1:=hF.1 av;clear hF;go_wp2_with ((go_at_call 93;obtain⟨wa,⟨q9,rfl,hh⟩,nw⟩:=h1;refine(qg4 PA pl pc ps x5 x6 x7 x8 q9 _ (nw.heap hh) (kL.o.jB.kept (eI.o.call ae)) (pg.o.1.kept ae) (λd hd=>(bX.o.ok d hd).1) (λd hd=>(pg.o.2.1 d hd).1)).mono ?_;rintro e w5 ⟨v',l',rfl,h4,h5,k5⟩));exact bn rfl ⟨l',h4,h5⟩
  refine SP.ml SS ?_;rintro wd hI hF ⟨ae,ai,aj,aq,az,aK,a1⟩;have h2:=hF.1;clear hF SS;obtain⟨wb,⟨l,hl,hm⟩,kb⟩:=h2;have jy:=hl.kept kb;obtain⟨Np,F0,rfl,_,_⟩:=jy.form;have HM:=aa hm;have HL:=aa jy;have dr:=aa ae;obtain⟨en,D'⟩:=eqQ l.length;rw[D']at HL⊢;have Nk:=aa D';clear hl jy hm kb D';go_wp2_with fail
  refine(Na B (B+1) gb g ⟨2,c,bT,x3,x4,Np,en,F0,l⟩ wd (pV.o.kept ae) ab h9 ab HL.o Nk.o).mono ?_;rintro e w5 ⟨rfl,pW,fh⟩;have kM:=aa pW;have mi:=aa fh;have mq:=aa (eI.o.call ae);have cI:=aa (dr.o.heap gM.o);have dh:=aa (gY cI.o fh);have Dq:=fh.block _ _ _ (dr.o.heap im.o) ak;have pw:SB w5 q1 (.int .i64 i) (.slice PA pl pc):=fh.block _ _ _ (dr.o.heap ny.o) ak;have oE:VB w5 q (.string x0) (.string x1) (.bool x2) (.int .i64 x3) (.int .i64 x4) (.slice x5 x6 x7):=fh.block _ _ _ (dr.o.heap AU.o) ak;have sG:=aa oE;obtain⟨z0,z1,z2,z3,z4,z5,_,_⟩:=oE.cells;obtain⟨s0,s1,_,_⟩:=pw.cells;have e1:=ap Dq 1;have Cg:=mq.o.size;have qlb:=fh.size;clear pW fh Dq pw oE ae au hI ai aj aq az aK a1 aB aC aF aX bK fg
  cases b
  ·skip
   obtain⟨p0,p1,p2,p3⟩:=dg dh.o;go_wp2;have aL:=bC dh.o (.int .i64 0) (.slice none 0 0);have y0:=ap aL 0;have y1:=ap aL 1;refine KV (v:= .agg #[.int .i64 0,.slice none 0 0]) (by simp[results,results57,go_sem,y0,y1]) rfl ?_;obtain⟨r1,r2⟩:=df mq.o ab cI.o kM.o mi.o;exact⟨0,_,[],_,rfl,Rw.nil _,r1,.inr ⟨rfl,e7.o,_,false,_,It.o,rfl,rfl,rfl,rfl,rfl,by rw[jz.o];exact HM.o,.inl ⟨rfl,rfl,rfl⟩⟩,r2⟩
  ·have nx:=aa (pg.o.2.2 rfl).1;go_wp2;refine ku [0,1,2,3,4,7,8,5,6,9,10] [none,none,none,none,none,none,none,some (λu w'=>∃ q9,u= .slice (some ⟨q9,0,none⟩) 1 1/\w'.heap[q9]? =some (.cells #[.string x0,.string x1,.bool x2,.int .i64 x3,.int .i64 x4,.slice x5 x6 x7] 48 (0,0))),some (λu w'=>∃ A n c p,u=cY i (.slice A n c)/\Rw w' 60 3 aS (.slice A n c) p/\p.length=n/\cA (ps++lm ⟨x0,x1,x2,x3,x4,x5,x6,x7,x8⟩) p)] (λwB=>ad w5 wB/\wB.cell? ⟨w.heap.size,1,none⟩=some (.int .i64 c)/\wB.cell? ⟨q1,0,none⟩=some (.int .i64 i)/\wB.cell? ⟨q1,1,none⟩=some (.slice PA pl pc)/\wB.cell? ⟨q,0,none⟩=some (.string x0)/\wB.cell? ⟨q,1,none⟩=some (.string x1)/\wB.cell? ⟨q,2,none⟩=some (.bool x2)/\wB.cell? ⟨q,3,none⟩=some (.int .i64 x3)/\wB.cell? ⟨q,4,none⟩=some (.int .i64 x4)/\wB.cell? ⟨q,5,none⟩=some (.slice x5 x6 x7)) λwB SS=> ?_;iterate 7 refine SP.on ?_
   refine SP.ew ?_ λv1=> ?_
   ·intro wd hI hF;obtain⟨ae,ai,aj,aq,az,aK,a1,cw,d',jf⟩:=SS.o wd hI;clear hF;go_wp2_with (fail);exact bn rfl ⟨_,rfl,yY _ _⟩
   refine SP.ew ?_ λv2=> ?_
   ·intro wd hI hF;obtain⟨ae,ai,aj,aq,az,aK,a1,cw,d',jf⟩:=SS.o wd hI;have h1:=hF.1 av;clear hF;go_wp2_with ((go_at_call 90;obtain⟨wa,⟨q9,rfl,hh⟩,nw⟩:=h1;refine(WE B i PA pl pc ps ⟨x0,x1,x2,x3,x4,x5,x6,x7,x8⟩ q9 _ (nw.heap hh) ((((kL.o.jB.kept mq.o).fr mi.o ak).kept ae)) bX.o ((nx.o.kept ((ad.refl _).call dr.o)).fr (mi.o.j7.trans (.ar ae)))).mono ?_;rintro e w6 ⟨A,tt,c',p,rfl,h4,h5,h6,k5⟩));exact bn rfl ⟨A,tt,c',p,rfl,h4,h5,h6⟩
   refine SP.ml SS ?_;rintro wd hI hF ⟨ae,ai,aj,aq,az,aK,a1,cw,d',jf⟩;have h2:=hF.1;clear hF SS;obtain⟨wb,⟨NA,nn,nc,Er,rfl,ez,Iu,iN⟩,kb⟩:=h2;have mg:=ez.kept kb;have pX:=aa iN;have qR:=kM.o.kept ae;obtain⟨V5,rn,AV⟩:=qR;obtain⟨y0,y1⟩:=rn.bY bO;have f0:=rn.fP (5+c*2);have f1:=rn.fP (5+c*2+1)
   have vJ:∀ d∈Er,d.n<=B+1:=λd hd=>by
    have:=pX.o.mem d hd;simp only[lm,Pv,At]at this;rcases this with h|h|rfl
    ·have:=kG.o d h;omega
    ·have:=(pg.o.2.1 d h).2;omega
    ·have:=nx.o.n;simp only[Dz]at*;omega
   have qg6:=AV.a6.bY c bO;obtain⟨r1,r2⟩:=aT.Ef ⟨V5,rn,AV⟩ bO (s:=i) mg pX.o.cg vJ (by have:=HN.o;have Hj:({g with bJ:=g.bJ++[(⟨2,c,bT,x3,x4,Np,en,F0,l⟩:nK)]}:aG).n=g.n:=rfl;rw[Hj];omega);have dv:=aa r1;have di:=aa r2;have AW:=aa (ae.heap dh.o);have Nq:=aa (gY AW.o r2);have cy:VB wd q (.string x0) (.string x1) (.bool x2) (.int .i64 x3) (.int .i64 x4) (.slice x5 x6 x7):=ae.heap sG.o;have Ns:VB ((wd.setCell ⟨gb,5+c*2,none⟩ (.int .i64 i)).setCell ⟨gb,5+c*2+1,none⟩ (.slice NA nn nc)) q (.string x0) (.string x1) (.bool x2) (.int .i64 x3) (.int .i64 x4) (.slice x5 x6 x7):=r2.block _ _ _ cy ak;obtain⟨z0,z1,z2,z3,z4,z5,_,_⟩:=Ns.cells;have xU:=aa ae;have Gj:=ae.size;unfold cY;clear r1 r2 rn AV ez mg vJ iN kb qg6;go_wp2_with fail
   refine(AQ _ 1 1 _).mono ?_;rintro e w6 ⟨rfl,k6⟩;have K6:ad ((wd.setCell ⟨gb,5+c*2,none⟩ (.int .i64 i)).setCell ⟨gb,5+c*2+1,none⟩ (.slice NA nn nc)) w6:=ad.call al k6;have cN:ag (Rw w6 48 6 a8 (.slice (some ⟨wd.heap.size,0,none⟩) 1 1) [⟨x0,x1,x2,x3,x4,x5,x6,x7,x8⟩]):=(Rw.one (ea (by simp[World.setCell]))).kept k6;have aZ:=aa (K6.heap Nq.o);have aR:=aa K6;clear k6;obtain⟨p0,p1,p2,p3⟩:=dg aZ.o;go_wp2;have aL:=bC aZ.o (.int .i64 0) (.slice (some ⟨wd.heap.size,0,none⟩) 1 1);have y0:=ap aL 0;have y1:=ap aL 1;refine KV (v:= .agg #[.int .i64 0,.slice (some ⟨wd.heap.size,0,none⟩) 1 1]) (by simp[results,results57,go_sem,y0,y1]) rfl ?_;obtain⟨r1,r2⟩:=df mq.o ab cI.o (dv.o.kept aR.o) (((mi.o.trans (.ar xU.o)).trans di.o).trans (.ar aR.o));exact⟨0,_,_,_,rfl,cN.o.fr (yq aZ.o) (by unfold bq;decide),r1,.inr ⟨rfl,e7.o,_,true,⟨2,c,bT,x3,x4,Np,en,F0,l⟩,It.o,rfl,rfl,rfl,rfl,rfl,by rw[jz.o];exact HM.o,.inr ⟨rfl,rfl,Er,by rw[jz.o];exact pX.o,rfl⟩⟩,r2⟩
 ·have jX:=aa bW;clear bW;go_wp2_with fail
  refine(gl 14 _).mono ?_;rintro e w6 ⟨rfl,k6⟩;have aZ:=aa (k6.heap gM.o);have aR:=aa k6;clear k6;obtain⟨p0,p1,p2,p3⟩:=dg aZ.o;go_wp2;have aL:=bC aZ.o (.int .i64 14) (.slice none 0 0);have y0:=ap aL 0;have y1:=ap aL 1;refine KV (v:= .agg #[.int .i64 14,.slice none 0 0]) (by simp[results,results57,go_sem,y0,y1]) rfl ?_;obtain⟨r1,r2⟩:=df eI.o ab gM.o (pV.o.kept aR.o) (.ar aR.o);exact⟨14,_,[],_,rfl,Rw.nil _,r1.mono ab,.inl ⟨ak,rfl,rfl,jX.o⟩,r2⟩
section
variable {P:Program} {ops:Array Oper} {Q:Exit->Act->World->Prop} {T:World->World->Prop} {p:Nat} {wB:World}
def lC (T:World->World->Prop) (wB:World):Bool->World->Prop
 |false,w=>ad wB w
 |true,w=>T wB w
structure oL (T:World->World->Prop):Prop where
 kept:∀ {a b},ad a b->T a b
 trans:∀ {a b c},T a b->T b c->T a c
theorem Es (hT:oL T) {w:World} (h:GA (lC T wB) w):T wB w:=by
 obtain⟨b,h⟩:=h
 cases b
 ·exact hT.kept h
 ·exact h
theorem WH (hT:oL T) (b:Bool) (w w':World) (h:lC T wB b w) (k:ad w w'):lC T wB b w':=by
 cases b
 ·exact ad.call h k
 ·exact hT.trans h (hT.kept k)
theorem WI {ks:List (Option Pd)} (vK:((ks[p]?).getD none).isSome=true):isSp (ks.map (Option.map Ev)) p:=by
 cases h9:ks[p]? with
 |none=>rw[h9]at vK;cases vK
 |some x=>cases x with
  |none=>rw[h9]at vK;cases vK
  |some R=>exact⟨Ev R,by rw[List.getElem?_map,h9];rfl⟩
theorem WJ (hT:oL T) {ks:List (Option Pd)} (iw:∀ U R,U≠p->ks[U]? =some (some R)->∀ v w w',R v w->T w w'->R v w') (U:Nat) (R:Pd) (hj:U≠p) (hR:(ks.map (Option.map Ev))[U]? =some (some R)) (v:Value) (w w':World) (hv:R v w) (ht:T w w'):R v w':=by
 rw[List.getElem?_map]at hR
 cases h9:ks[U]? with
 |none=>rw[h9]at hR;cases hR
 |some x=>cases x with
  |none=>rw[h9]at hR;cases hR
  |some R0=>
   rw[h9]at hR;simp only[Option.map_some,Option.some.injEq]at hR;subst hR;obtain⟨w0,h1,h2⟩:=hv;exact⟨w',iw U R0 hj h9 v _ _ (iw U R0 hj h9 v _ _ h1 (hT.kept h2)) ht,ad.refl w'⟩
theorem WK (hT:oL T) {id:Nat} {a:Act} (p:Nat) (ks:List (Option Pd)) (hm:P.follows .mixedOrders=true) (bh:(mJ ops&&decide (ks.length<=ops.size))=true) (vK:((ks[p]?).getD none).isSome=true) (iw:∀ U R,U≠p->ks[U]? =some (some R)->∀ v w w',R v w->T w w'->R v w')
  (l:List Oper) (hl:ops.toList=l) (h:SX (lC T wB) T p P ops ops _root_.id Q (ks.map (Option.map Ev)) l 0 a []):(Code.region id ops true).wp P Q a wB:=
 Q8 (WH hT) _ (ad.refl wB) hm (by rw[List.length_map];exact bh) (.inl (WI vK)) (zy ks) (WJ hT iw) l hl h
variable {bc:Array Oper} {r:Oper->Oper} {ks:List (Option Pd)} {qD:Oper} {rest:List Oper} {k:Nat} {a:Act} {fs:List mT}
theorem SX.one (hT:oL T) {v:Value} (hf:(fs.all λf=>waits bc 14 (r qD) f.1)=true) (h:∀ w,T wB w->iW fs w->wpList P ops (bd (λu w'=>u=v/\ad w w') qD a) [qD] a w)
  (hr:SX (lC T wB) T p P ops bc r Q ks rest (k+1) (a.put qD.dst v) fs):SX (lC T wB) T p P ops bc r Q (none::ks) (qD::rest) k a fs:=⟨hf,v,λw hw=>h w (Es hT hw),hr⟩
theorem SX.Nt (hT:oL T) {R:Pd} (hk:k=p) (h:∀ w,ad wB w->uW bc (r qD) fs w->wpList P ops (bd (λu w'=>R u w'/\T w w') qD a) [qD] a w)
  (hr:∀ v,SX (lC T wB) T p P ops bc r Q ks rest (k+1) (a.put qD.dst v) ((k,Ev R,v)::fs)):SX (lC T wB) T p P ops bc r Q (some (Ev R)::ks) (qD::rest) k a fs:=
 ⟨⟨λ_ w hw hf=>qh (λu w' ⟨h1,h2⟩=>⟨⟨w',h1,ad.refl w'⟩,hT.trans (hT.kept hw) h2,h2⟩) (h w hw hf),λhn=>absurd hk hn⟩,hr⟩
theorem SX.ev (hT:oL T) {R:Pd} (hk:k≠p) (h:∀ w,T wB w->uW bc (r qD) fs w->wpList P ops (bd (λu w'=>R u w'/\ad w w') qD a) [qD] a w)
  (hr:∀ v,SX (lC T wB) T p P ops bc r Q ks rest (k+1) (a.put qD.dst v) ((k,Ev R,v)::fs)):SX (lC T wB) T p P ops bc r Q (some (Ev R)::ks) (qD::rest) k a fs:=
 ⟨⟨λhn=>absurd hn hk,λ_ w hw hf=>qh (λu w' ⟨h1,h2⟩=>⟨⟨w',h1,ad.refl w'⟩,h2⟩) (h w (Es hT hw) hf)⟩,hr⟩
theorem SX.late (hT:oL T) (late:List Nat) (ht:F2 bc k late=true) (hf:(fs.all λf=> !late.contains f.1)=true) (h:∀ w,T wB w->iW fs w->TL P ops Q rest a w):SX (lC T wB) T p P ops bc r Q [] rest k a fs:=by
 unfold F2 at ht;rw[Bool.and_eq_true]at ht;exact⟨late,ht.1,hf,.inl ⟨ht.2,λw hw ia=>TL.rN rest k a w (Ki ht.1) (h w (Es hT hw) ia)⟩⟩
theorem SX.qg8 (late:List Nat) (ht:uX bc k late=true) (hf:(fs.all λf=> !late.contains f.1)=true) (h:mU P ops Q (λw=>GA (lC T wB) w/\iW fs w) (λw=>GA (lC T wB) w/\iW fs w) rest a):SX (lC T wB) T p P ops bc r Q [] rest k a fs:=⟨late,ht,hf,.inr (mU.rN rest _ k a (Ki ht) h)⟩
theorem mU.step {I J:World->Prop} (v:Value) (J':World->Prop) (h1:∀ w w',J' w->ad w w'->J' w') (h2:∀ w,J' w->I w) (h3:∀ w,J w->wpList P ops (bd (λu w'=>u=v/\J' w') qD a) [qD] a w) (h4:mU P ops Q I J' rest (a.put qD.dst v)):mU P ops Q I J (qD::rest) a:=⟨v,J',h1,h2,h3,h4⟩
theorem mU.nil {I J:World->Prop} (h:∀ w,J w->Q .normal a w):mU P ops Q I J [] a:=h
theorem SX.more (hT:oL T) (ht:nW bc k=true) (h:∀ w,T wB w->iW fs w->wpList P ops Q rest a w):SX (lC T wB) T p P ops bc r Q [] rest k a fs:=⟨[],QX ht,by simp,.inr (QW ht rest λw hw=>h w (Es hT hw.1) hw.2)⟩
end
noncomputable def iO (g:aG) (a f:Int) (k:ByteArray):List Nat:=k7 (nh g.ps g.n a f (oa g.os (bV g.es (hv k)))) (fe g.ps a)
theorem WL (g:aG) (a f:Int) (k:ByteArray):(iO g a f k).Nodup:=by
 refine List.Pairwise.filter _ ?_;unfold fe;split
 ·exact List.Pairwise.filter _ List.nodup_range
 ·exact List.Pairwise.nil
theorem Et {g:aG} {f:Int} (s:Nat) (h:s∈iO g a f k):s<g.n/\a≠s:=by
 have hm:s∈fe g.ps a:=(List.mem_filter.1 h).1;unfold fe at hm;split at hm
 ·rename_i hh
  obtain⟨h1,h2⟩:=qlc.1 hm;refine⟨h1,λe=> ?_⟩;simp only[Int.toNat_natCast]at h2;subst e;obtain⟨R,hT⟩:=hh.1;have an:a<g.ps.length:=h1;rcases h2 with h2|h2
  ·have:=hT.rk a an a h2;omega
  ·have:=hT.rk a an a h2;omega
 ·cases hm
theorem WM (rv ov pv:Value) (es:List Nat) (os ps:List Int) (a f:Int) (k:ByteArray) (w:World) (h:fm w rv ov pv es os ps) (hf:eA es os ps ps.length):
  Calls prog 83 #[.agg #[rv,ov,pv],.int .i64 a,.int .i64 f,.string k] w λe w'=>∃ A tt c,e= .returned (.slice A tt c)/\Rw w' 3 1 cJ (.slice A tt c) (ints (k7 (nh ps ps.length a f (oa os (bV es (hv k)))) (fe ps a)))/\ad w w':=by
 obtain⟨A,B,C,n1,c1,n2,c2,c3,hh,hr⟩:=h.mu;injection hh with hh;have jl:=congrArg Array.toList hh;simp only[List.cons.injEq,and_true]at jl;obtain⟨rfl,rfl,rfl⟩:=jl;refine(qb' A B C n1 c1 n2 c2 _ c3 es os ps a f k w hr hf).mono ?_;rintro e w' ⟨⟨A2,c4,rfl,h1,_,h3⟩,h4⟩;have:=qgN h1 (h4 _ _ _ rfl);exact⟨A2,_,c4,rfl,this,h3⟩
def WN (S:List Nat) (w w':World):Prop:=ah S w w'/\Fr bq w w'
theorem vL (S:List Nat):oL (WN S):=⟨λk=>⟨.ar k,.ar k⟩,λh k=>⟨h.1.trans k.1,h.2.trans k.2⟩⟩
theorem oI.ln {g:aG} (h:oI w B g V) (hf:Fr (λt=>t≠48) w w2):oI w2 B g V:=
 ⟨⟨h.row.r.fr hf ak,h.row.qD.fr hf ak,h.row.p.fr hf ak⟩,h.fit,h.sites.fr hf ak,λc hc=>by
  obtain⟨a,b,d,e⟩:=h.bY c hc
  exact⟨a.fr hf ak,b,d,e⟩,λc hc=>by
  obtain⟨a,b,d⟩:=h.oJ c hc;exact⟨a.fr hf ak,b.fr hf ak,d⟩,
  ⟨⟨h.pins.1.1.fr hf ak,λx hx=>⟨(h.pins.1.2 x hx).1.fr hf ak,(h.pins.1.2 x hx).2⟩⟩,h.pins.2⟩,
  λe he=>⟨(h.rl e he).1.fr hf ak,(h.rl e he).2⟩⟩
theorem aT.ln {q:Nat} {g:aG} (h:aT w B gb g) (hk:Fz q w w2):aT w2 B gb g:=by
 obtain⟨V,h1,h2⟩:=h;have hz:∃ cur,w.heap[q]? =some (.cells cur 48 (0,0)):=⟨_,hk.zero⟩;obtain⟨cur,hz⟩:=hz
 have aN:gb∉[q]:=by
  rw[GB]at h1;simp only[At];exact fB h1 hz ak
 refine⟨V,hk.but.heap h1 aN,h2.a6.ln hk.fr,λi hi=>(h2.bi i hi).ln hk,h2.apart,h2.cm.oK hk.but λy hy hl=> ?_,h2.bx,cB h2.bJ hk.but λb hb hy=> ?_,h2.cX,h2.old.but hk.but λy hy hl=> ?_⟩
 ·simp only[At]at hy;subst hy;exact .inr ⟨cur,_,hz,ak,ak⟩
 ·simp only[At]at hy;subst hy;obtain⟨c2,hc⟩:=j5 h2.bJ hb;exact fB hc hz ak rfl
 ·simp only[At]at hy;subst hy;exact .inr ⟨cur,_,hz,ak⟩
def WO (B:Int) (id:Int) (σ:ci) (k vl:ByteArray) (gD:Bool) (ds:List aD) (v:ax) (σ':ci):Prop:=
 b4 σ.own k/\v.key=k/\v.val=vl/\v.gone=gD/\v.ds=ds/\v.s=id/\v.n=(kH (σ.cn,σ.cs) ds).1+1/\v.n<=B+1/\WC v v.ds/\∃ L' b,xP σ.own σ.L v L' b/\σ'={σ with L:=L',cn:=v.n,cs:=v.s}
theorem Eu (v:Value) (rs:List Rg) (k:ByteArray) (w:World) (hv:Rw w 63 2 bZ v rs):
  Calls prog 84 #[v,.string k] w λe w'=>∃ r:Int,e= .returned (.int .i64 r)/\(r<0↔¬b4 rs k)/\ad w w':=by
 obtain⟨A,c,rfl,_,_⟩:=hv.form;refine(wI A _ c rs k w hv.rows).mono ?_;rintro e w' ⟨r,rfl,h,k1⟩;refine⟨r,rfl,?_,k1⟩;rcases h with ⟨rfl,h⟩|⟨i,rfl,hi,h,_⟩
 ·refine⟨λ_ ⟨x,hx,hb⟩=> ?_,λ_=>ab⟩;obtain⟨i,hi⟩:=qcl.1 hx;have hl:=(bg hi);have:=h i hl;simp only[rg,hi,Option.getD_some]at this;rw[hb]at this;cases this
 ·refine⟨λg=>ab,λg=>absurd ⟨rs[i],List.getElem_mem hi,?_⟩ g⟩;simp only[rg,vF hi,Option.getD_some]at h;exact h
theorem qg9 {w0:World} {X:List Nat} {N:Nat} {P:Nat->Nat->Bool} {st:Nat->Nat->bF} (h:dF w0 X w N P st) (ha:a<6) (hc:c<6) (hP:P a c=false):
  Calls prog 105 #[.pointer (some ⟨N,0,none⟩),.int .i64 a,.int .i64 c] w λe w'=>e= .returned (.slice none 0 0)/\ad w w':=by
 have HO:ag (∀ w2,ad w w2->Calls prog 172 #[.pointer (some ⟨N,0,none⟩),.int .i64 a,.int .i64 c] w2 λe w'=>e= .returned (.pointer none)/\ad w2 w'):=λw2 hk=>h.Wi ha hc hP hk;clear h;go_in;go_wp2_with fail
 refine(HO.o _ (ad.refl _)).mono ?_;rintro e w1 ⟨rfl,k1⟩;go_wp2;go_ret;exact⟨rfl,k1⟩
def ub (g:aG) (s t:Nat):Nat:=if de g.n s t=true then(g.st s t).aw.length else 0
theorem qg' {g:aG} (h2:fo w B gb g V) (h9:B<=900) (hs:s<6) (ht:t<6):
  Calls prog 105 #[.pointer (some ⟨V.N,0,none⟩),.int .i64 s,.int .i64 t] w λe w'=>∃ A c,e= .returned (.slice A (ub g s t) c)/\ad w w':=by
 have hf:=h2.bx s t hs ht
 cases hP:de g.n s t
 ·have hm:ub g s t=0:=by simp[ub,hP]
  rw[hm];refine(qg9 h2.cm hs ht hP).mono ?_;rintro e w' ⟨rfl,k⟩;exact⟨none,0,rfl,k⟩
 ·have hm:ub g s t=(g.st s t).aw.length:=by simp[ub,hP]
  rw[hm];refine(qgC g.w0 (j6 g) V.N (de g.n) g.st s t s t w h2.cm rfl rfl hs ht hP ab).mono ?_;rintro e w' ⟨⟨v',rfl,ho⟩,k⟩;obtain⟨A,c,rfl⟩:=ca ho;exact⟨A,c,rfl,k⟩
structure my where
 key:ByteArray
 val:ByteArray
 gone:Bool
 n:Int
 s:Int
 ds:List aD
def ax.ir (v:ax):my:=⟨v.key,v.val,v.gone,v.n,v.s,v.ds⟩
def uc (B:Int) (P:my->Prop) (d:ByteArray):Prop:=∃ v:ax,d=⟨(l9 v v.ds).toArray⟩/\Let v.key/\WC v v.ds/\b9 v.ds/\v.n<=B/\(∀ x∈v.ds,x.n<=B)/\P v.ir
def WQ (B:Int) (P:Nat->my->Prop) (g:aG) (s t:Nat) (a h:Int) (er:Int) (fl:List ax) (g':aG):Prop:=
 (er≠0/\fl=[]/\g'=g)∨(er=0/\de g.n s t=true/\0<=a/\a<(g.st s t).aw.length/\
  ((fl=[]/\(h=1∨h=2∨nI (g.st s t) a 0=false)/\g'={g with st:=gj g.st s t (mr (g.st s t) a h)})∨
   (h≠1/\h≠2/\nI (g.st s t) a 0=true/\∃ v yt σ',fl=[v]/\tx (g.st s t).T (g.st s t).lo=⟨(l9 v v.ds).toArray⟩/\Let v.key/\WC v v.ds/\P (g.st s t).lo v.ir/\(b4 (g.σ t).own v.key->(g.σ t).wait.length<24)/\(∀ x∈iO g t s v.key,Room (g.st t x))/\Uh (g.σ t) v yt σ'/\
    g'={g with st:=jK (gj g.st s t (mr (g.st s t) a h)) t (iO g t s v.key) ⟨(l9 v v.ds).toArray⟩,σ:=ed g.σ t σ'})))
theorem qha (x:bF) (i h:Int):(mr x i h).T=x.T/\(mr x i h).aw.length<=max x.aw.length 32:=by
 unfold mr;split
 ·exact⟨rfl,ab⟩
 ·split
  ·split
   ·exact⟨rfl,by simp;omega⟩
   ·exact⟨rfl,ab⟩
  ·split
   ·exact⟨rfl,by have:=List.length_eraseIdx_le x.aw i.toNat;simp only;omega⟩
   ·split
    ·exact⟨rfl,by have:=List.length_eraseIdx_le x.aw i.toNat;simp only;omega⟩
    ·exact⟨rfl,by have:=List.length_eraseIdx_le x.aw i.toNat;simp only;omega⟩
theorem qhb {g:aG} (h1:GB w gb g V) (h2:fo w B gb g V) (hi:i<g.n):∃ SK so sc,w.cell? ⟨gb,3,none⟩=some (.slice (some ⟨SK,so,none⟩) g.n sc)/\w.cell? ⟨SK,so+i,none⟩=some (.pointer (some ⟨(g.p i).sb,0,none⟩)):=by
 have dO:w.cell? ⟨gb,3,none⟩=some V.sv:=aE h1 3;obtain⟨SA,sc,mx,_,_⟩:=h2.a6.sites.form;have hS:=h2.a6.sites;rw[mx]at dO hS;have eO:((List.range g.n).map λi=>(g.p i).sb).length=g.n:=ao;rw[eO]at dO hS;have hx:((List.range g.n).map λi=>(g.p i).sb)[i]? =some (g.p i).sb:=by rw[List.getElem?_map,List.getElem?_range hi];rfl
 obtain⟨b,off,rfl,hb,fE⟩:=hS.af hx;have c0:=iU fE;simp only[Nat.mul_one]at c0;exact⟨b,off,sc,dO,c0⟩
theorem qhc (v:ax) (ds:List aD) (hk:Let v.key) (hd:∀ d∈ds,Let d.key) (hc:WC v ds):(l9 v ds).length<=2000:=by
 have kV:v.key.size=1:=by obtain⟨c,_,_,h⟩:=hk;rw[h];rfl
 have eh:v.val.size<=32:=hc.2.2.1;have aV:=qck hc.1;have h1:=GL v.key ab;have h2:=GL v.val ab;have h3:=kz (tv v.gone) (by unfold tv;split <;>omega);have h4:=kz v.n.toNat ab;have h5:=kz v.s.toNat ab;have h6:=S6 ds hd hc.2.1;have e1:(eB v.key).data.toList.length=(eB v.key).size:=Array.length_toList;have e2:(eB v.val).data.toList.length=(eB v.val).size:=Array.length_toList;unfold l9;simp only[zH,GH,e1,e2];omega
theorem qhd {x:bF} {a:Int} (bh:Wh x) (h:nI x a 0=true):x.T[x.lo]? =some (tx x.T x.lo):=by
 have h1:=qck h
 have h2:x.lo∈x.aw:=by
  have h3:=h1.1;unfold rj at h3;split at h3
  ·cases h3
  ·exact zV h3
 have h4:=bh.aw _ h2;unfold tx;rw[vF h4];rfl
theorem Iv {g:aG} (h1:GB w gb g V) (h2:fo w B gb g V) (h9:B<=900) (hs:s<6) (ht:t<6) (hP:de g.n s t=true) (a h:Int):
  Calls prog 107 #[.pointer (some ⟨V.N,0,none⟩),.int .i64 s,.int .i64 t,.int .i64 a,.int .i64 h] w λe w'=>∃ v,e= .returned v/\aT w' B gb {g with st:=gj g.st s t (mr (g.st s t) a (bits .and .i64 h 3))}/\bN w w':=by
 have hf:=h2.bx s t hs ht;refine(qgA (bare g w) (j6 g) V.N (de g.n) g.st s t s t w h2.Ec (Eb g w) rfl rfl hs ht a h hP ab ab).mono ?_;rintro e w' ⟨rfl,gq⟩;have hp:=qha (g.st s t) a (bits .and .i64 h 3);obtain⟨bj,a2⟩:=aT.Ed h1 h2 gq (Int.le_refl _) (Ni h2.bx (Int.le_refl _) (by rw[hp.1];omega));exact⟨_,rfl,bj,a2⟩
end Go.Proofs.YtehaoggjlciobaaGreat

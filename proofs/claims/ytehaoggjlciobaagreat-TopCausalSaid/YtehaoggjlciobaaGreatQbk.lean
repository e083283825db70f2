/- Part 27 of 40. -/
import Derived.Test.YtehaoggjlciobaaGreatQbj
set_option linter.all false
set_option maxRecDepth 20000
set_option maxHeartbeats 16000000
namespace Go.Proofs.YtehaoggjlciobaaGreat
open Go.Maps Go.RowKit Go.Proofs.Tryz
variable {p:Prop}
def NX (k:Nat):Nat:=match k with
 |1=>56
 |2=>56
 |3=>57
 |4=>58
 |5=>59
 |6=>60
 |7=>61
 |8=>62
 |9=>63
 |10=>64
 |11=>65
 |_=>66
theorem qhI (gb k:Nat) (w:World) (h1:1<=k) (h2:k<=12):
  Calls prog 31 #[.pointer (some ⟨gb,0,none⟩),.int .i64 k] w λe w'=>e= .returned (.func (.func (NX k)) #[.pointer (some ⟨gb,0,none⟩)] #[])/\ad w w':=by
 have iS:∀ fn first cap w,(Instr.makeFunc fn first cap).run prog w= .ok (.func fn first cap) w:=λ_ _ _ _=>rfl
 rcases(by omega:k=1∨k=2∨k=3∨k=4∨k=5∨k=6∨k=7∨k=8∨k=9∨k=10∨k=11∨k=12)with rfl|rfl|rfl|rfl|rfl|rfl|rfl|rfl|rfl|rfl|rfl|rfl <;>(
  go_in;go_wp2_with fail
  go_ret;exact⟨rfl,al⟩)
theorem NY (h:p:=by
  refine(qhI gb k _ h1 h2).mono ?_;rintro e w5 ⟨rfl,k5⟩;rw[hV.o];have gv:=aa (oH.o.call k5);have dh:=aa (k5.heap dy.o);have fb:=aa (k5.heap dG.o);have x0:=ap fb.o 0;have x1:=ap fb.o 1;have x2:=ap fb.o 2;have x3:=ap fb.o 3;have x4:=ap fb.o 4;have x5:=ap fb.o 5;have x6:=ap fb.o 6;have x7:=ap fb.o 7;have x8:=ap fb.o 8;have Be:=ap fb.o 9;have Bf:=ap fb.o 10;have Bg:=ap fb.o 11;have GG:w.heap.size+1<w5.heap.size:=(aQ dh.o);clear k5;go_wp2_with fail
  refine(HF.o (by first|exact λ_ h=>absurd H5.o h|exact λ_ _ h=>rT.o (HI.o.symm.trans h)|exact λh=>absurd h h7) w5 gv.o).mono ?_;rintro e w8 ⟨er,fv,fl,g',rfl,hr,hg,hq,dS⟩;obtain⟨FA,gU,rfl,_,_⟩:=hr.form;have vR:=aa (gY dh.o dS);have Mz:=aa hr;have rE:=aa hg;have HQ8:=aa hq;have EG:=aa dS;try clear ai
  clear hr hg hq dS x0 x1 x2 x3 x4 x5 x6 x7 x8 Be Bf Bg;unfold gm;obtain⟨p0,p1,p2,p3⟩:=dg vR.o;go_wp2_with fail
  have aL:=bC vR.o (.int .i64 er) (.slice FA fl.length gU);have y0:=ap aL 0;have y1:=ap aL 1;refine KV (v:= .agg #[.int .i64 er,.slice FA fl.length gU]) (by simp[results,results9,go_sem,y0,y1]) rfl ?_;obtain⟨r1,r2⟩:=df gv.o ab dh.o rE.o EG.o;exact⟨er,_,fl,g',rfl,Mz.o.fr (yq vR.o) (by unfold bq;decide),r1,.inl HQ8.o,r2⟩):p:=h
theorem Xq (B B2:Int) (gb:Nat) (g:aG) (qD:ee) (k c f:Nat) (w:World) (Q:Int->List ax->aG->Prop) (h:aT w B gb g) (r9:B<=B2) (hk:qD.k=k) (h1:1<=k) (h2:k<=12) (hc:qD.c=c) (bO:c<4) (aV:NX k=f) (AS:∀ args w,(callFunc f args).run prog w= .ok (.enter f args) w)
  (hf:(k<=7->k≠5->(g.ss c).1≠ -1)->∀ W,ad w W->Calls prog f #[.pointer (some ⟨gb,0,none⟩),dx qD] W λe W'=>∃ er fv fl g',e= .returned (gm er fv)/\Rw W' 48 6 a8 fv fl/\aT W' B2 gb g'/\Q er fl g'/\bN W W'):
  Calls prog 9 #[.pointer (some ⟨gb,0,none⟩),dx qD] w λe w'=>∃ er fv fl g',e= .returned (gm er fv)/\Rw w' 48 6 a8 fv fl/\aT w' B2 gb g'/\(Q er fl g'∨er≠0/\fl=[]/\g'=g/\(g.ss c).1= -1/\k<=7)/\bN w w':=by
 have HG:=aa h;have an:=h.lt;obtain⟨V,h3,h4⟩:=h;obtain⟨fx,_⟩:=h3.bY bO;obtain⟨i,hi⟩:=eqQ ((g.ss c).1);have HI:=aa hi;rw[hi]at fx;have HF:=aa hf;have hV:=aa aV;have qJ:=aa fx;clear h3 h4 hi hf aV fx;obtain⟨ok,oc,os,ot,oa,oh,bT,dj,dq,dH,dI,dJ⟩:=qD;unfold dx il;simp only at*;obtain⟨bS,dT⟩:=pU (w:=w) (xs:= #[.int .i64 ok,.int .i64 oc,.int .i64 os,.int .i64 ot,.int .i64 oa,.int .i64 oh,.string bT,.string dj,dq,dH,dI,dJ]) (ys:= #[.int .i64 0,.slice none 0 0]) (a:=36) (b:=42);have dG:=aa bS;have dy:=aa dT;clear bS dT;subst hk hc;have M1:∀ W,Sem.run prog (binOp BinOp.eql 43 (.func (.func f) #[.pointer (some ⟨gb,0,none⟩)] #[]) .nilFunc) W= .ok (.bool false) W:=λW=>av;have oH:ag (ad w ((w.alloc (.cells #[.int .i64 k,.int .i64 c,.int .i64 os,.int .i64 ot,.int .i64 oa,.int .i64 oh,.string bT,.string dj,dq,dH,dI,dJ] 36)).alloc (.cells #[.int .i64 0,.slice none 0 0] 42))):=((ad.refl _).alloc _).alloc _;by_cases h7:k<=7
 ·have j8:decide ((k:Int)<=7)=true:=by simp;omega
  by_cases h5:k=5
  ·have e5:((k:Int)!=5)=false:=by simp;omega
   have H5:=aa h5;clear h5;go_in;go_wp2_with fail
   refine bz (λwB=>ad w wB/\ad ((w.alloc (.cells #[.int .i64 k,.int .i64 c,.int .i64 os,.int .i64 ot,.int .i64 oa,.int .i64 oh,.string bT,.string dj,dq,dH,dI,dJ] 36)).alloc (.cells #[.int .i64 0,.slice none 0 0] 42)) wB/\wB.cell? ⟨w.heap.size,0,none⟩=some (.int .i64 k)/\wB.cell? ⟨w.heap.size,1,none⟩=some (.int .i64 c)) λwB SS=> ?_;obtain⟨au,br,aB,aC⟩:=SS.o _ (ad.refl _);repeat refine DW.dt ?_
   refine DW.nl SS ?_;rintro wd hI ⟨ae,ay,ai,aj⟩;have oH:=aa ae;have dy:=aa (ay.heap dy.o);have dG:=aa (ay.heap dG.o);clear ae ay au br hI aj aB aC;go_wp2_with fail
   exact NY
  ·have cF:((k:Int)==5)=false:=by simp;omega
   have fx:=qJ.o;go_in;go_wp2_with fail
   refine bz (λwB=>ad w wB/\ad ((w.alloc (.cells #[.int .i64 k,.int .i64 c,.int .i64 os,.int .i64 ot,.int .i64 oa,.int .i64 oh,.string bT,.string dj,dq,dH,dI,dJ] 36)).alloc (.cells #[.int .i64 0,.slice none 0 0] 42)) wB/\wB.cell? ⟨w.heap.size,0,none⟩=some (.int .i64 k)/\wB.cell? ⟨w.heap.size,1,none⟩=some (.int .i64 c)/\wB.cell? ⟨gb,5+c*2,none⟩=some (.int .i64 i)) λwB SS=> ?_;obtain⟨au,br,aB,aC,aF⟩:=SS.o _ (ad.refl _);repeat refine DW.dt ?_
   refine DW.nl SS ?_;rintro wd hI ⟨ae,ay,ai,aj,aq⟩;have NZ:((k:Int)!=5)=true:=by simp;omega
   have oH:=aa ae;have dy:=aa (ay.heap dy.o);have dG:=aa (ay.heap dG.o);have Gj:w.heap.size+1<wd.heap.size:=(aQ dy.o);clear ae ay au br hI aj aq aB aC aF fx;by_cases wE:i= -1
   ·have rT:=aa wE;have uk:¬((k:Int)=5):=ab;have Xr:((k:Int)!=5&&i== -1)=true:=by rw[NZ,wE];rfl
    have bD:(i== -1)=true:=by simp[wE]
    go_wp2_with fail
    refine(gl 13 _).mono ?_;rintro e w6 ⟨rfl,k6⟩;have aZ:=aa (k6.heap dy.o);have aR:=aa k6;clear k6;obtain⟨p0,p1,p2,p3⟩:=dg aZ.o;go_wp2_with fail
    have aL:=bC aZ.o (.int .i64 13) (.slice none 0 0);have y0:=ap aL 0;have y1:=ap aL 1;refine KV (v:= .agg #[.int .i64 13,.slice none 0 0]) (by simp[results,results9,go_sem,y0,y1]) rfl ?_;obtain⟨r1,r2⟩:=df oH.o ab dy.o (HG.o.kept (oH.o.call aR.o)) (.ar aR.o);exact⟨13,_,[],g,rfl,Rw.nil _,r1.mono r9,.inr ⟨ak,rfl,rfl,HI.o.trans rT.o,h7⟩,r2⟩;exact absurd (show(((k:Int)!=5)=false∨(i== -1)=false)by assumption) (λe=>e.elim (λe=>by rw[NZ]at e;cases e) (λe=>by rw[bD]at e;cases e))
   ·have rT:=aa wE;have bD:(i== -1)=false:=by simp[wE]
    have Xr:((k:Int)!=5&&i== -1)=false:=by rw[bD,Bool.and_false]
    go_wp2_with fail
    ·exact absurd ((show(((k:Int)!=5)=true/\(i== -1)=true)by assumption).2) (by rw[bD];decide)
    exact NY
 ·have j8:decide ((k:Int)<=7)=false:=by simp;omega
  go_in;go_wp2_with fail
  exact NY
theorem p8 (B B2:Int) (gb:Nat) (g:aG) (qD:ee) (k c f:Nat) (w:World) (Q:Int->List ax->aG->Prop) (h:aT w B gb g) (r9:B<=B2) (hk:qD.k=k) (h1:1<=k) (h2:k<=12) (hc:qD.c=c) (bO:c<4) (aV:NX k=f) (AS:∀ args w,(callFunc f args).run prog w= .ok (.enter f args) w)
  (hf:(k<=7->k≠5->(g.ss c).1≠ -1)->∀ W,ad w W->Calls prog f #[.pointer (some ⟨gb,0,none⟩),dx qD] W λe W'=>∃ er fv fl g',e= .returned (gm er fv)/\Rw W' 48 6 a8 fv fl/\aT W' B2 gb g'/\Q er fl g'/\bN W W'):
  Calls prog 9 #[.pointer (some ⟨gb,0,none⟩),dx qD] w λe w'=>∃ er fv fl g',e= .returned (gm er fv)/\Rw w' 48 6 a8 fv fl/\aT w' B2 gb g'/\(Q er fl g'∨er≠0/\fl=[]/\g'=g/\(g.ss c).1= -1)/\bN w w':=
 (Xq B B2 gb g qD k c f w Q h r9 hk h1 h2 hc bO aV AS hf).mono λe w' ⟨er,fv,fl,g',q1,q2,q3,q4,q5⟩=>⟨er,fv,fl,g',q1,q2,q3,q4.imp id λ⟨a,b,c,d,_⟩=>⟨a,b,c,d⟩,q5⟩
theorem Xs (B:Int) (gb:Nat) (g:aG) (qD:ee) (aH:List Nat) (aJ a':List Int) (w:World) (h:aT w B gb g) (hB:0<=B) (h9:B<=900) (hr:fm w qD.rv qD.ov qD.pv aH aJ a') (hu:Up aH) (hl:aJ.length=aH.length+1) (hz:oa aJ 0=0) (mM:1<=a'.length) (lM:a'.length<=6):
  Calls prog 66 #[.pointer (some ⟨gb,0,none⟩),dx qD] w λe w'=>e= .returned (gm 1 yo)/\aT w' B gb g/\bN w w':=by
 have HG:=aa h;have an:=h.lt;obtain⟨V,h1,h2⟩:=h;obtain⟨SA,sc,c3,bR⟩:=AX h1 h2;have gV:0<g.n:=h2.a6.fit.fit.one;have jJ:g.n<=6:=h2.a6.fit.fit.cV;have HS:ag (∀ W,ad w W->∀ i,i<g.n->ba W B (g.p i) i (g.σ i)):=λW hW i hi=>(h2.bi i hi).kept hW;have IB:ag (∀ i U,i<g.n->U<g.n->i≠U->(g.p i).sb≠(g.p U).sb):=λi U hi hj aN=>(h2.apart i U hi hj aN).1
 have IC:ag (∀ i,i<g.n->(g.p i).sb<w.heap.size/\(g.p i).hb<w.heap.size/\(g.p i).mb<w.heap.size):=λi hi=>by
  obtain⟨q1,t1⟩:=(h2.bi i hi).nL;obtain⟨q2,t2⟩:=(h2.bi i hi).rm;obtain⟨q3,q4,t3⟩:=(h2.bi i hi).mw;exact⟨(aQ t1),(aQ t2),(aQ t3)⟩
 have vN:ag (∀ W,ad w W->dF g.w0 (j6 g) W V.N (de g.n) g.st):=λW hW=>h2.cm.keep hW
 have ID:ag (∀ a c,a<6->c<6->de g.n a c=true->(g.st a c).T.length<=4294967296):=λa c ha hc _=>by
  have:=(h2.bx a c ha hc).1;omega
 obtain⟨b0,ud,rfl,_⟩:=pY bR gV;obtain⟨RA,rc,ei,_,_⟩:=h2.a6.row.r.form;obtain⟨RB,rd,cE,_,_⟩:=h2.a6.row.qD.form;obtain⟨RC,vO,cv,_,_⟩:=h2.a6.row.p.form;have cU:=aa h2.a6.row;have jW:ag (eA g.es g.os g.ps g.ps.length):=h2.a6.fit;have r0:w.cell? ⟨gb,0,none⟩=some V.rv:=aE h1 0;have r1:w.cell? ⟨gb,1,none⟩=some V.ov:=aE h1 1;have r2:w.cell? ⟨gb,2,none⟩=some V.pv:=aE h1 2;have r4:w.cell? ⟨gb,4,none⟩=some (.pointer (some ⟨V.N,0,none⟩)):=aE h1 4;rw[ei]at r0;rw[cE]at r1;rw[cv]at r2;rw[ei,cE,cv]at cU;obtain⟨PA,pc,lD,_,_⟩:=h2.a6.pins.1.1.form;have uj:w.cell? ⟨gb,21,none⟩=some V.nv:=aE h1 21;rw[lD]at uj;obtain⟨N,EB⟩:=eqQ V.N;rw[EB]at r4 vN;obtain⟨pm,iN⟩:=eqQ g.pins.length;have pX:=aa iN;rw[iN]at uj;have H1:=aa h1;obtain⟨n,hn⟩:=eqQ g.n;have HN:=aa hn;have mj:g.ps.length=n:=hn;have pL:=aa mj;generalize (bw g.es).length=m1 at r0 cU;generalize g.os.length=m2 at r1 cU;rw[mj]at r2 cU;rw[hn]at c3 gV jJ bR IB IC vN ID;have sM:=aa bR;have Nx:ag (pm<=8):=by rw[<- iN];exact h2.a6.pins.2.2.1
 have o0:=aa r0;have dv:=aa r1;have di:=aa r2;have As:=aa r4;have Xd:=aa uj;have rp:=aa c3;clear h1 h2 bR ei cE cv hn mj lD EB iN r0 r1 r2 r4 uj c3;obtain⟨ok,oc,os,ot,oa,oh,bT,dj,dq,dH,dI,dJ⟩:=qD;unfold dx il;simp only at*;obtain⟨bS,dT⟩:=pU (w:=w) (xs:= #[.int .i64 ok,.int .i64 oc,.int .i64 os,.int .i64 ot,.int .i64 oa,.int .i64 oh,.string bT,.string dj,dq,dH,dI,dJ]) (ys:= #[.int .i64 0,.slice none 0 0]) (a:=36) (b:=42);have dG:=aa bS;have dy:=aa dT;clear bS dT;obtain⟨XA,xa,rfl,_,_⟩:=hr.r.form;obtain⟨XB,xb,rfl,_,_⟩:=hr.qD.form;obtain⟨XC,xc,rfl,_,_⟩:=hr.p.form;obtain⟨k1,eN⟩:=eqQ ((bw aH).length);obtain⟨k2,bb⟩:=eqQ aJ.length;obtain⟨k3,lj⟩:=eqQ a'.length;rw[eN,bb,lj]at hr dG dy;rw[eN,bb,lj];have cN:=aa hr;have sN:ag (k1=aH.length+1):=by rw[<- eN,ju];rfl
 have fJ:=ap dG.o 9;have ry:=ap dG.o 10;have rz:=ap dG.o 11;have r0:=o0.o;have r1:=dv.o;have r2:=di.o;clear hr eN bb lj;have z':=λW=>run_makeMap (P:=prog) 194 W;go_in;go_wp2_with fail
 refine bz (λwB=>ad w wB/\ad ((w.alloc (.cells #[.int .i64 ok,.int .i64 oc,.int .i64 os,.int .i64 ot,.int .i64 oa,.int .i64 oh,.string bT,.string dj,dq,.slice XA k1 xa,.slice XB k2 xb,.slice XC k3 xc] 36)).alloc (.cells #[.int .i64 0,.slice none 0 0] 42)) wB/\wB.cell? ⟨gb,0,none⟩=some (.slice RA m1 rc)/\wB.cell? ⟨gb,1,none⟩=some (.slice RB m2 rd)/\wB.cell? ⟨gb,2,none⟩=some (.slice RC n vO)/\wB.cell? ⟨w.heap.size,9,none⟩=some (.slice XA k1 xa)/\wB.cell? ⟨w.heap.size,10,none⟩=some (.slice XB k2 xb)/\wB.cell? ⟨w.heap.size,11,none⟩=some (.slice XC k3 xc)) λwB SS=> ?_;obtain⟨au,br,aB,aC,aF,aX,bK,fg⟩:=SS.o _ (ad.refl _);repeat(apply DW.ct;(focus (intro wd hI;obtain⟨ae,ay,ai,aj,aq,az,aK,a1⟩:=SS.o wd hI;go_wp2_with (go_at_call 117;refine(UT _ _ g.es aH g.os g.ps aJ a' _ ((cU.o.fr (.ar (au.call hI))).mu) ((cN.o.fr (.ar (au.call hI))).mu) jW.o hu hl hz mM lM).mono ?_;rintro e w5 ⟨rfl,cF⟩);exact aP));refine DW.np ?_)
 refine DW.nl SS ?_;rintro wd hI ⟨ae,ay,ai,aj,aq,az,aK,a1⟩;have jg:=aa ae;have cC:=aa (ay.heap dy.o);have VG:w.heap.size+1<wd.heap.size:=(aQ cC.o);clear ae ay au br hI ai aj aq az aK a1 aB aC aF aX bK fg fJ ry rz r0 r1 r2;go_wp2_with fail
 refine(gl 1 _).mono ?_;rintro e w6 ⟨rfl,k6⟩;have aZ:=aa (k6.heap cC.o);have aR:=aa k6;clear k6;obtain⟨p0,p1,p2,p3⟩:=dg aZ.o;go_wp2_with fail
 have aL:=bC aZ.o (.int .i64 1) (.slice none 0 0);have y0:=ap aL 0;have y1:=ap aL 1;refine KV (v:= .agg #[.int .i64 1,.slice none 0 0]) (by simp[results,results66,go_sem,y0,y1]) rfl ?_;obtain⟨r1,r2⟩:=df jg.o ab cC.o (HG.o.kept (jg.o.call aR.o)) (.ar aR.o);exact⟨rfl,r1,r2⟩
theorem qhJ {σ:ci} {k:ByteArray} {wl:Nat} (h:σ.wait.length=wl) (h2:decide ((24:Int)<=(wl:Int))=false):b4 σ.own k->σ.wait.length<24:=λ_=>by
 simp at h2;omega
theorem Xt (h:p:=by
  obtain⟨wz,⟨ck,rfl,fK⟩,qhK⟩:=h1;have N0:=aa fK;have fC:=aa (aR.o.call ae);have p9:=aa (ae.heap aZ.o);have Bh:=aa (ae.heap tF.o);have nA:ag (VB wd q (.string x0) (.string x1) (.bool x2) (.int .i64 x3) (.int .i64 x4) (.slice pa pn pc)):=ae.heap yx.o;have qhL:=aa (qhM.o.kept ae);have qhN:=aa (yn.o.kept ae);have e2:=ae.af e2;have e3:=ae.af e3;have e4:=ae.af e4;have e5:=ae.af e5;have c4:w.cell? ⟨gb,4,none⟩=some (.pointer (some ⟨V.N,0,none⟩)):=aE H1.o 4;rw[gB.o]at c4;have c4:=fC.o.af c4;have EE:w.heap.size+1<wd.heap.size:=(aQ p9.o);clear fK qhK ae au hI ai aj aB aC;obtain⟨W7,rfl⟩:=eqR wd
  cases ck
  ·have N1:=aa (N0.o rfl);go_wp2_with fail
   refine bz (λwB=>ad W7 wB/\wB.cell? ⟨gb,4,none⟩=some (.pointer (some ⟨N,0,none⟩))/\wB.cell? ⟨w.heap.size,2,none⟩=some (.int .i64 s)/\wB.cell? ⟨w.heap.size,3,none⟩=some (.int .i64 t)/\wB.cell? ⟨w.heap.size,4,none⟩=some (.int .i64 oa)/\wB.cell? ⟨w.heap.size,5,none⟩=some (.int .i64 oh)) λwB SS=> ?_;obtain⟨au,aB,aC,aF,aX,bK⟩:=SS.o _ (ad.refl _);iterate 12 (first|refine DW.dt ?_|(refine DW.bt av ?_;intro wd hI;obtain⟨ae,ai,aj,aq,az,aK⟩:=SS.o wd hI;go_wp2_with (fail);refine cu hI SS (λbf SS=> ?_) rfl;obtain⟨au,aB,aC,aF,aX,bK⟩:=SS.o _ (ad.refl _)))
   refine DW.tail av λwd hI=> ?_;obtain⟨ae,ai,aj,aq,az,aK⟩:=SS.o wd hI;clear SS;have dr:=aa (fC.o.call ae);have cI:=aa (ae.heap p9.o);have xX:=aa (ae.heap Bh.o);have EF:ag (VB wd q (.string x0) (.string x1) (.bool x2) (.int .i64 x3) (.int .i64 x4) (.slice pa pn pc)):=ae.heap nA.o;have qhO:=aa (qhL.o.kept ae);have qhP:=aa (qhN.o.kept ae);have gx:=Iv (show GB wd gb g V from dr.o.heap H1.o) (H2.o.kept dr.o) ab fR fT hP oa oh;rw[gB.o]at gx;rw[vV]at gx;have gx:=aa gx;go_wp2_with fail
   refine gx.o.mono ?_;rintro e w8 ⟨IM,rfl,N2,Bi⟩;have rE:=aa N2;have EG:=aa Bi;have AB:=aa (Bi.block _ _ _ xX.o ak);have Hi:ag (VB w8 q (.string x0) (.string x1) (.bool x2) (.int .i64 x3) (.int .i64 x4) (.slice pa pn pc)):=Bi.block _ _ _ EF.o ak;have Xu:=aa (qhO.o.fr Bi.j7);have qhQ:=aa (qhP.o.fr Bi ak)
   have Xv:ba w8 B (g.p t) t (g.σ t):=by
    obtain⟨V8,_,h28⟩:=N2;exact h28.bi t (by rw[<- HN.o]at oN;exact oN)
   have qhR:=aa Xv;clear N2 Bi Xv ae au hI ai aj aq az aK aB aC aF aX bK z0 z1 z2 z3 z4 z5;obtain⟨z0,z1,z2,z3,z4,z5,_,_⟩:=Hi.o.cells;go_wp2_with fail
   refine(qex B (g.p t) t (g.σ t) ⟨x0,x1,x2,x3,x4,pa,pn,pc,x8⟩ w8 qhR.o Xu.o hB ab).mono ?_;rintro e w9 ⟨yt,σ',rfl,h1,h2,h3,h4⟩;obtain⟨r1,r2⟩:=rE.o.tY (i:=t) (by rw[<- HN.o]at oN;exact oN) h1 (h3.mono (by intro y hy;simp at hy⊢;subst hy;simp)) h4 (Int.le_refl _);have HAR:=aa h2;have vT:=aa r1;have EH:=aa (EG.o.trans r2);have AK:=aa (r2.block _ _ _ AB.o ak);have IN:ag (VB w9 q (.string x0) (.string x1) (.bool x2) (.int .i64 x3) (.int .i64 x4) (.slice pa pn pc)):=r2.block _ _ _ Hi.o ak;have qhS:=aa (Xu.o.fr r2.j7);have qhT:=aa (qhQ.o.fr r2 ak);clear h1 h2 h3 h4 r1 r2 z0 z1 z2 z3 z4 z5;obtain⟨z0,z1,z2,z3,z4,z5,_,_⟩:=IN.o.cells;have e3:=ap AK.o 3;go_wp2_with fail
   refine(Wp B gb _ t _ (iO g t s x0) ⟨x0,x1,x2,x3,x4,pa,pn,pc,x8⟩ w9 vT.o ab (by rw[<- HN.o]at oN;exact oN) (λy hy=>Et y hy) (WL _ _ _ _) qhT.o qhS.o).mono ?_;rintro e wa ⟨rfl,jL,ia⟩;have HGa:=aa jL;have Xw:=aa (EH.o.trans ia);have HVa:ag (VB wa q (.string x0) (.string x1) (.bool x2) (.int .i64 x3) (.int .i64 x4) (.slice pa pn pc)):=ia.block _ _ _ IN.o ak;have HAa:=aa (gY cI.o Xw.o);clear jL ia z0 z1 z2 z3 z4 z5 e3;obtain⟨z0,z1,z2,z3,z4,z5,_,_⟩:=HVa.o.cells;go_wp2_with fail
   refine(AQ _ 1 1 _).mono ?_;rintro e w6 ⟨rfl,k6⟩;have K6:ad wa w6:=ad.call al k6;have cN:ag (Rw w6 48 6 a8 (.slice (some ⟨wa.heap.size,0,none⟩) 1 1) [⟨x0,x1,x2,x3,x4,pa,pn,pc,x8⟩]):=(Rw.one (yY _ _)).kept k6;have aZ:=aa (K6.heap HAa.o);have aR:=aa K6;clear k6;obtain⟨p0,p1,p2,p3⟩:=dg aZ.o;go_wp2_with fail
   have aL:=bC aZ.o (.int .i64 0) (.slice (some ⟨wa.heap.size,0,none⟩) 1 1);have y0:=ap aL 0;have y1:=ap aL 1;refine KV (v:= .agg #[.int .i64 0,.slice (some ⟨wa.heap.size,0,none⟩) 1 1]) (by simp[results,results62,go_sem,y0,y1]) rfl ?_;obtain⟨r1,r2⟩:=df dr.o ab cI.o (HGa.o.kept aR.o) (Xw.o.trans (.ar aR.o));have Bj:=IP.o;exact⟨0,_,[⟨x0,x1,x2,x3,x4,pa,pn,pc,x8⟩],_,rfl,cN.o.fr (yq aZ.o) (by unfold bq;decide),r1,.inr ⟨rfl,hP,ab,ab,.inr ⟨f',fM,pe.o,⟨x0,x1,x2,x3,x4,pa,pn,pc,x8⟩,yt,σ',rfl,by rw[HD.o];exact N3.o,IQ.o,vt.o,GQ.o,(by first|exact qhJ Bk.o Xx|exact λh=>absurd h eT),N1.o,HAR.o,rfl⟩⟩,r2⟩
  ·go_wp2_with fail
   refine(gl 15 _).mono ?_;rintro e w6 ⟨rfl,k6⟩;have aZ:=aa (k6.heap p9.o);have aR:=aa k6;clear k6;obtain⟨p0,p1,p2,p3⟩:=dg aZ.o;go_wp2_with fail
   have aL:=bC aZ.o (.int .i64 15) (.slice none 0 0);have y0:=ap aL 0;have y1:=ap aL 1;refine KV (v:= .agg #[.int .i64 15,.slice none 0 0]) (by simp[results,results62,go_sem,y0,y1]) rfl ?_;obtain⟨r1,r2⟩:=df fC.o ab p9.o (HG.o.kept (fC.o.call aR.o)) (.ar aR.o);exact⟨15,_,[],_,rfl,Rw.nil _,r1.mono ab,.inl ⟨ak,rfl,rfl⟩,r2⟩):p:=h
theorem qhU (B:Int) (gb:Nat) (g:aG) (qD:ee) (s t:Nat) (w:World) (h:aT w B gb g) (hB:0<=B) (h9:B+1<=900) (hs:qD.s=s) (ht:qD.t=t) (fR:s<6) (fT:t<6) (P:Nat->my->Prop) (s9:de g.n s t=true->∀ U d,(g.st s t).T[U]? =some d->uc B (P U) d):
  Calls prog 62 #[.pointer (some ⟨gb,0,none⟩),dx qD] w λe w'=>∃ er fv fl g',e= .returned (gm er fv)/\Rw w' 48 6 a8 fv fl/\aT w' (B+1) gb g'/\WQ B P g s t qD.a (bits .and .i64 qD.h 3) er fl g'/\bN w w':=by
 have HG:=aa h;have an:=h.lt;obtain⟨V,h1,h2⟩:=h;have c4:w.cell? ⟨gb,4,none⟩=some (.pointer (some ⟨V.N,0,none⟩)):=aE h1 4;have H1:=aa h1;have H2:=aa h2;have cX:=h2.bx s t fR fT;have HF:=aa cX;obtain⟨N,hN⟩:=eqQ V.N;rw[hN]at c4;have gB:=aa hN;clear h1 h2 hN cX;obtain⟨ok,oc,os,ot,oa,oh,bT,dj,dq,dH,dI,dJ⟩:=qD;unfold dx il;simp only at*;obtain⟨bS,dT⟩:=pU (w:=w) (xs:= #[.int .i64 ok,.int .i64 oc,.int .i64 os,.int .i64 ot,.int .i64 oa,.int .i64 oh,.string bT,.string dj,dq,dH,dI,dJ]) (ys:= #[.int .i64 0,.slice none 0 0]) (a:=36) (b:=42);have dG:=aa bS;have dy:=aa dT;clear bS dT;subst hs ht;obtain⟨hw,vV⟩:=eqQ (bits .and .i64 oh 3);have qhV:=aa vV;rw[vV];clear vV;obtain⟨m,hm⟩:=eqQ (ub g s t);have HM:=aa hm
 have sm:m<=1000:=by
  rw[<- hm];unfold ub;have:=HF.o;split <;>omega
 clear hm
 have qhW:ag (∀ W,ad w W->Calls prog 105 #[.pointer (some ⟨N,0,none⟩),.int .i64 s,.int .i64 t] W λe w'=>∃ A c,e= .returned (.slice A m c)/\ad W w'):=λW hW=>by
  have:=qg' (H2.o.kept hW) ab fR fT (s:=s) (t:=t);rw[gB.o,HM.o]at this;exact this
 go_in;go_wp2_with fail
 refine ey [none,none,none,none,none,none,none,none,some (λu w'=>∃ A c,u= .slice A m c)] (λwB=>ad w wB/\ad ((w.alloc (.cells #[.int .i64 ok,.int .i64 oc,.int .i64 s,.int .i64 t,.int .i64 oa,.int .i64 oh,.string bT,.string dj,dq,dH,dI,dJ] 36)).alloc (.cells #[.int .i64 0,.slice none 0 0] 42)) wB/\wB.cell? ⟨gb,4,none⟩=some (.pointer (some ⟨N,0,none⟩))/\wB.cell? ⟨w.heap.size,2,none⟩=some (.int .i64 s)/\wB.cell? ⟨w.heap.size,3,none⟩=some (.int .i64 t)) λwB SS=> ?_;obtain⟨au,br,aB,aC,aF⟩:=SS.o _ (ad.refl _);iterate 8 refine SP.on ?_
 refine SP.ew ?_ λv1=> ?_
 ·intro wd hI hF;obtain⟨ae,ay,ai,aj,aq⟩:=SS.o wd hI;clear hF;go_wp2_with ((go_at_call 105;refine(qhW.o _ ae).mono ?_;rintro e w5 ⟨A,c,rfl,k5⟩));exact bn rfl ⟨A,c,rfl⟩
 refine SP.ml SS ?_;rintro wd hI hF ⟨ae,ay,ai,aj,aq⟩;have h1:=hF.1;clear hF SS;obtain⟨w9,⟨WA,wc,rfl⟩,k9⟩:=h1;have cx:=aa ae;have cC:=aa (ay.heap dy.o);have b6:=aa (ay.heap dG.o);have kp:w.heap.size+1<wd.heap.size:=(aQ cC.o);have c4:=ae.af c4;have e2:=ap b6.o 2;have e3:=ap b6.o 3;have e4:=ap b6.o 4;have e5:=ap b6.o 5;clear k9 ae ay au br hI ai aj aq aB aC aF;obtain⟨W1,rfl⟩:=eqR wd;by_cases od:oa<0
 ·go_wp2_with fail
  refine(gl 12 _).mono ?_;rintro e w6 ⟨rfl,k6⟩;have aZ:=aa (k6.heap cC.o);have aR:=aa k6;clear k6;obtain⟨p0,p1,p2,p3⟩:=dg aZ.o;go_wp2_with fail
  have aL:=bC aZ.o (.int .i64 12) (.slice none 0 0);have y0:=ap aL 0;have y1:=ap aL 1;refine KV (v:= .agg #[.int .i64 12,.slice none 0 0]) (by simp[results,results62,go_sem,y0,y1]) rfl ?_;obtain⟨r1,r2⟩:=df cx.o ab cC.o (HG.o.kept (cx.o.call aR.o)) (.ar aR.o);exact⟨12,_,[],_,rfl,Rw.nil _,r1.mono ab,.inl ⟨ak,rfl,rfl⟩,r2⟩
 by_cases C2:(m:Int)<=oa
 ·go_wp2_with fail
  refine(gl 12 _).mono ?_;rintro e w6 ⟨rfl,k6⟩;have aZ:=aa (k6.heap cC.o);have aR:=aa k6;clear k6;obtain⟨p0,p1,p2,p3⟩:=dg aZ.o;go_wp2_with fail
  have aL:=bC aZ.o (.int .i64 12) (.slice none 0 0);have y0:=ap aL 0;have y1:=ap aL 1;refine KV (v:= .agg #[.int .i64 12,.slice none 0 0]) (by simp[results,results62,go_sem,y0,y1]) rfl ?_;obtain⟨r1,r2⟩:=df cx.o ab cC.o (HG.o.kept (cx.o.call aR.o)) (.ar aR.o);exact⟨12,_,[],_,rfl,Rw.nil _,r1.mono ab,.inl ⟨ak,rfl,rfl⟩,r2⟩
 have hP:de g.n s t=true:=by
  have:=HM.o;unfold ub at this;split at this
  ·assumption
  ·omega
 have Bj:m=(g.st s t).aw.length:=by rw[<- HM.o];simp[ub,hP]
 have IP:=aa Bj;clear Bj;obtain⟨b,hb⟩:=eqQ (nI (g.st s t) oa 0);have pe:=aa hb;obtain⟨d,hd⟩:=eqQ (tx (g.st s t).T (g.st s t).lo);have HD:=aa hd;obtain⟨EI,N4⟩:∃ EI:ByteArray,(if b=true then d else⟨#[]⟩)=EI:=⟨_,rfl⟩;have Im:=aa N4;have Xy:told b d= .tuple #[.string EI,.bool b]:=by unfold told;rw[N4]
 have It:=aa Xy
 have ld:ag (∀ W,ad w W->Calls prog 106 #[.pointer (some ⟨N,0,none⟩),.int .i64 s,.int .i64 t,.int .i64 oa] W λe w'=>e= .returned (.tuple #[.string EI,.bool b])/\ad W w'):=λW hW=>by
  have:=qgD g.w0 (j6 g) V.N (de g.n) g.st s t s t W (H2.o.kept hW).cm rfl rfl fR fT oa hP (by have:=HF.o;omega);rw[gB.o,pe.o,HD.o,It.o]at this;exact this
 clear hb hd N4 Xy;go_wp2_with fail
 refine bz (λwB=>ad W1 wB/\wB.cell? ⟨gb,4,none⟩=some (.pointer (some ⟨N,0,none⟩))/\wB.cell? ⟨w.heap.size,2,none⟩=some (.int .i64 s)/\wB.cell? ⟨w.heap.size,3,none⟩=some (.int .i64 t)/\wB.cell? ⟨w.heap.size,4,none⟩=some (.int .i64 oa)) λwB SS=> ?_;obtain⟨au,aB,aC,aF,aX⟩:=SS.o _ (ad.refl _);repeat(apply DW.ct;(focus (intro wd hI;obtain⟨ae,ai,aj,aq,az⟩:=SS.o wd hI;go_wp2_with (go_at_call 106;refine(ld.o _ (cx.o.call (au.call hI))).mono ?_;rintro e w6 ⟨rfl,cL⟩);exact aP));refine DW.np ?_)
 refine DW.nl SS ?_;rintro wd hI ⟨ae,ai,aj,aq,az⟩;have eb:=aa (cx.o.call ae);have ll:=aa (ae.heap cC.o);have iE:=aa (ae.heap b6.o);have c4:=ae.af c4;have e2:=ae.af e2;have e3:=ae.af e3;have e4:=ae.af e4;have e5:=ae.af e5;have gE:w.heap.size+1<wd.heap.size:=(aQ ll.o);clear ae au hI ai aj aq az aB aC aF aX;obtain⟨W2,rfl⟩:=eqR wd;have vV:=qhV.o;by_cases f':hw=1
 ·subst f';go_wp2_with fail
  refine bz (λwB=>ad W2 wB/\wB.cell? ⟨gb,4,none⟩=some (.pointer (some ⟨N,0,none⟩))/\wB.cell? ⟨w.heap.size,2,none⟩=some (.int .i64 s)/\wB.cell? ⟨w.heap.size,3,none⟩=some (.int .i64 t)/\wB.cell? ⟨w.heap.size,4,none⟩=some (.int .i64 oa)/\wB.cell? ⟨w.heap.size,5,none⟩=some (.int .i64 oh)) λwB SS=> ?_;obtain⟨au,aB,aC,aF,aX,bK⟩:=SS.o _ (ad.refl _);iterate 12 (first|refine DW.dt ?_|(refine DW.bt av ?_;intro wd hI;obtain⟨ae,ai,aj,aq,az,aK⟩:=SS.o wd hI;go_wp2_with (fail);refine cu hI SS (λbf SS=> ?_) rfl;obtain⟨au,aB,aC,aF,aX,bK⟩:=SS.o _ (ad.refl _)))
  refine DW.tail av λwd hI=> ?_;obtain⟨ae,ai,aj,aq,az,aK⟩:=SS.o wd hI;clear SS;have dr:=aa (eb.o.call ae);have cI:=aa (ae.heap ll.o);have gx:=Iv (show GB wd gb g V from dr.o.heap H1.o) (H2.o.kept dr.o) ab fR fT hP oa oh;rw[gB.o]at gx;rw[vV]at gx;have gx:=aa gx;go_wp2_with fail
  refine gx.o.mono ?_;rintro e w5 ⟨v5,rfl,pW,fh⟩;have kM:=aa pW;have mi:=aa fh;have dh:=aa (gY cI.o fh);clear pW fh ae au hI ai aj aq az aK aB aC aF aX bK;obtain⟨p0,p1,p2,p3⟩:=dg dh.o;go_wp2_with fail
  have aL:=bC dh.o (.int .i64 0) (.slice none 0 0);have y0:=ap aL 0;have y1:=ap aL 1;refine KV (v:= .agg #[.int .i64 0,.slice none 0 0]) (by simp[results,results62,go_sem,y0,y1]) rfl ?_;obtain⟨r1,r2⟩:=df dr.o ab cI.o kM.o mi.o;have Bj:=IP.o;exact⟨0,_,[],_,rfl,Rw.nil _,r1.mono ab,.inr ⟨rfl,hP,ab,ab,.inl ⟨rfl,.inl rfl,rfl⟩⟩,r2⟩
 by_cases fM:hw=2
 ·subst fM;go_wp2_with fail
  refine bz (λwB=>ad W2 wB/\wB.cell? ⟨gb,4,none⟩=some (.pointer (some ⟨N,0,none⟩))/\wB.cell? ⟨w.heap.size,2,none⟩=some (.int .i64 s)/\wB.cell? ⟨w.heap.size,3,none⟩=some (.int .i64 t)/\wB.cell? ⟨w.heap.size,4,none⟩=some (.int .i64 oa)/\wB.cell? ⟨w.heap.size,5,none⟩=some (.int .i64 oh)) λwB SS=> ?_;obtain⟨au,aB,aC,aF,aX,bK⟩:=SS.o _ (ad.refl _);iterate 12 (first|refine DW.dt ?_|(refine DW.bt av ?_;intro wd hI;obtain⟨ae,ai,aj,aq,az,aK⟩:=SS.o wd hI;go_wp2_with (fail);refine cu hI SS (λbf SS=> ?_) rfl;obtain⟨au,aB,aC,aF,aX,bK⟩:=SS.o _ (ad.refl _)))
  refine DW.tail av λwd hI=> ?_;obtain⟨ae,ai,aj,aq,az,aK⟩:=SS.o wd hI;clear SS;have dr:=aa (eb.o.call ae);have cI:=aa (ae.heap ll.o);have gx:=Iv (show GB wd gb g V from dr.o.heap H1.o) (H2.o.kept dr.o) ab fR fT hP oa oh;rw[gB.o]at gx;rw[vV]at gx;have gx:=aa gx;go_wp2_with fail
  refine gx.o.mono ?_;rintro e w5 ⟨v5,rfl,pW,fh⟩;have kM:=aa pW;have mi:=aa fh;have dh:=aa (gY cI.o fh);clear pW fh ae au hI ai aj aq az aK aB aC aF aX bK;obtain⟨p0,p1,p2,p3⟩:=dg dh.o;go_wp2_with fail
  have aL:=bC dh.o (.int .i64 0) (.slice none 0 0);have y0:=ap aL 0;have y1:=ap aL 1;refine KV (v:= .agg #[.int .i64 0,.slice none 0 0]) (by simp[results,results62,go_sem,y0,y1]) rfl ?_;obtain⟨r1,r2⟩:=df dr.o ab cI.o kM.o mi.o;have Bj:=IP.o;exact⟨0,_,[],_,rfl,Rw.nil _,r1.mono ab,.inr ⟨rfl,hP,ab,ab,.inl ⟨rfl,.inr (.inl rfl),rfl⟩⟩,r2⟩
 have o4:(hw==1)=false:=by simpa using f'
 have hU:(hw==2)=false:=by simpa using fM
 cases b
 ·skip
  go_wp2_with fail
  refine bz (λwB=>ad W2 wB/\wB.cell? ⟨gb,4,none⟩=some (.pointer (some ⟨N,0,none⟩))/\wB.cell? ⟨w.heap.size,2,none⟩=some (.int .i64 s)/\wB.cell? ⟨w.heap.size,3,none⟩=some (.int .i64 t)/\wB.cell? ⟨w.heap.size,4,none⟩=some (.int .i64 oa)/\wB.cell? ⟨w.heap.size,5,none⟩=some (.int .i64 oh)) λwB SS=> ?_;obtain⟨au,aB,aC,aF,aX,bK⟩:=SS.o _ (ad.refl _);iterate 12 (first|refine DW.dt ?_|(refine DW.bt av ?_;intro wd hI;obtain⟨ae,ai,aj,aq,az,aK⟩:=SS.o wd hI;go_wp2_with (fail);refine cu hI SS (λbf SS=> ?_) rfl;obtain⟨au,aB,aC,aF,aX,bK⟩:=SS.o _ (ad.refl _)))
  refine DW.tail av λwd hI=> ?_;obtain⟨ae,ai,aj,aq,az,aK⟩:=SS.o wd hI;clear SS;have dr:=aa (eb.o.call ae);have cI:=aa (ae.heap ll.o);have gx:=Iv (show GB wd gb g V from dr.o.heap H1.o) (H2.o.kept dr.o) ab fR fT hP oa oh;rw[gB.o]at gx;rw[vV]at gx;have gx:=aa gx;go_wp2_with fail
  refine gx.o.mono ?_;rintro e w5 ⟨v5,rfl,pW,fh⟩;have kM:=aa pW;have mi:=aa fh;have dh:=aa (gY cI.o fh);clear pW fh ae au hI ai aj aq az aK aB aC aF aX bK;obtain⟨p0,p1,p2,p3⟩:=dg dh.o;go_wp2_with fail
  have aL:=bC dh.o (.int .i64 0) (.slice none 0 0);have y0:=ap aL 0;have y1:=ap aL 1;refine KV (v:= .agg #[.int .i64 0,.slice none 0 0]) (by simp[results,results62,go_sem,y0,y1]) rfl ?_;obtain⟨r1,r2⟩:=df dr.o ab cI.o kM.o mi.o;have Bj:=IP.o;exact⟨0,_,[],_,rfl,Rw.nil _,r1.mono ab,.inr ⟨rfl,hP,ab,ab,.inl ⟨rfl,.inr (.inr pe.o),rfl⟩⟩,r2⟩
 ·obtain rfl:d=EI:=by have:=Im.o;simpa using this
  have bh:=(H2.o.cm).qgy fR fT hP;obtain⟨v,Xz,mf,xY,EJ,xL,Dh,XD⟩:=s9 hP (g.st s t).lo d (by have h:=qhd bh pe.o;rw[HD.o]at h;exact h);have GQ:=aa XD;have N3:=aa Xz;have IQ:=aa mf;have vt:=aa xY;have IS:=aa EJ;have HVN:=aa xL;have HVD:=aa Dh;clear Xz mf xY EJ xL Dh XD bh
  have kt:d.size<=2000:=by
   have:=qhc v v.ds IQ.o (λx hx=>(IS.o.ok x hx).1) vt.o;rw[N3.o];simpa [ByteArray.size]using this
  have XE:d.data.toList=l9 v v.ds:=by rw[N3.o]
  have GK:=aa XE;clear XE;go_wp2_with fail
  refine(qdz v v.ds d _ GK.o IQ.o (λx hx=>(IS.o.ok x hx).1) vt.o ab).mono ?_;rintro e w3 ⟨pa,pn,pc,rfl,FF,k3⟩;have IT:ag (b7 w3 B {v with pa:=pa,pn:=pn,pc:=pc}):=⟨IQ.o,HVN.o,FF,IS.o,HVD.o,vt.o⟩;have eI:=aa (eb.o.call k3);have gM:=aa (k3.heap ll.o);have im:=aa (k3.heap iE.o);have Lr:w.heap.size+1<w3.heap.size:=(aQ gM.o);have e2:=k3.af e2;have e3:=k3.af e3;have e4:=k3.af e4;have e5:=k3.af e5;obtain⟨x0,x1,x2,x3,x4,y5,y6,y7,x8⟩:=v;simp only at IT⊢;unfold aM;clear FF k3 c4;go_wp2_with fail
  obtain⟨W4,um⟩:=eqR (w3.alloc (.cells #[.string x0,.string x1,.bool x2,.int .i64 x3,.int .i64 x4,.slice pa pn pc] 48));obtain⟨q,hq⟩:=eqQ w3.heap.size;have LY:ag (VB W4 q (.string x0) (.string x1) (.bool x2) (.int .i64 x3) (.int .i64 x4) (.slice pa pn pc)):=by rw[um,<- hq];exact yY _ _
  have k4:ad w3 W4:=by rw[um];exact(ad.refl _).alloc _
  have ef:=aa (eI.o.call k4);have lF:=aa (k4.heap gM.o);have sO:=aa (k4.heap im.o);have qhX:=aa (IT.o.kept k4);have e2:=k4.af e2;have e3:=k4.af e3;have e4:=k4.af e4;have e5:=k4.af e5
  have Da:t<g.n/\s<g.n:=by
   have:=hP;unfold de at this;simp only[Bool.and_eq_true,decide_eq_true_iff]at this;exact⟨this.1.2,this.1.1⟩
  obtain⟨SK,so,sc,c3,dU⟩:=qhb H1.o H2.o Da.1;have c3:=ef.o.af c3;have dU:=ef.o.af dU;have oN:t<g.n:=Da.1;obtain⟨n,hn⟩:=eqQ g.n;have HN:=aa hn;rw[hn]at c3 oN;have Ls:w.heap.size+1<W4.heap.size:=(aQ lF.o);rw[<- um];try rw[hq]
  clear um hq k4 hn;refine bz (λwB=>ad W4 wB/\wB.cell? ⟨gb,3,none⟩=some (.slice (some ⟨SK,so,none⟩) n sc)/\wB.cell? ⟨SK,so+t,none⟩=some (.pointer (some ⟨(g.p t).sb,0,none⟩))/\wB.cell? ⟨w.heap.size,3,none⟩=some (.int .i64 t)) λwB SS=> ?_;obtain⟨au,aB,aC,aF⟩:=SS.o _ (ad.refl _);repeat refine DW.dt ?_
  refine DW.nl SS ?_;rintro wd hI ⟨ae,ai,aj,aq⟩;have gv:=aa (ef.o.call ae);have dh:=aa (ae.heap lF.o);have fb:=aa (ae.heap sO.o);have sG:ag (VB wd q (.string x0) (.string x1) (.bool x2) (.int .i64 x3) (.int .i64 x4) (.slice pa pn pc)):=ae.heap LY.o;have qhY:=aa (qhX.o.kept ae);have e2:=ae.af e2;have e3:=ae.af e3;have e4:=ae.af e4;have e5:=ae.af e5;obtain⟨z0,z1,z2,z3,z4,z5,_,_⟩:=sG.o.cells;have xS:w.heap.size+1<wd.heap.size:=(aQ dh.o);obtain⟨RA,rc,ei,_,_⟩:=H2.o.a6.row.r.form;obtain⟨RB,rd,cE,_,_⟩:=H2.o.a6.row.qD.form;obtain⟨RC,vO,cv,_,_⟩:=H2.o.a6.row.p.form;have cU:=aa H2.o.a6.row;have jW:ag (eA g.es g.os g.ps g.ps.length):=H2.o.a6.fit;have r0:w.cell? ⟨gb,0,none⟩=some V.rv:=aE H1.o 0;have r1:w.cell? ⟨gb,1,none⟩=some V.ov:=aE H1.o 1;have r2:w.cell? ⟨gb,2,none⟩=some V.pv:=aE H1.o 2;rw[ei]at r0;rw[cE]at r1;rw[cv]at r2;rw[ei,cE,cv]at cU;generalize (bw g.es).length=m1 at r0 cU;generalize g.os.length=m2 at r1 cU;generalize yw:g.ps.length=m3 at r2 cU;have r0:=gv.o.af r0;have r1:=gv.o.af r1;have r2:=gv.o.af r2;clear ei cE cv ae au hI ai aj aq aB aC aF yw;obtain⟨W5,rfl⟩:=eqR wd;go_wp2_with fail
  refine ey [none,none,none,none,none,none,none,none,none,none,some (λu w'=>∃ A n c,u= .slice A n c/\Rw w' 3 1 cJ (.slice A n c) (ints (iO g t s x0)))] (λwB=>ad W5 wB/\wB.cell? ⟨w.heap.size,2,none⟩=some (.int .i64 s)/\wB.cell? ⟨w.heap.size,3,none⟩=some (.int .i64 t)/\wB.cell? ⟨q,0,none⟩=some (.string x0)/\wB.cell? ⟨gb,0,none⟩=some (.slice RA m1 rc)/\wB.cell? ⟨gb,1,none⟩=some (.slice RB m2 rd)/\wB.cell? ⟨gb,2,none⟩=some (.slice RC m3 vO)) λwB SS=> ?_;obtain⟨au,aB,aC,aF,aX,bK,fg⟩:=SS.o _ (ad.refl _);iterate 10 refine SP.on ?_
  refine SP.ew ?_ λv1=> ?_
  ·intro wd hI hF;obtain⟨ae,ai,aj,aq,az,aK,a1⟩:=SS.o wd hI;clear hF;go_wp2_with ((go_at_call 83;refine(WM _ _ _ g.es g.os g.ps t s x0 _ (cU.o.fr (.ar (gv.o.call ae))) jW.o).mono ?_;rintro e w5 ⟨A,n,c,rfl,h5,k5⟩));exact bn rfl ⟨A,n,c,rfl,h5⟩
  refine SP.ml SS ?_;rintro wd hI hF ⟨ae,ai,aj,aq,az,aK,a1⟩;have h1:=hF.1;clear hF SS;obtain⟨w9,⟨qhZ,qh0,qh1,rfl,gq⟩,k9⟩:=h1;have yn:=aa (gq.kept k9);have aR:=aa (gv.o.call ae);have aZ:=aa (ae.heap dh.o);have tF:=aa (ae.heap fb.o);have yx:ag (VB wd q (.string x0) (.string x1) (.bool x2) (.int .i64 x3) (.int .i64 x4) (.slice pa pn pc)):=ae.heap sG.o;have qhM:=aa (qhY.o.kept ae);have e2:=ae.af e2;have e3:=ae.af e3;have e4:=ae.af e4;have e5:=ae.af e5;obtain⟨z0,z1,z2,z3,z4,z5,_,_⟩:=yx.o.cells;have EK:w.heap.size+1<wd.heap.size:=(aQ aZ.o);clear gq k9 ae au hI ai aj aq az aK a1 aB aC aF aX bK fg;obtain⟨W6,rfl⟩:=eqR wd;have HS:ag (∀ W,ad W6 W->ba W B (g.p t) t (g.σ t)):=λW hW=>(H2.o.bi t (by rw[HN.o];exact oN)).kept (aR.o.call hW);have eS:=aa (HG.o.kept aR.o);obtain⟨wl,Mg⟩:=eqQ ((g.σ t).wait.length);have Bk:=aa Mg
  have iI:ag (∀ W,ad W6 W->Calls prog 109 #[.pointer (some ⟨(g.p t).sb,0,none⟩)] W λe w'=>e= .returned (.int .i64 (wl:Int))/\ad W w'):=λW hW=>by
   have:=Ud B (g.p t) t (g.σ t) W (HS.o W hW);rw[Bk.o]at this;exact this
  clear Mg;by_cases eT:b4 (g.σ t).own x0
  ·by_cases s6:24<=wl
   ·have Xx:(24:Int)<=wl:=ab;go_wp2_with fail
    refine ku [0,2,3,1,4,5,6,7,8,9,10,11,12,13,14,15,16,17] [none,none,none,some (λu w'=>Rw w' 63 2 bZ u (g.σ t).own),some (λu w'=>∃ r:Int,u= .int .i64 r/\(r<0↔¬b4 (g.σ t).own x0)),none,none,none,none,none,none,none,none,none,none,none,none,none] (λwB=>ad W6 wB/\wB.cell? ⟨w.heap.size,3,none⟩=some (.int .i64 t)/\wB.cell? ⟨q,0,none⟩=some (.string x0)) λwB SS=> ?_;iterate 3 refine SP.on ?_
    refine SP.ew ?_ λv1=> ?_
    ·intro wd hI hF;obtain⟨ae,ai,aj⟩:=SS.o wd hI;clear hF;go_wp2_with ((go_at_call 85;refine(tD B (g.p t) t (g.σ t) _ (HS.o _ ae)).mono ?_;rintro e w4 ⟨v',rfl,h4,k4⟩));exact bn rfl h4
    refine SP.ew ?_ λv2=> ?_
    ·intro wd hI hF;obtain⟨ae,ai,aj⟩:=SS.o wd hI;have h1:=hF.1 av;clear hF;go_wp2_with ((go_at_call 84;obtain⟨wb,hr,kb⟩:=h1;refine(Eu _ _ x0 _ (hr.kept kb)).mono ?_;rintro e w5 ⟨r,rfl,h5,k5⟩));exact bn rfl ⟨r,rfl,h5⟩
    refine SP.oe (v:= .bool true) ?_ ?_
    ·intro wd hI hF;obtain⟨ae,ai,aj⟩:=SS.o wd hI;have h1:=hF.1;clear hF;(obtain⟨wz,⟨r,rfl,fA⟩,_⟩:=h1;have XF:0<=r:=by(have:=mt fA.1 (by simpa using eT));omega);go_wp2_with (fail);exact aP
    refine SP.on (v:= .bool true) ?_;iterate 1 refine SP.on ?_
    apply SP.one av
    ·intro wd hI hF;obtain⟨ae,ai,aj⟩:=SS.o wd hI;clear hF;go_wp2_with ((go_at_call 109;refine(iI.o _ ae).mono ?_;rintro e w5 ⟨rfl,k5⟩));exact aP
    refine SP.np ?_;refine SP.on (v:= .bool true) ?_;refine SP.on (v:= .bool true) ?_;refine SP.on (v:= .bool true) ?_;refine SP.on (v:=undef) ?_;refine SP.on (v:=undef) ?_;refine SP.on (v:=undef) ?_;refine SP.on (v:=undef) ?_;refine SP.on (v:=undef) ?_;refine SP.on (v:= .bool true) ?_;refine SP.nil av λwd hI hF=> ?_;obtain⟨ae,ai,aj⟩:=SS.o wd hI;clear hF SS;have fC:=aa (aR.o.call ae);have p9:=aa (ae.heap aZ.o);go_wp2_with fail
    refine(gl 15 _).mono ?_;rintro e w6 ⟨rfl,k6⟩;have aZ:=aa (k6.heap p9.o);have aR:=aa k6;clear k6;obtain⟨p0,p1,p2,p3⟩:=dg aZ.o;go_wp2_with fail
    have aL:=bC aZ.o (.int .i64 15) (.slice none 0 0);have y0:=ap aL 0;have y1:=ap aL 1;refine KV (v:= .agg #[.int .i64 15,.slice none 0 0]) (by simp[results,results62,go_sem,y0,y1]) rfl ?_;obtain⟨r1,r2⟩:=df fC.o ab p9.o (HG.o.kept (fC.o.call aR.o)) (.ar aR.o);exact⟨15,_,[],_,rfl,Rw.nil _,r1.mono ab,.inl ⟨ak,rfl,rfl⟩,r2⟩
   ·have Xx:decide ((24:Int)<=(wl:Int))=false:=by simp;omega
    go_wp2_with fail
    refine ku [0,2,3,1,4,5,6,7,8,9,10,11,12,13,14,15,16,17] [none,none,none,some (λu w'=>Rw w' 63 2 bZ u (g.σ t).own),some (λu w'=>∃ r:Int,u= .int .i64 r/\(r<0↔¬b4 (g.σ t).own x0)),none,none,none,none,none,none,none,none,none,none,none,some (λu w'=>∃ b:Bool,u= .bool b/\(b=false->∀ y∈iO g t s x0,Room (g.st t y))),none] (λwB=>ad W6 wB/\wB.cell? ⟨w.heap.size,3,none⟩=some (.int .i64 t)/\wB.cell? ⟨q,0,none⟩=some (.string x0)) λwB SS=> ?_;obtain⟨au,aB,aC⟩:=SS.o _ (ad.refl _);iterate 3 refine SP.on ?_
    refine SP.ew ?_ λv1=> ?_
    ·intro wd hI hF;obtain⟨ae,ai,aj⟩:=SS.o wd hI;clear hF;go_wp2_with ((go_at_call 85;refine(tD B (g.p t) t (g.σ t) _ (HS.o _ ae)).mono ?_;rintro e w4 ⟨v',rfl,h4,k4⟩));exact bn rfl h4
    refine SP.ew ?_ λv2=> ?_
    ·intro wd hI hF;obtain⟨ae,ai,aj⟩:=SS.o wd hI;have h1:=hF.1 av;clear hF;go_wp2_with ((go_at_call 84;obtain⟨wb,hr,kb⟩:=h1;refine(Eu _ _ x0 _ (hr.kept kb)).mono ?_;rintro e w5 ⟨r,rfl,h5,k5⟩));exact bn rfl ⟨r,rfl,h5⟩
    refine SP.oe (v:= .bool true) ?_ ?_
    ·intro wd hI hF;obtain⟨ae,ai,aj⟩:=SS.o wd hI;have h1:=hF.1;clear hF;(obtain⟨wz,⟨r,rfl,fA⟩,_⟩:=h1;have XF:0<=r:=by(have:=mt fA.1 (by simpa using eT));omega);go_wp2_with (fail);exact aP
    refine SP.on (v:= .bool true) ?_;iterate 1 refine SP.on ?_
    apply SP.one av
    ·intro wd hI hF;obtain⟨ae,ai,aj⟩:=SS.o wd hI;clear hF;go_wp2_with ((go_at_call 109;refine(iI.o _ ae).mono ?_;rintro e w5 ⟨rfl,k5⟩));exact aP
    refine SP.np ?_;refine SP.on (v:= .bool false) ?_;refine SP.on (v:= .bool false) ?_;refine SP.on (v:= .bool false) ?_;iterate 4 refine SP.on ?_
    refine SP.ew ?_ λv3=> ?_
    ·intro wd hI hF;obtain⟨ae,ai,aj⟩:=SS.o wd hI;clear hF;go_wp2_with ((go_at_call 86;refine(Wn B gb g t _ (iO g t s x0) _ (eS.o.kept ae) ab (by rw[HN.o];exact oN) (λy hy=>Et y hy) (yn.o.kept ae)).mono ?_;rintro e w5 ⟨b,rfl,h5,k5⟩));exact bn rfl ⟨b,rfl,h5⟩
    refine SP.on (v:=v3) ?_;refine SP.nil av λwd hI hF=> ?_;obtain⟨ae,ai,aj⟩:=SS.o wd hI;have h1:=hF.1;clear hF SS;exact Xt
  ·go_wp2_with fail
   refine ku [0,2,3,1,4,5,6,7,8,9,10,11,12,13,14,15,16,17] [none,none,none,some (λu w'=>Rw w' 63 2 bZ u (g.σ t).own),some (λu w'=>∃ r:Int,u= .int .i64 r/\(r<0↔¬b4 (g.σ t).own x0)),none,none,none,none,none,none,none,none,none,none,none,some (λu w'=>∃ b:Bool,u= .bool b/\(b=false->∀ y∈iO g t s x0,Room (g.st t y))),none] (λwB=>ad W6 wB/\wB.cell? ⟨w.heap.size,3,none⟩=some (.int .i64 t)/\wB.cell? ⟨q,0,none⟩=some (.string x0)) λwB SS=> ?_;obtain⟨au,aB,aC⟩:=SS.o _ (ad.refl _);iterate 3 refine SP.on ?_
   refine SP.ew ?_ λv1=> ?_
   ·intro wd hI hF;obtain⟨ae,ai,aj⟩:=SS.o wd hI;clear hF;go_wp2_with ((go_at_call 85;refine(tD B (g.p t) t (g.σ t) _ (HS.o _ ae)).mono ?_;rintro e w4 ⟨v',rfl,h4,k4⟩));exact bn rfl h4
   refine SP.ew ?_ λv2=> ?_
   ·intro wd hI hF;obtain⟨ae,ai,aj⟩:=SS.o wd hI;have h1:=hF.1 av;clear hF;go_wp2_with ((go_at_call 84;obtain⟨wb,hr,kb⟩:=h1;refine(Eu _ _ x0 _ (hr.kept kb)).mono ?_;rintro e w5 ⟨r,rfl,h5,k5⟩));exact bn rfl ⟨r,rfl,h5⟩
   refine SP.oe (v:= .bool false) ?_ ?_
   ·intro wd hI hF;obtain⟨ae,ai,aj⟩:=SS.o wd hI;have h1:=hF.1;clear hF;(obtain⟨wz,⟨r,rfl,fA⟩,_⟩:=h1;have XF:¬(0<=r):=by(have:=fA.2 eT);omega);go_wp2_with (fail);exact aP
   refine SP.on (v:= .bool false) ?_;refine SP.on (v:=undef) ?_;refine SP.on (v:=undef) ?_;refine SP.on (v:=undef) ?_;refine SP.on (v:= .bool false) ?_;refine SP.on (v:= .bool false) ?_;iterate 4 refine SP.on ?_
   refine SP.ew ?_ λv3=> ?_
   ·intro wd hI hF;obtain⟨ae,ai,aj⟩:=SS.o wd hI;clear hF;go_wp2_with ((go_at_call 86;refine(Wn B gb g t _ (iO g t s x0) _ (eS.o.kept ae) ab (by rw[HN.o];exact oN) (λy hy=>Et y hy) (yn.o.kept ae)).mono ?_;rintro e w5 ⟨b,rfl,h5,k5⟩));exact bn rfl ⟨b,rfl,h5⟩
   refine SP.on (v:=v3) ?_;refine SP.nil av λwd hI hF=> ?_;obtain⟨ae,ai,aj⟩:=SS.o wd hI;have h1:=hF.1;clear hF SS;exact Xt
end Go.Proofs.YtehaoggjlciobaaGreat

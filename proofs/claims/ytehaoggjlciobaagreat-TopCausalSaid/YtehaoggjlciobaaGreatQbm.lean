/- Part 29 of 40. -/
import Derived.Test.YtehaoggjlciobaaGreatQbl
import Derived.Deep.CutBlock
import Derived.Deep.DeepCutAuto
set_option linter.all false
set_option maxRecDepth 20000
set_option maxHeartbeats 16000000
namespace Go.Proofs.YtehaoggjlciobaaGreat
open Go.Maps Go.RowKit Go.Proofs.Tryz
variable {jb:Array Value} {B c:Int} {keys:List ByteArray} {D l1 l2:List aD} {fl:List ax} {q2:Nat} {e e2:TypeId} {u x y:Value} {w w2:World}
theorem GB.fr2 {gb:Nat} {g:aG} {V:e9} (h:GB w gb g V) (hk:ad w w2) (qD:Nat):w2.frozen? ⟨gb,qD,none⟩=false:=aI (hk.heap h) qD
theorem EL:oL ad:=⟨λh=>h,λh k=>ad.call h k⟩
def sP (W:World) (e:TypeId) (u:Value) (w:World):Prop:=∃ q cur,u= .pointer (some ⟨q,0,none⟩)/\W.heap.size<=q/\w.heap[q]? =some (.cells cur e (0,0))/\cur.size=2
def rF (W:World) (e:TypeId) (x y:Value) (u:Value) (w:World):Prop:=∃ q,u= .pointer (some ⟨q,0,none⟩)/\W.heap.size<=q/\w.heap[q]? =some (.cells #[x,y] e (0,0))
theorem sP.kept {W:World} (h:sP W e u w) (k:ad w w2):sP W e u w2:=by
 obtain⟨q,cur,h1,h2,h3,h4⟩:=h;exact⟨q,cur,h1,h2,k.heap h3,h4⟩
theorem rF.kept {W:World} (h:rF W e x y u w) (k:ad w w2):rF W e x y u w2:=by
 obtain⟨q,h1,h2,h3⟩:=h;exact⟨q,h1,h2,k.heap h3⟩
theorem rF.N7 {W:World} (h:rF W e x y u w):sP W e u w:=by
 obtain⟨q,h1,h2,h3⟩:=h;exact⟨q,_,h1,h2,h3,rfl⟩
theorem sP.but {W:World} (h:sP W e u w) (k:ah [q2] w w2) (hq:w.heap[q2]? =some (.cells jb e2 (0,0))) (aN:e2≠e):sP W e u w2:=by
 obtain⟨q,cur,h1,h2,h3,h4⟩:=h;exact⟨q,cur,h1,h2,k.heap h3 (by simpa using (fB hq h3 aN).symm),h4⟩
theorem rF.but {W:World} (h:rF W e x y u w) (k:ah [q2] w w2) (hq:w.heap[q2]? =some (.cells jb e2 (0,0))) (aN:e2≠e):rF W e x y u w2:=by
 obtain⟨q,h1,h2,h3⟩:=h;exact⟨q,h1,h2,k.heap h3 (by simpa using (fB hq h3 aN).symm)⟩
theorem XK {a:Array Value} (h:a.size=2):∃ x y,a= #[x,y]:=by
 obtain⟨l⟩:=a
 match l,h with
 |[x,y],_=>exact⟨x,y,rfl⟩
def XL (g:aG) (c i:Nat) (er:Int) (fl:List ax) (g':aG):Prop:=
 (er≠0/\fl=[]/\∃ lH,g'={g with pins:=lH})∨
 (er=0/\∃ (ds low p' bM:List aD) (lH:List cf) (pa:Option Addr) (pn pc:Nat),
  (∀ x∈fl,∃ (s:Nat) (k:ByteArray),s<g.n/\k∈(g.jn c).1/\x∈(g.σ s).L k/\(x.n,x.s)=gt ds k)/\
  (∀ k∈(g.jn c).1,gt ds k≠(0,0)->∃ x∈fl,x.key=k/\(x.n,x.s)=gt ds k)/\
  cA ((g.ss c).2++fl.flatMap (·.ds)) low/\pE (g.jn c).1 fl low/\cA ((g.ss c).2++fl.flatMap lm) p'/\j0 (g.σ i).L bM/\oA bM (g.σ i).own p'/\
  g'={g with pins:=lH,bJ:=g.bJ++(g.jn c).1.map (λk=>⟨2,c,k,(gt ds k).1,(gt ds k).2,pa,pn,pc,p'⟩),ss:=ed g.ss c ((i:Int),p')})
theorem b7.IX {P:TypeId->Prop} {v:ax} (h:b7 w B v) (hk:Fr P w w2) (hp:P 60):b7 w2 B v:=⟨h.key,h.n,h.jB.fr hk hp,h.cg,h.gR,h.wc⟩
theorem qh6 {a b:Int×Int} (h1:c8 a.1 a.2 b.1 b.2=false) (h2:c8 b.1 b.2 a.1 a.2=false):a=b:=by
 obtain⟨bj,a2⟩:=a;obtain⟨b1,b2⟩:=b;unfold c8 at h1 h2;simp only[decide_eq_false_iff_not]at h1 h2;have:bj=b1/\a2=b2:=ab;rw[this.1,this.2]
theorem cA.ge (h1:cA D l1) (h2:cA D l2) (k:ByteArray):c8 (gt l1 k).1 (gt l1 k).2 (gt l2 k).1 (gt l2 k).2=false:=by
 have hz:∀ (l:List aD),b9 l->0<=(gt l k).1/\((gt l k).1=0->(gt l k).2=0):=λl hl=>by
  rcases Rc hl k with ⟨d,hd,_,e⟩|⟨_,e⟩
  ·have:=qck (hl.ok d hd).2;rw[e];constructor
   ·show 0<=d.n;omega
   ·show d.n=0->d.s=0;omega
  ·rw[e];exact⟨Int.le_refl _,λ_=>rfl⟩
 rcases Rc h2.cg k with ⟨d,hd,hk,e⟩|⟨_,e⟩
 ·obtain⟨y,hy,XM,hl⟩:=h1.all d (h2.mem d hd) (h2.cg.ok d hd).2;rw[hk]at XM;have:=Ct h1.cg.pb hy;rw[XM]at this;rw[this,e];exact hl
 ·rw[e];have h3:=hz l1 h1.cg;unfold c8;simp only[decide_eq_false_iff_not];omega
theorem cA.qh7 (h1:cA D l1) (h2:cA D l2) (k:ByteArray):gt l1 k=gt l2 k:=qh6 (h1.ge h2 k) (h2.ge h1 k)
theorem pE.one (h1:cA D l1) (h2:cA D l2) (h:pE keys fl l1):pE keys fl l2:=λk hk=>by
 rw[<- h1.qh7 h2 k];exact h k hk
theorem qh8 {b:Bool} (h:¬b=true):b=false:=by cases b <;>simp_all
def N8 (v:Value):Value:=match v with| .bool b=> .bool (!b)|_=>undef
def yB (w:World) (x:Nat) (c:Int):Prop:=∃ XC:Array Value,w.heap[x]? =some (.cells XC 36 (0,0))/\XC[1]? =some (.int .i64 c)
theorem yB.fr {x:Nat} (h:yB w x c) (hf:bN w w2):yB w2 x c:=by
 obtain⟨XC,h1,h2⟩:=h;exact⟨XC,hf.block _ _ _ h1 (by unfold iM iK;decide),h2⟩
theorem yB.cell {x:Nat} (h:yB w x c):w.cell? ⟨x,1,none⟩=some (.int .i64 c):=by
 obtain⟨XC,h1,h2⟩:=h;rw[aE h1 1];exact h2
structure IY (B:Int) (g:aG) (cR:List aD) (keys:List ByteArray) (W wr:World) (U:Nat) (lv ov:Value) (fl:List ax) (of:List (Int×Int)):Prop where
 k:ad W wr
 l:wr.ownsRow W.heap.size 48 6 lv fl.length (fl.flatMap a8)
 qD:wr.ownsRow W.heap.size 45 2 ov of.length (of.flatMap kD)
 oe:of=(keys.take U).map (gt cR)
 bx:fl.length<=U
 ok:∀ x∈fl,b7 wr B x
 EM:∀ x∈fl,∃ (s:Nat) (k:ByteArray),s<g.n/\k∈keys/\x∈(g.σ s).L k/\(x.n,x.s)=gt cR k
 all:∀ k∈keys.take U,gt cR k≠(0,0)->∃ x∈fl,x.key=k/\(x.n,x.s)=gt cR k
theorem IY.go {g:aG} {cR:List aD} {W wr:World} {U:Nat} {lv ov:Value} {of:List (Int×Int)} (h:IY B g cR keys W wr U lv ov fl of) (hk:ad wr w2):IY B g cR keys W w2 U lv ov fl of:=
 ⟨h.k.call hk,ad.own h.l hk,ad.own h.qD hk,h.oe,h.bx,λx hx=>(h.ok x hx).kept hk,h.EM,h.all⟩
theorem qh9 (B:Int) (gb:Nat) (g:aG) (qD:ee) (c i:Nat) (w:World) (h:aT w B gb g) (hB:0<=B) (h9:B+1<=900) (hc:qD.c=c) (bO:c<4) (ji:(g.ss c).1=(i:Int)):
  Calls prog 61 #[.pointer (some ⟨gb,0,none⟩),dx qD] w λe w'=>∃ er fv fl g',e= .returned (gm er fv)/\Rw w' 48 6 a8 fv fl/\aT w' (B+1) gb g'/\XL g c i er fl g'/\bN w w':=by
 have HG:=aa h;have an:=h.lt;obtain⟨V,h1,h2⟩:=h;obtain⟨hi,EJ,Uud,PA0,pl0,pc0,_,_,_,cO,fq⟩:=t'.of h1 h2 bO ji;have cX:=h2.cX;have H1:=aa h1;have H2:=aa h2;have kL:=aa fq;have jY:=aa cO;have IS:=aa EJ;have qlo:=aa Uud;obtain⟨fN,ez,mg,ue⟩:=h2.a6.pins;obtain⟨PA,pc,lD,_,_⟩:=fN.1.form;have gZ:w.cell? ⟨gb,21,none⟩=some V.nv:=aE h1 21;rw[lD]at gZ fN;generalize iN:g.pins.length=pm at gZ fN;have qh':=aa gZ;have jd:=aa fN;have l8:=aa ez;have vm:ag (g.pins.length<=8):=mg;have AY:=aa ue;clear h1 h2 fq fN ez mg ue lD iN EJ Uud cO;obtain⟨ok,oc,os,ot,oa,oh,bT,dj,dq,dH,dI,dJ⟩:=qD;unfold dx il;simp only at*;obtain⟨bS,dT⟩:=pU (w:=w) (xs:= #[.int .i64 ok,.int .i64 oc,.int .i64 os,.int .i64 ot,.int .i64 oa,.int .i64 oh,.string bT,.string dj,dq,dH,dI,dJ]) (ys:= #[.int .i64 0,.slice none 0 0]) (a:=36) (b:=42);have dG:=aa bS;have dy:=aa dT;clear bS dT;subst hc;obtain⟨W0,gh⟩:=eqR ((w.alloc (.cells #[.int .i64 ok,.int .i64 c,.int .i64 os,.int .i64 ot,.int .i64 oa,.int .i64 oh,.string bT,.string dj,dq,dH,dI,dJ] 36)).alloc (.cells #[.int .i64 0,.slice none 0 0] 42));have K0:ad w W0:=by rw[gh];exact al
 rw[<- gh]at dG dy;have a7:W0.heap.size=w.heap.size+1+1:=by rw[gh];simp
 have e1:=ap dG.o 1;have gZ:=K0.af gZ;go_in;go_wp2_with fail
 rw[<- gh];clear gh;refine ey [none,none,none,none,none,none,none,some (λu w'=>∃ x b,u= .tuple #[qX x,.bool b]/\UD g.pins ((c:Int)+1) x b),none,none,none,some (λu w'=>∃ q,u= .pointer (some ⟨q,0,none⟩)/\W0.heap.size<=q/\w'.heap[q]? =some (.cells #[.int .i64 0,.slice none 0 0] 166 (0,0)))] (λwB=>ad w wB/\ad W0 wB/\wB.cell? ⟨gb,21,none⟩=some (.slice PA pm pc)/\wB.cell? ⟨w.heap.size,1,none⟩=some (.int .i64 c)) λwB SS=> ?_;obtain⟨au,br,aB,aC⟩:=SS.o _ (ad.refl _);iterate 7 refine SP.on ?_
 refine SP.ew ?_ λv1=> ?_
 ·intro wd hI hF;obtain⟨ae,ay,ai,aj⟩:=SS.o wd hI;clear hF;go_wp2_with ((go_at_call 100;refine(qeK _ g.pins ((c:Int)+1) _ (jd.o.1.kept ae) l8.o (by have:=vm.o;omega)).mono ?_;rintro e w5 ⟨x,b,rfl,h5,k5⟩));exact bn rfl ⟨x,b,rfl,h5⟩
 refine SP.on (v:=v1) ?_;refine SP.oe (v:=eH v1 0) ?_ ?_
 ·intro wd hI hF;obtain⟨ae,ay,ai,aj⟩:=SS.o wd hI;have h1:=hF.1;clear hF;(obtain⟨w9,⟨x,b,rfl,_⟩,_⟩:=h1);go_wp2_with (fail);exact aP
 refine SP.oe (v:=eH v1 1) ?_ ?_
 ·intro wd hI hF;obtain⟨ae,ay,ai,aj⟩:=SS.o wd hI;have h1:=hF.1;clear hF;(obtain⟨w9,⟨x,b,rfl,_⟩,_⟩:=h1);go_wp2_with (fail);exact aP
 refine SP.ew ?_ λv2=> ?_
 ·intro wd hI hF;obtain⟨ae,ay,ai,aj⟩:=SS.o wd hI;clear hF;go_wp2_with (fail);exact bn rfl ⟨_,rfl,ay.size,yY _ _⟩
 refine SP.late [10] av av ?_;intro wd hI hF;obtain⟨ae,ay,ai,aj⟩:=SS.o wd hI;have h1:=hF.2.1;have h2:=hF.1;clear hF SS;obtain⟨w9,⟨⟨EN,xa,xn,xc,cR⟩,b,rfl,XN⟩,k9⟩:=h1;obtain⟨w8,⟨q,rfl,ko,hq⟩,k8⟩:=h2;simp only[tz,tA];have gE:=k8.heap hq;have z0:=ap gE 0;have z1:=ap gE 1;have g0:=aI gE 0;have g1:=aI gE 1;have aV:=bC gE (.int .i64 EN) (.slice xa xn xc);have fk:=ah.bC (w:=wd) q (.int .i64 EN) (.slice xa xn xc);have XO:=aa XN;unfold qX;simp only;refine TL.go ?_;refine TL.go ?_;refine TL.nil ?_;obtain⟨W1,eZ⟩:=eqR ((wd.setCell ⟨q,0,none⟩ (.int .i64 EN)).setCell ⟨q,1,none⟩ (.slice xa xn xc));rw[<- eZ]at aV fk⊢;have cx:ag (ad w W1):=ad.but ae fk (by simp;omega);have N9:ag (ad W0 W1):=ad.but ay fk (by simp;omega);have nm:=aa aV;have cC:=aa (N9.o.heap dy.o);have b6:=aa (N9.o.heap dG.o);have kp:q<W1.heap.size:=(aQ aV);have qlp:=N9.o.size;clear eZ aV fk k9 k8 hq gE z0 z1 g0 g1 ae ay au br hI ai aj aB aC XN e1 gZ
 cases b
 ·go_wp2_with fail
  refine(gl 12 _).mono ?_;rintro e w6 ⟨rfl,k6⟩;have aZ:=aa (k6.heap cC.o);have aR:=aa k6;clear k6;obtain⟨p0,p1,p2,p3⟩:=dg aZ.o;go_wp2_with fail
  have aL:=bC aZ.o (.int .i64 12) (.slice none 0 0);have y0:=ap aL 0;have y1:=ap aL 1;refine KV (v:= .agg #[.int .i64 12,.slice none 0 0]) (by simp[results,results61,go_sem,y0,y1]) rfl ?_;obtain⟨r1,r2⟩:=df cx.o ab cC.o (HG.o.kept (cx.o.call aR.o)) (.ar aR.o);exact⟨12,_,[],_,rfl,Rw.nil _,r1.mono ab,.inl ⟨ak,rfl,g.pins,rfl⟩,r2⟩
 obtain⟨Cz,hxi⟩:(⟨EN,xa,xn,xc,cR⟩:cf)∈g.pins/\EN=(c:Int)+1:=by
  rcases XO.o with ⟨_,h1,h2⟩|⟨h,_⟩
  ·exact⟨h1,h2⟩
  ·cases h
 subst hxi;have Gz:=aa ((jd.o.2 _ Cz));simp only at Gz;have HXM:=aa Cz;have gZ:W1.cell? ⟨gb,21,none⟩=some (.slice PA pm pc):=cx.o.af qh'.o;have q0:=ap nm.o 0;have q1:=ap nm.o 1;have o7:gb<W1.heap.size:=ab;clear Cz XO;go_wp2_with fail
 refine ey [none,none,none,none,none,none,none,some (λu w'=>∃ v' er,u= .tuple #[v',.int .i64 er]/\UG w' g.pins ((c:Int)+1) v' er),none,none,none,none,none] (λwB=>ad W1 wB/\wB.cell? ⟨gb,21,none⟩=some (.slice PA pm pc)/\wB.cell? ⟨q,0,none⟩=some (.int .i64 ((c:Int)+1))) λwB SS=> ?_;obtain⟨au,aB,aC⟩:=SS.o _ (ad.refl _);iterate 7 refine SP.on ?_
 refine SP.ew ?_ λv1=> ?_
 ·intro wd hI hF;obtain⟨ae,ai,aj⟩:=SS.o wd hI;clear hF;go_wp2_with ((go_at_call 101;refine(qeR _ g.pins ((c:Int)+1) _ (jd.o.1.kept (cx.o.call ae)) l8.o (by have:=vm.o;omega)).mono ?_;rintro e w5 ⟨v',er,rfl,h5,k5⟩));exact bn rfl ⟨v',er,rfl,h5⟩
 refine SP.on (v:=v1) ?_;refine SP.oe (v:=eH v1 0) ?_ ?_
 ·intro wd hI hF;obtain⟨ae,ai,aj⟩:=SS.o wd hI;have h1:=hF.1;clear hF;(obtain⟨w9,⟨v',er,rfl,_⟩,_⟩:=h1);go_wp2_with (fail);exact aP
 refine SP.oe (v:=eH v1 1) ?_ ?_
 ·intro wd hI hF;obtain⟨ae,ai,aj⟩:=SS.o wd hI;have h1:=hF.1;clear hF;(obtain⟨w9,⟨v',er,rfl,_⟩,_⟩:=h1);go_wp2_with (fail);exact aP
 iterate 2 refine SP.on ?_
 refine SP.late [10] av av ?_;intro wd hI hF;obtain⟨ae,ai,aj⟩:=SS.o wd hI;have h1:=hF.1;clear hF SS;obtain⟨w9,⟨v',er,rfl,XP⟩,k9⟩:=h1;simp only[tz,tA]
 obtain⟨jN,kN,haa,hai,bU⟩:∃ (i:Nat) (a:cf),g.pins[i]? =some a/\a.id=(c:Int)+1/\Rw w9 166 2 gS v' (g.pins.take i++g.pins.drop (i+1)):=by
  rcases XP with ⟨_,_,h⟩|⟨_,h⟩
  ·exact absurd rfl (h _ HXM.o)
  ·exact h
 obtain⟨NA,nc,lD,_,_⟩:=bU.form;subst lD;generalize Iu:(g.pins.take jN++g.pins.drop (jN+1)).length=nn
 have N':sx wd (.slice NA (g.pins.take jN++g.pins.drop (jN+1)).length nc) (g.pins.take jN++g.pins.drop (jN+1)):=by
  refine⟨bU.kept k9,λx hx=> ?_⟩
  have XQ:x∈g.pins:=by
   rcases Pv.1 hx with h|h
   ·exact List.mem_of_mem_take h
   ·exact List.mem_of_mem_drop h
  exact⟨(jd.o.2 x XQ).1.kept (cx.o.call ae),(jd.o.2 x XQ).2⟩
 rw[Iu]at N'
 have lU:(g.pins.take jN++g.pins.drop (jN+1)).Sublist g.pins:=by
  have h:=(List.Sublist.refl (g.pins.take jN)).append ((List.drop_sublist_drop_left g.pins (Nat.le_succ jN)));rwa [List.take_append_drop]at h
 obtain⟨g1,f1⟩:=(HG.o.kept (cx.o.call ae)).WW ⟨N',l8.o.sublist lU,qcg lU.length_le vm.o,λx hx=>AY.o x (lU.subset hx)⟩;have Oa:wd.cell? ⟨gb,21,none⟩=some (.slice PA pm pc):=ai;have f21:wd.frozen? ⟨gb,21,none⟩=false:=(H1.o.fr2 (cx.o.call ae)) 21;refine TL.go ?_;refine TL.nil ?_;obtain⟨W2,fw⟩:=eqR (wd.setCell ⟨gb,21,none⟩ (.slice NA nn nc));rw[<- fw]at g1 f1⊢;obtain⟨g2,dm⟩:∃ g2:aG,g2={g with pins:=g.pins.take jN++g.pins.drop (jN+1)}:=⟨_,rfl⟩;rw[<- dm]at g1;have vA:=aa dm;have mA:ag (∃ lH,g2={g with pins:=lH}):=⟨_,dm⟩;have bG:g2.jn=g.jn:=by rw[dm]
 have dp:g2.ss=g.ss:=by rw[dm]
 have cp:g2.n=g.n:=by rw[dm];rfl
 have hσ2:g2.σ=g.σ:=by rw[dm]
 have ez:g2.p=g.p:=by rw[dm]
 have jl:g2.bJ=g.bJ:=by rw[dm]
 have dr:=aa (cx.o.call ae);have cI:=aa (ae.heap cC.o);have nG:=aa f1;have ll:=aa (gY cI.o f1);have iE:=aa (f1.block _ _ _ (ae.heap b6.o) (by unfold iM iK;decide));have kS:=aa (f1.block _ _ _ (ae.heap nm.o) (by unfold iM iK;decide));have qia:=aa ((Gz.o.1.kept (cx.o.call ae)).fr f1 (by unfold iM iK;decide));have qlq:=dr.o.size;have qlr:=f1.size;have gE:q<wd.heap.size:=by have:=ae.size;omega
 have lA:=aa g1;obtain⟨V2,yC,IZ⟩:=g1;obtain⟨yD,yE⟩:=yC.oJ bO;obtain⟨dP,kX,dZ,ga,pK,oq⟩:=IZ.a6.oJ c bO;rw[bG]at dP kX dZ ga pK oq;have yF:=IZ.a6.bY c bO;rw[dp]at yF;obtain⟨Ob,EO⟩:=yC.bY bO;rw[dp,ji]at Ob;obtain⟨KA,kc,qa,_,_⟩:=dP.form;obtain⟨WA,wc,XR,_,_⟩:=kX.form;obtain⟨SA,sc,mx,_,_⟩:=yF.1.form;rw[qa]at yD dP;rw[XR]at yE kX;rw[mx]at EO yF;obtain⟨keys,Oc⟩:=eqQ ((g.jn c).1);obtain⟨sts,Od⟩:=eqQ ((g.jn c).2);obtain⟨ps,b'⟩:=eqQ ((g.ss c).2);rw[Oc]at yD dP dZ ga pK;rw[Od]at yE kX pK oq;rw[b']at EO yF;obtain⟨m,hm⟩:=eqQ keys.length;rw[hm]at yD dP ga pK;rw[pK]at yE kX;obtain⟨pl,cO⟩:=eqQ ps.length;rw[cO]at EO yF;have I0:=aa Oc;have qls:=aa Od;have bX:=aa b';have qlt:=aa cO;have HM:=aa hm;have Aq:=aa dP;have HBW:=aa kX;have vo:=aa dZ;have MI:=aa pK;have HBR:=aa oq;have EP:=aa yF;have H12:=aa yC;have Oe:=aa IZ;have NL:=aa bG;have HHS:=aa dp;have rB:=aa cp;have HHσ:=aa hσ2;have qT:=aa ez;have HHH:=aa jl;clear yC IZ qa XR mx Oc Od b' hm cO dP kX dZ pK oq yF dm bG dp cp hσ2 ez jl fw f1 Oa f21 XP k9 bU N' lU ae au hI ai aj aB aC haa hai Iu gZ q0 q1;have e1:=ap iE.o 1;have qlu:gb<W2.heap.size:=ab;go_wp2_with fail
 refine WK (T:=ad) EL 14 [none,none,none,none,none,none,none,none,none,none,none,none,none,none,some (sP W2 78),some (sP W2 75)] av av rfl ?_ _ (by(try simp only[List.append_eq,List.cons_append,List.nil_append,List.toList_toArray]);exact rfl) ?_
 ·intro U R hj hR v w' w2 hv ht;rcases(show U=0∨U=1∨U=2∨U=3∨U=4∨U=5∨U=6∨U=7∨U=8∨U=9∨U=10∨U=11∨U=12∨U=13∨U=14∨U=15 by have:=(bg hR);simp at this;omega)with rfl|rfl|rfl|rfl|rfl|rfl|rfl|rfl|rfl|rfl|rfl|rfl|rfl|rfl|rfl|rfl <;>first|(exact absurd rfl hj)|(simp at hR;done)|skip
  simp only[List.getElem?_cons_succ,List.getElem?_cons_zero,Option.some.injEq]at hR;subst hR;exact hv.kept ht
 simp only[List.map_cons,List.map_nil,Option.map_some,Option.map_none,List.toList_toArray];iterate 14 (apply SX.one EL av;(focus (intro wd hI hF;clear hF;have ai:=hI.af e1;have aj:=hI.af yD;have aq:=hI.af yE;have az:=hI.af Ob;have aK:=hI.af EO;go_wp2_with (fail);refine bd.mk _ rfl ⟨rfl,?_⟩;exact al));simp only[Act.put,List.setIfInBounds_toArray,List.set_cons_succ,List.set_cons_zero])
 refine SX.Nt EL rfl ?_ (λv7=> ?_)
 ·intro wd hI hF;clear hF;go_wp2_with (fail);refine bd.mk _ rfl ⟨⟨_,_,rfl,hI.size,yY _ _,rfl⟩,?_⟩;exact al
 simp only[Act.put,List.setIfInBounds_toArray,List.set_cons_succ,List.set_cons_zero];refine SX.ev EL ak ?_ (λIM=> ?_)
 ·intro wd hI hF;clear hF;go_wp2_with (fail);refine bd.mk _ rfl ⟨⟨_,_,rfl,hI.size,yY _ _,rfl⟩,?_⟩;exact al
 simp only[Act.put,List.setIfInBounds_toArray,List.set_cons_succ,List.set_cons_zero];refine SX.qg8 [7,8,9,10,11,12,13] av av ?_;refine mU.step undef (λw'=>ad W2 w'/\rF W2 78 (.slice KA m kc) (.slice WA m wc) v7 w'/\sP W2 75 IM w') ?_ ?_ ?_ ?_
 ·exact λw1 w2 h hk=>⟨h.1.call hk,h.2.1.kept hk,h.2.2.kept hk⟩
 ·exact λw1 h=>⟨⟨true,h.1⟩,⟨_,h.2.2,ad.refl _⟩,⟨_,h.2.1.N7,ad.refl _⟩,trivial⟩
 ·rintro w1 ⟨hg,⟨w8,h8,k8⟩,⟨w7,h7,nr⟩,_⟩;have eN:=Es EL hg;have I1:=h8.kept k8;obtain⟨q7,cur,rfl,EE,Bl,fa⟩:=h7.kept nr;obtain⟨x0,x1,rfl⟩:=XK fa;have z0:=ap Bl 0;have z1:=ap Bl 1;have f0:=aI Bl 0;have f1:=aI Bl 1;have aV:=bC Bl (.slice KA m kc) (.slice WA m wc);have fk:=ah.bC (w:=w1) q7 (.slice KA m kc) (.slice WA m wc);go_wp2_with (fail)
  refine bd.mk undef rfl ⟨rfl,ad.but eN fk (by simp;omega),⟨q7,rfl,EE,aV⟩,I1.but fk Bl ak⟩
 simp only[Act.put,List.setIfInBounds_toArray,List.set_cons_succ,List.set_cons_zero];refine mU.step undef (λw'=>ad W2 w'/\rF W2 78 (.slice KA m kc) (.slice WA m wc) v7 w'/\rF W2 75 (.int .i64 i) (.slice SA pl sc) IM w') ?_ ?_ ?_ ?_
 ·exact λw1 w2 h hk=>⟨h.1.call hk,h.2.1.kept hk,h.2.2.kept hk⟩
 ·exact λw1 h=>⟨⟨true,h.1⟩,⟨_,h.2.2.N7,ad.refl _⟩,⟨_,h.2.1.N7,ad.refl _⟩,trivial⟩
 ·rintro w1 ⟨eN,h7,h8⟩;obtain⟨q8,cur,rfl,XT,Bm,fa⟩:=h8;obtain⟨x0,x1,rfl⟩:=XK fa;have z0:=ap Bm 0;have z1:=ap Bm 1;have f0:=aI Bm 0;have f1:=aI Bm 1;have aV:=bC Bm (.int .i64 i) (.slice SA pl sc);have fk:=ah.bC (w:=w1) q8 (.int .i64 i) (.slice SA pl sc);go_wp2_with (fail)
  refine bd.mk undef rfl ⟨rfl,ad.but eN fk (by simp;omega),h7.but fk Bm ak,⟨q8,rfl,XT,aV⟩⟩
 simp only[Act.put,List.setIfInBounds_toArray,List.set_cons_succ,List.set_cons_zero];refine mU.nil ?_;rintro w3 ⟨lj,⟨q7,rfl,EE,sE⟩,⟨q8,rfl,XT,mo⟩⟩;have Of:=aa sE;have vW:=aa mo;have eI:=aa lj;have mS:=lj.size;have hl7:q7<w3.heap.size:=(aQ sE);have TU:q8<w3.heap.size:=(aQ mo);have y7:=ap sE 0;clear sE mo lj yD yE Ob EO e1;obtain⟨W4,um⟩:=eqR (w3.alloc (.cells #[.int .i64 0,.int .i64 0] 45));have pC:ad w3 W4:=by rw[um];exact(ad.refl _).alloc _
 have l4:ag (W4.heap[w3.heap.size]? =some (.cells #[.int .i64 0,.int .i64 0] 45 (0,0))):=by rw[um];exact yY _ _
 have ef:=aa (eI.o.call pC);have XU:=aa (pC.heap Of.o);have XV:=aa (pC.heap vW.o);have M':=aa (ef.o.heap kS.o);have lF:=aa (ef.o.heap ll.o);have sO:=aa (ef.o.heap iE.o);have vX:=aa (lA.o.kept ef.o);have qib:=aa (qia.o.kept ef.o);have XW:=aa (Aq.o.kept ef.o);have qic:=aa (HBW.o.kept ef.o);have Cs:=pC.size;clear pC;go_wp2_with fail
 rw[<- um];clear um;go_loopw [9,10,66] (λlv ov iv wr=>∃ (U:Nat) (fl:List ax) (of:List (Int×Int)),U<=m/\iv= .int .i64 U/\ag (IY B g cR keys W4 wr U lv ov fl of)) (λ_ _ iv _=>m-(intOf iv).toNat)
 case atStart=>exact⟨0,[],[],ab,rfl,ad.refl _,qcb _ _ _ _,qcb _ _ _ _,rfl,ao,λx hx=>(by cases hx),λx hx=>(by cases hx),λk hk=>(by cases hk)⟩
 case round=>
  obtain⟨U,fl,of,hj,rfl,eE⟩:=hrel;have ep:=aa eE.o.k;have ou:=ep.o.size;by_cases iT:U<m
  ·obtain⟨k,hk⟩:=exQ keys U (by rw[HM.o];exact iT);obtain⟨kb,EQ,rfl,Ee,vY⟩:=(XW.o.kept ep.o).af hk;have dD:=iU vY;simp only[Nat.mul_one]at dD;have yG:=aa (vo.o k (zV hk));have Bn:=aa hk;obtain⟨s0,pQ⟩:=exQ sts U (by rw[MI.o];exact iT);have hsr:=HBR.o s0 (zV pQ);obtain⟨a,rfl⟩:∃ a:Nat,s0=a:=⟨s0.toNat,ab⟩;obtain⟨wb,wo,rfl,TX,XX⟩:=(qic.o.kept ep.o).af pQ;have XY:=iU XX;simp only[Nat.mul_one]at XY;have ha:a<g.n:=by have:=rB.o;omega
   have hq:=ep.o.heap M'.o;have p0:=ap hq 0;have p1:=ap hq 1;have hb:=ep.o.heap XU.o;have b1:=ap hb 1;clear hk Ee vY pQ TX XX hq hb hsr;go_wp2_with fail
   refine ey [none,none,none,none,none,none,none,none,some (λu w'=>∃ x n s b,u= .tuple #[aM x,.agg #[.int .i64 n,.int .i64 s],.bool b]/\XG cR k ((g.σ a).L k) x n s b),none,none,none,none,some (λu w'=>∃ q,u= .pointer (some ⟨q,0,none⟩)/\wr.heap.size<=q/\VB w' q (.string ⟨#[]⟩) (.string ⟨#[]⟩) (.bool false) (.int .i64 0) (.int .i64 0) (.slice none 0 0)),some (λu w'=>∃ q,u= .pointer (some ⟨q,0,none⟩)/\wr.heap.size<=q/\w'.heap[q]? =some (.cells #[.int .i64 0,.int .i64 0] 45 (0,0)))] (λwB=>ad wr wB/\wB.cell? ⟨q,0,none⟩=some (.int .i64 ((c:Int)+1))/\wB.cell? ⟨q,1,none⟩=some (.slice xa xn xc)/\wB.cell? ⟨q7,1,none⟩=some (.slice (some ⟨wb,wo,none⟩) m wc)/\wB.cell? ⟨wb,wo+U,none⟩=some (.int .i64 a)) λwB SS=> ?_;obtain⟨au,aB,aC,aF,aX⟩:=SS.o _ (ad.refl _);iterate 8 refine SP.on ?_
   refine SP.ew ?_ λv1=> ?_
   ·intro wd hI hF;obtain⟨ae,ai,aj,aq,az⟩:=SS.o wd hI;clear hF;go_wp2_with ((go_at_call 102;have ER:=qh4 B gb g2 ⟨(c:Int)+1,xa,xn,xc,cR⟩ k a _ (vX.o.kept (ep.o.call ae)) hB ab yG.o (by rw[rB.o];exact ha) (qib.o.kept (ep.o.call ae));rw[HHσ.o]at ER;refine ER.mono ?_;rintro e w5 ⟨x,n,s,b,rfl,h5,k5⟩));exact bn rfl ⟨x,n,s,b,rfl,h5⟩
   refine SP.on (v:=v1) ?_;refine SP.oe (v:=eH v1 0) ?_ ?_
   ·intro wd hI hF;obtain⟨ae,ai,aj,aq,az⟩:=SS.o wd hI;have h1:=hF.1;clear hF;(obtain⟨w9,⟨x,n,s,b,rfl,_⟩,_⟩:=h1);go_wp2_with (fail);exact aP
   refine SP.oe (v:=eH v1 1) ?_ ?_
   ·intro wd hI hF;obtain⟨ae,ai,aj,aq,az⟩:=SS.o wd hI;have h1:=hF.1;clear hF;(obtain⟨w9,⟨x,n,s,b,rfl,_⟩,_⟩:=h1);go_wp2_with (fail);exact aP
   refine SP.oe (v:=eH v1 2) ?_ ?_
   ·intro wd hI hF;obtain⟨ae,ai,aj,aq,az⟩:=SS.o wd hI;have h1:=hF.1;clear hF;(obtain⟨w9,⟨x,n,s,b,rfl,_⟩,_⟩:=h1);go_wp2_with (fail);exact aP
   refine SP.ew ?_ λv2=> ?_
   ·intro wd hI hF;obtain⟨ae,ai,aj,aq,az⟩:=SS.o wd hI;clear hF;go_wp2_with (fail);exact bn rfl ⟨_,rfl,ae.size,yY _ _⟩
   refine SP.ew ?_ λv3=> ?_
   ·intro wd hI hF;obtain⟨ae,ai,aj,aq,az⟩:=SS.o wd hI;clear hF;go_wp2_with (fail);exact bn rfl ⟨_,rfl,ae.size,yY _ _⟩
   refine SP.late [11,12] av av ?_;intro wd hI hF;obtain⟨ae,ai,aj,aq,az⟩:=SS.o wd hI;have h1:=hF.2.2.1;have h2:=hF.2.1;have h3:=hF.1;clear hF SS;obtain⟨w9,⟨⟨x0,x1,x2,x3,x4,x5,x6,x7,x8⟩,n,s,b,rfl,ER⟩,k9⟩:=h1;obtain⟨w8,⟨qv,rfl,hqv,kT⟩,k8⟩:=h2;obtain⟨w7,⟨qs,rfl,vZ,pP⟩,nr⟩:=h3;simp only[L4,L5,L6];have sQ:=aa ER;have V2:VB wd qv (.string ⟨#[]⟩) (.string ⟨#[]⟩) (.bool false) (.int .i64 0) (.int .i64 0) (.slice none 0 0):=k8.heap kT;have S2:=nr.heap pP;obtain⟨z0,z1,z2,z3,z4,z5,zf,zl⟩:=V2.cells;have f0:=zf 0;have f1:=zf 1;have f2:=zf 2;have f3:=zf 3;have f4:=zf 4;have f5:=zf 5;have s0:=ap S2 0;have s1:=ap S2 1;have g0:=aI S2 0;have g1:=aI S2 1;have Og:=fB V2 S2 ak;have XZ:=Og.symm;have oE:=(V2.all (.string x0) (.string x1) (.bool x2) (.int .i64 x3) (.int .i64 x4) (.slice x5 x6 x7)).but (ah.bC qs (.int .i64 n) (.int .i64 s)) (by simpa using Og);have pw:=bC ((ah.all (w:=wd) qv (.string x0) (.string x1) (.bool x2) (.int .i64 x3) (.int .i64 x4) (.slice x5 x6 x7)).heap S2 (by simpa using XZ)) (.int .i64 n) (.int .i64 s);have uk:=(ae.but (ah.all qv (.string x0) (.string x1) (.bool x2) (.int .i64 x3) (.int .i64 x4) (.slice x5 x6 x7)) (by simp;omega)).but (ah.bC qs (.int .i64 n) (.int .i64 s)) (by simp;omega);clear zf ER k9 k8 nr kT pP V2 S2 p0 p1 b1 XY dD ae au hI ai aj aq az aB aC aF aX;unfold aM;refine TL.go ?_;refine TL.go ?_;refine TL.go ?_;refine TL.nil ?_;obtain⟨W5,jZ⟩:=eqR ((((((((wd.setCell ⟨qv,0,none⟩ (.string x0)).setCell ⟨qv,1,none⟩ (.string x1)).setCell ⟨qv,2,none⟩ (.bool x2)).setCell ⟨qv,3,none⟩ (.int .i64 x3)).setCell ⟨qv,4,none⟩ (.int .i64 x4)).setCell ⟨qv,5,none⟩ (.slice x5 x6 x7)).setCell ⟨qs,0,none⟩ (.int .i64 n)).setCell ⟨qs,1,none⟩ (.int .i64 s));rw[<- jZ]at oE pw uk⊢;have sG:=aa oE;have dQ:=aa pw;have mB:=aa (eE.o.go uk);have gv:=aa (ep.o.call uk);have dh:=aa (gv.o.heap lF.o);clear jZ oE pw uk z0 z1 z2 z3 z4 z5 f0 f1 f2 f3 f4 f5 s0 s1 g0 g1 zl Og XZ
   cases b
   ·go_wp2_with fail
    refine(gl 16 _).mono ?_;rintro e w6 ⟨rfl,k6⟩;have aZ:=aa (k6.heap dh.o);have aR:=aa k6;clear k6;obtain⟨p0,p1,p2,p3⟩:=dg aZ.o;go_wp2_with fail
    have aL:=bC aZ.o (.int .i64 16) (.slice none 0 0);have y0:=ap aL 0;have y1:=ap aL 1;refine KV (v:= .agg #[.int .i64 16,.slice none 0 0]) (by simp[results,results61,go_sem,y0,y1]) rfl ?_;obtain⟨r1,r2⟩:=df dr.o ab cI.o (lA.o.kept ((ef.o.call gv.o).call aR.o)) (nG.o.trans (.ar ((ef.o.call gv.o).call aR.o)));exact⟨16,_,[],_,rfl,Rw.nil _,r1.mono ab,.inl ⟨ak,rfl,mA.o⟩,r2⟩
   ·obtain⟨OA,Oh,rfl⟩:=ca mB.o.qD;obtain⟨LA,lc,rfl⟩:=ca mB.o.l;have s0:=ap dQ.o 0;have s1:=ap dQ.o 1;have qm:qs<W5.heap.size:=(aQ dQ.o)
    have Nh:ag (of.length=U):=by
     unfold ag;rw[mB.o.oe,List.length_map,qcd,HM.o];omega
    go_upto_region 16 with (at_builtin;go_must (refine jh rfl _ _ 173 45 _ 2 16 kD rfl underlying173 Mf rfl ak ak Aj LZ W4.heap.size _ of [(n,s)] rfl (ad.own mB.o.qD ((ad.refl _).alloc _)) _ 0 1 1 rfl (Rw.one (ea ao)) (by have:=Nh.o;simp;omega) (by have:=gv.o.size;simp;omega) ?_;intro v6 w6 O6 cj _;obtain⟨I2,Oi⟩:∃ l,l=of++[(n,s)]:=⟨_,rfl⟩;rw[<- Oi]at O6;have Oj:=aa Oi;clear Oi;obtain⟨A6,gu,rfl⟩:=ca O6))
    have ES:=ad.own mB.o.qD ((ad.refl W5).alloc (.cells #[.int .i64 n,.int .i64 s] 45));have ng:=ad.own mB.o.l ((ad.refl W5).alloc (.cells #[.int .i64 n,.int .i64 s] 45));have yH:ad W5 (W5.alloc (.cells #[.int .i64 n,.int .i64 s] 45)):=(ad.refl _).alloc _
    have ED:qs∉(Value.slice OA of.length Oh).ownBlock.toList:=λhy=>by
     have:=(eE.o.qD.lt _ (Option.mem_toList.1 hy)).2;omega
    have sg:w3.heap.size∉(Value.slice OA of.length Oh).ownBlock.toList:=λhy=>by
     have h1:=(eE.o.qD.lt _ (Option.mem_toList.1 hy)).1;have h2:=(aQ l4.o);omega
    have yx:ag (VB w6 qv (.string x0) (.string x1) (.bool x2) (.int .i64 x3) (.int .i64 x4) (.slice x5 x6 x7)):=cj.heap (yH.heap sG.o) (ec ES (yH.heap sG.o) ak);have su:=aa (cj.heap (yH.heap dQ.o) ED);have Ip:=aa (cj.heap (yH.heap (gv.o.heap l4.o)) sg);have ET:=aa (cB ng cj (nJ ng ES ak));have DH:Fr bq W5 w6:=(Fr.ar yH).trans ((ye ES cj).mono λe he=>by rcases he with rfl|rfl|rfl|rfl|rfl|rfl|rfl <;>decide);have Ol:ag (∀ x∈fl,b7 w6 B x):=λx hx=>(mB.o.ok x hx).fr DH;have aR:ag (ad W4 w6):=(gv.o.call yH).but cj λx hx=>(ES.lt x (Option.mem_toList.1 hx)).1;have eo:=aa O6;have uo:=aa mB.o.bx
    have Om:ag (I2=(keys.take (U+1)).map (gt cR)):=by
     unfold ag;rw[Oj.o,mB.o.oe,List.take_add_one,Bn.o,Option.toList_some,List.map_append,List.map_cons,List.map_nil,<- sQ.o.1]
    have tM:=(Oe.o.bi a (by rw[rB.o];exact ha)).kept ef.o;rw[qT.o,HHσ.o]at tM;have X1:ag (∀ x∈(g.σ a).L k,b7 w6 B x):=λx hx=>((tM.kept aR.o).Az yG.o hx).1;have X4:ag (∀ x∈(g.σ a).L k,x.key=k):=λx hx=>(tM.Az yG.o hx).2;have y0:=ap su.o 0;have y1:=ap su.o 1;have qlv:=ap Ip.o 0;have n1:=ap Ip.o 1;obtain⟨z0,z1,z2,z3,z4,z5,_,zl⟩:=yx.o.cells;clear ES ng yH ED sg DH tM O6 cj s0 s1 qm;by_cases hn:n=0
    ·by_cases hs:s=0
     ·subst hn hs;go_wp2_with fail
      go_roundw
      case rel=>
       refine⟨U+1,fl,I2,ab,aA,⟨aR.o,ET.o,eo.o,Om.o,Nat.le_succ_of_le uo.o,Ol.o,mB.o.EM,λk2 bb dm=> ?_⟩⟩;rw[List.take_add_one,Bn.o,Option.toList_some,Pv]at bb;rcases bb with bb|bb
       ·exact mB.o.all k2 bb dm
       ·simp only[At]at bb;subst bb;exact absurd sQ.o.1.symm dm
      case measure=>exact dY
     ·have hz:¬(n=0/\s=0):=λh=>hs h.2;have pP:(s==0)=false:=by simp[hs]
      subst hn;have aN:gt cR k≠(0,0):=by rw[<- sQ.o.1];intro e;injection e with e1 e2;exact hz ⟨e1,e2⟩
      have fq:(⟨x0,x1,x2,x3,x4,x5,x6,x7,x8⟩:ax)∈(g.σ a).L k/\x3=0/\x4=s:=by
       rcases sQ.o.2 with ⟨h,_⟩|⟨_,h|⟨h,_⟩⟩
       ·exact absurd (xg h) aN
       ·exact h.2
       ·cases h
      have mC:=aa fq;have se:=aa aN;clear aN fq;go_wp2_with (at_builtin;go_must (refine jh rfl _ _ 33 48 _ 6 80 a8 rfl underlying33 ql rfl ak ak gp uO W4.heap.size _ fl [(⟨x0,x1,x2,x3,x4,x5,x6,x7,x8⟩:ax)] rfl (ad.own ET.o ((ad.refl _).alloc _)) _ 0 1 1 rfl (Rw.one (ea ao)) (by have:=uo.o;simp;omega) (by have:=aR.o.size;simp;omega) ?_;intro v7 w7 O7 uh _))
      go_roundw
      case rel=>
       have fG:=ad.own ET.o ((ad.refl w6).alloc (.cells #[.string x0,.string x1,.bool x2,.int .i64 x3,.int .i64 x4,.slice x5 x6 x7] 48));have iB:Fr (λt=>t≠48) w6 w7:=(Fr.ar ((ad.refl _).alloc _)).trans (ye fG uh);refine⟨U+1,fl++[⟨x0,x1,x2,x3,x4,x5,x6,x7,x8⟩],I2,ab,aA,⟨(aR.o.alloc _).but uh λx hx=>(fG.lt x (Option.mem_toList.1 hx)).1,O7,cB (ad.own eo.o ((ad.refl _).alloc _)) uh (nJ (ad.own eo.o ((ad.refl _).alloc _)) fG ak),Om.o,by rw[zH];have:=uo.o;simp;omega,λx hx=> ?_,λx hx=> ?_,λk2 bb dm=> ?_⟩⟩
       ·rcases Pv.1 hx with hx|hx
        ·exact(Ol.o x hx).IX iB ak
        ·simp only[At]at hx;subst hx;exact(X1.o _ mC.o.1).IX iB ak
       ·rcases Pv.1 hx with hx|hx
        ·exact mB.o.EM x hx
        ·simp only[At]at hx;subst hx;refine⟨a,k,ha,zV Bn.o,mC.o.1,?_⟩;rw[<- sQ.o.1];simp only[mC.o.2.1,mC.o.2.2]
       ·rw[List.take_add_one,Bn.o,Option.toList_some,Pv]at bb;rcases bb with bb|bb
        ·obtain⟨x,h1,h2⟩:=mB.o.all k2 bb dm;exact⟨x,List.mem_append_left _ h1,h2⟩
        ·simp only[At]at bb;subst bb;refine⟨_,List.mem_append_right _ (At.2 rfl),X4.o _ mC.o.1,?_⟩;rw[<- sQ.o.1];simp only[mC.o.2.1,mC.o.2.2]
      case measure=>exact dY
    ·have hz:¬(n=0/\s=0):=λh=>hn h.1;have aL:(n==0)=false:=by simp[hn]
     have aN:gt cR k≠(0,0):=by rw[<- sQ.o.1];intro e;injection e with e1 e2;exact hz ⟨e1,e2⟩
     have fq:(⟨x0,x1,x2,x3,x4,x5,x6,x7,x8⟩:ax)∈(g.σ a).L k/\x3=n/\x4=s:=by
      rcases sQ.o.2 with ⟨h,_⟩|⟨_,h|⟨h,_⟩⟩
      ·exact absurd (xg h) aN
      ·exact h.2
      ·cases h
     have mC:=aa fq;have se:=aa aN;clear aN fq;go_wp2_with (at_builtin;go_must (refine jh rfl _ _ 33 48 _ 6 80 a8 rfl underlying33 ql rfl ak ak gp uO W4.heap.size _ fl [(⟨x0,x1,x2,x3,x4,x5,x6,x7,x8⟩:ax)] rfl (ad.own ET.o ((ad.refl _).alloc _)) _ 0 1 1 rfl (Rw.one (ea ao)) (by have:=uo.o;simp;omega) (by have:=aR.o.size;simp;omega) ?_;intro v7 w7 O7 uh _))
     go_roundw
     case rel=>
      have fG:=ad.own ET.o ((ad.refl w6).alloc (.cells #[.string x0,.string x1,.bool x2,.int .i64 x3,.int .i64 x4,.slice x5 x6 x7] 48));have iB:Fr (λt=>t≠48) w6 w7:=(Fr.ar ((ad.refl _).alloc _)).trans (ye fG uh);refine⟨U+1,fl++[⟨x0,x1,x2,x3,x4,x5,x6,x7,x8⟩],I2,ab,aA,⟨(aR.o.alloc _).but uh λx hx=>(fG.lt x (Option.mem_toList.1 hx)).1,O7,cB (ad.own eo.o ((ad.refl _).alloc _)) uh (nJ (ad.own eo.o ((ad.refl _).alloc _)) fG ak),Om.o,by rw[zH];have:=uo.o;simp;omega,λx hx=> ?_,λx hx=> ?_,λk2 bb dm=> ?_⟩⟩
      ·rcases Pv.1 hx with hx|hx
       ·exact(Ol.o x hx).IX iB ak
       ·simp only[At]at hx;subst hx;exact(X1.o _ mC.o.1).IX iB ak
      ·rcases Pv.1 hx with hx|hx
       ·exact mB.o.EM x hx
       ·simp only[At]at hx;subst hx;refine⟨a,k,ha,zV Bn.o,mC.o.1,?_⟩;rw[<- sQ.o.1];simp only[mC.o.2.1,mC.o.2.2]
      ·rw[List.take_add_one,Bn.o,Option.toList_some,Pv]at bb;rcases bb with bb|bb
       ·obtain⟨x,h1,h2⟩:=mB.o.all k2 bb dm;exact⟨x,List.mem_append_left _ h1,h2⟩
       ·simp only[At]at bb;subst bb;refine⟨_,List.mem_append_right _ (At.2 rfl),X4.o _ mC.o.1,?_⟩;rw[<- sQ.o.1];simp only[mC.o.2.1,mC.o.2.2]
     case measure=>exact dY
  ·obtain rfl:U=m:=ab
   have hof:ag (of=keys.map (gt cR)):=by
    unfold ag;rw[eE.o.oe,qcc (by rw[HM.o];exact CP _)]
   have b8:ag (∀ k∈keys,gt cR k≠(0,0)->∃ x∈fl,x.key=k/\(x.n,x.s)=gt cR k):=λk hk=>eE.o.all k (by rw[qcc (by rw[HM.o];exact CP _)];exact hk);obtain⟨LA,lc,rfl⟩:=ca eE.o.l;obtain⟨OA,Oh,rfl⟩:=ca eE.o.qD;have mo:=ep.o.heap XV.o;have s0:=ap mo 0;have s1:=ap mo 1;have On:=aa (Rw.bp eE.o.l gp ak);have HOR:=aa (Rw.bp eE.o.qD Aj ak);have sM:=aa ((EP.o.1.kept ef.o).kept ep.o);have jF:=aa eE.o.ok;have Oj:=aa eE.o.EM;have X5:fl.length<=1000000:=by have:=eE.o.bx;omega
   have Oo:=aa X5;obtain⟨X6,Oq⟩:=eqQ fl.length;have qlw:=aa Oq;rw[Oq]at On⊢;clear mo X5 Oq;obtain⟨W5,rfl⟩:=eqR wr;go_wp2_with fail
   refine(T3 B i (.slice SA pl sc) _ ps fl _ sM.o EP.o.2.1 On.o Oo.o jF.o).mono ?_;rintro e w6 ⟨jG,p',rfl,iH,X7,k6⟩;obtain⟨jO,jP,cv,_,_⟩:=iH.form;subst cv;have jz:=aa iH;have pB:=aa X7;obtain⟨jQ,Ot⟩:=eqQ p'.length;rw[Ot]at jz⊢;have qid:=aa Ot;obtain⟨W7,lp⟩:=eqR (w6.alloc (.cells #[.int .i64 i,.slice jO jQ jP] 75));have Ou:ad w6 W7:=by rw[lp];exact(ad.refl _).alloc _
   have rC:ag (W7.heap[w6.heap.size]? =some (.cells #[.int .i64 i,.slice jO jQ jP] 75 (0,0))):=by rw[lp];exact yY _ _
   have yI:ad W5 W7:=k6.call Ou;have fC:ag (ad W4 W7):=ep.o.call yI;have I3:=aa (jz.o.kept Ou);have EU:=aa (On.o.kept yI);have tN:=aa (HOR.o.kept yI);have qW:=aa (sM.o.kept yI);have nA:ag (∀ x∈fl,b7 W7 B x):=λx hx=>(jF.o x hx).kept yI;have yJ:=aa ((XW.o.kept ep.o).kept yI);have X8:=aE (fC.o.heap XU.o);have Ov:=aE (fC.o.heap XV.o);have t0:=X8 0;have u0:=Ov 0;have u1:=Ov 1;have v0:=aE rC.o 0;have EV:=aE rC.o 1;simp only[List.getElem?_toArray,List.getElem?_cons_zero,List.getElem?_cons_succ]at t0 u0 u1 v0 EV;obtain⟨SA2,sc2,c3,bR⟩:=AX H12.o Oe.o;obtain⟨SB,Ya,rfl,dU⟩:=pY bR (i:=i) (by have:=rB.o;omega);have I4:ad W2 W7:=ef.o.call fC.o;have c3:=I4.af c3;have dU:=I4.af dU
   have yK:ag (∀ W,ad W7 W->ba W B (g2.p i) i (g.σ i)):=λW hW=>by
    have:=(Oe.o.bi i (by have:=rB.o;omega)).kept (I4.call hW);rw[HHσ.o]at this;exact this
   obtain⟨n2,cp⟩:=eqQ g2.n;rw[cp]at c3;have hi9:i<n2:=by have:=rB.o;omega
   have qlx:w6.heap.size<W7.heap.size:=(aQ rC.o);clear iH X7 Ot Ou yI I4 X8 Ov bR cp s0 s1 k6;unfold cY;go_wp2_with fail
   rw[<- lp];clear lp;refine bz (λwB=>ad W7 wB/\wB.cell? ⟨gb,3,none⟩=some (.slice (some ⟨SB,Ya,none⟩) n2 sc2)/\wB.cell? ⟨SB,Ya+i,none⟩=some (.pointer (some ⟨(g2.p i).sb,0,none⟩))/\wB.cell? ⟨q8,0,none⟩=some (.int .i64 i)) λwB SS=> ?_;obtain⟨au,aB,aC,aF⟩:=SS.o _ (ad.refl _);repeat refine DW.dt ?_
   refine DW.nl SS ?_;rintro wd hI ⟨ae,ai,aj,aq⟩;have t0:=ae.af t0;have u1:=ae.af u1;have v0:=ae.af v0;have EV:=ae.af EV;have fC:ag (ad W4 wd):=fC.o.call ae;have rC:=aa (ae.heap rC.o);have I3:=aa (I3.o.kept ae);have EU:=aa (EU.o.kept ae);have tN:=aa (tN.o.kept ae);have qW:=aa (qW.o.kept ae);have nA:ag (∀ x∈fl,b7 wd B x):=λx hx=>(nA.o x hx).kept ae;have yJ:=aa (yJ.o.kept ae);have yK:ag (∀ W,ad wd W->ba W B (g2.p i) i (g.σ i)):=λW hW=>yK.o W (ae.call hW);have qly:w6.heap.size<wd.heap.size:=by have:=ae.size;omega
   clear ae au hI ai aj aq aB aC aF c3 dU u0;obtain⟨W8,rfl⟩:=eqR wd;go_wp2_with fail
   by_cases hcut:∃ low,cA (ps++fl.flatMap (·.ds)) low/\pE keys fl low
   ·have I5:=aa hcut;clear hcut;refine ku [0,1,2,3,4,5,6,7,8,9,11,10,12,13,14,15] [none,none,none,none,none,some (λu w'=>∃ b low,u= .bool b/\cA (ps++fl.flatMap (·.ds)) low/\(b=true↔pE keys fl low)),none,none,none,none,none,some (λu w'=>∃ l,Rw w' 60 3 aS u l/\j0 (g.σ i).L l),some (λu w'=>Rw w' 63 2 bZ u (g.σ i).own),some (λu w'=>∃ b:Bool,u= .bool b/\∃ bM,j0 (g.σ i).L bM/\(b=true↔oA bM (g.σ i).own p')),none,none] (λwB=>ad W8 wB/\wB.cell? ⟨q7,0,none⟩=some (.slice KA U kc)/\wB.cell? ⟨q8,1,none⟩=some (.slice SA pl sc)/\wB.cell? ⟨w6.heap.size,0,none⟩=some (.int .i64 i)/\wB.cell? ⟨w6.heap.size,1,none⟩=some (.slice jO jQ jP)) λwB SS=> ?_;obtain⟨au,aB,aC,aF,aX⟩:=SS.o _ (ad.refl _);iterate 5 refine SP.on ?_
    refine SP.ew ?_ λv1=> ?_
    ·intro wd hI hF;obtain⟨ae,ai,aj,aq,az⟩:=SS.o wd hI;clear hF;go_wp2_with ((go_at_call 103;refine(Ub B _ _ _ keys fl ps _ (yJ.o.kept ae) (by rw[HM.o];omega) vo.o (EU.o.kept ae) Oo.o (λx hx=>(nA.o x hx).kept ae) (qW.o.kept ae) EP.o.2.1).mono ?_;rintro e w5 ⟨b,low,rfl,h5,h6,k5⟩));exact bn rfl ⟨b,low,rfl,h5,h6⟩
    refine SP.oe (v:= .bool false) ?_ ?_
    ·intro wd hI hF;obtain⟨ae,ai,aj,aq,az⟩:=SS.o wd hI;have h1:=hF.1;clear hF;(obtain⟨wz,⟨b,low,rfl,sm,oz⟩,_⟩:=h1;obtain rfl:b=true:=oz.2 (by obtain⟨Uuf,g1,g2⟩:=I5.o;exact pE.one g1 sm g2));go_wp2_with (fail);exact aP
    refine SP.on (v:= .bool false) ?_;iterate 3 refine SP.on ?_
    refine SP.ew ?_ λv2=> ?_
    ·intro wd hI hF;obtain⟨ae,ai,aj,aq,az⟩:=SS.o wd hI;clear hF;go_wp2_with ((go_at_call 46;refine(DC B (g2.p i) _ (g.σ i) _ (yK.o _ ae) hB ab).mono ?_;rintro e w4 ⟨v',l,rfl,h4,h5,k4⟩));exact bn rfl ⟨l,h4,h5⟩
    refine SP.ew ?_ λv3=> ?_
    ·intro wd hI hF;obtain⟨ae,ai,aj,aq,az⟩:=SS.o wd hI;clear hF;go_wp2_with ((go_at_call 85;refine(tD B (g2.p i) _ (g.σ i) _ (yK.o _ ae)).mono ?_;rintro e w4 ⟨v',rfl,h4,k4⟩));exact bn rfl h4
    refine SP.ew ?_ λv4=> ?_
    ·intro wd hI hF;obtain⟨ae,ai,aj,aq,az⟩:=SS.o wd hI;have h1:=hF.2.1 av;have h2:=hF.1 av;clear hF;go_wp2_with ((go_at_call 104;obtain⟨wa,⟨hl,kC,gg⟩,nw⟩:=h1;obtain⟨wb,hr,kb⟩:=h2;obtain⟨RA,rc,rfl,_,_⟩:=hr.form;refine(T0 i (.slice jO jQ jP) _ p' hl RA _ rc (g.σ i).own _ (I3.o.kept ae) pB.o.cg (kC.kept nw) gg.cg (hr.kept kb).rows).mono ?_;rintro e w5 ⟨b,rfl,h5,k5⟩));exact bn rfl ⟨b,rfl,hl,gg,h5⟩
    refine SP.oe (v:=N8 v4) ?_ ?_
    ·intro wd hI hF;obtain⟨ae,ai,aj,aq,az⟩:=SS.o wd hI;have h1:=hF.1;clear hF;(obtain⟨wz,⟨b,rfl,_⟩,_⟩:=h1);go_wp2_with (fail);exact aP
    refine SP.oe (v:=N8 v4) ?_ ?_
    ·intro wd hI hF;obtain⟨ae,ai,aj,aq,az⟩:=SS.o wd hI;have h1:=hF.1;clear hF;(obtain⟨wz,⟨b,rfl,_⟩,_⟩:=h1);go_wp2_with (fail);exact aP
    refine SP.nil av λwd hI hF=> ?_;obtain⟨ae,ai,aj,aq,az⟩:=SS.o wd hI;have h1:=hF.1;clear hF SS;obtain⟨wz,⟨b,rfl,bM,vp,Yb⟩,_⟩:=h1;have qie:=aa vp;have qif:=aa Yb;unfold N8;clear vp Yb
    cases b
    ·skip
     have e':=aa (fC.o.call ae);have vU:=aa (e'.o.heap lF.o);clear ae au hI;go_wp2_with fail
     refine(gl 16 _).mono ?_;rintro e w6 ⟨rfl,k6⟩;have aZ:=aa (k6.heap vU.o);have aR:=aa k6;clear k6;obtain⟨p0,p1,p2,p3⟩:=dg aZ.o;go_wp2_with fail
     have aL:=bC aZ.o (.int .i64 16) (.slice none 0 0);have y0:=ap aL 0;have y1:=ap aL 1;refine KV (v:= .agg #[.int .i64 16,.slice none 0 0]) (by simp[results,results61,go_sem,y0,y1]) rfl ?_;obtain⟨r1,r2⟩:=df dr.o ab cI.o (lA.o.kept ((ef.o.call e'.o).call aR.o)) (nG.o.trans (.ar ((ef.o.call e'.o).call aR.o)));exact⟨16,_,[],_,rfl,Rw.nil _,r1.mono ab,.inl ⟨ak,rfl,mA.o⟩,r2⟩
    have t0:=ae.af t0;have e':ag (ad W4 wd):=fC.o.call ae;have Yc:=aa (ae.heap rC.o);have EW:=aa (I3.o.kept ae);have DF:=aa (EU.o.kept ae);have pM:=aa (tN.o.kept ae);have HY9:=aa (yJ.o.kept ae);have vT:=aa ((lA.o.kept (ef.o.call e'.o)).mono (show B<=B+1 by omega));have vU:=aa (e'.o.heap lF.o);have AK:ag (yB wd w.heap.size c):=⟨_,(e'.o.heap sO.o),rfl⟩;have EH:=aa (nG.o.trans (.ar (ef.o.call e'.o)));have hlen:(g2.bJ.length:Int)<=8*B:=by have:=HHH.o;rw[this];exact cX
    have k0:=aa hlen;obtain⟨W9,rfl⟩:=eqR wd;clear ae au hI ai aj aq az aB aC aF aX u1 v0 EV hlen;have qlz:w6.heap.size<W9.heap.size:=(aQ Yc.o);go_wp2_with fail
    go_loopw [130] (λiv wr=>∃ j2:Nat,j2<=U/\iv= .int .i64 j2/\ag (aT wr (B+1) gb {g2 with bJ:=g2.bJ++(keys.take j2).map λk=>⟨2,c,k,(gt cR k).1,(gt cR k).2,jO,jQ,jP,p'⟩})/\ag (bN W9 wr)/\ag (yB wr w.heap.size c)) (λiv _=>U-(intOf iv).toNat)
    case atStart=>exact⟨0,ab,rfl,by simp only[List.take_zero,List.map_nil,List.append_nil];exact vT.o,.ar (ad.refl _),AK⟩
    case round=>
     obtain⟨j2,yL,rfl,hg,hf,hx⟩:=hrel;have I6:=hx.o.cell;have Nw:=hf.o.block _ _ _ Yc.o (by unfold iM iK;decide);have v0:=ap Nw 0;have EV:=ap Nw 1;have ma:=aa (EW.o.fr hf.o (by unfold iM iK;decide));by_cases sI:j2<U
     ·obtain⟨k,hk⟩:=exQ keys j2 (by rw[HM.o];exact sI);obtain⟨kb,EQ,rfl,_,vY⟩:=(HY9.o.fr hf.o (by unfold iM iK;decide)).af hk;have dD:=iU vY;simp only[Nat.mul_one]at dD;have ho:of[j2]? =some (gt cR k):=by rw[hof.o,List.getElem?_map,hk];rfl
      obtain⟨ob,oo,rfl,_,Yd⟩:=(pM.o.fr hf.o (by unfold iM iK;decide)).af ho;obtain⟨ud,o1⟩:=Uuh Yd;have qlA:j2<of.length:=(bg ho)
      have ld:ag ((keys.take (j2+1)).map (λk=>(⟨2,c,k,(gt cR k).1,(gt cR k).2,jO,jQ,jP,p'⟩:nK))=(keys.take j2).map (λk=>⟨2,c,k,(gt cR k).1,(gt cR k).2,jO,jQ,jP,p'⟩)++[⟨2,c,k,(gt cR k).1,(gt cR k).2,jO,jQ,jP,p'⟩]):=by
       unfold ag;rw[List.take_add_one,hk,Option.toList_some,List.map_append,List.map_cons,List.map_nil]
      have fL:ag (((keys.take j2).map (λk=>(⟨2,c,k,(gt cR k).1,(gt cR k).2,jO,jQ,jP,p'⟩:nK))).length=j2):=by
       unfold ag;rw[List.length_map,qcd,HM.o];omega
      generalize j4:(gt cR k).1=n1 at ud ld;generalize cp:(gt cR k).2=IE at o1 ld
      have HEV:ag (∀ wq,ad wr wq->Calls prog 89 #[.pointer (some ⟨gb,0,none⟩),.int .i64 2,.int .i64 c,.string k,.agg #[.int .i64 n1,.int .i64 IE],.slice jO jQ jP] wq λe w'=>e= .returned (.tuple #[])/\aT w' (B+1) gb {g2 with bJ:=g2.bJ++(keys.take (j2+1)).map λk=>⟨2,c,k,(gt cR k).1,(gt cR k).2,jO,jQ,jP,p'⟩}/\bN wq w'):=λwq hq=>by
       have h:=Na (B+1) (B+1) gb _ ⟨2,c,k,n1,IE,jO,jQ,jP,p'⟩ wq (hg.o.kept hq) (Int.le_refl _) ab (by simp only[zH,fL.o];have:=k0.o;omega) (ma.o.kept hq) qid.o;simp only[List.append_assoc]at h;rw[ld.o];exact h
      clear hk vY ho Yd fL ld j4 cp;go_wp2_with fail
      refine bz (λwB=>ad wr wB/\wB.cell? ⟨w.heap.size,1,none⟩=some (.int .i64 c)/\wB.cell? ⟨ob,oo+j2*2,none⟩=some (.int .i64 n1)/\wB.cell? ⟨ob,oo+j2*2+1,none⟩=some (.int .i64 IE)/\wB.cell? ⟨w6.heap.size,1,none⟩=some (.slice jO jQ jP)) λwB SS=> ?_;obtain⟨au,aB,aC,aF,aX⟩:=SS.o _ (ad.refl _);iterate 10 (first|refine DW.dt ?_|(refine DW.bt av ?_;intro wd hI;obtain⟨ae,ai,aj,aq,az⟩:=SS.o wd hI;go_wp2_with (fail);refine cu hI SS (λbf SS=> ?_) rfl;obtain⟨au,aB,aC,aF,aX⟩:=SS.o _ (ad.refl _)))
      refine DW.tail av λwd hI=> ?_;obtain⟨ae,ai,aj,aq,az⟩:=SS.o wd hI;clear SS;have Ow:=aa ae;clear hI ai aj aq az aB aC aF aX au ae;go_wp2_with fail
      refine(HEV.o _ Ow.o).mono ?_;rintro e yz ⟨rfl,Ye,uq⟩;have I7:=aa Ye;have NQ:=aa ((hf.o.trans (.ar Ow.o)).trans uq);have Ox:=aa ((hx.o.fr (.ar Ow.o)).fr uq);clear Ye uq;go_wp2_with fail
      go_roundw
      case rel=>exact⟨j2+1,ab,aA,I7,NQ,Ox⟩
      case measure=>exact dY
     ·obtain rfl:j2=U:=ab
      have dS:ag (aT wr (B+1) gb {g2 with bJ:=g2.bJ++keys.map λk=>⟨2,c,k,(gt cR k).1,(gt cR k).2,jO,jQ,jP,p'⟩}):=by
       have:=hg.o;rw[qcc (by rw[HM.o];exact CP _)]at this;exact this
      have qig:=aa (DF.o.fr hf.o (by unfold iM iK;decide))
      have vJ:∀ d∈p',d.n<=B+1:=λd hd=>by
       rcases Pv.1 (pB.o.mem d hd)with h|h
       ·have:=EP.o.2.2.1 d h;omega
       ·obtain⟨x,hx,h⟩:=List.mem_flatMap.1 h;have hv:=nA.o x hx;rcases Pv.1 h with h|h
        ·have:=hv.gR d h;omega
        ·simp only[At]at h;subst h;have:=hv.n;simp only[Dz];omega
      obtain⟨qih,EX,h2r⟩:=dS.o;obtain⟨y0,y1⟩:=EX.bY bO;have f0:=EX.fP (5+c*2);have f1:=EX.fP (5+c*2+1);obtain⟨qii,Yf⟩:=eqQ (Value.int .i64 (({g2 with bJ:=g2.bJ++keys.map λk=>⟨2,c,k,(gt cR k).1,(gt cR k).2,jO,jQ,jP,p'⟩}:aG).ss c).1);rw[Yf]at y0;obtain⟨qij,Yg⟩:=eqQ (qih.sp c);rw[Yg]at y1;have hi9:i<g2.n:=by have:=rB.o;omega
      have Iw:=aa vJ;have Yh:=aa EX;clear vJ Yf Yg EX h2r;go_wp2_with fail
      refine bz (λwB=>ad wr wB/\wB.cell? ⟨w.heap.size,1,none⟩=some (.int .i64 c)/\wB.cell? ⟨w6.heap.size,0,none⟩=some (.int .i64 i)/\wB.cell? ⟨w6.heap.size,1,none⟩=some (.slice jO jQ jP)/\wB.cell? ⟨gb,5+c*2,none⟩=some (qii)/\wB.cell? ⟨gb,5+c*2+1,none⟩=some (qij)) λwB SS=> ?_;obtain⟨au,aB,aC,aF,aX,bK⟩:=SS.o _ (ad.refl _);iterate 7 (first|refine DW.dt ?_|(refine DW.bt av ?_;intro wd hI;obtain⟨ae,ai,aj,aq,az,aK⟩:=SS.o wd hI;go_wp2_with (fail);refine cu hI SS (λbf SS=> ?_) rfl;obtain⟨au,aB,aC,aF,aX,bK⟩:=SS.o _ (ad.refl _)))
      refine DW.tail av λwd hI=> ?_;obtain⟨ae,ai,aj,aq,az,aK⟩:=SS.o wd hI;clear SS;have f0:=aI (ae.heap Yh.o) (5+c*2);have f1:=aI (ae.heap Yh.o) (5+c*2+1);obtain⟨r1,r2⟩:=aT.Ef (dS.o.kept ae) bO (s:=i) (pv:= .slice jO jQ jP) (ds:=p') (ma.o.kept ae) pB.o.cg Iw.o ⟨ab,by show(i:Int)<g2.n;omega⟩;have dv:=aa r1;have yf:=aa (((EH.o.trans hf.o).trans (.ar ae)).trans r2);have cN:=aa ((qig.o.kept ae).fr r2 (by unfold iM iK;decide));have AW:=aa (gY cI.o yf.o);clear r1 r2;go_wp2_with fail
      refine(AQ _ _ _ _).mono ?_;rintro e yM ⟨rfl,sR⟩;have Oy:=aa (sR.heap AW.o);have EY:=aa sR;have qik:=aa (cN.o.kept sR);clear sR;obtain⟨p0,p1,p2,p3⟩:=dg Oy.o;go_wp2_with fail
      have aL:=bC Oy.o (.int .i64 0) (.slice LA X6 lc);have y0:=ap aL 0;have y1:=ap aL 1;refine KV (v:= .agg #[.int .i64 0,.slice LA X6 lc]) (by simp[results,results61,go_sem,y0,y1]) rfl ?_;obtain⟨r1,r2⟩:=df dr.o ab cI.o (dv.o.kept EY.o) (yf.o.trans (.ar EY.o));refine⟨0,_,fl,_,rfl,qik.o.fr (yq Oy.o) (by unfold bq;decide),r1,.inr ⟨rfl,?_⟩,r2⟩;obtain⟨low,gX,SI⟩:=I5.o;refine⟨cR,low,p',bM,g.pins.take jN++g.pins.drop (jN+1),jO,jQ,jP,λx hx=> ?_,?_,?_,?_,?_,qie.o,qif.o.1 trivial,?_⟩
      ·obtain⟨s,k,h1,h2,h3,h4⟩:=Oj.o x hx;exact⟨s,k,h1,by rw[I0.o];exact h2,h3,h4⟩
      ·rw[I0.o];exact b8.o
      ·rw[bX.o];exact gX
      ·rw[I0.o];exact SI
      ·rw[bX.o];exact pB.o
      ·rw[I0.o,vA.o]
   ·have I5:=aa hcut;clear hcut;refine ku [0,1,2,3,4,5,6,7,8,9,11,10,12,13,14,15] [none,none,none,none,none,some (λu w'=>∃ b low,u= .bool b/\cA (ps++fl.flatMap (·.ds)) low/\(b=true↔pE keys fl low)),none,none,none,none,none,none,none,none,none,none] (λwB=>ad W8 wB/\wB.cell? ⟨q7,0,none⟩=some (.slice KA U kc)/\wB.cell? ⟨q8,1,none⟩=some (.slice SA pl sc)/\wB.cell? ⟨w6.heap.size,0,none⟩=some (.int .i64 i)/\wB.cell? ⟨w6.heap.size,1,none⟩=some (.slice jO jQ jP)) λwB SS=> ?_;obtain⟨au,_⟩:=SS.o _ (ad.refl _);iterate 5 refine SP.on ?_
    refine SP.ew ?_ λv1=> ?_
    ·intro wd hI hF;obtain⟨ae,ai,aj,aq,az⟩:=SS.o wd hI;clear hF;go_wp2_with ((go_at_call 103;refine(Ub B _ _ _ keys fl ps _ (yJ.o.kept ae) (by rw[HM.o];omega) vo.o (EU.o.kept ae) Oo.o (λx hx=>(nA.o x hx).kept ae) (qW.o.kept ae) EP.o.2.1).mono ?_;rintro e w5 ⟨b,low,rfl,h5,h6,k5⟩));exact bn rfl ⟨b,low,rfl,h5,h6⟩
    refine SP.oe (v:= .bool true) ?_ ?_
    ·intro wd hI hF;obtain⟨ae,ai,aj,aq,az⟩:=SS.o wd hI;have h1:=hF.1;clear hF;(obtain⟨wz,⟨b,low,rfl,sm,oz⟩,_⟩:=h1;obtain rfl:b=false:=qh8 (λhb=>I5.o ⟨low,sm,oz.1 hb⟩));go_wp2_with (fail);exact aP
    refine SP.on (v:= .bool true) ?_;refine SP.on (v:=undef) ?_;refine SP.on (v:=undef) ?_;refine SP.on (v:=undef) ?_;refine SP.on (v:=undef) ?_;refine SP.on (v:=undef) ?_;refine SP.on (v:=undef) ?_;refine SP.on (v:=undef) ?_;refine SP.on (v:= .bool true) ?_;refine SP.nil av λwd hI hF=> ?_;obtain⟨ae,ai,aj,aq,az⟩:=SS.o wd hI;clear hF SS;have e':=aa (fC.o.call ae);have vU:=aa (e'.o.heap lF.o);clear ae au hI;go_wp2_with fail
    refine(gl 16 _).mono ?_;rintro e w6 ⟨rfl,k6⟩;have aZ:=aa (k6.heap vU.o);have aR:=aa k6;clear k6;obtain⟨p0,p1,p2,p3⟩:=dg aZ.o;go_wp2_with fail
    have aL:=bC aZ.o (.int .i64 16) (.slice none 0 0);have y0:=ap aL 0;have y1:=ap aL 1;refine KV (v:= .agg #[.int .i64 16,.slice none 0 0]) (by simp[results,results61,go_sem,y0,y1]) rfl ?_;obtain⟨r1,r2⟩:=df dr.o ab cI.o (lA.o.kept ((ef.o.call e'.o).call aR.o)) (nG.o.trans (.ar ((ef.o.call e'.o).call aR.o)));exact⟨16,_,[],_,rfl,Rw.nil _,r1.mono ab,.inl ⟨ak,rfl,mA.o⟩,r2⟩
end Go.Proofs.YtehaoggjlciobaaGreat

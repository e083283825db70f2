/- Part 23 of 40. -/
import Derived.Test.YtehaoggjlciobaaGreatQbf
set_option linter.all false
set_option maxRecDepth 20000
set_option maxHeartbeats 16000000
namespace Go.Proofs.YtehaoggjlciobaaGreat
open Go.RowKit Go.Maps Go.Proofs.Tryz
variable {B:Int} {L:List nK} {U a c gb q:Nat} {x0 x1 y0 y1:Value} {w w2:World} {V:e9} {e:nK}
structure EvAt (w:World) (v:Value) (L:List nK):Prop where
 row:Rw w 92 6 sF v L
 seen:∀ e∈L,Rw w 60 3 aS (.slice e.pa e.pn e.pc) e.ds
 key:∀ e∈L,Let e.key
 cg:∀ e∈L,b9 e.ds
theorem EvAt.kept {v:Value} (h:EvAt w v L) (k:ad w w2):EvAt w2 v L:=⟨h.row.kept k,λe he=>(h.seen e he).kept k,h.key,h.cg⟩
structure RightP (L:List nK) (i:Nat) (e:nK):Prop where
 cov:∀ k x,k<i->L[k]? =some x->x.Ij=e.Ij->La e.ds x.ds/\La e.ds [evD x]
 kind:(e.kind=1/\fu e.n e.s=true/\(∀ d∈e.ds,c8 d.n d.s e.n e.s=true)/\∀ k x,k<i->L[k]? =some x->x.kind=1->¬(x.n=e.n/\x.s=e.s))∨
  (e.kind=2/\c8 e.n e.s (gt e.ds e.key).1 (gt e.ds e.key).2=false/\((e.n=0/\e.s=0)∨∃ k x,k<i/\L[k]? =some x/\x.kind=1/\x.n=e.n/\x.s=e.s/\x.key=e.key))
def ThereP (L:List nK) (e:nK) (U:Nat) (iC:Bool):Prop:=(e.kind=1->iC=false)/\((∃ k x,k<U/\L[k]? =some x/\x.kind=1/\x.n=e.n/\x.s=e.s/\x.key=e.key)->e.kind≠1->iC=true)
def LastP (L:List nK) (e:nK) (U:Nat) (l5:Int):Prop:=l5= -1∨∃ (k:Nat) (x:nK),l5=k/\k<U/\L[k]? =some x/\x.Ij=e.Ij
theorem ThereP.no {y:nK} {iC:Bool} (h:ThereP L e U iC) (hy:L[U]? =some y) (hn:¬(y.kind=1/\y.n=e.n/\y.s=e.s/\y.key=e.key)):ThereP L e (U+1) iC:=
 ⟨h.1,λ⟨k,x,hk,hx,h1,h2,h3,h4⟩ he=>by
  rcases R6 k U with g|g
  ·exact h.2 ⟨k,x,g,hx,h1,h2,h3,h4⟩ he
  ·obtain rfl:k=U:=ab;rw[hy]at hx;injection hx with hx;subst hx;exact absurd ⟨h1,h2,h3,h4⟩ hn⟩
theorem ThereP.yes (h:e.kind≠1):ThereP L e U true:=⟨λg=>absurd g h,λ_ _=>rfl⟩
theorem LastP.no {l5:Int} (h:LastP L e U l5):LastP L e (U+1) l5:=h.imp id λ⟨k,x,h1,h2,h3⟩=>⟨k,x,h1,ab,h3⟩
theorem cov_all {p a l:List aD} {d:aD} (h1:La p a) (h2:La p [d]) (hl:∀ x∈l,x∈a∨x=d):La p l:=λx hx=>by
 rcases hl x hx with g|rfl
 ·exact h1 x g
 ·exact h2 _ (At.2 rfl)
def Dir (L:List nK) (i U:Nat):Prop:=i<U/\∃ x y,L[i]? =some x/\L[U]? =some y/\(x.Ij=y.Ij∨(y.kind=2/\x.kind=1/\x.key=y.key/\x.n=y.n/\x.s=y.s))
inductive Ahd (L:List nK):Nat->Nat->Prop
 |one {i U}:Dir L i U->Ahd L i U
 |more {i U k}:Ahd L i U->Dir L U k->Ahd L i k
theorem Ahd.cons {b i:Nat} (h:Dir L a b) (k:Ahd L b i):Ahd L a i:=by
 induction k with
 |one d=>exact .more (.one h) d
 |more _ d ih=>exact .more ih d
structure ee where
 k:Int
 c:Int
 s:Int
 t:Int
 a:Int
 h:Int
 key:ByteArray
 val:ByteArray
 kv:Value
 rv:Value
 ov:Value
 pv:Value
def il (qD:ee):Array Value:= #[.int .i64 qD.k,.int .i64 qD.c,.int .i64 qD.s,.int .i64 qD.t,.int .i64 qD.a,.int .i64 qD.h,.string qD.key,.string qD.val,qD.kv,qD.rv,qD.ov,qD.pv]
def dx (qD:ee):Value:= .agg (il qD)
def gm (er:Int) (fv:Value):Value:= .agg #[.int .i64 er,fv]
def yo:Value:= .slice none 0 0
theorem GB.bY {g:aG} (h:GB w gb g V) (hc:c<4):w.cell? ⟨gb,5+c*2,none⟩=some (.int .i64 (g.ss c).1)/\w.cell? ⟨gb,5+c*2+1,none⟩=some (V.sp c):=by
 rcases(show c=0∨c=1∨c=2∨c=3 by omega)with rfl|rfl|rfl|rfl <;>exact⟨aE h _,aE h _⟩
theorem GB.fP {g:aG} (h:GB w gb g V) (qD:Nat):w.frozen? ⟨gb,qD,none⟩=false:=aI h qD
theorem gY (h:w.heap[q]? =some (.cells #[x0,x1] 42 (0,0))) (hf:bN w w2):w2.heap[q]? =some (.cells #[x0,x1] 42 (0,0)):=hf.block _ _ _ h ak
theorem Fr.old {P:TypeId->Prop} {w3:World} (hf:Fr P w w2) (hb:ah [q] w2 w3) (hq:w.heap.size<=q):Fr P w w3:=
 ⟨hb.os.trans hf.os,hb.tape.trans hf.tape,hb.output.trans hf.output,qcg hf.size hb.size,λb cur e h1 h2=>hb.heap (hf.block b cur e h1 h2) (by have:=(aQ h1);simp;omega)⟩
theorem aT.Ws {g:aG} {x:Array Value} (h:aT w B gb g) (hA:w.heap[q]? =some (.cells x 42 (0,0))) (hb:ah [q] w w2):aT w2 B gb g:=by
 obtain⟨V,h1,h2⟩:=h;refine⟨V,hb.heap h1 ?_,h2.other hb λy hy _=> ?_⟩
 ·simp only[At];rintro rfl;rw[GB]at h1;exact fB h1 hA ak rfl
 ·simp only[At]at hy;subst hy;exact⟨_,_,hA,.inr ak⟩
theorem df {wd:World} {g:aG} (hk:ad w wd) (hq:w.heap.size<=q) (hA:wd.heap[q]? =some (.cells #[x0,x1] 42 (0,0))) (h1:aT w2 B gb g) (h2:bN wd w2):
  aT ((w2.setCell ⟨q,0,none⟩ y0).setCell ⟨q,1,none⟩ y1) B gb g/\bN w ((w2.setCell ⟨q,0,none⟩ y0).setCell ⟨q,1,none⟩ y1):=
 ⟨h1.Ws (gY hA h2) (ah.bC q y0 y1),((Fr.ar hk).trans h2).old (ah.bC q y0 y1) hq⟩
theorem qgX (B:Int) (gb:Nat) (g:aG) (qD:ee) (c:Nat) (w:World) (h:aT w B gb g) (hc:qD.c=c) (bO:c<4):
  Calls prog 58 #[.pointer (some ⟨gb,0,none⟩),dx qD] w λe w'=>e= .returned (gm 0 yo)/\aT w' B gb {g with ss:=ed g.ss c (-1,(g.ss c).2)}/\bN w w':=by
 have an:=h.lt;obtain⟨V,h1,h2⟩:=h;obtain⟨fx,nQ⟩:=h1.bY bO;obtain⟨tZ,cg,pn,_⟩:=h2.a6.bY c bO;obtain⟨PA,pc,cv,_,_⟩:=tZ.form;obtain⟨s0,pQ⟩:=eqQ ((g.ss c).1);have HG:ag (aT w B gb g):=⟨V,h1,h2⟩;have H1:=aa h1;have H2:=aa h2;rw[pQ]at fx;rw[cv]at nQ;obtain⟨pl,cO⟩:=eqQ ((g.ss c).2.length);rw[cO]at nQ cv;have HPV:=aa cv;obtain⟨ok,oc,os,ot,oa,oh,bT,dj,dq,dH,dI,dJ⟩:=qD;simp only at hc;subst hc;clear h1 h2 pQ tZ cv cO;unfold dx il;simp only;go_wp2;refine bz (λwB=>ad w wB/\ad ((w.alloc (.cells #[.int .i64 ok,.int .i64 c,.int .i64 os,.int .i64 ot,.int .i64 oa,.int .i64 oh,.string bT,.string dj,dq,dH,dI,dJ] 36)).alloc (.cells #[.int .i64 0,.slice none 0 0] 42)) wB/\wB.cell? ⟨w.heap.size,1,none⟩=some (.int .i64 c)/\wB.cell? ⟨gb,5+c*2,none⟩=some (.int .i64 s0)/\wB.cell? ⟨gb,5+c*2+1,none⟩=some (.slice PA pl pc)) λwB SS=> ?_;obtain⟨au,br,aB,aC,aF⟩:=SS.o _ (ad.refl _);repeat(apply DW.ct;(focus (intro wd hI;obtain⟨ae,ay,ai,aj,aq⟩:=SS.o wd hI;go_wp2_with (first|(go_at_call 94;refine(TZ s0 PA pl pc _).mono ?_;rintro e w6 ⟨rfl,cL⟩));exact aP));refine DW.np ?_)
 refine DW.tail av λwd hI=> ?_;obtain⟨ae,ay,ai,aj,aq⟩:=SS.o wd hI;clear SS;have hA:wd.heap[w.heap.size+1]? =some (.cells #[.int .i64 0,.slice none 0 0] 42 (0,0)):=ay.heap (by have h:=yY (w.alloc (.cells #[.int .i64 ok,.int .i64 c,.int .i64 os,.int .i64 ot,.int .i64 oa,.int .i64 oh,.string bT,.string dj,dq,dH,dI,dJ] 36)) (.cells #[.int .i64 0,.slice none 0 0] 42);rw[World.size_alloc]at h;exact h);have jo:GB wd gb g V:=ae.heap H1.o;have yp:=aa (HG.o.kept ae);have HA:=aa hA;have f0:=jo.fP (5+c*2);have f1:=jo.fP (5+c*2+1);have a0:=aI hA 0;have bj:=aI hA 1;have x0:wd.cell? ⟨w.heap.size+1,0,none⟩=some (.int .i64 0):=aE hA 0;have x1:wd.cell? ⟨w.heap.size+1,1,none⟩=some (.slice none 0 0):=aE hA 1;have ma:=aa (HPV.o▸(H2.o.a6.bY c bO).1.kept ae);have qm:=H2.o.a6.fit.fit.cV;have aN:gb≠w.heap.size+1:=ab;obtain⟨r1,r2⟩:=yp.o.Ef bO (s:= -1) ma.o cg pn ⟨Int.le_refl _,ab⟩;have qgY:=aa r1;have Wt:=aa r2;clear hA jo r1 r2;unfold cY;go_wp2;have hA2:=gY HA.o Wt.o;have aL:=bC hA2 (.int .i64 0) (.slice none 0 0);have y0:=ap aL 0;have y1:=ap aL 1;refine KV (v:= .agg #[.int .i64 0,.slice none 0 0]) (by simp[results,results58,go_sem,y0,y1]) rfl ?_;exact⟨rfl,df ae ab HA.o qgY.o Wt.o⟩
def Wu (g:aG) (qD:ee) (er:Int) (fl:List ax) (g':aG):Prop:=
 (er≠0/\fl=[]/\g'=g)∨(er=0/\∃ (i:Nat) (x:ax) (σ':ci),qD.s=i/\i<g.n/\fl=[x]/\Uj (g.σ i) x true σ'/\g'={g with σ:=ed g.σ i σ'})
theorem yq (h:w.heap[q]? =some (.cells #[x0,x1] 42 (0,0))):Fr bq w ((w.setCell ⟨q,0,none⟩ y0).setCell ⟨q,1,none⟩ y1):=Fr.one (ah.bC q y0 y1) h ak
theorem pU {xs ys:Array Value} {a b:TypeId}:((w.alloc (.cells xs a)).alloc (.cells ys b)).heap[w.heap.size]? =some (.cells xs a (0,0))/\((w.alloc (.cells xs a)).alloc (.cells ys b)).heap[w.heap.size+1]? =some (.cells ys b (0,0)):=
 ⟨((ad.refl _).alloc _).heap (yY w _),by have h:=yY (w.alloc (.cells xs a)) (.cells ys b);rw[World.size_alloc]at h;exact h⟩
theorem Wv {α:Type} (f:Nat->α) (i:Nat):ed f i (f i)=f:=by funext U;unfold ed;split <;>simp_all
theorem qgZ (w:World) (a qD:Obj):((w.alloc a).alloc qD).heap[w.heap.size+1]? =some qD:=by have h:=yY (w.alloc a) qD;rw[World.size_alloc]at h;exact h
theorem dg (h:w.heap[q]? =some (.cells #[x0,x1] 42 (0,0))):w.cell? ⟨q,0,none⟩=some x0/\w.cell? ⟨q,1,none⟩=some x1/\w.frozen? ⟨q,0,none⟩=false/\w.frozen? ⟨q,1,none⟩=false:=⟨aE h 0,aE h 1,aI h 0,aI h 1⟩
theorem qg0 (B:Int) (gb:Nat) (g:aG) (qD:ee) (w:World) (h:aT w B gb g) (hB:0<=B) (h9:B<=900):
  Calls prog 64 #[.pointer (some ⟨gb,0,none⟩),dx qD] w λe w'=>∃ er fv fl g',e= .returned (gm er fv)/\Rw w' 48 6 a8 fv fl/\aT w' B gb g'/\Wu g qD er fl g'/\bN w w':=by
 have HG:=aa h;have an:=h.lt;clear h;obtain⟨ok,oc,os,ot,oa,oh,bT,dj,dq,dH,dI,dJ⟩:=qD;unfold dx il;simp only;obtain⟨bS,dT⟩:=pU (w:=w) (xs:= #[.int .i64 ok,.int .i64 oc,.int .i64 os,.int .i64 ot,.int .i64 oa,.int .i64 oh,.string bT,.string dj,dq,dH,dI,dJ]) (ys:= #[.int .i64 0,.slice none 0 0]) (a:=36) (b:=42);have dG:=aa bS;have dy:=aa dT;clear bS dT;by_cases c7:0<=os/\os<(g.n:Int)
 ·obtain⟨i,rfl⟩:∃ i:Nat,os=i:=⟨os.toNat,ab⟩;have hi:i<g.n:=ab;go_in;go_wp2_with fail
  refine(Eg B gb g i _ (HG.o.kept al)).mono ?_;rw[if_pos c7];simp only[Int.toNat_natCast];rintro e w1 ⟨rfl,k1⟩;have K1:ad w w1:=ad.call al k1;have cC:=aa (k1.heap dy.o)
  have HS:ag (ba w1 B (g.p i) i (g.σ i)):=by
   obtain⟨V,_,h2⟩:=HG.o;exact(h2.bi i hi).kept K1
  have HG1:=aa (HG.o.kept K1);clear k1;go_wp2_with fail
  refine(qez B (g.p i) i (g.σ i) w1 HS.o hB ab).mono ?_;rintro e w5 ⟨⟨x0,x1,x2,x3,x4,x5,x6,x7,x8⟩,b,σ',rfl,h1,h2,h3,h4⟩;obtain⟨r1,r2⟩:=HG1.o.tY hi h1 (h3.mono (by intro y hy;simp at hy⊢;rcases hy with rfl|rfl <;>simp)) h4 (Int.le_refl _);have dv:=aa r1;have di:=aa r2;have hV:=aa h2;have HV:ag (b=true->Rw w5 48 6 a8 yo []):=λ_=>Rw.nil _;have dh:=aa (gY cC.o r2);have GG:=di.o.size;have aY:=K1.size;have kp:w.heap.size+1<w1.heap.size:=(aQ cC.o);have En:VB (w5.alloc (.cells #[.string x0,.string x1,.bool x2,.int .i64 x3,.int .i64 x4,.slice x5 x6 x7] 48)) w5.heap.size (.string x0) (.string x1) (.bool x2) (.int .i64 x3) (.int .i64 x4) (.slice x5 x6 x7):=yY _ _;have Ww:ad w5 (w5.alloc (.cells #[.string x0,.string x1,.bool x2,.int .i64 x3,.int .i64 x4,.slice x5 x6 x7] 48)):=(ad.refl _).alloc _;have Ir:=aa En;have Wx:=aa Ww;clear h1 h2 h3 h4 r1 r2 En Ww;unfold aM;obtain⟨p0,p1,p2,p3⟩:=dg dh.o;have jE:w.heap.size+1<w5.heap.size:=(aQ dh.o);clear Ir
  cases b
  ·go_wp2_with fail
   refine(gl 12 _).mono ?_;rintro e w6 ⟨rfl,k6⟩;have aZ:=aa (k6.heap (Wx.o.heap dh.o));obtain⟨p0,p1,p2,p3⟩:=dg aZ.o;have aR:=aa (Wx.o.call k6);clear k6;go_wp2;have aL:=bC aZ.o (.int .i64 12) (.slice none 0 0);have y0:=ap aL 0;have y1:=ap aL 1;refine KV (v:= .agg #[.int .i64 12,.slice none 0 0]) (by simp[results,results64,go_sem,y0,y1]) rfl ?_;obtain⟨q1,q2⟩:=df K1 ab cC.o (dv.o.kept aR.o) (di.o.trans (.ar aR.o));refine⟨12,_,[],_,rfl,Rw.nil _,q1,.inl ⟨ak,rfl,?_⟩,q2⟩;rcases hV.o with ⟨_,_,h⟩|⟨h,_⟩
   ·rw[h,Wv]
   ·cases h
  ·go_wp2_with fail
   refine(AQ _ 1 1 _).mono ?_;rintro e w6 ⟨rfl,k6⟩;have cN:=aa ((Rw.one (f:=a8) (a:=⟨x0,x1,x2,x3,x4,x5,x6,x7,x8⟩) (e:=48) (k:=6) (qgZ w5 _ (.cells #[.string x0,.string x1,.bool x2,.int .i64 x3,.int .i64 x4,.slice x5 x6 x7] 48))).kept k6);have K6:ad w5 w6:=ad.call al k6;have aZ:=aa (K6.heap dh.o);obtain⟨p0,p1,p2,p3⟩:=dg aZ.o;have aR:=aa K6;clear k6;go_wp2;have aL:=bC aZ.o (.int .i64 0) (.slice (some ⟨w5.heap.size+1,0,none⟩) 1 1);have y0:=ap aL 0;have y1:=ap aL 1;refine KV (v:= .agg #[.int .i64 0,.slice (some ⟨w5.heap.size+1,0,none⟩) 1 1]) (by simp[results,results64,go_sem,y0,y1]) rfl ?_;obtain⟨q1,q2⟩:=df K1 ab cC.o (dv.o.kept aR.o) (di.o.trans (.ar aR.o));exact⟨0,_,_,_,rfl,cN.o.fr (yq aZ.o) (by unfold bq;decide),q1,.inr ⟨rfl,i,_,σ',rfl,hi,rfl,hV.o,rfl⟩,q2⟩
 ·go_in;go_wp2_with fail
  refine(Eg B gb g os _ (HG.o.kept al)).mono ?_;rw[if_neg c7];rintro e w1 ⟨rfl,k1⟩;have K1:ad w w1:=ad.call al k1;have cC:=aa (k1.heap dy.o);clear k1;go_wp2_with fail
  refine(gl 1 _).mono ?_;rintro e w6 ⟨rfl,k6⟩;have aZ:=aa (k6.heap cC.o);obtain⟨p0,p1,p2,p3⟩:=dg aZ.o;have aR:=aa k6;clear k6;go_wp2;have aL:=bC aZ.o (.int .i64 1) (.slice none 0 0);have y0:=ap aL 0;have y1:=ap aL 1;refine KV (v:= .agg #[.int .i64 1,.slice none 0 0]) (by simp[results,results64,go_sem,y0,y1]) rfl ?_;obtain⟨q1,q2⟩:=df K1 ab cC.o (HG.o.kept (K1.call aR.o)) (.ar aR.o);exact⟨1,_,[],_,rfl,Rw.nil _,q1,.inl ⟨ak,rfl,rfl⟩,q2⟩
def Wy (g:aG) (s t:Nat) (er:Int) (g':aG):Prop:=g'=g∨(er=0/\de g.n s t=true/\g'={g with st:=gj g.st s t (tX (g.st s t))})
theorem Wz (x:bF):(tX x).T.length=x.T.length/\(tX x).aw.length=x.aw.length+min (x.T.length-x.lo) (32-x.aw.length):=by
 refine⟨rfl,?_⟩;show(ym _ _ _).length=_
 unfold ym tV;simp
theorem Ni {st:Nat->Nat->bF} {B2:Int} {x:bF} (h:∀ a b,a<6->b<6->((st a b).T.length:Int)<=B/\((st a b).aw.length:Int)<=32+B) (hB:B<=B2) (hx:(x.T.length:Int)<=B2/\(x.aw.length:Int)<=32+B2):∀ i U,i<6->U<6->((gj st a c x i U).T.length:Int)<=B2/\((gj st a c x i U).aw.length:Int)<=32+B2:=λi U hi hj=>by
 have:=h i U hi hj;unfold gj;split <;>omega
theorem qg1 (B:Int) (gb:Nat) (g:aG) (qD:ee) (s t:Nat) (w:World) (h:aT w B gb g) (hB:0<=B) (h9:B<=900) (hs:qD.s=s) (ht:qD.t=t) (fR:s<6) (fT:t<6):
  Calls prog 63 #[.pointer (some ⟨gb,0,none⟩),dx qD] w λe w'=>∃ er g',e= .returned (gm er yo)/\aT w' B gb g'/\Wy g s t er g'/\bN w w':=by
 have HG:=aa h;have an:=h.lt;obtain⟨V,h1,h2⟩:=h;have h4:w.cell? ⟨gb,4,none⟩=some (.pointer (some ⟨V.N,0,none⟩)):=aE h1 4;have H1:=aa h1;have H2:=aa h2;have cX:=h2.bx s t fR fT;clear h1 h2;obtain⟨ok,oc,os,ot,oa,oh,bT,dj,dq,dH,dI,dJ⟩:=qD;unfold dx il;simp only at*;obtain⟨bS,dT⟩:=pU (w:=w) (xs:= #[.int .i64 ok,.int .i64 oc,.int .i64 os,.int .i64 ot,.int .i64 oa,.int .i64 oh,.string bT,.string dj,dq,dH,dI,dJ]) (ys:= #[.int .i64 0,.slice none 0 0]) (a:=36) (b:=42);have dG:=aa bS;have dy:=aa dT;clear bS dT;subst hs ht
 cases hP:de g.n s t
 ·skip
  go_wp2;refine bz (λwB=>ad w wB/\ad ((w.alloc (.cells #[.int .i64 ok,.int .i64 oc,.int .i64 s,.int .i64 t,.int .i64 oa,.int .i64 oh,.string bT,.string dj,dq,dH,dI,dJ] 36)).alloc (.cells #[.int .i64 0,.slice none 0 0] 42)) wB/\wB.cell? ⟨gb,4,none⟩=some (.pointer (some ⟨V.N,0,none⟩))/\wB.cell? ⟨w.heap.size,2,none⟩=some (.int .i64 s)/\wB.cell? ⟨w.heap.size,3,none⟩=some (.int .i64 t)) λwB SS=> ?_;obtain⟨au,br,aB,aC,aF⟩:=SS.o _ (ad.refl _);iterate 8 (first|refine DW.dt ?_|(refine DW.bt av ?_;intro wd hI;obtain⟨ae,ay,ai,aj,aq⟩:=SS.o wd hI;go_wp2;refine cu hI SS (λbf SS=> ?_) rfl;obtain⟨au,br,aB,aC,aF⟩:=SS.o _ (ad.refl _)))
  refine DW.tail av λwd hI=> ?_;obtain⟨ae,ay,ai,aj,aq⟩:=SS.o wd hI;clear SS;have cI:=aa (ay.heap dy.o);have jo:=aa (show GB wd gb g V from ae.heap H1.o);have nP:=aa (H2.o.kept ae);go_wp2_with fail
  refine(qgB (bare g wd) (j6 g) V.N (de g.n) g.st s t s t wd nP.o.Ec (Eb g wd) rfl rfl fR fT hP).mono ?_;rintro e w5 ⟨rfl,gq⟩;obtain⟨jL,dS⟩:=aT.Ed jo.o nP.o gq (Int.le_refl _) nP.o.bx;have lA:=aa jL;have Eo:=aa dS;have dh:=aa (gY cI.o dS);clear gq jL dS;go_wp2_with fail
  refine(gl 12 _).mono ?_;rintro e w6 ⟨rfl,k6⟩;have aZ:=aa (k6.heap dh.o);have aR:=aa k6;clear k6;obtain⟨p0,p1,p2,p3⟩:=dg aZ.o;go_wp2;have aL:=bC aZ.o (.int .i64 12) (.slice none 0 0);have y0:=ap aL 0;have y1:=ap aL 1;refine KV (v:= .agg #[.int .i64 12,.slice none 0 0]) (by simp[results,results63,go_sem,y0,y1]) rfl ?_;obtain⟨q1,q2⟩:=df ae ab cI.o (lA.o.kept aR.o) (Eo.o.trans (.ar aR.o));exact⟨12,_,rfl,q1,.inl rfl,q2⟩
 ·obtain⟨k,hk⟩:=eqQ (tV (g.st s t).T (g.st s t).lo (g.st s t).aw);have HK:=aa hk;clear hk;rcases Nat.eq_zero_or_pos k with Cw|Cw
  ·subst Cw;go_wp2;refine bz (λwB=>ad w wB/\ad ((w.alloc (.cells #[.int .i64 ok,.int .i64 oc,.int .i64 s,.int .i64 t,.int .i64 oa,.int .i64 oh,.string bT,.string dj,dq,dH,dI,dJ] 36)).alloc (.cells #[.int .i64 0,.slice none 0 0] 42)) wB/\wB.cell? ⟨gb,4,none⟩=some (.pointer (some ⟨V.N,0,none⟩))/\wB.cell? ⟨w.heap.size,2,none⟩=some (.int .i64 s)/\wB.cell? ⟨w.heap.size,3,none⟩=some (.int .i64 t)) λwB SS=> ?_;obtain⟨au,br,aB,aC,aF⟩:=SS.o _ (ad.refl _);iterate 8 (first|refine DW.dt ?_|(refine DW.bt av ?_;intro wd hI;obtain⟨ae,ay,ai,aj,aq⟩:=SS.o wd hI;go_wp2;refine cu hI SS (λbf SS=> ?_) rfl;obtain⟨au,br,aB,aC,aF⟩:=SS.o _ (ad.refl _)))
   refine DW.tail av λwd hI=> ?_;obtain⟨ae,ay,ai,aj,aq⟩:=SS.o wd hI;clear SS;have cI:=aa (ay.heap dy.o);have jo:=aa (show GB wd gb g V from ae.heap H1.o);have nP:=aa (H2.o.kept ae);go_wp2_with fail
   refine(Wj (bare g wd) (j6 g) V.N (de g.n) g.st s t s t wd nP.o.Ec (Eb g wd) rfl rfl fR fT hP ab ab).mono ?_;rw[HK.o];rintro e w5 ⟨rfl,gq⟩;obtain⟨jL,dS⟩:=aT.Ed jo.o nP.o gq (Int.le_refl _) (Ni nP.o.bx (Int.le_refl _) (by have:=Wz (g.st s t);omega))
   have hid:gj g.st s t (tX (g.st s t))=g.st:=by
    have he:tX (g.st s t)=g.st s t:=by
     unfold tX ym;rw[HK.o];simp
    rw[he];funext i U;unfold gj;split
    ·rename_i h;rw[h.1,h.2]
    ·rfl
   rw[hid]at jL;have lA:=aa jL;have Eo:=aa dS;have dh:=aa (gY cI.o dS);clear gq jL dS hid;go_wp2_with fail
   refine(gl 12 _).mono ?_;rintro e w6 ⟨rfl,k6⟩;have aZ:=aa (k6.heap dh.o);have aR:=aa k6;clear k6;obtain⟨p0,p1,p2,p3⟩:=dg aZ.o;go_wp2;have aL:=bC aZ.o (.int .i64 12) (.slice none 0 0);have y0:=ap aL 0;have y1:=ap aL 1;refine KV (v:= .agg #[.int .i64 12,.slice none 0 0]) (by simp[results,results63,go_sem,y0,y1]) rfl ?_;obtain⟨q1,q2⟩:=df ae ab cI.o (lA.o.kept aR.o) (Eo.o.trans (.ar aR.o));exact⟨12,_,rfl,q1,.inl rfl,q2⟩
  ·have eN:((k:Int)==0)=false:=by simp;omega
   go_wp2;refine bz (λwB=>ad w wB/\ad ((w.alloc (.cells #[.int .i64 ok,.int .i64 oc,.int .i64 s,.int .i64 t,.int .i64 oa,.int .i64 oh,.string bT,.string dj,dq,dH,dI,dJ] 36)).alloc (.cells #[.int .i64 0,.slice none 0 0] 42)) wB/\wB.cell? ⟨gb,4,none⟩=some (.pointer (some ⟨V.N,0,none⟩))/\wB.cell? ⟨w.heap.size,2,none⟩=some (.int .i64 s)/\wB.cell? ⟨w.heap.size,3,none⟩=some (.int .i64 t)) λwB SS=> ?_;obtain⟨au,br,aB,aC,aF⟩:=SS.o _ (ad.refl _);iterate 8 (first|refine DW.dt ?_|(refine DW.bt av ?_;intro wd hI;obtain⟨ae,ay,ai,aj,aq⟩:=SS.o wd hI;go_wp2;refine cu hI SS (λbf SS=> ?_) rfl;obtain⟨au,br,aB,aC,aF⟩:=SS.o _ (ad.refl _)))
   refine DW.tail av λwd hI=> ?_;obtain⟨ae,ay,ai,aj,aq⟩:=SS.o wd hI;clear SS;have cI:=aa (ay.heap dy.o);have jo:=aa (show GB wd gb g V from ae.heap H1.o);have nP:=aa (H2.o.kept ae);go_wp2_with fail
   refine(Wj (bare g wd) (j6 g) V.N (de g.n) g.st s t s t wd nP.o.Ec (Eb g wd) rfl rfl fR fT hP ab ab).mono ?_;rw[HK.o];rintro e w5 ⟨rfl,gq⟩;obtain⟨jL,dS⟩:=aT.Ed jo.o nP.o gq (Int.le_refl _) (Ni nP.o.bx (Int.le_refl _) (by have:=Wz (g.st s t);omega));have lA:=aa jL;have Eo:=aa dS;have dh:=aa (gY cI.o dS);clear gq jL dS;obtain⟨p0,p1,p2,p3⟩:=dg dh.o;go_wp2;have aL:=bC dh.o (.int .i64 0) (.slice none 0 0);have y0:=ap aL 0;have y1:=ap aL 1;refine KV (v:= .agg #[.int .i64 0,.slice none 0 0]) (by simp[results,results63,go_sem,y0,y1]) rfl ?_;obtain⟨q1,q2⟩:=df ae ab cI.o lA.o Eo.o;exact⟨0,_,rfl,q1,.inr ⟨rfl,hP,rfl⟩,q2⟩
def WB (g:aG) (c s:Nat) (er:Int) (g':aG):Prop:=(er≠0/\g'=g)∨(er=0/\s<g.n/\(g.ss c).1<= -1/\(∃ bM,j0 (g.σ s).L bM/\oA bM (g.σ s).own (g.ss c).2)/\g'={g with ss:=ed g.ss c ((s:Int),(g.ss c).2)})
theorem qg2 (B:Int) (gb:Nat) (g:aG) (qD:ee) (c s:Nat) (w:World) (h:aT w B gb g) (hB:0<=B) (h9:B<=900) (hc:qD.c=c) (bO:c<4) (hs:qD.s=s):
  Calls prog 59 #[.pointer (some ⟨gb,0,none⟩),dx qD] w λe w'=>∃ er g',e= .returned (gm er yo)/\aT w' B gb g'/\WB g c s er g'/\bN w w':=by
 have HG:=aa h;have an:=h.lt;obtain⟨V,h1,h2⟩:=h;obtain⟨fx,nQ⟩:=h1.bY bO;obtain⟨tZ,cg,pn,_⟩:=h2.a6.bY c bO;have ma:=aa tZ;have bX:=aa cg;obtain⟨PA,pc,cv,_,_⟩:=tZ.form;obtain⟨s0,pQ⟩:=eqQ ((g.ss c).1);have Nj:=aa pQ;rw[pQ]at fx;rw[cv]at nQ ma;obtain⟨ps,b'⟩:=eqQ ((g.ss c).2);have jz:=aa b';rw[b']at nQ ma bX;obtain⟨pl,cO⟩:=eqQ ps.length;rw[cO]at nQ ma;have H1:=aa h1;have H2:=aa h2;clear h1 h2 tZ cg pn cv pQ b' cO;obtain⟨ok,oc,os,ot,oa,oh,bT,dj,dq,dH,dI,dJ⟩:=qD;unfold dx il;simp only at*;obtain⟨bS,dT⟩:=pU (w:=w) (xs:= #[.int .i64 ok,.int .i64 oc,.int .i64 os,.int .i64 ot,.int .i64 oa,.int .i64 oh,.string bT,.string dj,dq,dH,dI,dJ]) (ys:= #[.int .i64 0,.slice none 0 0]) (a:=36) (b:=42);have dG:=aa bS;have dy:=aa dT;clear bS dT;subst hs hc;by_cases hi:s<g.n
 ·have HS:ag (∀ W,ad w W->ba W B (g.p s) s (g.σ s)):=λW hW=>(H2.o.bi s hi).kept hW;go_in;go_wp2_with fail
  refine(Eg B gb g s _ (HG.o.kept al)).mono ?_;rw[if_pos ab];simp only[Int.toNat_natCast];rintro e w1 ⟨rfl,k1⟩;have K1:ad w w1:=ad.call al k1;have cC:=aa (k1.heap dy.o);have b6:=aa (k1.heap dG.o);have e1:=ap b6.o 1;have e2:=ap b6.o 2;have fx:=K1.af fx;have nQ:=K1.af nQ;clear k1;go_wp2;refine ku [0,1,2,3,4,5,6,7,8,9,11,10,12,13,14,15,16,17,18,19] [none,none,none,none,none,none,none,none,none,none,none,some (λu w'=>∃ l,Rw w' 60 3 aS u l/\j0 (g.σ s).L l),some (λu w'=>Rw w' 63 2 bZ u (g.σ s).own),some (λu w'=>∃ s' jG er,u= .tuple #[cY s' jG,.int .i64 er]/\∃ bM,j0 (g.σ s).L bM/\T1 s0 s (.slice PA pl pc) bM ps (g.σ s).own s' jG er),none,none,none,some (λu w'=>∃ q,u= .pointer (some ⟨q,0,none⟩)/\w1.heap.size<=q/\SB w' q (.int .i64 0) (.slice none 0 0))] (λwB=>ad w wB/\ad w1 wB/\wB.cell? ⟨w.heap.size,1,none⟩=some (.int .i64 c)/\wB.cell? ⟨w.heap.size,2,none⟩=some (.int .i64 s)/\wB.cell? ⟨gb,5+c*2,none⟩=some (.int .i64 s0)/\wB.cell? ⟨gb,5+c*2+1,none⟩=some (.slice PA pl pc)) λwB SS=> ?_;obtain⟨au,br,_⟩:=SS.o _ (ad.refl _);iterate 11 refine SP.on ?_
  refine SP.ew ?_ λv1=> ?_
  ·intro wd hI hF;obtain⟨ae,ay,ai,aj,aq,az⟩:=SS.o wd hI;clear hF;go_wp2_with ((go_at_call 46;refine(DC B (g.p s) s (g.σ s) _ (HS.o _ ae) hB ab).mono ?_;rintro e w4 ⟨v',l,rfl,h4,h5,k4⟩));exact bn rfl ⟨l,h4,h5⟩
  refine SP.ew ?_ λv2=> ?_
  ·intro wd hI hF;obtain⟨ae,ay,ai,aj,aq,az⟩:=SS.o wd hI;clear hF;go_wp2_with ((go_at_call 85;refine(tD B (g.p s) s (g.σ s) _ (HS.o _ ae)).mono ?_;rintro e w4 ⟨v',rfl,h4,k4⟩));exact bn rfl h4
  refine SP.ew ?_ λv3=> ?_
  ·intro wd hI hF;obtain⟨ae,ay,ai,aj,aq,az⟩:=SS.o wd hI;have h1:=hF.2.1 av;have h2:=hF.1 av;clear hF;go_wp2_with ((go_at_call 95;obtain⟨wa,⟨hl,kC,gg⟩,nw⟩:=h1;obtain⟨wb,hr,kb⟩:=h2;obtain⟨RA,rc,rfl,_,_⟩:=hr.form;refine(qej s0 s (.slice PA pl pc) _ ps hl RA _ rc (g.σ s).own _ (ma.o.kept ae) bX.o (kC.kept nw) gg.cg (hr.kept kb).rows).mono ?_;rintro e w5 ⟨s',jG,er,rfl,h5,k5⟩));exact bn rfl ⟨s',jG,er,rfl,hl,gg,h5⟩
  refine SP.on (v:=v3) ?_;refine SP.oe (v:=eH v3 0) ?_ ?_
  ·intro wd hI hF;obtain⟨ae,ay,ai,aj,aq,az⟩:=SS.o wd hI;have h1:=hF.1;clear hF;(obtain⟨w9,⟨s',jG,er,rfl,_⟩,_⟩:=h1);go_wp2;exact aP
  refine SP.oe (v:=eH v3 1) ?_ ?_
  ·intro wd hI hF;obtain⟨ae,ay,ai,aj,aq,az⟩:=SS.o wd hI;have h1:=hF.1;clear hF;(obtain⟨w9,⟨s',jG,er,rfl,_⟩,_⟩:=h1);go_wp2;exact aP
  refine SP.ew ?_ λv4=> ?_
  ·intro wd hI hF;obtain⟨ae,ay,ai,aj,aq,az⟩:=SS.o wd hI;clear hF;go_wp2;exact bn rfl ⟨_,rfl,ay.size,yY _ _⟩
  refine SP.late [16] av av ?_;intro wd hI hF;obtain⟨ae,ay,ai,aj,aq,az⟩:=SS.o wd hI;have h1:=hF.2.1;have h2:=hF.1;clear hF SS;obtain⟨w9,⟨s',jG,er,rfl,bM,vp,AS⟩,k9⟩:=h1;obtain⟨w8,⟨q,rfl,ko,hq⟩,k8⟩:=h2;simp only[tz,tA];have V2:SB wd q (.int .i64 0) (.slice none 0 0):=k8.heap hq;obtain⟨z0,z1,zf,zl⟩:=V2.cells;have g0:=zf 0;have g1:=zf 1;have eY:=aa V2
  obtain⟨PB,Ep,tj,rfl⟩:∃ PB Ep tj,jG= .slice PB Ep tj:=by
   rcases AS with ⟨_,_,h,_⟩|⟨_,_,h⟩ <;>exact⟨_,_,_,h⟩
  have Nk:=aa AS;have DD:=aa vp;have aY:=K1.size;have kp:w.heap.size+1<w1.heap.size:=(aQ cC.o);clear AS vp k8 hq V2 zf k9;unfold cY;refine TL.go ?_;refine TL.go ?_;refine TL.nil ?_;obtain⟨W3,db⟩:=eqR ((wd.setCell ⟨q,0,none⟩ (.int .i64 s')).setCell ⟨q,1,none⟩ (.slice PB Ep tj));have ck:ah [q] wd W3:=by rw[db];exact ah.bC q _ _
  have K3:ad w W3:=ad.but ae ck (by simp;omega);have sj:ad w1 W3:=ad.but ay ck (by simp;omega);have HX:SB W3 q (.int .i64 s') (.slice PB Ep tj):=by rw[db];exact(eY.o.s0 _).s1 _
  rw[<- db];have gM:=aa (sj.heap cC.o);have im:=aa (sj.heap b6.o);have pV:=aa (HG.o.kept K3);have eI:=aa K3;have e1:=ap im.o 1;clear db ck z0 z1 g0 g1 zl ae ay au br K1 sj hI;obtain⟨z0,z1,_,zl⟩:=HX.cells;have AK:=aa HX;clear HX;rcases Nk.o with ⟨rfl,rfl,lk,_,_,hle,mK⟩|⟨aN,rfl,_⟩
  ·obtain⟨rfl,rfl,rfl⟩:PA=PB/\pl=Ep/\pc=tj:=by injection lk with a b c;exact⟨a.symm,b.symm,c.symm⟩
   have ii:=aa mK;have Db:=aa hle;clear mK lk;obtain⟨V3,Is,WD⟩:=pV.o;have qk':=Is.fP (5+c*2);have qla:=Is.fP (5+c*2+1);have H13:=aa Is;have H23:=aa WD;clear Is WD;go_wp2;refine bz (λwB=>ad W3 wB/\wB.cell? ⟨w.heap.size,1,none⟩=some (.int .i64 c)/\wB.cell? ⟨q,0,none⟩=some (.int .i64 s)/\wB.cell? ⟨q,1,none⟩=some (.slice PA pl pc)) λwB SS=> ?_;obtain⟨au,aB,aC,aF⟩:=SS.o _ (ad.refl _);iterate 7 (first|refine DW.dt ?_|(refine DW.bt av ?_;intro wd hI;obtain⟨ae,ai,aj,aq⟩:=SS.o wd hI;go_wp2;refine cu hI SS (λbf SS=> ?_) rfl;obtain⟨au,aB,aC,aF⟩:=SS.o _ (ad.refl _)))
   refine DW.tail av λwd hI=> ?_;obtain⟨ae,ai,aj,aq⟩:=SS.o wd hI;clear SS;have jo:GB wd gb g V3:=ae.heap H13.o;obtain⟨x0,x1⟩:=jo.bY bO;have f0:=jo.fP (5+c*2);have f1:=jo.fP (5+c*2+1);have cI:=aa (ae.heap gM.o);have hp:Rw wd 60 3 aS (.slice PA pl pc) (g.ss c).2:=by rw[jz.o];exact ma.o.kept (eI.o.call ae)
   obtain⟨r1,r2⟩:=(pV.o.kept ae).Ef bO (s:=s) hp (by rw[jz.o];exact bX.o) (λd hd=>(H23.o.a6.bY c bO).2.2.1 d hd) ⟨ab,ab⟩;have dv:=aa r1;have di:=aa r2;have dh:=aa (gY cI.o r2);have e':=aa (eI.o.call ae);clear r1 r2 hp jo;go_wp2_with fail
   refine(gl 0 _).mono ?_;rintro e w6 ⟨rfl,k6⟩;have aZ:=aa (k6.heap dh.o);have aR:=aa k6;clear k6;obtain⟨p0,p1,p2,p3⟩:=dg aZ.o;go_wp2;have aL:=bC aZ.o (.int .i64 0) (.slice none 0 0);have y0:=ap aL 0;have y1:=ap aL 1;refine KV (v:= .agg #[.int .i64 0,.slice none 0 0]) (by simp[results,results59,go_sem,y0,y1]) rfl ?_;obtain⟨q1,q2⟩:=df e'.o ab cI.o (dv.o.kept aR.o) (di.o.trans (.ar aR.o));exact⟨0,_,rfl,q1,.inr ⟨rfl,hi,by rw[Nj.o];exact Db.o,⟨bM,DD.o,by rw[jz.o];exact ii.o⟩,rfl⟩,q2⟩
  ·have Ar:(er==0)=false:=by simp;omega
   go_wp2_with fail
   refine(gl er _).mono ?_;rintro e w6 ⟨rfl,k6⟩;have aZ:=aa (k6.heap gM.o);have aR:=aa k6;clear k6;obtain⟨p0,p1,p2,p3⟩:=dg aZ.o;go_wp2;have aL:=bC aZ.o (.int .i64 er) (.slice none 0 0);have y0:=ap aL 0;have y1:=ap aL 1;refine KV (v:= .agg #[.int .i64 er,.slice none 0 0]) (by simp[results,results59,go_sem,y0,y1]) rfl ?_;obtain⟨q1,q2⟩:=df eI.o ab gM.o (pV.o.kept aR.o) (.ar aR.o);exact⟨er,_,rfl,q1,.inl ⟨aN,rfl⟩,q2⟩
 ·go_in;go_wp2_with fail
  refine(Eg B gb g s _ (HG.o.kept al)).mono ?_;rw[if_neg ab];rintro e w1 ⟨rfl,k1⟩;have K1:ad w w1:=ad.call al k1;have cC:=aa (k1.heap dy.o);clear k1;go_wp2_with fail
  refine(gl 1 _).mono ?_;rintro e w6 ⟨rfl,k6⟩;have aZ:=aa (k6.heap cC.o);have aR:=aa k6;clear k6;obtain⟨p0,p1,p2,p3⟩:=dg aZ.o;go_wp2;have aL:=bC aZ.o (.int .i64 1) (.slice none 0 0);have y0:=ap aL 0;have y1:=ap aL 1;refine KV (v:= .agg #[.int .i64 1,.slice none 0 0]) (by simp[results,results59,go_sem,y0,y1]) rfl ?_;obtain⟨q1,q2⟩:=df K1 ab cC.o (HG.o.kept (K1.call aR.o)) (.ar aR.o);exact⟨1,_,rfl,q1,.inl ⟨ak,rfl⟩,q2⟩
end Go.Proofs.YtehaoggjlciobaaGreat

/- Part 17 of 40. -/
import Derived.RangeFuncNested
import Derived.RangeFuncBound
import Derived.RangeFuncCalls
import Derived.RangeFuncLeaves
import Derived.Shelf.Abstract
import Derived.Shelf.RegionOpen
import Derived.OwnWalkIn
import Derived.TacticsInMore
import Derived.LoopNIn
import Derived.LoopIn
import Derived.Maps.AppendAt
import Derived.Test.YtehaoggjlciobaaGreatQai
set_option linter.all false
set_option maxRecDepth 20000
set_option maxHeartbeats 16000000
namespace Go.Proofs.YtehaoggjlciobaaGreat
open Go.RowKit Go.Shelf Go.Proofs.Tryz
variable {s:Int} {os:List Int} {es:List Nat} {ps:List cf} {U i:Nat} {w:World} {x:cf}
attribute [local go_sem] Oper.semAt_some
def x9 (d:aD):Value:= .agg #[.string d.key,.int .i64 d.n,.int .i64 d.s]
def gi (ps:List cf):List aD:=ps.flatMap (·.ds)
theorem UH (h:ps[i]? =some x):gi (ps.take (i+1))=gi (ps.take i)++x.ds:=by
 have an:=(bg h);unfold gi;rw[QI an,(pi.1 h).2];simp
theorem qeS (h:ps[i]? =some x) (hj:U<x.ds.length):(gi (ps.take i)++x.ds.take U).length<(gi ps).length:=by
 have h1:(gi (ps.take (i+1))).length<=(gi ps).length:=by
  conv=>rhs;rw[<- List.take_append_drop (i+1) ps]
  unfold gi;rw[List.flatMap_append,zH];omega
 rw[UH h,zH]at h1;rw[zH,qcd];omega
def sx (w:World) (v:Value) (ps:List cf):Prop:=Rw w 166 2 gS v ps/\∀ x∈ps,Rw w 60 3 aS (.slice x.uN x.gR x.dz) x.ds/\x.ds.length=x.gR
theorem UI (w:World) (qD:Obj):w.grownBy (w.alloc qD) none:=World.grownBy_alloc w qD none
theorem qeT {b p:Nat} {x y:Value} (h:∀ U u,[x,y][U]? =some u->w.cell? ⟨b,p+U,none⟩=some u):w.cell? ⟨b,p,none⟩=some x/\w.cell? ⟨b,p+1,none⟩=some y:=⟨h 0 _ rfl,h 1 _ rfl⟩
theorem qeU (F:Fence) (n:Nat) (hf:F.fn 247) (ej:F.round=none) (hn:1<=n) (l Bs:Nat) (w0:World) (v:Value) (ps:List cf) (hv:sx w0 v ps) (cO:ps.length<=1000) (kt:∀ x∈ps,x.ds.length<=1000) (J Jx:List aD->World->Prop)
  (hY:∀ pre x W,J pre W->pre.length<(gi ps).length->YieldAt F (n-1) prog l #[x9 x] W λe W'=>(e= .returned (.bool true)/\J (pre++[x]) W'/\Below w0.heap.size W W')∨(e= .returned (.bool false)/\Jx (pre++[x]) W'))
  (W:World) (kK:AbidesFrom W.heap.size J) (hK:ad w0 W) (DL:W.cell? ⟨Bs,0,none⟩=some v) (h0:J [] W):
  CallsIn F n prog 247 #[.func (.yield l) #[] #[],.pointer (some ⟨Bs,0,none⟩)] W λe W'=>(∃ v,e= .returned v)/\((∃ ys,ys=gi ps/\J ys W')∨(∃ pre,True/\Jx pre W')):=by
 obtain⟨A,c,rfl,bl,bQ⟩:=hv.1.form;obtain⟨m,hm⟩:=eqQ ps.length;have HV:=aa hv;have HY:=aa hY;have HM:=aa hm;have HJ:=aa kK;have tu:=aa kt;rw[hm]at HV cO bl DL;clear hv hY hm kK kt;refine callsIn_of_wp func247 rfl hf ?_ ej;simp only[ntmps247,List.size_toArray,List.length_cons,List.length_nil,Nat.reduceAdd,Nat.reduceSub,Array.replicate_succ,Array.replicate_zero,List.push_toArray,List.append_toArray,List.nil_append,List.cons_append];gi_wp2
 gi_loopw [9] (λiv wr=>∃ i:Nat,i<=m/\iv= .int .i64 i/\ag (J (gi (ps.take i)) wr)/\ad w0 wr) (λiv _=>m-(intOf iv).toNat)
 case atStart=>exact⟨0,ab,rfl,h0,hK⟩
 case round=>
  obtain⟨i,hi,rfl,vv,kr⟩:=hrel;by_cases an:i<m
  ·obtain⟨x,hx⟩:=exQ ps i (by rw[HM.o];exact an);obtain⟨b,off,rfl,hb,hc⟩:=HV.o.1.af hx;obtain⟨Hm,pf⟩:=HV.o.2 x (zV hx);have HX:=aa hx;have HXD:=aa Hm;have dN:=tu.o x (zV hx);obtain⟨x0,x1,x2,x3,x4⟩:=x;obtain⟨c0,c1⟩:=qeT λU u hu=>kr.af (hc U u hu);simp only at dN pf;clear hc hx Hm;gi_wp2
   gi_loopw [16] (λjv w1=>∃ U:Nat,U<=x2/\jv= .int .i64 U/\ag (J (gi (ps.take i)++x4.take U) w1)/\ad w0 w1) (λjv _=>x2-(intOf jv).toNat)
   case atStart=>exact⟨0,ab,rfl,by unfold ag;simpa using HJ.o _ _ _ none vv.o (UI _ _) (λr e=>by cases e),kr.alloc _⟩
   case round=>
    obtain⟨U,hj,rfl,UJ,k1⟩:=hrel;by_cases UK:U<x2
    ·obtain⟨d,hd⟩:=exQ x4 U ab;obtain⟨b2,gA,rfl,bG,cz⟩:=HXD.o.af hd;have hlen:=qeS HX.o (show U<x4.length by omega)
     have j1:ag (gi (ps.take i)++x4.take U++[d]=gi (ps.take i)++x4.take (U+1)):=by
      have MD:=(bg hd);rw[QI MD,(pi.1 hd).2,List.append_assoc];rfl
     obtain⟨d0,d1,d2⟩:=d;obtain⟨e0,e1,e2⟩:=kQ λU u hu=>k1.af (cz U u hu);obtain⟨fn,tmps,assign,body,hy,hR⟩:=HY.o _ ⟨d0,d1,d2⟩ _ (HJ.o _ _ (wr.alloc (.cells #[.string d0,.int .i64 d1,.int .i64 d2] 60)) none UJ.o (UI _ _) (λr e=>by cases e)) hlen;dsimp only[x9]at hy
     clear cz hd hlen;gi_wp2
     refine hR.mono ?_;rintro e W3 (⟨rfl,qY,lj⟩|⟨rfl,x'⟩)
     ·have tI:ag (J (gi (ps.take i)++x4.take (U+1)) W3):=by rw[<- j1.o];exact qY
      have k3:ad w0 W3:=(k1.alloc _).trans lj;clear qY;gi_wp2
      go_roundw
      case rel=>exact⟨U+1,ab,aA,tI,k3⟩
      case measure=>exact dY
     ·gi_wp2
      refine KV (results_none rfl _ _ _) rfl ?_;exact⟨⟨_,rfl⟩,.inr ⟨_,trivial,x'⟩⟩
    ·obtain rfl:U=x2:=ab
     have tI:ag (J (gi (ps.take (i+1))) wr):=by
      unfold ag;rw[UH HX.o];have h:=UJ.o;rw[qcc (l:=x4) ab]at h;exact h
     gi_wp2
     go_roundw
     case rel=>exact⟨i+1,ab,aA,tI,k1⟩
     case measure=>exact dY
  ·obtain rfl:i=m:=ab;gi_wp2
   go_end0
   exact⟨⟨_,rfl⟩,.inl ⟨_,rfl,by have h:=vv.o;rwa [qcc (by rw[HM.o];omega)]at h⟩⟩
theorem UL (F:Fence) (n:Nat) (hf:F.fn 189) (ej:F.round=none) (A:Option Addr) (m c:Nat) (w:World):
  CallsIn F n prog 189 #[.slice A m c] w λe w'=>e= .returned (.func (.func 247) #[] #[.pointer (some ⟨w.heap.size,0,none⟩)])/\w'=w.alloc (.cells #[.slice A m c] 80):=by
 refine callsIn_of_wp func189 rfl hf ?_ ej;simp only[ntmps189,List.size_toArray,List.length_cons,List.length_nil,Nat.reduceAdd,Nat.reduceSub,Array.replicate_succ,Array.replicate_zero,List.push_toArray,List.append_toArray,List.nil_append,List.cons_append];gi_wp2
 go_ret;exact⟨rfl,rfl⟩
theorem UM {W W':World} {row:Option Nat} {B:Nat} {cur:Array Value} {e:TypeId} (h:W.heap[B]? =some (.cells cur e (0,0))) (hg:W.grownBy W' row) (hr:∀ r,row=some r->∃ qD:Obj,W.heap[r]? =some qD/\qD.isCells=false):W'.heap[B]? =some (.cells cur e (0,0)):=
 (hg.block B (aQ h) (λrM=>by obtain⟨qD,ho,hc⟩:=hr B rM.symm;rw[h]at ho;cases ho;cases hc)).trans h
theorem qeV (W:World) (a b c:Value) (t:TypeId):∀ (U:Nat) u,[a,b,c][U]? =some u->(W.alloc (.cells #[a,b,c] t)).cell? ((⟨W.heap.size,0,none⟩:Addr).add U)=some u:=by
 intro U u hu;rw[Addr.add_lit,Nat.zero_add,aE (yY W _) U,<- hu];exact List.getElem?_toArray
theorem qeW (F:Fence) (n:Nat) (hf:F.fn 246) (ej:F.round=none) (hn:2<=n) (g:Nat) (lb:Array Value) (ya:F.fn g) (lO:∀ args w,(callFunc g args).run prog w= .ok (.enter g args) w) (w0 w:World) (hk:ad w0 w) (S Sp:List aD->Prop) (N:Nat) (hN:N<=1000000)
  (nB:SeqStopsK F (n-1) prog g lb (λx:aD=> #[x9 x]) (Below w0.heap.size) S Sp N w):
  CallsIn F n prog 246 #[.slice none 0 0,.func (.func g) #[] lb] w λe w'=>∃ v ds,e= .returned v/\S ds/\w'.ownsRow w.heap.size 60 3 v ds.length (ds.flatMap aS)/\ad w w':=by
 have h1:1<=n:=ab;have ME:=hk.size;refine callsIn_of_wp_marks func246 rfl hf ?_ ej;simp only[ntmps246,List.size_toArray,List.length_cons,List.length_nil,Nat.reduceAdd,Nat.reduceSub,Array.replicate_succ,Array.replicate_zero,List.push_toArray,List.append_toArray,List.nil_append,List.cons_append];gi_wp2
 have Hn:=Boxed.new w 46 (.slice none 0 0)
 refine wpIn_rangeFunc_ownH ej h1 (gf:=g) (lb:=lb) rfl ya lO nB belowK_t (belowK_b (by simp;omega)) ((Below.refl _ w).alloc (CP _) _) (λ_=>rfl)
  (λpre W=>(∃ v,Boxed W w.heap.size 46 v/\W.ownsRow w.heap.size 60 3 v pre.length (pre.flatMap aS)/\True)/\Below w.heap.size w W)
  (λ_ _ _=>False)
  (OwnFrom.and (Own.from (holdsRow_own _ _ _ _ _ (λpre:List aD=>pre.length) (λpre=>pre.flatMap aS) (λ_ _=>True)) _) (ownFrom_below (CP _) ao))
  (λ_ _ _ _ _ hs _ _=>hs)
  ⟨⟨_,Hn,qcb _ _ _ _,trivial⟩,(Below.refl _ w).alloc (CP _) _⟩
  (λx bI W=>∃ Bx,w.heap.size<Bx/\W.heap[Bx]? =some (.cells #[.string x.key,.int .i64 x.n,.int .i64 x.s] 60 (0,0))/\bI={tmps:= #[.slice none 0 0,.func (.func g) #[] lb,.pointer (some ⟨w.heap.size,0,none⟩),undef,.slice none 0 0,.pointer (some ⟨Bx,0,none⟩),.func (.func g) #[] lb,x9 x,undef,undef,undef,undef,undef],defers:=[]})
  (λx bI _ X Y row hs hg hr=>by obtain⟨Bx,h1,h2,h3⟩:=hs;exact⟨Bx,h1,UM h2 hg (λr e=>(hr r e).2),h3⟩)
  ?assign ?body ?done ?stop
 case assign=>
  rintro l pre x W K ⟨⟨v,hv,hr,_⟩,hB⟩ hK;obtain⟨x0,x1,x2⟩:=x;unfold x9 at*;gi_wp2
  exact hK _ _ ((KeepsOthers.alloc _ _).from _) ((Below.refl _ W).alloc (by have:=hB.size;omega) _) ⟨⟨v,hv.alloc _,hr.alloc _,trivial⟩,hB.alloc hB.size _⟩ ⟨W.heap.size,hv.lt,yY W _,rfl⟩
 case body=>
  rintro l pre x bI W hl ⟨r,hr⟩ ⟨⟨v,hv,bR,_⟩,hB⟩ ⟨Bx,hBx,hX,rfl⟩ an;obtain⟨x0,x1,x2⟩:=x;have c0:W.cell? ⟨Bx,0,none⟩=some (.string x0):=aE hX 0;have c1:W.cell? ⟨Bx,1,none⟩=some (.int .i64 x1):=aE hX 1;have c2:W.cell? ⟨Bx,2,none⟩=some (.int .i64 x2):=aE hX 2;have hc:=hv.cell;have hz:=hB.size;obtain⟨i0,hi,a7,aY,aW⟩:=ql0 uP;simp only at hX;have HX:=aa hX;clear hX hr;unfold x9;gi_wp2_with (gi_at_builtin;refine wpListIn_append_own _ rfl _ _ 46 rfl w.heap.size 60 i0 (.agg #[.string ⟨#[]⟩,.int .i64 0,.int .i64 0]) 3 32 underlying46 hi a7 aY aW rfl ak _ _ _ rfl (bR.alloc _) ⟨W.heap.size,0,none⟩ 1 1 [.string x0,.int .i64 x1,.int .i64 x2] rfl rfl (qeV W _ _ _ _) (by intro u hu;simp only[KX,List.not_mem_nil,or_false]at hu;rcases hu with rfl|rfl|rfl <;>rfl) (by unfold maxLen;omega) ab (by simp;omega) ?_;intro v' w1 dk gW _;obtain⟨g',kP,rfl⟩:=ownsRow_succ dk;obtain⟨ft,cW,b3,bb,bG⟩:=hv.appended ak bR hz (CP _) dk gW;have og:=ft.cell;have vw:=ft.frozen)
  have gG:(w1.setCell ⟨w.heap.size,0,none⟩ (.slice (some ⟨g',0,none⟩) (pre.length+1) kP)).ownsRow w.heap.size 60 3 (.slice (some ⟨g',0,none⟩) (pre.length+1) kP) (pre++[(⟨x0,x1,x2⟩:aD)]).length ((pre++[(⟨x0,x1,x2⟩:aD)]).flatMap aS):=by simpa [aS]using b3
  exact⟨bb.from _,bG.mono ME,by first|exact⟨⟨_,cW,gG⟩,hB.trans bG⟩|exact⟨⟨_,cW,gG,trivial⟩,hB.trans bG⟩⟩
 case done=>
  rintro D ys W ja hS ⟨⟨v,hv,bR,_⟩,hB⟩ hK;have hc:=hv.cell;gi_wp2
  refine⟨ao,.inl ⟨_,_,rfl,run_takeDeferred hK,?_⟩⟩;exact⟨v,by simp[results,results246,go_sem],v,ys,rfl,hS,ownsRow_putObj bR _ hK rfl,hB.trans (belowK_b (w:=w) (CP _) W D _ _ (by simp at ja;omega) hK rfl rfl)⟩
 case stop=>
  rintro D c pre W _ _ h _;exact h.elim
theorem qeX (F:Fence) (n:Nat) (hc:F.fn 188) (hf:F.fn 246) (ej:F.round=none) (hn:3<=n) (g:Nat) (lb:Array Value) (ya:F.fn g) (lO:∀ args w,(callFunc g args).run prog w= .ok (.enter g args) w) (w0 w:World) (hk:ad w0 w) (S Sp:List aD->Prop) (N:Nat) (hN:N<=1000000)
  (nB:SeqStopsK F (n-1-1) prog g lb (λx:aD=> #[x9 x]) (Below w0.heap.size) S Sp N w):
  CallsIn F n prog 188 #[.func (.func g) #[] lb] w λe w'=>∃ v ds,e= .returned v/\S ds/\w'.ownsRow w.heap.size 60 3 v ds.length (ds.flatMap aS)/\ad w w':=by
 have h1:1<=n:=ab;have HS:=aa (qeW F (n-1) hf ej ab g lb ya lO w0 w hk S Sp N hN nB);clear nB;refine callsIn_of_wp func188 rfl hc ?_ ej;simp only[ntmps188,List.size_toArray,List.length_cons,List.length_nil,Nat.reduceAdd,Nat.reduceSub,Array.replicate_succ,Array.replicate_zero,List.push_toArray,List.append_toArray,List.nil_append,List.cons_append];gi_wp2_with (gi_at_call 246;refine HS.o.mono ?_;rintro e w1 ⟨v,ds,rfl,dM,ho,k1⟩)
 have HO:=aa ho;go_ret;exact⟨v,ds,rfl,dM,HO.o,k1⟩
theorem qeY (A:Option Addr) (m c:Nat) (ps:List cf) (w:World) (hv:sx w (.slice A m c) ps) (cO:ps.length<=100) (kt:∀ x∈ps,x.ds.length<=1000) (hN:(gi ps).length<=1000000):
  Calls prog 116 #[.slice A m c] w λe w'=>∃ v,e= .returned v/\Rw w' 60 3 aS v (gi ps)/\ad w w':=by
 have HV:=aa hv;have tu:=aa kt;clear hv kt;have pq:ad w (w.alloc (.cells #[.slice A m c] 80)):=(ad.refl w).alloc _;have du:(w.alloc (.cells #[.slice A m c] 80)).cell? ⟨w.heap.size,0,none⟩=some (.slice A m c):=aE (yY w _) 0
 have HC:=aa (qeX Fence.wide 4 trivial trivial rfl ab 247 #[.pointer (some ⟨w.heap.size,0,none⟩)] trivial (enters_of func247 av rfl) w _ pq (λys=>ys=gi ps) (λ_=>True) (gi ps).length hN
  (λl J Jx W hW kK _ hY h0=>qeU Fence.wide 2 trivial rfl ab l w.heap.size w _ ps HV.o ab tu.o J Jx hY W kK (pq.call hW) ((hW.cell (p:=⟨w.heap.size,0,none⟩) ao).trans du) h0))
 clear du pq;refine(callsIn_wide (n:=5)).1 ?_;refine callsIn_of_wp func116 rfl trivial ?_ rfl;simp only[ntmps116,List.size_toArray,List.length_cons,List.length_nil,Nat.reduceAdd,Nat.reduceSub,Array.replicate_succ,Array.replicate_zero,List.push_toArray,List.append_toArray,List.nil_append,List.cons_append];gi_wp2_with (first|(refine⟨trivial,?_⟩;gi_at_call 189;refine(UL Fence.wide 4 trivial rfl _ _ _ _).mono ?_;rintro e w' ⟨rfl,rfl⟩)|(refine⟨trivial,?_⟩;gi_at_call 188;refine HC.o.mono ?_;rintro e w' ⟨v,ds,rfl,rfl,ho,k1⟩;have HO:=aa ho;clear ho)|(gi_at_call 189;refine(UL Fence.wide 4 trivial rfl _ _ _ _).mono ?_;rintro e w' ⟨rfl,rfl⟩)|(gi_at_call 188;refine HC.o.mono ?_;rintro e w' ⟨v,ds,rfl,rfl,ho,k1⟩;have HO:=aa ho;clear ho))
 go_ret;exact⟨v,rfl,Rw.bp HO.o gT ak,((ad.refl w).alloc _).call k1⟩
def DM (m:Int) (r:Int):Prop:=(r= -1/\∀ i:Nat,i<6->cq m i=false)∨∃ i:Nat,r=i/\i<6/\cq m i=true/\∀ U:Nat,U<i->cq m U=false
theorem UN (A B C:Option Addr) (n1 c1 n2 c2 n3 c3:Nat) (es:List Nat) (os ps:List Int) (k:ByteArray) (w:World) (hr:fY w A n1 c1 B n2 c2 C n3 c3 (bw es) os ps) (hf:Fit es os n3):
  Calls prog 98 #[.agg #[.slice A n1 c1,.slice B n2 c2,.slice C n3 c3],.string k] w λe w'=>∃ r,e= .returned (.int .i64 r)/\DM (oa os (bV es (hv k))) r/\ad w w':=by
 have HR:=aa hr;have HF:=aa hf;have hb:=wL hf (nV es (hv k));clear hr hf;obtain⟨qD,ho⟩:=eqQ (oa os (bV es (hv k)));rw[ho]at hb⊢;have HO:=aa ho;clear ho;go_in;go_wp2_with fail
 refine(JV A B C n1 c1 n2 c2 n3 c3 es os ps k _ (HR.o.keep al) HF.o).mono ?_;rintro e w1 ⟨rfl,k1⟩;rw[HO.o];have K1:ad w w1:=ad.call al k1;clear HO HR HF;go_wp2;go_loopw [10] (λiv wr=>∃ i:Nat,i<=6/\iv= .int .i64 i/\ad w wr/\ag (∀ U:Nat,U<i->cq qD U=false)) (λiv _=>6-(intOf iv).toNat)
 case atStart=>exact⟨0,ab,rfl,K1,λU h=>ab⟩
 case round=>
  obtain⟨i,hi,rfl,kr,b8⟩:=hrel;by_cases an:i<6
  ·go_wp2_with fail
   refine(JW qD i _ hb.1 hb.2).mono ?_;rintro e w2 ⟨rfl,k2⟩;have K2:=kr.call k2
   cases hv:cq qD i
   ·have hn:ag (∀ U:Nat,U<i+1->cq qD U=false):=λU hj=>by
     rcases R6 U i with g|g
     ·exact b8.o U g
     ·obtain rfl:U=i:=ab;exact hv
    clear hv;go_wp2;go_roundw
    case rel=>exact⟨i+1,ab,aA,K2,hn⟩
    case measure=>exact dY
   ·have HV:=aa hv;clear hv;go_wp2;go_ret;exact⟨i,rfl,.inr ⟨i,rfl,an,HV.o,b8.o⟩,K2⟩
  ·obtain rfl:i=6:=ab;go_wp2;go_ret;exact⟨-1,rfl,.inl ⟨rfl,b8.o⟩,kr⟩
def dd (es:List Nat) (os:List Int) (s:Int) (U:Nat):List Rg:=((List.range U).filter λi=>cq (oa os i) s).map λi=>(fr es i,to es i)
theorem UO (h:cq (oa os U) s=true):dd es os s (U+1)=dd es os s U++[(fr es U,to es U)]:=by simp[dd,List.range_succ,h]
theorem UP (h:cq (oa os U) s=false):dd es os s (U+1)=dd es os s U:=by simp[dd,List.range_succ,h]
theorem Ho (es:List Nat) (os:List Int) (s:Int) (U:Nat):(dd es os s U).length<=U:=by
 have:=List.length_filter_le (λi=>cq (oa os i) s) (List.range U);simpa [dd]using this
theorem UQ (A B C:Option Addr) (n1 c1 n2 c2 n3 c3:Nat) (es:List Nat) (os ps:List Int) (s:Int) (w:World) (hr:fY w A n1 c1 B n2 c2 C n3 c3 (bw es) os ps) (hf:Fit es os n3):
  Calls prog 27 #[.agg #[.slice A n1 c1,.slice B n2 c2,.slice C n3 c3],.int .i64 s] w λe w'=>∃ D c4 b0,e= .returned (.slice D (dd es os s n1).length c4)/\w'.ownsRow b0 63 2 (.slice D (dd es os s n1).length c4) (dd es os s n1).length (hQ (dd es os s n1))/\dL w' D (dd es os s n1).length c4 (dd es os s n1)/\(dd es os s n1=[]->D=none/\c4=0)/\ad w w':=by
 obtain⟨i0,hi,a7,aY,aW⟩:=ql0 rU;have HI:=aa hi;have HR:=aa hr;have HF:=aa hf;have h1:n1=es.length+1:=by have:=hr.rs.1;rw[ju]at this;omega
 have h2:n2=n1:=by have:=hr.os.1;have:=hf.len;omega
 have fG:=hf.up.cV;obtain⟨ob,oo,rfl,gP⟩:=hr.os.2.2.2.2 ab;obtain⟨rb,ro,rfl,sy⟩:=hr.rs.2.2.2.2 ab;have jx:ag (∀ i,i<n2->w.cell? ⟨ob,oo+i,none⟩=some (.int .i64 (oa os i))):=gP
 have vx:ag (∀ i,i<n1->w.cell? ⟨rb,ro+i*2,none⟩=some (.string (fr es i))/\w.cell? ⟨rb,ro+i*2+1,none⟩=some (.string (to es i))):=λi hi=>by
  have:=sy i hi;rwa [wH ab]at this
 have HB:ag (∀ i,i<n1->0<=oa os i/\oa os i<64):=λi hi=>wL hf ab;have hb:=hr.nX;have og:n1<=c1:=hr.rs.2.1;have cz:n2<=c2:=hr.os.2.1;have UR:n1<=7:=ab;clear hr hf gP sy hi h1 fG;subst h2;go_wp2;go_step3
 go_wp2_with fail
 refine(JU _ _ C n2 c1 n2 c2 n3 c3 es os ps _ (HR.o.keep al) HF.o).mono ?_;rintro e w1 ⟨rfl,k1⟩;have K1:ad w w1:=ad.call al k1;have e0:w1.cell? ⟨w.heap.size,0,none⟩=some (.slice (some ⟨rb,ro,none⟩) n2 c1):=k1.af (by go_simp);have e1:w1.cell? ⟨w.heap.size,1,none⟩=some (.slice (some ⟨ob,oo,none⟩) n2 c2):=k1.af (by go_simp);go_wp2;go_step3
 go_wp2;go_loopw [5,14] (λov iv wr=>∃ (U l:Nat) (v:Value),ov=v/\U<=n2/\iv= .int .i64 U/\(dd es os s U).length=l/\ag (l=0->v= .slice none 0 0)/\wr.ownsRow w1.heap.size 63 2 v l (hQ (dd es os s U))/\ad w1 wr) (λ_ iv _=>n2-(intOf iv).toNat)
 case atStart=>exact⟨0,0,_,rfl,ab,rfl,rfl,λ_=>rfl,qcb _ _ _ _,ad.refl w1⟩
 case round=>
  obtain⟨U,l,v,rfl,hj,rfl,hl,xL,ho,kr⟩:=hrel;have fG:l<=U:=by rw[<- hl];exact Ho es os s U
  have HL:=aa hl;have HO:=aa ho;clear hl ho;by_cases an:U<n2
  ·have co:wr.cell? ⟨ob,oo+U,none⟩=some (.int .i64 (oa os U)):=kr.af (K1.af (jx.o U an));have DN:wr.cell? ⟨rb,ro+U*2,none⟩=some (.string (fr es U)):=kr.af (K1.af (vx.o U an).1);have DO:wr.cell? ⟨rb,ro+U*2+1,none⟩=some (.string (to es U)):=kr.af (K1.af (vx.o U an).2);have e1:=kr.af e1;have q1:w.heap.size<wr.heap.size:=Aa wr _ e1;have q2:ob<wr.heap.size:=Aa wr _ co;have dA:=HB.o U an;have gB:ag (cq (oa os U) s=false->dd es os s (U+1)=dd es os s U):=UP;have na:ag (cq (oa os U) s=true->dd es os s (U+1)=dd es os s U++[(fr es U,to es U)]):=UO;generalize oa os U=qD at*;generalize fr es U=f at*;generalize to es U=t at*;go_wp2_with fail
   refine(JW qD s _ dA.1 dA.2).mono ?_;rintro e w2 ⟨rfl,k2⟩;have K2:ad w1 w2:=ad.call al k2;have r1:w2.cell? ⟨wr.heap.size,0,none⟩=some (.string f):=k2.af (by go_simp);have r2:w2.cell? ⟨wr.heap.size,1,none⟩=some (.string t):=k2.af (by go_simp)
   cases hv:cq qD s
   ·have hn:=aa (gB.o hv);have dC:=aa (ad.own HO.o (ad.call al k2));clear hv;go_wp2;go_roundw
    case rel=>exact⟨U+1,l,_,rfl,ab,aA,by rw[hn.o];exact HL.o,xL,by rw[hn.o];exact dC.o,K2⟩
    case measure=>exact dY
   ·have hn:=aa (na.o hv);have dC:=aa (ad.own HO.o (ad.call al k2));have lY:ag ((hQ (dd es os s U)).length=l*2):=by unfold ag;rw[B0,HL.o]
    have hz:w1.heap.size<=w2.heap.size:=K2.size;clear hv;go_wp2_with (at_builtin;refine wpList_append_own _ rfl _ _ 27 rfl w1.heap.size 63 i0 (.agg #[.string ⟨#[]⟩,.string ⟨#[]⟩]) 2 32 underlying27 HI.o a7 aY aW rfl ak _ l _ rfl (dC.o.alloc _) ⟨w2.heap.size,0,none⟩ 1 1 [.string f,.string t] rfl rfl (JY _ _ _ _) (by simp[Value.oneCell']) (by unfold maxLen;omega) ab (by simp;omega) ?_;intro v3 w3 bE cD _;have kY:=dC.o.lt;have K3:ad w1 w3:=(K2.alloc _).grown cD (λg hg=>(kY g hg).1);rw[JX _ (f,t)]at bE;have eR:=aa bE;clear bE)
    go_roundw
    case rel=>exact⟨U+1,l+1,_,rfl,ab,aA,by rw[hn.o,zH,HL.o];rfl,λh=>absurd h ab,by rw[hn.o];exact eR.o,K3⟩
    case measure=>exact dY
  ·obtain rfl:U=n2:=ab;obtain⟨A2,c4,rfl,cT⟩:=dL.bp HO.o;have iA:=aa cT;clear cT;go_wp2
   (try rw[Exit.noGoto_ret])
   go_ret
   exact⟨A2,c4,w1.heap.size,by rw[HL.o];rfl,by rw[HL.o];exact HO.o,by rw[HL.o];exact iA.o,λh=>by
    have h2:=HL.o;rw[h]at h2;have h3:=xL.o h2.symm
    cases h3
    exact⟨rfl,rfl⟩,K1.call kr⟩
theorem qeZ (A B C:Option Addr) (n1 c1 n2 c2 n3 c3:Nat) (es:List Nat) (os ps:List Int) (w:World) (hr:fY w A n1 c1 B n2 c2 C n3 c3 (bw es) os ps) (hu:Up es) (hl:os.length=es.length+1) (hz:oa os 0=0) (mM:1<=n3) (lM:n3<=6):
  Calls prog 47 #[.agg #[.slice A n1 c1,.slice B n2 c2,.slice C n3 c3]] w λe w'=>e= .returned (.bool false)/\ad w w':=by
 have h1:n1=es.length+1:=by rw[<- hr.rs.1,ju]
 have h2:n2=es.length+1:=by rw[<- hr.os.1,hl]
 have fG:=hu.cV;obtain⟨ob,oo,rfl,gP⟩:=hr.os.2.2.2.2 ab;have HR:=aa hr;have HU:=aa hu;have cz:n2<=c2/\c2<=9223372036854775807:=by have a:=hr.os.2.1;have b:=hr.os.2.2.1;unfold maxLen at b;omega
 have x0:w.cell? ⟨ob,oo+0,none⟩=some (.int .i64 (oa os 0)):=gP 0 ab;rw[hz]at x0;simp only[Nat.add_zero]at x0;obtain⟨L,hL⟩:=eqQ es.length;have HL:=aa hL;rw[hL]at h1 h2 fG;clear hr hu gP hL hl hz;subst h1 h2;have d1:decide ((n3:Int)<1)=false:=by simp;omega
 have d2:decide ((6:Int)<(n3:Int))=false:=by simp;omega
 have d3:decide ((8:Int)<(L:Int)+1)=false:=by simp;omega
 go_in;go_wp2_with fail
 refine(zh _ _ C n3 c3 _ ab ⟨_,_,_,rfl⟩ ⟨_,_,_,rfl⟩).mono ?_;rintro e w1 ⟨rfl,k1⟩;have K1:ad w w1:=ad.call al k1;have e0:w1.cell? ⟨w.heap.size,0,none⟩=some (.slice A (L+1) c1):=k1.af (by go_simp);have e1:w1.cell? ⟨w.heap.size,1,none⟩=some (.slice (some ⟨ob,oo,none⟩) (L+1) c2):=k1.af (by go_simp);go_wp2_with fail
 refine(Qs A (L+1) c1 es _ (HR.o.rs.keep K1) HU.o).mono ?_;rintro e w2 ⟨rfl,k2⟩;have K2:=K1.call k2;have e1:=k2.af e1;have x0:=K2.af x0;go_wp2;go_loopw [38] (λiv wr=>iv= .int .i64 0/\wr=w2) (λ_ _=>0)
 case atStart=>exact⟨rfl,rfl⟩
 case round=>
  obtain⟨rfl,rfl⟩:=hrel;go_wp2;go_ret;exact⟨rfl,K2⟩
theorem US (A B C:Option Addr) (n1 c1 n2 c2 n3 c3:Nat) (es:List Nat) (os ps:List Int) (w:World) (hr:fY w A n1 c1 B n2 c2 C n3 c3 (bw es) os ps) (hu:Up es) (hl:os.length=es.length+1) (hz:oa os 0=0) (mM:1<=n3) (lM:n3<=6):
  Calls prog 22 #[.agg #[.slice A n1 c1,.slice B n2 c2,.slice C n3 c3]] w λe w'=>e= .returned (.bool false)/\ad w w':=by
 have HR:=aa hr;clear hr;go_in;go_wp2_with fail
 refine(qeZ A B C n1 c1 n2 c2 n3 c3 es os ps _ (HR.o.keep al) hu hl hz mM lM).mono ?_;rintro e w1 ⟨rfl,k1⟩;have K1:ad w w1:=ad.call al k1;go_wp2;go_ret;exact⟨rfl,K1⟩
def pI (w:World) (v:Value) (es:List Nat) (os ps:List Int):Prop:=∃ A B C n1 c1 n2 c2 c3,v= .agg #[.slice A n1 c1,.slice B n2 c2,.slice C ps.length c3]/\fY w A n1 c1 B n2 c2 C ps.length c3 (bw es) os ps
theorem pI.keep {w2:World} {v:Value} {ps:List Int} (h:pI w v es os ps) (hk:ad w w2):pI w2 v es os ps:=by
 obtain⟨A,B,C,n1,c1,n2,c2,c3,h1,h2⟩:=h;exact⟨A,B,C,n1,c1,n2,c2,c3,h1,h2.keep hk⟩
theorem MF (v v2:Value) (es aH:List Nat) (os ps aJ a':List Int) (w:World) (h:pI w v es os ps) (h2:pI w v2 aH aJ a') (hf:eA es os ps ps.length) (eG:eA aH aJ a' a'.length) (hn:ps.length=a'.length):
  Calls prog 117 #[v,v2] w λe w'=>e= .returned (.bool true)/\ad w w':=by
 obtain⟨A,B,C,n1,c1,n2,c2,c3,rfl,hr⟩:=h;obtain⟨A',B',C',m1,d1,m2,d2,d3,rfl,b3⟩:=h2;have b1:=hr.nX;have b2:=b3.nX;have HR:=aa hr;have di:=aa b3;obtain⟨n,hN⟩:=eqQ ps.length;rw[hN]at hf HR b1⊢;rw[<- hn,hN]at eG di b2⊢;clear hr b3 hn;go_wp2;refine bz (λwB=>ad w wB/\wB.cell? ⟨w.heap.size,0,none⟩=some (.slice A n1 c1)/\wB.cell? ⟨w.heap.size,1,none⟩=some (.slice B n2 c2)/\wB.cell? ⟨w.heap.size,2,none⟩=some (.slice C n c3)/\wB.cell? ⟨w.heap.size+1,0,none⟩=some (.slice A' m1 d1)/\wB.cell? ⟨w.heap.size+1,1,none⟩=some (.slice B' m2 d2)/\wB.cell? ⟨w.heap.size+1,2,none⟩=some (.slice C' n d3)) λwB SS=> ?_;obtain⟨au,aB,aC,aF,aX,bK,fg⟩:=SS.o _ (ad.refl _);repeat(apply DW.ct;(focus (intro wd hI;obtain⟨ae,ai,aj,aq,az,aK,a1⟩:=SS.o wd hI;go_wp2_with (first|(go_at_call 22;refine(zT _ _ _ _ _ _ _ _ _ _ _ _ _ (by first|exact HR.o.keep (au.call hI)|exact di.o.keep (au.call hI)) (by first|exact hf|exact eG)).mono ?_;rintro e w3 ⟨rfl,dO⟩)|(go_at_call 23;refine(zh _ _ _ _ _ _ ab ⟨_,_,_,rfl⟩ ⟨_,_,_,rfl⟩).mono ?_;rintro e w3 ⟨rfl,dO⟩));exact aP));refine DW.np ?_)
 refine DW.nl SS ?_;rintro wd hI ⟨ae,ai,aj,aq,az,aK,a1⟩;go_wp2;go_ret;exact⟨rfl,ae⟩
theorem UT (v v2:Value) (es aH:List Nat) (os ps aJ a':List Int) (w:World) (h:pI w v es os ps) (h2:pI w v2 aH aJ a') (hf:eA es os ps ps.length) (hu:Up aH) (hl:aJ.length=aH.length+1) (hz:oa aJ 0=0) (mM:1<=a'.length) (lM:a'.length<=6):
  Calls prog 117 #[v,v2] w λe w'=>e= .returned (.bool false)/\ad w w':=by
 obtain⟨A,B,C,n1,c1,n2,c2,c3,rfl,hr⟩:=h;obtain⟨A',B',C',m1,d1,m2,d2,d3,rfl,b3⟩:=h2;have b1:=hr.nX;have b2:=b3.nX;have HR:=aa hr;have di:=aa b3;obtain⟨n,hN⟩:=eqQ ps.length;obtain⟨m,hM⟩:=eqQ a'.length;rw[hN]at hf HR b1⊢;rw[hM]at mM lM di b2⊢;clear hr b3;have HZ:ag (oa aJ 0=0):=hz;clear hz;go_wp2;refine bz (λwB=>ad w wB/\wB.cell? ⟨w.heap.size,0,none⟩=some (.slice A n1 c1)/\wB.cell? ⟨w.heap.size,1,none⟩=some (.slice B n2 c2)/\wB.cell? ⟨w.heap.size,2,none⟩=some (.slice C n c3)/\wB.cell? ⟨w.heap.size+1,0,none⟩=some (.slice A' m1 d1)/\wB.cell? ⟨w.heap.size+1,1,none⟩=some (.slice B' m2 d2)/\wB.cell? ⟨w.heap.size+1,2,none⟩=some (.slice C' m d3)) λwB SS=> ?_;obtain⟨au,aB,aC,aF,aX,bK,fg⟩:=SS.o _ (ad.refl _);repeat(apply DW.ct;(focus (intro wd hI;obtain⟨ae,ai,aj,aq,az,aK,a1⟩:=SS.o wd hI;go_wp2_with (first|(go_at_call 22;refine(zT A B C n1 c1 n2 c2 n c3 es os ps _ (HR.o.keep (au.call hI)) hf).mono ?_;rintro e w3 ⟨rfl,dO⟩)|(go_at_call 22;refine(US A' B' C' m1 d1 m2 d2 m d3 aH aJ a' _ (di.o.keep (au.call hI)) hu hl HZ.o mM lM).mono ?_;rintro e w3 ⟨rfl,dO⟩));exact aP));refine DW.np ?_)
 refine DW.nl SS ?_;rintro wd hI ⟨ae,ai,aj,aq,az,aK,a1⟩;go_wp2;go_ret;exact⟨rfl,ae⟩
end Go.Proofs.YtehaoggjlciobaaGreat

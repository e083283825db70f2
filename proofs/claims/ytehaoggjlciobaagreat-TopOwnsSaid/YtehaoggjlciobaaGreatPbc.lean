/- Part 29 of 53. -/
import Derived.Test.YtehaoggjlciobaaGreatPbb
import Derived.Test.YtehaoggjlciobaaGreatPav
set_option linter.all false
set_option maxRecDepth 20000
set_option maxHeartbeats 16000000
namespace Go.Proofs.YtehaoggjlciobaaGreat
open Go.RowKit Go.Shelf Go.Sort
attribute [local go_sem] Oper.semAt_some
theorem qe0 (F:Fence) (n:Nat) (hf:F.fn 222) (ej:F.round=none) (hn:1<=n) (l Bs:Nat) (w0:World) (v:Value) (ks:List ByteArray) (hv:Rw w0 9 1 cd v ks) (cO:ks.length<=1000000) (J Jx:List ByteArray->World->Prop)
  (hY:∀ pre x W,J pre W->pre.length<ks.length->YieldAt F (n-1) Tryz.prog l #[.string x] W λe W'=>(e= .returned (.bool true)/\J (pre++[x]) W'/\Below w0.heap.size W W')∨(e= .returned (.bool false)/\Jx (pre++[x]) W'))
  (W:World) (hK:ad w0 W) (DL:W.cell? ⟨Bs,0,none⟩=some v) (h0:J [] W):
  CallsIn F n Tryz.prog 222 #[.func (.yield l) #[] #[],.pointer (some ⟨Bs,0,none⟩)] W λe W'=>(∃ v,e= .returned v)/\((∃ ys,ys=ks/\J ys W')∨(∃ pre,True/\Jx pre W')):=by
 obtain⟨A,c,rfl,bl,bQ⟩:=hv.form;obtain⟨m,hm⟩:∃ m,ks.length=m:=⟨_,rfl⟩;have HV:=aa hv;have HY:=aa hY;have HM:=aa hm;rw[hm]at HV cO bl DL;clear hv hY hm;refine callsIn_of_wp Tryz.func222 rfl hf ?_ ej;simp only[Tryz.ntmps222,List.size_toArray,List.length_cons,List.length_nil,Nat.reduceAdd,Nat.reduceSub,Array.replicate_succ,Array.replicate_zero,List.push_toArray,List.append_toArray,List.nil_append,List.cons_append];gi_wp2
 gi_loopw [7] (λiv wr=>∃ i:Nat,i<=m/\iv= .int .i64 i/\ag (J (ks.take i) wr)/\ad w0 wr) (λiv _=>m-(intOf iv).toNat)
 case atStart=>exact⟨0,ab,rfl,h0,hK⟩
 case round=>
  obtain⟨i,hi,rfl,vv,kr⟩:=hrel;by_cases an:i<m
  ·obtain⟨x,hx⟩:∃ x,ks[i]? =some x:=⟨_,jc (by rw[HM.o];exact an)⟩;obtain⟨b,off,rfl,hb,hc⟩:=HV.o.af hx
   have j1:ag (ks.take i++[x]=ks.take (i+1)):=by
    have MD:=(bg hx);rw[QI MD,(pi.1 hx).2];rfl
   obtain c0:=iU λU u hu=>kr.af (hc U u hu);simp only[Nat.mul_one]at c0;obtain⟨fn,tmps,assign,body,hy,hR⟩:=HY.o _ x wr vv.o (by rw[qcd,HM.o];omega);clear hc hx;gi_wp2
   refine hR.mono ?_;rintro e W3 (⟨rfl,qY,lj⟩|⟨rfl,x'⟩)
   ·have tI:ag (J (ks.take (i+1)) W3):=by rw[<- j1.o];exact qY
    have k3:ad w0 W3:=kr.trans lj;clear qY;gi_wp2
    go_roundw
    case rel=>exact⟨i+1,ab,aA,tI,k3⟩
    case measure=>simp[intOf];omega
   ·gi_wp2
    refine KV (results_none rfl _ _ _) rfl ?_;exact⟨⟨_,rfl⟩,.inr ⟨_,trivial,x'⟩⟩
  ·obtain rfl:i=m:=ab;gi_wp2
   go_end0
   exact⟨⟨_,rfl⟩,.inl ⟨_,rfl,by have h:=vv.o;rwa [qcc (by rw[HM.o];omega)]at h⟩⟩
theorem qe1 (F:Fence) (n:Nat) (hf:F.fn 160) (ej:F.round=none) (A:Option Addr) (m c:Nat) (w:World):
  CallsIn F n Tryz.prog 160 #[.slice A m c] w λe w'=>e= .returned (.func (.func 222) #[] #[.pointer (some ⟨w.heap.size,0,none⟩)])/\w'=w.alloc (.cells #[.slice A m c] 34):=by
 refine callsIn_of_wp Tryz.func160 rfl hf ?_ ej;simp only[Tryz.ntmps160,List.size_toArray,List.length_cons,List.length_nil,Nat.reduceAdd,Nat.reduceSub,Array.replicate_succ,Array.replicate_zero,List.push_toArray,List.append_toArray,List.nil_append,List.cons_append];gi_wp2
 go_ret;exact⟨rfl,rfl⟩
theorem qe2 (W:World) (a:Value) (t:TypeId):∀ (U:Nat) u,[a][U]? =some u->(W.alloc (.cells #[a] t)).cell? ((⟨W.heap.size,0,none⟩:Addr).add U)=some u:=by
 intro U u hu;rw[Addr.add_lit,Nat.zero_add,aE (l5 W _) U,<- hu];exact List.getElem?_toArray
theorem qe3 (F:Fence) (n:Nat) (hf:F.fn 269) (ej:F.round=none) (hn:2<=n) (g:Nat) (lb:Array Value) (ya:F.fn g) (lO:∀ args w,(callFunc g args).run Tryz.prog w= .ok (.enter g args) w) (w0 w:World) (hk:ad w0 w) (S Sp:List ByteArray->Prop) (N:Nat) (hN:N<=1000000)
  (nB:SeqStopsK F (n-1) Tryz.prog g lb (λx:ByteArray=> #[.string x]) (Below w0.heap.size) S Sp N w):
  CallsIn F n Tryz.prog 269 #[.slice none 0 0,.func (.func g) #[] lb] w λe w'=>∃ v ds,e= .returned v/\S ds/\w'.ownsRow w.heap.size 9 1 v ds.length (ds.flatMap cd)/\ad w w':=by
 have h1:1<=n:=ab;have ME:=hk.size;refine callsIn_of_wp_marks Tryz.func269 rfl hf ?_ ej;simp only[Tryz.ntmps269,List.size_toArray,List.length_cons,List.length_nil,Nat.reduceAdd,Nat.reduceSub,Array.replicate_succ,Array.replicate_zero,List.push_toArray,List.append_toArray,List.nil_append,List.cons_append];gi_wp2
 have Hn:=Boxed.new w 34 (.slice none 0 0)
 refine wpIn_rangeFunc_ownH ej h1 (gf:=g) (lb:=lb) rfl ya lO nB belowK_t (belowK_b (by simp;omega)) ((Below.refl _ w).alloc (CP _) _) (λ_=>rfl)
  (λpre W=>(∃ v,Boxed W w.heap.size 34 v/\W.ownsRow w.heap.size 9 1 v pre.length (pre.flatMap cd)/\True)/\Below w.heap.size w W)
  (λ_ _ _=>False)
  (OwnFrom.and (Own.from (holdsRow_own _ _ _ _ _ (λpre:List ByteArray=>pre.length) (λpre=>pre.flatMap cd) (λ_ _=>True)) _) (ownFrom_below (CP _) ao))
  (λ_ _ _ _ _ hs _ _=>hs)
  ⟨⟨_,Hn,qcb _ _ _ _,trivial⟩,(Below.refl _ w).alloc (CP _) _⟩
  (λx bI W=>bI={tmps:= #[.slice none 0 0,.func (.func g) #[] lb,.pointer (some ⟨w.heap.size,0,none⟩),undef,.slice none 0 0,.string x,.func (.func g) #[] lb,.string x,undef,undef,undef,undef,undef],defers:=[]})
  (λx bI _ X Y row hs hg hr=>hs)
  ?assign ?body ?done ?stop
 case assign=>
  rintro l pre x W K ⟨⟨v,hv,hr,_⟩,hB⟩ hK;gi_wp2
  exact hK _ _ (KeepsFrom.refl _ _) (Below.refl _ W) ⟨⟨v,hv,hr,trivial⟩,hB⟩ rfl
 case body=>
  rintro l pre x bI W hl ⟨r,hr⟩ ⟨⟨v,hv,bR,_⟩,hB⟩ rfl an;have hc:=hv.cell;have hz:=hB.size;obtain⟨i0,hi,a7,aY,aW⟩:=ql0 B4;clear hr;gi_wp2_with (gi_at_builtin;refine wpListIn_append_own _ rfl _ _ 34 rfl w.heap.size 9 i0 (.string ⟨#[]⟩) 1 16 Tryz.underlying34 hi a7 aY aW rfl ak _ _ _ rfl (bR.alloc _) ⟨W.heap.size,0,none⟩ 1 1 [.string x] rfl rfl (qe2 W _ _) (by intro u hu;simp only[KX,List.not_mem_nil,or_false]at hu;rcases hu with rfl;rfl) (by unfold maxLen;omega) ab (by simp;omega) ?_;intro v' w1 dk gW _;obtain⟨g',kP,rfl⟩:=ownsRow_succ dk;obtain⟨ft,cW,b3,bb,bG⟩:=hv.appended ak bR hz (CP _) dk gW;have og:=ft.cell;have vw:=ft.frozen)
  have gG:(w1.setCell ⟨w.heap.size,0,none⟩ (.slice (some ⟨g',0,none⟩) (pre.length+1) kP)).ownsRow w.heap.size 9 1 (.slice (some ⟨g',0,none⟩) (pre.length+1) kP) (pre++[x]).length ((pre++[x]).flatMap cd):=by simpa [cd]using b3
  exact⟨bb.from _,bG.mono ME,by first|exact⟨⟨_,cW,gG⟩,hB.trans bG⟩|exact⟨⟨_,cW,gG,trivial⟩,hB.trans bG⟩⟩
 case done=>
  rintro D ys W ja hS ⟨⟨v,hv,bR,_⟩,hB⟩ hK;have hc:=hv.cell;gi_wp2
  refine⟨ao,.inl ⟨_,_,rfl,run_takeDeferred hK,?_⟩⟩;exact⟨v,by simp[results,Tryz.results269,go_sem],v,ys,rfl,hS,ownsRow_putObj bR _ hK rfl,hB.trans (belowK_b (w:=w) (CP _) W D _ _ (by simp at ja;omega) hK rfl rfl)⟩
 case stop=>
  rintro D c pre W _ _ h _;exact h.elim
theorem qe4 (F:Fence) (n:Nat) (hc:F.fn 220) (hf:F.fn 269) (ej:F.round=none) (hn:3<=n) (g:Nat) (lb:Array Value) (ya:F.fn g) (lO:∀ args w,(callFunc g args).run Tryz.prog w= .ok (.enter g args) w) (w0 w:World) (hk:ad w0 w) (S Sp:List ByteArray->Prop) (N:Nat) (hN:N<=1000000)
  (nB:SeqStopsK F (n-1-1) Tryz.prog g lb (λx:ByteArray=> #[.string x]) (Below w0.heap.size) S Sp N w):
  CallsIn F n Tryz.prog 220 #[.func (.func g) #[] lb] w λe w'=>∃ v ds,e= .returned v/\S ds/\w'.ownsRow w.heap.size 9 1 v ds.length (ds.flatMap cd)/\ad w w':=by
 have h1:1<=n:=ab;have HS:=aa (qe3 F (n-1) hf ej ab g lb ya lO w0 w hk S Sp N hN nB);clear nB;refine callsIn_of_wp Tryz.func220 rfl hc ?_ ej;simp only[Tryz.ntmps220,List.size_toArray,List.length_cons,List.length_nil,Nat.reduceAdd,Nat.reduceSub,Array.replicate_succ,Array.replicate_zero,List.push_toArray,List.append_toArray,List.nil_append,List.cons_append];gi_wp2_with (gi_at_call 269;refine HS.o.mono ?_;rintro e w1 ⟨v,ds,rfl,dM,ho,k1⟩)
 have HO:=aa ho;go_ret;exact⟨v,ds,rfl,dM,HO.o,k1⟩
theorem MG (ks:List ByteArray):ks.flatMap cd=(ks.map λk=>k.data.toList).map encStr:=by
 induction ks with
 |nil=>rfl
 |cons a t ih=>rw[List.flatMap_cons,ih];rfl
theorem qe5 (g:Nat) (lb:Array Value) (lO:∀ args w,(callFunc g args).run Tryz.prog w= .ok (.enter g args) w) (w0 w:World) (hk:ad w0 w) (Sp:List ByteArray->Prop) (ks:List ByteArray) (hN:ks.length<=1000000)
  (nB:SeqStopsK Fence.wide 3 Tryz.prog g lb (λx:ByteArray=> #[.string x]) (Below w0.heap.size) (λys=>ys=ks) Sp ks.length w):
  Calls Tryz.prog 159 #[.func (.func g) #[] lb] w λe w'=>∃ (v:Value) (ss:List (List UInt8)),e= .returned v/\ss.length=ks.length/\w'.ownsRow w.heap.size 9 1 v ks.length (ss.map encStr)/\ad w w':=by
 have HS:=aa (qe4 Fence.wide 5 trivial trivial rfl ab g lb trivial lO w0 w hk (λys=>ys=ks) Sp ks.length hN nB);clear nB;refine(callsIn_wide (n:=6)).1 ?_;refine callsIn_of_wp Tryz.func159 rfl trivial ?_ rfl;simp only[Tryz.ntmps159,List.size_toArray,List.length_cons,List.length_nil,Nat.reduceAdd,Nat.reduceSub,Array.replicate_succ,Array.replicate_zero,List.push_toArray,List.append_toArray,List.nil_append,List.cons_append];gi_wp2_with (refine⟨trivial,?_⟩;gi_at_call 220;refine HS.o.mono ?_;rintro e w1 ⟨v,ds,rfl,rfl,ho,k1⟩;rw[MG]at ho;have HO:=aa ho;clear ho)
 have ho:=HO.o;rcases ho.2 with ⟨rfl,h0⟩|⟨gb,cap,cur,rfl,qS,eP,r1,r2,r3,r4⟩
 ·have HO:=aa ho;clear ho;gi_wp2_with (refine⟨trivial,?_⟩;gi_at_call 221;refine(callsIn_wide.2 (AnyM.slices_Sort_string_none Tryz.sort221 none 0 w1)).mono ?_;rintro e w2 ⟨rfl,rfl⟩)
  go_ret;obtain rfl:ds=[]:=ql2 h0;exact⟨_,[],rfl,rfl,HO.o,k1⟩
 ·have hH:Holds encStr w1 gb 0 (ds.map λk=>k.data.toList).toArray:=holds_of_block eP (by simpa using r4);have hZ:gb<w1.heap.size:=(aQ eP);have qA:=AnyM.slices_Sort_string Tryz.sort221 gb 0 cap (ds.map λk=>k.data.toList) w1 hH hZ (by simp;omega);rw[List.length_map]at qA;have pA:=aa qA;have vg:=aa eP;clear qA hH eP ho r4;gi_wp2_with (refine⟨trivial,?_⟩;gi_at_call 221;refine(callsIn_wide.2 pA.o).mono ?_;rintro e w2 ⟨rfl,nn,os,rfl⟩)
  go_ret;have h5:=ownsRow_sorted (n:=nn) (os:=os) (ss:=ds.map λk=>k.data.toList) (ts:=(ds.map λk=>k.data.toList).mergeSort λx y=>decide (x<=y)) ao qS vg.o (by simpa using r1) r2 r3;rw[List.length_map]at h5;exact⟨_,_,rfl,ao,h5,k1.but ((ah.refl [gb] w1).grown (grownBy_sorted _) (λU hj=>by cases hj;exact .inl ao)) (by simpa using qS)⟩
theorem qe6 (k:ByteArray) (hk:Let k) (w:World):Calls Tryz.prog 156 #[.string k] w λe w'=>e= .returned (.bool false)/\ad w w':=by
 obtain⟨c,h1,h2,rfl⟩:=hk;go_in;go_wp2_with fail
 refine(FG c _ ab ab).mono ?_;rintro e w1 ⟨rfl,k1⟩;go_wp2;go_ret;exact⟨rfl,k1⟩
theorem UU (w:World) (q g:Nat) (d:Array (List UInt8)):ah [g] w (putRow encStr (Sort.ahead w q) g 0 d):=
 ⟨rfl,rfl,rfl,by simp[putRow,mapBlock,Sort.ahead],λk hk hn=>by
  have:g≠k:=by rintro rfl;simp at hn
  simp[putRow,mapBlock,Sort.ahead,Array.getElem?_modify,this]⟩
def RdB (m:Nat) (b:Bool):Prop:=b=true->m<=4
theorem qe7 (v:Value) (ks:List ByteArray) (w:World) (hv:Rw w 9 1 cd v ks) (kV:∀ k∈ks,Let k) (hN:ks.length<=1000):
  Calls Tryz.prog 96 #[v] w λe w'=>∃ b,e= .returned (.bool b)/\RdB ks.length b/\ad w w':=by
 obtain⟨A,c,rfl,bl,bQ⟩:=hv.form;obtain⟨m,hm⟩:∃ m,ks.length=m:=⟨_,rfl⟩;have HT:ag (fI [] w 156 #[] (λs=> .string s) ks (λ_ b=>b=false)):=⟨λargs w=>enters_of Tryz.func156 av rfl args w,λW _ a ha=>(qe6 a (kV a ha) W).mono λe w' ⟨h1,h2⟩=>⟨false,h1,rfl,h2⟩⟩;have HV:=aa hv;have HM:=aa hm;rw[hm]at HV bl hN⊢;clear hv hm kV;by_cases h1:m<1
 ·go_wp2;go_ret;exact .inl ⟨rfl,(λh=>by cases h),al⟩
 by_cases h4:4<m
 ·go_wp2;go_ret;exact .inl ⟨rfl,(λh=>by cases h),al⟩
 go_in;go_wp2_with fail
 refine(qaV _ ks _ _ _ w HV.o [] HT.o).mono ?_;rintro e w1 ⟨b,rfl,bD,bG,k1⟩
 cases b
 rotate_left
 ·obtain⟨a,_,h⟩:=bD rfl
  cases h
 clear bD bG;go_wp2_with fail
 refine(callsIn_wide.1 (qe1 Fence.wide 5 trivial rfl A m c w1)).mono ?_;rintro e w2 ⟨rfl,rfl⟩
 have HS:=aa (qe5 222 #[.pointer (some ⟨w1.heap.size,0,none⟩)] (enters_of Tryz.func222 av rfl) w (w1.alloc (.cells #[.slice A m c] 34)) (k1.alloc _) (λ_=>True) ks (by rw[HM.o];omega)
  (λl J Jx W hW _ _ hY h0=>qe0 Fence.wide 3 trivial rfl ab l w1.heap.size w _ ks HV.o (by rw[HM.o];omega) J Jx hY W ((k1.alloc _).call hW) ((hW.cell (p:=⟨w1.heap.size,0,none⟩) ao).trans (aE (l5 w1 _) 0)) h0))
 rw[HM.o]at HS;go_wp2_with fail
 refine HS.o.mono ?_;rintro e w3 ⟨v3,ss,rfl,hl,ho,k3⟩;have K3:ad w w3:=(k1.alloc _).call k3;obtain⟨gb,c3,rfl,kU,hc3⟩:=uK ho ab;have h3:∃ W:Prop,W:=⟨True,trivial⟩;rcases ho.2 with ⟨h,_⟩|⟨g',cap,cur,lP,qS,eP,r1,r2,r3,r4⟩
 ·cases h
 cases lP
 have hH:Holds encStr w3 gb 0 ss.toArray:=holds_of_block eP (by rw[hl];simpa using r4);have yb:=Tryz.slices_Compact_string gb 0 c3 ss w3 hH ab ab;rw[hl]at yb;have DP:=aa yb;have nC:w.heap.size<=gb:=by have:=k1.size;simp at qS;omega
 clear hH yb ho eP r4 r3 HS;go_wp2_with fail
 refine DP.o.mono ?_;rintro e w4 ⟨rfl,q,rfl⟩;go_wp2;go_ret;exact⟨_,rfl,λ_=>ab,K3.but (UU w3 q gb _) (by simpa using nC)⟩
theorem qe8 (n:Nat) (w:World) (h1:0<n) (h2:n<=1000):
  Calls Tryz.prog 280 #[.slice none 0 0,.int .i64 n] w λe w'=>∃ c,e= .returned (.slice (some ⟨w.heap.size,0,none⟩) 0 c)/\w'.ownsRow w.heap.size 63 2 (.slice (some ⟨w.heap.size,0,none⟩) 0 c) 0 []/\ad w w':=by
 obtain⟨i0,hi,a7,aY,aW⟩:=ql0 rU;obtain⟨G,hG⟩:∃ G,G=grownCap w n 0 63:=⟨_,rfl⟩
 have qp:∀ ty,(Builtin.append_ #[27,3] ty #[.slice none 0 0,.int .i64 n]).run Tryz.prog w=
   .ok (.slice (some ⟨w.heap.size,0,none⟩) n G) (w.drew.alloc (.cells (Builtin.zeroCells (Value.cells (.agg #[.string ⟨#[]⟩,.string ⟨#[]⟩])) n++Builtin.zeroCells (Value.cells (.agg #[.string ⟨#[]⟩,.string ⟨#[]⟩])) (G-n)) 63)):=λty=>by
  rw[hG];exact Lib.run_append_nil_zeros w 27 3 ty 63 i0 _ .i64 .i64 Tryz.underlying27 Tryz.underlying3 hi a7 n h1 ab ab (by rw[aW];omega)
 have zu:n<=G:=by rw[hG];exact grownCap_ge w _ _ _
 have wW:G<=maxLen:=by rw[hG];exact grownCap_le_maxLen w n 0 63 (by unfold maxLen;omega)
 obtain⟨dX,wV⟩:∃ dX:Array Value,dX=Builtin.zeroCells (Value.cells (.agg #[.string ⟨#[]⟩,.string ⟨#[]⟩])) n++Builtin.zeroCells (Value.cells (.agg #[.string ⟨#[]⟩,.string ⟨#[]⟩])) (G-n):=⟨_,rfl⟩;have bu:dX.size=G*2:=by rw[wV];simp[Builtin.zeroCells,Value.cells];omega
 rw[<- wV]at qp;have Kg:G<=9223372036854775807:=by unfold maxLen at wW;exact wW
 have HO:ag ((w.drew.alloc (.cells dX 63)).ownsRow w.heap.size 63 2 (.slice (some ⟨w.heap.size,0,none⟩) 0 G) 0 []):=
  ⟨rfl,.inr ⟨w.heap.size,G,dX,rfl,CP _,l5 w.drew _,Nat.zero_le _,wW,bu,ao⟩⟩
 clear hG wV bu wW;have hw:IntKind.i64.wrap ((n:Int)-IntKind.i64.wrap (0-0))=n:=by rw[IntKind.wrap_i64,IntKind.wrap_i64];omega
 have sg:¬((n:Int)<0):=ab;have j4:(0:Int)<n:=ab;go_in;go_wp2_with (at_builtin;refine Lib.wpList_append_run _ rfl _ _ _ _ rfl _ _ rfl rfl _ _ (qp _) ?_)
 go_ret;exact⟨G,rfl,HO.o,(ad.refl w).drew.alloc _⟩
theorem UW {w:World} {A:Option Addr} {n c:Nat} {l:List Rg} (h:dL w A n c l) (h0:0<l.length):
  ∃ b off,A=some ⟨b,off,none⟩/\∀ (U:Nat) u,(l.flatMap bZ)[U]? =some u->w.cell? ((⟨b,off,none⟩:Addr).add U)=some u:=by
 obtain⟨hn,_,_,_,h5⟩:=h;obtain⟨b,off,rfl,hc⟩:=h5 ab;refine⟨b,off,rfl,λU u hu=> ?_⟩;have hj:=(bg hu);rw[eF nZ]at hj;have hq:U/2<l.length:=ab;have b3:U%2<(bZ l[U/2]).length:=by show U%2<2;omega
 have h6:=rV nZ l (U/2) _ (jc hq) (U%2) _ (jc b3);rw[show U/2*2+U%2=U by omega,hu]at h6;have lW:rg l (U/2)=l[U/2]:=by unfold rg;rw[jc hq];rfl
 obtain⟨g1,g2⟩:=hc (U/2) ab;rw[lW]at g1 g2;rw[Addr.add_lit];rcases(show U%2=0∨U%2=1 by omega)with e|e
 ·simp only[e]at h6;rw[show off+U=off+U/2*2 by omega,g1];exact h6.symm
 ·simp only[e]at h6;rw[show off+U=off+U/2*2+1 by omega,g2];exact h6.symm
def jj {α:Type} (l1 l2:List α) (k:Nat):List α:=if k=0 then []else if k=1 then l1 else l1++l2
theorem qe9 (q:Nat) (A1 A2:Option Addr) (c1 c2:Nat) (l1 l2:List Rg) (w:World) (h1:dL w A1 l1.length c1 l1) (h2:dL w A2 l2.length c2 l2) (Cq:0<l1.length/\l1.length<=100) (jy:0<l2.length/\l2.length<=100)
  (MH:w.cell? ⟨q,0,none⟩=some (.slice A1 l1.length c1)) (UX:w.cell? ⟨q,1,none⟩=some (.slice A2 l2.length c2)):
  Calls Tryz.prog 250 #[.slice (some ⟨q,0,none⟩) 2 2] w λe w'=>∃ v,e= .returned v/\w'.ownsRow w.heap.size 63 2 v (l1++l2).length ((l1++l2).flatMap bZ)/\ad w w':=by
 obtain⟨n1,j4⟩:∃ n1,l1.length=n1:=⟨_,rfl⟩;obtain⟨n2,cp⟩:∃ n2,l2.length=n2:=⟨_,rfl⟩;have H1:=aa h1;have H2:=aa h2;have qZ:=aa j4;have lg:=aa cp;rw[j4]at H1 Cq MH;rw[cp]at H2 jy UX;clear h1 h2 j4 cp;obtain⟨i0,hi,a7,aY,aW⟩:=ql0 rU;have hq:=Aa w _ MH;go_wp2;go_loopw [3,11] (λsv iv wr=>w=wr/\∃ k:Nat,k<=2/\iv= .int .i64 k/\sv= .int .i64 (if k=0 then 0 else if k=1 then(n1:Int)else(n1:Int)+n2)) (λ_ iv _=>2-(intOf iv).toNat)
 case atStart=>exact⟨rfl,0,ab,rfl,rfl⟩
 case round=>
  obtain⟨rfl,k,hk,rfl,rfl⟩:=hrel;rcases(show k=0∨k=1∨k=2 by omega)with rfl|rfl|rfl
  ·go_wp2;go_roundw
   case rel=>exact⟨trivial,1,ab,rfl,rfl⟩
   case measure=>simp[intOf]
  ·have hw:IntKind.i64.wrap ((n1:Int)+n2)=(n1:Int)+n2:=by rw[IntKind.wrap_i64];omega
   go_wp2;go_roundw
   case rel=>exact⟨trivial,2,ab,rfl,rfl⟩
   case measure=>simp[intOf]
  ·go_wp2_with fail
   refine(qe8 (n1+n2) _ ab ab).mono ?_;rintro e w1 ⟨c,rfl,ho,k1⟩;have HO:=aa ho;have qk1:=k1.size;clear ho;go_wp2;go_loopw [6,27] (λsv iv w2=>∃ k:Nat,k<=2/\iv= .int .i64 k/\ad w w2/\ag (w2.ownsRow w.heap.size 63 2 sv (jj l1 l2 k).length ((jj l1 l2 k).flatMap bZ))) (λ_ iv _=>2-(intOf iv).toNat)
   case atStart=>exact⟨0,ab,rfl,k1,HO.o⟩
   case round=>
    obtain⟨k,hk,rfl,kr,hs⟩:=hrel;rcases(show k=0∨k=1∨k=2 by omega)with rfl|rfl|rfl
    ·have hcq:=kr.af MH;obtain⟨AE,Ai,rfl,bL⟩:=UW (H1.o.keep kr) (by rw[qZ.o];omega);have HC:=aa bL;have bu:=kr.size;have fL:ag ((jj l1 l2 0).length<=100):=by unfold ag jj;simp;(try(rw[qZ.o];omega))
     have DQ:ag ((jj l1 l2 0).flatMap bZ++l1.flatMap bZ=(jj l1 l2 1).flatMap bZ/\(jj l1 l2 0).length+n1=(jj l1 l2 1).length):=by
      unfold ag jj;simp[qZ.o,lg.o]
     have qu:ag ((l1.flatMap bZ).length=n1*2):=by unfold ag;rw[eF nZ,qZ.o]
     clear bL;go_wp2_with (at_builtin;have UY:=fL.o;refine wpList_append_own _ rfl _ _ 27 rfl w.heap.size 63 i0 (.agg #[.string ⟨#[]⟩,.string ⟨#[]⟩]) 2 32 Tryz.underlying27 hi a7 aY aW rfl ak _ _ _ rfl hs.o ⟨AE,Ai,none⟩ n1 _ (l1.flatMap bZ) rfl qu.o HC.o (J2 l1) (by unfold maxLen;omega) ab ab ?_;intro v' w3 dk gW _;have eR:ag (w3.ownsRow w.heap.size 63 2 v' (jj l1 l2 1).length ((jj l1 l2 1).flatMap bZ)):=(by rw[<- DQ.o.1,<- DQ.o.2];exact dk);have K3:=kr.grown gW (λg hg=>(hs.o.lt g hg).1);obtain⟨A3,c3,rfl⟩:=ca dk;clear dk gW)
     go_roundw
     case rel=>exact⟨1,ab,rfl,K3,eR⟩
     case measure=>simp[intOf]
    ·have hcq:=kr.af UX;obtain⟨AE,Ai,rfl,bL⟩:=UW (H2.o.keep kr) (by rw[lg.o];omega);have HC:=aa bL;have bu:=kr.size;have fL:ag ((jj l1 l2 1).length<=100):=by unfold ag jj;simp;(try(rw[qZ.o];omega))
     have DQ:ag ((jj l1 l2 1).flatMap bZ++l2.flatMap bZ=(jj l1 l2 2).flatMap bZ/\(jj l1 l2 1).length+n2=(jj l1 l2 2).length):=by
      unfold ag jj;simp[qZ.o,lg.o]
     have qu:ag ((l2.flatMap bZ).length=n2*2):=by unfold ag;rw[eF nZ,lg.o]
     clear bL;go_wp2_with (at_builtin;have UY:=fL.o;refine wpList_append_own _ rfl _ _ 27 rfl w.heap.size 63 i0 (.agg #[.string ⟨#[]⟩,.string ⟨#[]⟩]) 2 32 Tryz.underlying27 hi a7 aY aW rfl ak _ _ _ rfl hs.o ⟨AE,Ai,none⟩ n2 _ (l2.flatMap bZ) rfl qu.o HC.o (J2 l2) (by unfold maxLen;omega) ab ab ?_;intro v' w3 dk gW _;have eR:ag (w3.ownsRow w.heap.size 63 2 v' (jj l1 l2 2).length ((jj l1 l2 2).flatMap bZ)):=(by rw[<- DQ.o.1,<- DQ.o.2];exact dk);have K3:=kr.grown gW (λg hg=>(hs.o.lt g hg).1);obtain⟨A3,c3,rfl⟩:=ca dk;clear dk gW)
     go_roundw
     case rel=>exact⟨2,ab,rfl,K3,eR⟩
     case measure=>simp[intOf]
    ·go_wp2;go_ret;exact⟨_,rfl,hs.o,kr⟩
theorem UZ {α:Type} [Inhabited α] [DecidableEq α] (d:Array α) (x:α):∀ m,x∈Lib.compactUpTo d m↔∃ U,U<m/\d[U]! =x
 |0=>by simp[Lib.compactUpTo]
 |m+1=>by
  rw[Lib.compactUpTo_succ,Pv,UZ d x m];constructor
  ·rintro(⟨U,hj,h⟩|h)
   ·exact⟨U,ab,h⟩
   ·split at h
    ·simp at h;exact⟨m,ab,h.symm⟩
    ·cases h
  ·rintro⟨U,hj,h⟩;rcases R6 U m with g|g
   ·exact .inl ⟨U,g,h⟩
   ·obtain rfl:U=m:=ab;by_cases hk:Lib.keeps d U=true
    ·rw[if_pos hk];exact .inr (by simp[h])
    ·unfold Lib.keeps at hk;simp only[decide_eq_true_eq,not_or,Classical.not_not]at hk;exact .inl ⟨U-1,ab,by rw[<- hk.2];exact h⟩
theorem U0 {α:Type} [Inhabited α] [DecidableEq α] (l:List α) (x:α):x∈Lib.compact l↔x∈l:=by
 unfold Lib.compact;rw[UZ,qcl];constructor
 ·rintro⟨U,hj,h⟩;exact⟨U,by rw[jc hj,<- h,getElem!_pos l.toArray U (by simpa using hj)];rfl⟩
 ·rintro⟨U,h⟩;obtain⟨hj,h2⟩:=pi.1 h;exact⟨U,hj,by rw[getElem!_pos l.toArray U (by simpa using hj)];exact h2⟩
theorem U1 {α:Type} [Inhabited α] [DecidableEq α] (l:List α):(Lib.compact l).Sublist l:=by
 have h:((List.range l.toArray.size).map (l.toArray[·]!))=l.toArray.toList:=Lib.range_map_get l.toArray;have h2:(Lib.compact l).Sublist ((List.range l.toArray.size).map (l.toArray[·]!)):=(List.filter_sublist).map _;rw[h]at h2;exact h2
def lr (b:ByteArray):Prop:=∃ c,97<=c/\c<=122/\b=ch c
theorem qe' {a b:ByteArray} (ha:lr a) (hb:lr b) (h:a.data.toList<=b.data.toList):hv a<=hv b:=by
 obtain⟨c,h1,h2,rfl⟩:=ha;obtain⟨d,h3,h4,rfl⟩:=hb;rw[kg ab,kg ab];have e:∀ n,(ch n).data.toList=[UInt8.ofNat n]:=λn=>rfl;rw[e,e]at h;rcases R6 d c with g|g
 ·exfalso
  rw[List.cons_le_cons_iff]at h;rcases h with h|⟨h,_⟩
  ·have h1:(UInt8.ofNat c).toNat<(UInt8.ofNat d).toNat:=h;rw[UInt8.toNat_ofNat',UInt8.toNat_ofNat']at h1;omega
  ·have h1:=congrArg UInt8.toNat h;rw[UInt8.toNat_ofNat',UInt8.toNat_ofNat']at h1;omega
 ·omega
structure AF (S:Nat->Prop) (bs:List ByteArray):Prop where
 SN:∀ b∈bs,lr b
 mem:∀ c,S c->ch c∈bs
 up:bs.Pairwise λa b=>hv a<=hv b
def nD:ByteArray->List ByteArray->List Rg
 |a,[]=>[(a,nil)]
 |a,b::t=>(a,b)::nD b t
theorem U2:∀ (a:ByteArray) (bs:List ByteArray),nD a bs=(List.range bs.length).map (λi=>(((a::bs)[i]?).getD nil,(bs[i]?).getD nil))++[(((a::bs)[bs.length]?).getD nil,nil)]
 |a,[]=>rfl
 |a,b::t=>by
  rw[nD,U2 b t,List.length_cons,List.range_succ_eq_map,List.map_cons,List.map_map];rfl
theorem U3 {a k:ByteArray} (ha:a=nil∨lr a) (h:hv a<=hv k):Op.bytesLess k.toList a.toList=false:=by
 rcases ha with rfl|⟨c,h1,h2,rfl⟩
 ·exact JB k
 ·rw[uB k ab];rw[kg ab]at h;simp;omega
theorem U4 (k:ByteArray):∀ (bs:List ByteArray) (a:ByteArray),(a=nil∨lr a)->hv a<=hv k->(∀ b∈bs,lr b/\hv a<=hv b)->bs.Pairwise (λa b=>hv a<=hv b)->
  ∃ r∈nD a bs,hasB r.1 r.2 k=true/\hv a<=hv r.1/\hv r.1<=hv k/\∀ b∈bs,(hv b<=hv k↔hv b<=hv r.1)
 |[],a,ha,hk,_,_=>⟨(a,nil),by simp[nD],by unfold hasB;rw[U3 ha hk];simp[nU],Int.le_refl _,hk,λb hb=>by cases hb⟩
 |b::t,a,ha,hk,hb,hp=>by
  obtain⟨p1,p2⟩:=List.pairwise_cons.1 hp;obtain⟨DR,ib⟩:=hb b ao;rcases Int.lt_or_le (hv k) (hv b)with g|g
  ·refine⟨(a,b),by simp[nD],?_,Int.le_refl _,hk,λx hx=> ?_⟩
   ·unfold hasB;rw[U3 ha hk];obtain⟨c,h1,h2,rfl⟩:=DR;rw[kg ab]at g;rw[uB k ab,ql3 g];simp
   ·have lV:hv b<=hv x:=by
     rcases KX.1 hx with rfl|hx
     ·exact Int.le_refl _
     ·exact p1 x hx
    simp only;omega
  ·obtain⟨r,h1,h2,h3,h4,h5⟩:=U4 k t b (.inr DR) g (λx hx=>⟨(hb x (qce _ hx)).1,p1 x hx⟩) p2;refine⟨r,qce _ h1,h2,Int.le_trans ib h3,h4,λx hx=> ?_⟩;rcases KX.1 hx with rfl|hx
   ·omega
   ·exact h5 x hx
theorem U5:∀ (es:List Nat) (h k:Int),(∀ e∈es,((e:Int)<=h↔(e:Int)<=k))->bV es h=bV es k
 |[],_,_,_=>rfl
 |e::t,h,k,hx=>by
  have h1:=hx e ao;unfold bV;rw[U5 t h k λx hx'=>hx x (qce _ hx')];by_cases g:h<(e:Int)
  ·rw[if_pos g,if_pos ab]
  ·rw[if_neg g,if_neg ab]
theorem qfa {es aH:List Nat} {bs:List ByteArray} (hu:Up es) (pd:Up aH) (h:AF (λc=>c∈es∨c∈aH) bs) (k:ByteArray):
  ∃ r∈nD nil bs,hasB r.1 r.2 k=true/\bV es (hv r.1)=bV es (hv k)/\bV aH (hv r.1)=bV aH (hv k):=by
 obtain⟨r,h1,h2,h3,h4,h5⟩:=U4 k bs nil (.inl rfl) (by rw[Fm];exact JA k) (λb hb=>⟨h.SN b hb,by rw[Fm];exact JA b⟩) h.up
 have g:∀ vj:List Nat,Up vj->(∀ e∈vj,ch e∈bs)->bV vj (hv r.1)=bV vj (hv k):=λvj wN hm=>by
  refine U5 vj _ _ λe he=> ?_;have h6:=h5 (ch e) (hm e he);obtain⟨i,hi⟩:=qcl.1 he;have hr:=wN.gN i (bg hi);unfold g at hr;rw[hi]at hr;simp only[Option.getD_some]at hr;rw[kg ab]at h6;exact h6.symm
 exact⟨r,h1,h2,g es hu λe he=>h.mem e (.inl he),g aH pd λe he=>h.mem e (.inr he)⟩
end Go.Proofs.YtehaoggjlciobaaGreat

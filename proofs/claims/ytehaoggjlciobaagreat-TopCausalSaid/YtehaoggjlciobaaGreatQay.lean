/- Part 18 of 40. -/
import Derived.Test.YtehaoggjlciobaaGreatQax
import Derived.Test.YtehaoggjlciobaaGreatQar
set_option linter.all false
set_option maxRecDepth 20000
set_option maxHeartbeats 16000000
namespace Go.Proofs.YtehaoggjlciobaaGreat
open Go.RowKit Go.Shelf Go.Sort Go.Proofs.Tryz
variable {a k:ByteArray} {bs:List ByteArray} {aJ os:List Int} {aH es:List Nat} {pt rs:List Rg} {xs:List Value} {U c i n:Nat} {r:Rg} {e t:TypeId} {v:Value} {W' w w2:World}
attribute [local go_sem] Oper.semAt_some
theorem qe0 (F:Fence) (n:Nat) (hf:F.fn 222) (ej:F.round=none) (hn:1<=n) (l Bs:Nat) (w0:World) (v:Value) (ks:List ByteArray) (hv:Rw w0 9 1 cd v ks) (cO:ks.length<=1000000) (J Jx:List ByteArray->World->Prop)
  (hY:∀ pre x W,J pre W->pre.length<ks.length->YieldAt F (n-1) prog l #[.string x] W λe W'=>(e= .returned (.bool true)/\J (pre++[x]) W'/\Below w0.heap.size W W')∨(e= .returned (.bool false)/\Jx (pre++[x]) W'))
  (W:World) (hK:ad w0 W) (DL:W.cell? ⟨Bs,0,none⟩=some v) (h0:J [] W):
  CallsIn F n prog 222 #[.func (.yield l) #[] #[],.pointer (some ⟨Bs,0,none⟩)] W λe W'=>(∃ v,e= .returned v)/\((∃ ys,ys=ks/\J ys W')∨(∃ pre,True/\Jx pre W')):=by
 obtain⟨A,c,rfl,bl,bQ⟩:=hv.form;obtain⟨m,hm⟩:=eqQ ks.length;have HV:=aa hv;have HY:=aa hY;have HM:=aa hm;rw[hm]at HV cO bl DL;clear hv hY hm;refine callsIn_of_wp func222 rfl hf ?_ ej;simp only[ntmps222,List.size_toArray,List.length_cons,List.length_nil,Nat.reduceAdd,Nat.reduceSub,Array.replicate_succ,Array.replicate_zero,List.push_toArray,List.append_toArray,List.nil_append,List.cons_append];gi_wp2
 gi_loopw [7] (λiv wr=>∃ i:Nat,i<=m/\iv= .int .i64 i/\ag (J (ks.take i) wr)/\ad w0 wr) (λiv _=>m-(intOf iv).toNat)
 case atStart=>exact⟨0,ab,rfl,h0,hK⟩
 case round=>
  obtain⟨i,hi,rfl,vv,kr⟩:=hrel;by_cases an:i<m
  ·obtain⟨x,hx⟩:=exQ ks i (by rw[HM.o];exact an);obtain⟨b,off,rfl,hb,hc⟩:=HV.o.af hx
   have j1:ag (ks.take i++[x]=ks.take (i+1)):=by
    have MD:=(bg hx);rw[QI MD,(pi.1 hx).2];rfl
   obtain c0:=iU λU u hu=>kr.af (hc U u hu);simp only[Nat.mul_one]at c0;obtain⟨fn,tmps,assign,body,hy,hR⟩:=HY.o _ x wr vv.o (by rw[qcd,HM.o];omega);clear hc hx;gi_wp2
   refine hR.mono ?_;rintro e W3 (⟨rfl,qY,lj⟩|⟨rfl,x'⟩)
   ·have tI:ag (J (ks.take (i+1)) W3):=by rw[<- j1.o];exact qY
    have k3:ad w0 W3:=kr.trans lj;clear qY;gi_wp2
    go_roundw
    case rel=>exact⟨i+1,ab,aA,tI,k3⟩
    case measure=>exact dY
   ·gi_wp2
    refine KV (results_none rfl _ _ _) rfl ?_;exact⟨⟨_,rfl⟩,.inr ⟨_,trivial,x'⟩⟩
  ·obtain rfl:i=m:=ab;gi_wp2
   go_end0
   exact⟨⟨_,rfl⟩,.inl ⟨_,rfl,by have h:=vv.o;rwa [qcc (by rw[HM.o];omega)]at h⟩⟩
theorem qe1 (F:Fence) (n:Nat) (hf:F.fn 160) (ej:F.round=none) (A:Option Addr) (m c:Nat) (w:World):
  CallsIn F n prog 160 #[.slice A m c] w λe w'=>e= .returned (.func (.func 222) #[] #[.pointer (some ⟨w.heap.size,0,none⟩)])/\w'=w.alloc (.cells #[.slice A m c] 34):=by
 refine callsIn_of_wp func160 rfl hf ?_ ej;simp only[ntmps160,List.size_toArray,List.length_cons,List.length_nil,Nat.reduceAdd,Nat.reduceSub,Array.replicate_succ,Array.replicate_zero,List.push_toArray,List.append_toArray,List.nil_append,List.cons_append];gi_wp2
 go_ret;exact⟨rfl,rfl⟩
theorem qe2 (W:World) (a:Value) (t:TypeId):∀ (U:Nat) u,[a][U]? =some u->(W.alloc (.cells #[a] t)).cell? ((⟨W.heap.size,0,none⟩:Addr).add U)=some u:=by
 intro U u hu;rw[Addr.add_lit,Nat.zero_add,aE (yY W _) U,<- hu];exact List.getElem?_toArray
theorem qe3 (F:Fence) (n:Nat) (hf:F.fn 269) (ej:F.round=none) (hn:2<=n) (g:Nat) (lb:Array Value) (ya:F.fn g) (lO:∀ args w,(callFunc g args).run prog w= .ok (.enter g args) w) (w0 w:World) (hk:ad w0 w) (S Sp:List ByteArray->Prop) (N:Nat) (hN:N<=1000000)
  (nB:SeqStopsK F (n-1) prog g lb (λx:ByteArray=> #[.string x]) (Below w0.heap.size) S Sp N w):
  CallsIn F n prog 269 #[.slice none 0 0,.func (.func g) #[] lb] w λe w'=>∃ v ds,e= .returned v/\S ds/\w'.ownsRow w.heap.size 9 1 v ds.length (ds.flatMap cd)/\ad w w':=by
 have h1:1<=n:=ab;have ME:=hk.size;refine callsIn_of_wp_marks func269 rfl hf ?_ ej;simp only[ntmps269,List.size_toArray,List.length_cons,List.length_nil,Nat.reduceAdd,Nat.reduceSub,Array.replicate_succ,Array.replicate_zero,List.push_toArray,List.append_toArray,List.nil_append,List.cons_append];gi_wp2
 have Hn:=Boxed.new w 34 (.slice none 0 0)
 refine wpIn_rangeFunc_ownH ej h1 (gf:=g) (lb:=lb) rfl ya lO nB belowK_t (belowK_b (by simp;omega)) ((Below.refl _ w).alloc (CP _) _) (λ_=>rfl)
  (λpre W=>(∃ v,Boxed W w.heap.size 34 v/\W.ownsRow w.heap.size 9 1 v pre.length (pre.flatMap cd)/\True)/\Below w.heap.size w W)
  (λ_ _ _=>False)
  (OwnFrom.and (Own.from (holdsRow_own _ _ _ _ _ (λpre:List ByteArray=>pre.length) (λpre=>pre.flatMap cd) (λ_ _=>True)) _) (ownFrom_below (CP _) ao))
  (λ_ _ _ _ _ hs _ _=>hs)
  ⟨⟨_,Hn,qcb _ _ _ _,trivial⟩,(Below.refl _ w).alloc (CP _) _⟩
  (λx bI W=>bI={tmps:= #[.slice none 0 0,.func (.func g) #[] lb,.pointer (some ⟨w.heap.size,0,none⟩),undef,.slice none 0 0,.string x,.func (.func g) #[] lb,.string x,undef,undef,undef,undef,undef],defers:=[]})
  (λx bI _ X Y row hs hg hr=>hs)
  ?assign ?body ?done ?stop
 case assign=>
  rintro l pre x W K ⟨⟨v,hv,hr,_⟩,hB⟩ hK;gi_wp2
  exact hK _ _ (KeepsFrom.refl _ _) (Below.refl _ W) ⟨⟨v,hv,hr,trivial⟩,hB⟩ rfl
 case body=>
  rintro l pre x bI W hl ⟨r,hr⟩ ⟨⟨v,hv,bR,_⟩,hB⟩ rfl an;have hc:=hv.cell;have hz:=hB.size;obtain⟨i0,hi,a7,aY,aW⟩:=ql0 B4;clear hr;gi_wp2_with (gi_at_builtin;refine wpListIn_append_own _ rfl _ _ 34 rfl w.heap.size 9 i0 (.string ⟨#[]⟩) 1 16 underlying34 hi a7 aY aW rfl ak _ _ _ rfl (bR.alloc _) ⟨W.heap.size,0,none⟩ 1 1 [.string x] rfl rfl (qe2 W _ _) (by intro u hu;simp only[KX,List.not_mem_nil,or_false]at hu;rcases hu with rfl;rfl) (by unfold maxLen;omega) ab (by simp;omega) ?_;intro v' w1 dk gW _;obtain⟨g',kP,rfl⟩:=ownsRow_succ dk;obtain⟨ft,cW,b3,bb,bG⟩:=hv.appended ak bR hz (CP _) dk gW;have og:=ft.cell;have vw:=ft.frozen)
  have gG:(w1.setCell ⟨w.heap.size,0,none⟩ (.slice (some ⟨g',0,none⟩) (pre.length+1) kP)).ownsRow w.heap.size 9 1 (.slice (some ⟨g',0,none⟩) (pre.length+1) kP) (pre++[x]).length ((pre++[x]).flatMap cd):=by simpa [cd]using b3
  exact⟨bb.from _,bG.mono ME,by first|exact⟨⟨_,cW,gG⟩,hB.trans bG⟩|exact⟨⟨_,cW,gG,trivial⟩,hB.trans bG⟩⟩
 case done=>
  rintro D ys W ja hS ⟨⟨v,hv,bR,_⟩,hB⟩ hK;have hc:=hv.cell;gi_wp2
  refine⟨ao,.inl ⟨_,_,rfl,run_takeDeferred hK,?_⟩⟩;exact⟨v,by simp[results,results269,go_sem],v,ys,rfl,hS,ownsRow_putObj bR _ hK rfl,hB.trans (belowK_b (w:=w) (CP _) W D _ _ (by simp at ja;omega) hK rfl rfl)⟩
 case stop=>
  rintro D c pre W _ _ h _;exact h.elim
theorem qe4 (F:Fence) (n:Nat) (hc:F.fn 220) (hf:F.fn 269) (ej:F.round=none) (hn:3<=n) (g:Nat) (lb:Array Value) (ya:F.fn g) (lO:∀ args w,(callFunc g args).run prog w= .ok (.enter g args) w) (w0 w:World) (hk:ad w0 w) (S Sp:List ByteArray->Prop) (N:Nat) (hN:N<=1000000)
  (nB:SeqStopsK F (n-1-1) prog g lb (λx:ByteArray=> #[.string x]) (Below w0.heap.size) S Sp N w):
  CallsIn F n prog 220 #[.func (.func g) #[] lb] w λe w'=>∃ v ds,e= .returned v/\S ds/\w'.ownsRow w.heap.size 9 1 v ds.length (ds.flatMap cd)/\ad w w':=by
 have h1:1<=n:=ab;have HS:=aa (qe3 F (n-1) hf ej ab g lb ya lO w0 w hk S Sp N hN nB);clear nB;refine callsIn_of_wp func220 rfl hc ?_ ej;simp only[ntmps220,List.size_toArray,List.length_cons,List.length_nil,Nat.reduceAdd,Nat.reduceSub,Array.replicate_succ,Array.replicate_zero,List.push_toArray,List.append_toArray,List.nil_append,List.cons_append];gi_wp2_with (gi_at_call 269;refine HS.o.mono ?_;rintro e w1 ⟨v,ds,rfl,dM,ho,k1⟩)
 have HO:=aa ho;go_ret;exact⟨v,ds,rfl,dM,HO.o,k1⟩
theorem MG (ks:List ByteArray):ks.flatMap cd=(ks.map λk=>k.data.toList).map encStr:=by
 induction ks with
 |nil=>rfl
 |cons a t ih=>rw[List.flatMap_cons,ih];rfl
theorem qe5 (g:Nat) (lb:Array Value) (lO:∀ args w,(callFunc g args).run prog w= .ok (.enter g args) w) (w0 w:World) (hk:ad w0 w) (Sp:List ByteArray->Prop) (ks:List ByteArray) (hN:ks.length<=1000000)
  (nB:SeqStopsK Fence.wide 3 prog g lb (λx:ByteArray=> #[.string x]) (Below w0.heap.size) (λys=>ys=ks) Sp ks.length w):
  Calls prog 159 #[.func (.func g) #[] lb] w λe w'=>∃ (v:Value) (ss:List (List UInt8)),e= .returned v/\ss.length=ks.length/\w'.ownsRow w.heap.size 9 1 v ks.length (ss.map encStr)/\ad w w':=by
 have HS:=aa (qe4 Fence.wide 5 trivial trivial rfl ab g lb trivial lO w0 w hk (λys=>ys=ks) Sp ks.length hN nB);clear nB;refine(callsIn_wide (n:=6)).1 ?_;refine callsIn_of_wp func159 rfl trivial ?_ rfl;simp only[ntmps159,List.size_toArray,List.length_cons,List.length_nil,Nat.reduceAdd,Nat.reduceSub,Array.replicate_succ,Array.replicate_zero,List.push_toArray,List.append_toArray,List.nil_append,List.cons_append];gi_wp2_with (refine⟨trivial,?_⟩;gi_at_call 220;refine HS.o.mono ?_;rintro e w1 ⟨v,ds,rfl,rfl,ho,k1⟩;rw[MG]at ho;have HO:=aa ho;clear ho)
 have ho:=HO.o;rcases ho.2 with ⟨rfl,h0⟩|⟨gb,cap,cur,rfl,qS,eP,r1,r2,r3,r4⟩
 ·have HO:=aa ho;clear ho;gi_wp2_with (refine⟨trivial,?_⟩;gi_at_call 221;refine(callsIn_wide.2 (AnyM.slices_Sort_string_none sort221 none 0 w1)).mono ?_;rintro e w2 ⟨rfl,rfl⟩)
  go_ret;obtain rfl:ds=[]:=ql2 h0;exact⟨_,[],rfl,rfl,HO.o,k1⟩
 ·have hH:Holds encStr w1 gb 0 (ds.map λk=>k.data.toList).toArray:=holds_of_block eP (by simpa using r4);have hZ:gb<w1.heap.size:=(aQ eP);have qA:=AnyM.slices_Sort_string sort221 gb 0 cap (ds.map λk=>k.data.toList) w1 hH hZ (by simp;omega);rw[List.length_map]at qA;have pA:=aa qA;have vg:=aa eP;clear qA hH eP ho r4;gi_wp2_with (refine⟨trivial,?_⟩;gi_at_call 221;refine(callsIn_wide.2 pA.o).mono ?_;rintro e w2 ⟨rfl,nn,os,rfl⟩)
  go_ret;have h5:=ownsRow_sorted (n:=nn) (os:=os) (ss:=ds.map λk=>k.data.toList) (ts:=(ds.map λk=>k.data.toList).mergeSort λx y=>decide (x<=y)) ao qS vg.o (by simpa using r1) r2 r3;rw[List.length_map]at h5;exact⟨_,_,rfl,ao,h5,k1.but ((ah.refl [gb] w1).grown (grownBy_sorted _) (λU hj=>by cases hj;exact .inl ao)) (by simpa using qS)⟩
theorem qe6 (k:ByteArray) (hk:Let k) (w:World):Calls prog 156 #[.string k] w λe w'=>e= .returned (.bool false)/\ad w w':=by
 obtain⟨c,h1,h2,rfl⟩:=hk;go_in;go_wp2_with fail
 refine(FG c _ ab ab).mono ?_;rintro e w1 ⟨rfl,k1⟩;go_wp2;go_ret;exact⟨rfl,k1⟩
theorem UU (w:World) (q g:Nat) (d:Array (List UInt8)):ah [g] w (putRow encStr (Sort.ahead w q) g 0 d):=
 ⟨rfl,rfl,rfl,by simp[putRow,mapBlock,Sort.ahead],λk hk hn=>by
  have:g≠k:=by rintro rfl;simp at hn
  simp[putRow,mapBlock,Sort.ahead,Array.getElem?_modify,this]⟩
def RdB (m:Nat) (b:Bool):Prop:=b=true->m<=4
theorem qe7 (v:Value) (ks:List ByteArray) (w:World) (hv:Rw w 9 1 cd v ks) (kV:∀ k∈ks,Let k) (hN:ks.length<=1000):
  Calls prog 96 #[v] w λe w'=>∃ b,e= .returned (.bool b)/\RdB ks.length b/\ad w w':=by
 obtain⟨A,c,rfl,bl,bQ⟩:=hv.form;obtain⟨m,hm⟩:=eqQ ks.length;have HT:ag (fI [] w 156 #[] (λs=> .string s) ks (λ_ b=>b=false)):=⟨λargs w=>enters_of func156 av rfl args w,λW _ a ha=>(qe6 a (kV a ha) W).mono λe w' ⟨h1,h2⟩=>⟨false,h1,rfl,h2⟩⟩;have HV:=aa hv;have HM:=aa hm;rw[hm]at HV bl hN⊢;clear hv hm kV;by_cases h1:m<1
 ·go_wp2;go_ret;exact .inl ⟨rfl,(λh=>by cases h),al⟩
 by_cases h4:4<m
 ·go_wp2;go_ret;exact .inl ⟨rfl,(λh=>by cases h),al⟩
 go_in;go_wp2_with fail
 refine(qaV _ ks _ _ _ w HV.o [] HT.o).mono ?_;rintro e w1 ⟨b,rfl,bD,bG,k1⟩
 cases b
 rotate_left
 ·obtain⟨a,_,h⟩:=bD rfl
  cases h
 clear bD bG;go_wp2_with fail
 refine(callsIn_wide.1 (qe1 Fence.wide 5 trivial rfl A m c w1)).mono ?_;rintro e w2 ⟨rfl,rfl⟩
 have HS:=aa (qe5 222 #[.pointer (some ⟨w1.heap.size,0,none⟩)] (enters_of func222 av rfl) w (w1.alloc (.cells #[.slice A m c] 34)) (k1.alloc _) (λ_=>True) ks (by rw[HM.o];omega)
  (λl J Jx W hW _ _ hY h0=>qe0 Fence.wide 3 trivial rfl ab l w1.heap.size w _ ks HV.o (by rw[HM.o];omega) J Jx hY W ((k1.alloc _).call hW) ((hW.cell (p:=⟨w1.heap.size,0,none⟩) ao).trans (aE (yY w1 _) 0)) h0))
 rw[HM.o]at HS;go_wp2_with fail
 refine HS.o.mono ?_;rintro e w3 ⟨v3,ss,rfl,hl,ho,k3⟩;have K3:ad w w3:=(k1.alloc _).call k3;obtain⟨gb,c3,rfl,kU,hc3⟩:=uK ho ab;have h3:∃ W:Prop,W:=⟨True,trivial⟩;rcases ho.2 with ⟨h,_⟩|⟨g',cap,cur,lP,qS,eP,r1,r2,r3,r4⟩
 ·cases h
 cases lP
 have hH:Holds encStr w3 gb 0 ss.toArray:=holds_of_block eP (by rw[hl];simpa using r4);have yb:=slices_Compact_string gb 0 c3 ss w3 hH ab ab;rw[hl]at yb;have DP:=aa yb;have nC:w.heap.size<=gb:=by have:=k1.size;simp at qS;omega
 clear hH yb ho eP r4 r3 HS;go_wp2_with fail
 refine DP.o.mono ?_;rintro e w4 ⟨rfl,q,rfl⟩;go_wp2;go_ret;exact⟨_,rfl,λ_=>ab,K3.but (UU w3 q gb _) (by simpa using nC)⟩
theorem qe8 (n:Nat) (w:World) (h1:0<n) (h2:n<=1000):
  Calls prog 280 #[.slice none 0 0,.int .i64 n] w λe w'=>∃ c,e= .returned (.slice (some ⟨w.heap.size,0,none⟩) 0 c)/\w'.ownsRow w.heap.size 63 2 (.slice (some ⟨w.heap.size,0,none⟩) 0 c) 0 []/\ad w w':=by
 obtain⟨i0,hi,a7,aY,aW⟩:=ql0 rU;obtain⟨G,hG⟩:=eqR (grownCap w n 0 63)
 have qp:∀ ty,(Builtin.append_ #[27,3] ty #[.slice none 0 0,.int .i64 n]).run prog w=
   .ok (.slice (some ⟨w.heap.size,0,none⟩) n G) (w.drew.alloc (.cells (Builtin.zeroCells (Value.cells (.agg #[.string ⟨#[]⟩,.string ⟨#[]⟩])) n++Builtin.zeroCells (Value.cells (.agg #[.string ⟨#[]⟩,.string ⟨#[]⟩])) (G-n)) 63)):=λty=>by
  rw[hG];exact Lib.run_append_nil_zeros w 27 3 ty 63 i0 _ .i64 .i64 underlying27 underlying3 hi a7 n h1 ab ab (by rw[aW];omega)
 have zu:n<=G:=by rw[hG];exact grownCap_ge w _ _ _
 have wW:G<=maxLen:=by rw[hG];exact grownCap_le_maxLen w n 0 63 (by unfold maxLen;omega)
 obtain⟨dX,wV⟩:∃ dX:Array Value,dX=Builtin.zeroCells (Value.cells (.agg #[.string ⟨#[]⟩,.string ⟨#[]⟩])) n++Builtin.zeroCells (Value.cells (.agg #[.string ⟨#[]⟩,.string ⟨#[]⟩])) (G-n):=⟨_,rfl⟩;have bu:dX.size=G*2:=by rw[wV];simp[Builtin.zeroCells,Value.cells];omega
 rw[<- wV]at qp;have Kg:G<=9223372036854775807:=by unfold maxLen at wW;exact wW
 have HO:ag ((w.drew.alloc (.cells dX 63)).ownsRow w.heap.size 63 2 (.slice (some ⟨w.heap.size,0,none⟩) 0 G) 0 []):=
  ⟨rfl,.inr ⟨w.heap.size,G,dX,rfl,CP _,yY w.drew _,Nat.zero_le _,wW,bu,ao⟩⟩
 clear hG wV bu wW;have hw:IntKind.i64.wrap ((n:Int)-IntKind.i64.wrap (0-0))=n:=by rw[IntKind.wrap_i64,IntKind.wrap_i64];omega
 have sg:¬((n:Int)<0):=ab;have j4:(0:Int)<n:=ab;go_in;go_wp2_with (at_builtin;refine Lib.wpList_append_run _ rfl _ _ _ _ rfl _ _ rfl rfl _ _ (qp _) ?_)
 go_ret;exact⟨G,rfl,HO.o,(ad.refl w).drew.alloc _⟩
theorem UW {A:Option Addr} {l:List Rg} (h:dL w A n c l) (h0:0<l.length):
  ∃ b off,A=some ⟨b,off,none⟩/\∀ (U:Nat) u,(l.flatMap bZ)[U]? =some u->w.cell? ((⟨b,off,none⟩:Addr).add U)=some u:=by
 obtain⟨hn,_,_,_,h5⟩:=h;obtain⟨b,off,rfl,hc⟩:=h5 ab;refine⟨b,off,rfl,λU u hu=> ?_⟩;have hj:=(bg hu);rw[eF nZ]at hj;have hq:U/2<l.length:=ab;have b3:U%2<(bZ l[U/2]).length:=by show U%2<2;omega
 have h6:=rV nZ l (U/2) _ (vF hq) (U%2) _ (vF b3);rw[show U/2*2+U%2=U by omega,hu]at h6;have lW:rg l (U/2)=l[U/2]:=by unfold rg;rw[vF hq];rfl
 obtain⟨g1,g2⟩:=hc (U/2) ab;rw[lW]at g1 g2;rw[Addr.add_lit];rcases(show U%2=0∨U%2=1 by omega)with e|e
 ·simp only[e]at h6;rw[show off+U=off+U/2*2 by omega,g1];exact h6.symm
 ·simp only[e]at h6;rw[show off+U=off+U/2*2+1 by omega,g2];exact h6.symm
def jj {α:Type} (l1 l2:List α) (k:Nat):List α:=if k=0 then []else if k=1 then l1 else l1++l2
theorem qe9 (q:Nat) (A1 A2:Option Addr) (c1 c2:Nat) (l1 l2:List Rg) (w:World) (h1:dL w A1 l1.length c1 l1) (h2:dL w A2 l2.length c2 l2) (Cq:0<l1.length/\l1.length<=100) (jy:0<l2.length/\l2.length<=100)
  (MH:w.cell? ⟨q,0,none⟩=some (.slice A1 l1.length c1)) (UX:w.cell? ⟨q,1,none⟩=some (.slice A2 l2.length c2)):
  Calls prog 250 #[.slice (some ⟨q,0,none⟩) 2 2] w λe w'=>∃ v,e= .returned v/\w'.ownsRow w.heap.size 63 2 v (l1++l2).length ((l1++l2).flatMap bZ)/\ad w w':=by
 obtain⟨n1,j4⟩:=eqQ l1.length;obtain⟨n2,cp⟩:=eqQ l2.length;have H1:=aa h1;have H2:=aa h2;have qZ:=aa j4;have lg:=aa cp;rw[j4]at H1 Cq MH;rw[cp]at H2 jy UX;clear h1 h2 j4 cp;obtain⟨i0,hi,a7,aY,aW⟩:=ql0 rU;have hq:=Aa w _ MH;go_wp2;go_loopw [3,11] (λsv iv wr=>w=wr/\∃ k:Nat,k<=2/\iv= .int .i64 k/\sv= .int .i64 (if k=0 then 0 else if k=1 then(n1:Int)else(n1:Int)+n2)) (λ_ iv _=>2-(intOf iv).toNat)
 case atStart=>exact⟨rfl,0,ab,rfl,rfl⟩
 case round=>
  obtain⟨rfl,k,hk,rfl,rfl⟩:=hrel;rcases(show k=0∨k=1∨k=2 by omega)with rfl|rfl|rfl
  ·go_wp2;go_roundw
   case rel=>exact⟨trivial,1,ab,rfl,rfl⟩
   case measure=>simp[intOf]
  ·have hw:IntKind.i64.wrap ((n1:Int)+n2)=(n1:Int)+n2:=by rw[IntKind.wrap_i64];omega
   go_wp2;go_roundw
   case rel=>exact⟨trivial,2,ab,rfl,rfl⟩
   case measure=>simp[intOf]
  ·go_wp2_with fail
   refine(qe8 (n1+n2) _ ab ab).mono ?_;rintro e w1 ⟨c,rfl,ho,k1⟩;have HO:=aa ho;have qk1:=k1.size;clear ho;go_wp2;go_loopw [6,27] (λsv iv w2=>∃ k:Nat,k<=2/\iv= .int .i64 k/\ad w w2/\ag (w2.ownsRow w.heap.size 63 2 sv (jj l1 l2 k).length ((jj l1 l2 k).flatMap bZ))) (λ_ iv _=>2-(intOf iv).toNat)
   case atStart=>exact⟨0,ab,rfl,k1,HO.o⟩
   case round=>
    obtain⟨k,hk,rfl,kr,hs⟩:=hrel;rcases(show k=0∨k=1∨k=2 by omega)with rfl|rfl|rfl
    ·have hcq:=kr.af MH;obtain⟨AE,Ai,rfl,bL⟩:=UW (H1.o.keep kr) (by rw[qZ.o];omega);have HC:=aa bL;have bu:=kr.size;have fL:ag ((jj l1 l2 0).length<=100):=by unfold ag jj;simp;(try(rw[qZ.o];omega))
     have DQ:ag ((jj l1 l2 0).flatMap bZ++l1.flatMap bZ=(jj l1 l2 1).flatMap bZ/\(jj l1 l2 0).length+n1=(jj l1 l2 1).length):=by
      unfold ag jj;simp[qZ.o,lg.o]
     have qu:ag ((l1.flatMap bZ).length=n1*2):=by unfold ag;rw[eF nZ,qZ.o]
     clear bL;go_wp2_with (at_builtin;have UY:=fL.o;refine wpList_append_own _ rfl _ _ 27 rfl w.heap.size 63 i0 (.agg #[.string ⟨#[]⟩,.string ⟨#[]⟩]) 2 32 underlying27 hi a7 aY aW rfl ak _ _ _ rfl hs.o ⟨AE,Ai,none⟩ n1 _ (l1.flatMap bZ) rfl qu.o HC.o (J2 l1) (by unfold maxLen;omega) ab ab ?_;intro v' w3 dk gW _;have eR:ag (w3.ownsRow w.heap.size 63 2 v' (jj l1 l2 1).length ((jj l1 l2 1).flatMap bZ)):=(by rw[<- DQ.o.1,<- DQ.o.2];exact dk);have K3:=kr.grown gW (λg hg=>(hs.o.lt g hg).1);obtain⟨A3,c3,rfl⟩:=ca dk;clear dk gW)
     go_roundw
     case rel=>exact⟨1,ab,rfl,K3,eR⟩
     case measure=>simp[intOf]
    ·have hcq:=kr.af UX;obtain⟨AE,Ai,rfl,bL⟩:=UW (H2.o.keep kr) (by rw[lg.o];omega);have HC:=aa bL;have bu:=kr.size;have fL:ag ((jj l1 l2 1).length<=100):=by unfold ag jj;simp;(try(rw[qZ.o];omega))
     have DQ:ag ((jj l1 l2 1).flatMap bZ++l2.flatMap bZ=(jj l1 l2 2).flatMap bZ/\(jj l1 l2 1).length+n2=(jj l1 l2 2).length):=by
      unfold ag jj;simp[qZ.o,lg.o]
     have qu:ag ((l2.flatMap bZ).length=n2*2):=by unfold ag;rw[eF nZ,lg.o]
     clear bL;go_wp2_with (at_builtin;have UY:=fL.o;refine wpList_append_own _ rfl _ _ 27 rfl w.heap.size 63 i0 (.agg #[.string ⟨#[]⟩,.string ⟨#[]⟩]) 2 32 underlying27 hi a7 aY aW rfl ak _ _ _ rfl hs.o ⟨AE,Ai,none⟩ n2 _ (l2.flatMap bZ) rfl qu.o HC.o (J2 l2) (by unfold maxLen;omega) ab ab ?_;intro v' w3 dk gW _;have eR:ag (w3.ownsRow w.heap.size 63 2 v' (jj l1 l2 2).length ((jj l1 l2 2).flatMap bZ)):=(by rw[<- DQ.o.1,<- DQ.o.2];exact dk);have K3:=kr.grown gW (λg hg=>(hs.o.lt g hg).1);obtain⟨A3,c3,rfl⟩:=ca dk;clear dk gW)
     go_roundw
     case rel=>exact⟨2,ab,rfl,K3,eR⟩
     case measure=>simp[intOf]
    ·go_wp2;go_ret;exact⟨_,rfl,hs.o,kr⟩
theorem UZ {α:Type} [Inhabited α] [DecidableEq α] (d:Array α) (x:α):∀ m,x∈Lib.compactUpTo d m↔∃ U,U<m/\d[U]! =x
 |0=>by simp[Lib.compactUpTo]
 |m+1=>by
  rw[Lib.compactUpTo_succ,Pv,UZ d x m];constructor
  ·rintro(⟨U,hj,h⟩|h)
   ·exact⟨U,ab,h⟩
   ·split at h
    ·simp at h;exact⟨m,ab,h.symm⟩
    ·cases h
  ·rintro⟨U,hj,h⟩;rcases R6 U m with g|g
   ·exact .inl ⟨U,g,h⟩
   ·obtain rfl:U=m:=ab;by_cases hk:Lib.keeps d U=true
    ·rw[if_pos hk];exact .inr (by simp[h])
    ·unfold Lib.keeps at hk;simp only[decide_eq_true_eq,not_or,Classical.not_not]at hk;exact .inl ⟨U-1,ab,by rw[<- hk.2];exact h⟩
theorem U0 {α:Type} [Inhabited α] [DecidableEq α] (l:List α) (x:α):x∈Lib.compact l↔x∈l:=by
 unfold Lib.compact;rw[UZ,qcl];constructor
 ·rintro⟨U,hj,h⟩;exact⟨U,by rw[vF hj,<- h,getElem!_pos l.toArray U (by simpa using hj)];rfl⟩
 ·rintro⟨U,h⟩;obtain⟨hj,h2⟩:=pi.1 h;exact⟨U,hj,by rw[getElem!_pos l.toArray U (by simpa using hj)];exact h2⟩
theorem U1 {α:Type} [Inhabited α] [DecidableEq α] (l:List α):(Lib.compact l).Sublist l:=by
 have h:((List.range l.toArray.size).map (l.toArray[·]!))=l.toArray.toList:=Lib.range_map_get l.toArray;have h2:(Lib.compact l).Sublist ((List.range l.toArray.size).map (l.toArray[·]!)):=(List.filter_sublist).map _;rw[h]at h2;exact h2
def lr (b:ByteArray):Prop:=∃ c,97<=c/\c<=122/\b=ch c
theorem qe' {b:ByteArray} (ha:lr a) (hb:lr b) (h:a.data.toList<=b.data.toList):hv a<=hv b:=by
 obtain⟨c,h1,h2,rfl⟩:=ha;obtain⟨d,h3,h4,rfl⟩:=hb;rw[kg ab,kg ab];have e:∀ n,(ch n).data.toList=[UInt8.ofNat n]:=λn=>rfl;rw[e,e]at h;rcases R6 d c with g|g
 ·exfalso
  rw[List.cons_le_cons_iff]at h;rcases h with h|⟨h,_⟩
  ·have h1:(UInt8.ofNat c).toNat<(UInt8.ofNat d).toNat:=h;rw[UInt8.toNat_ofNat',UInt8.toNat_ofNat']at h1;omega
  ·have h1:=congrArg UInt8.toNat h;rw[UInt8.toNat_ofNat',UInt8.toNat_ofNat']at h1;omega
 ·omega
structure AF (S:Nat->Prop) (bs:List ByteArray):Prop where
 SN:∀ b∈bs,lr b
 mem:∀ c,S c->ch c∈bs
 up:bs.Pairwise λa b=>hv a<=hv b
def nD:ByteArray->List ByteArray->List Rg
 |a,[]=>[(a,nil)]
 |a,b::t=>(a,b)::nD b t
theorem U2:∀ (a:ByteArray) (bs:List ByteArray),nD a bs=(List.range bs.length).map (λi=>(((a::bs)[i]?).getD nil,(bs[i]?).getD nil))++[(((a::bs)[bs.length]?).getD nil,nil)]
 |a,[]=>rfl
 |a,b::t=>by
  rw[nD,U2 b t,List.length_cons,List.range_succ_eq_map,List.map_cons,List.map_map];rfl
theorem U3 (ha:a=nil∨lr a) (h:hv a<=hv k):Op.bytesLess k.toList a.toList=false:=by
 rcases ha with rfl|⟨c,h1,h2,rfl⟩
 ·exact JB k
 ·rw[uB k ab];rw[kg ab]at h;simp;omega
theorem U4 (k:ByteArray):∀ (bs:List ByteArray) (a:ByteArray),(a=nil∨lr a)->hv a<=hv k->(∀ b∈bs,lr b/\hv a<=hv b)->bs.Pairwise (λa b=>hv a<=hv b)->
  ∃ r∈nD a bs,hasB r.1 r.2 k=true/\hv a<=hv r.1/\hv r.1<=hv k/\∀ b∈bs,(hv b<=hv k↔hv b<=hv r.1)
 |[],a,ha,hk,_,_=>⟨(a,nil),by simp[nD],by unfold hasB;rw[U3 ha hk];simp[nU],Int.le_refl _,hk,λb hb=>by cases hb⟩
 |b::t,a,ha,hk,hb,hp=>by
  obtain⟨p1,p2⟩:=List.pairwise_cons.1 hp;obtain⟨DR,ib⟩:=hb b ao;rcases Int.lt_or_le (hv k) (hv b)with g|g
  ·refine⟨(a,b),by simp[nD],?_,Int.le_refl _,hk,λx hx=> ?_⟩
   ·unfold hasB;rw[U3 ha hk];obtain⟨c,h1,h2,rfl⟩:=DR;rw[kg ab]at g;rw[uB k ab,ql3 g];simp
   ·have lV:hv b<=hv x:=by
     rcases KX.1 hx with rfl|hx
     ·exact Int.le_refl _
     ·exact p1 x hx
    simp only;omega
  ·obtain⟨r,h1,h2,h3,h4,h5⟩:=U4 k t b (.inr DR) g (λx hx=>⟨(hb x (zM _ hx)).1,p1 x hx⟩) p2;refine⟨r,zM _ h1,h2,Int.le_trans ib h3,h4,λx hx=> ?_⟩;rcases KX.1 hx with rfl|hx
   ·omega
   ·exact h5 x hx
theorem U5:∀ (es:List Nat) (h k:Int),(∀ e∈es,((e:Int)<=h↔(e:Int)<=k))->bV es h=bV es k
 |[],_,_,_=>rfl
 |e::t,h,k,hx=>by
  have h1:=hx e ao;unfold bV;rw[U5 t h k λx hx'=>hx x (zM _ hx')];by_cases g:h<(e:Int)
  ·rw[if_pos g,if_pos ab]
  ·rw[if_neg g,if_neg ab]
theorem qfa (hu:Up es) (pd:Up aH) (h:AF (λc=>c∈es∨c∈aH) bs) (k:ByteArray):
  ∃ r∈nD nil bs,hasB r.1 r.2 k=true/\bV es (hv r.1)=bV es (hv k)/\bV aH (hv r.1)=bV aH (hv k):=by
 obtain⟨r,h1,h2,h3,h4,h5⟩:=U4 k bs nil (.inl rfl) (by rw[Fm];exact JA k) (λb hb=>⟨h.SN b hb,by rw[Fm];exact JA b⟩) h.up
 have g:∀ vj:List Nat,Up vj->(∀ e∈vj,ch e∈bs)->bV vj (hv r.1)=bV vj (hv k):=λvj wN hm=>by
  refine U5 vj _ _ λe he=> ?_;have h6:=h5 (ch e) (hm e he);obtain⟨i,hi⟩:=qcl.1 he;have hr:=wN.gN i (bg hi);unfold g at hr;rw[hi]at hr;simp only[Option.getD_some]at hr;rw[kg ab]at h6;exact h6.symm
 exact⟨r,h1,h2,g es hu λe he=>h.mem e (.inl he),g aH pd λe he=>h.mem e (.inr he)⟩
theorem qfb (s:ByteArray) (w:World):Calls prog 279 #[.string s] w λe w'=>∃ b,e= .returned (.bool b)/\(b=true↔s.toList=[])/\ad w w':=by
 obtain⟨b,hb⟩:=eqR (s.toList==([]:List UInt8));have HB:ag (b=true↔s.toList=[]):=by unfold ag;rw[hb];simp
 go_wp2;go_ret;exact⟨_,rfl,ao,ad.refl w⟩
theorem qfc {g cap q m:Nat} {cur:Array Value} {ts:List (List UInt8)} (hb:w.heap[g]? =some (.cells cur e (0,0))) (hm:m<=ts.length) (hs:ts.length<=cur.size) (hc:m<=cap) (bQ:cap<=maxLen):
  Rw (putRow encStr (Sort.ahead w q) g 0 ts.toArray) e 1 cd (.slice (some ⟨g,0,none⟩) m cap) ((ts.take m).map λl=>(⟨l.toArray⟩:ByteArray)):=by
 have h1:(putRow encStr (Sort.ahead w q) g 0 ts.toArray).heap[g]? =some (.cells (putCells encStr 0 ts.toArray cur) e (0,0)):=by
  have:=heap_sorted (n:=q) (os:= #[]) ts.toArray hb;rwa [grow_empty]at this
 have h2:=take_putCells cur ts hs;have hl:((ts.take m).map λl=>(⟨l.toArray⟩:ByteArray)).length=m:=by rw[List.length_map,qcd];omega
 have:=Cf (l:=(ts.take m).map λl=>(⟨l.toArray⟩:ByteArray)) (c:=cap) jU h1 (λt u hu=> ?_) (by rw[hl];exact hc) bQ
 ·rwa [hl]at this
 ·have ht:=(bg hu);rw[eF jU,hl,Nat.mul_one]at ht
  have h3:(ts.map encStr)[t]? =some u:=by
   rw[MG,List.map_map,List.map_map]at hu;rw[List.getElem?_map,qlY ht]at hu;rw[List.getElem?_map];exact hu
  rw[<- h2,qlY ab,Array.getElem?_toList]at h3;exact h3
def gH (rs:List Rg):List ByteArray:=rs.flatMap λr=>[r.1,r.2]
theorem qfd (h:rs[i]? =some r):gH (rs.take (i+1))=gH (rs.take i)++[r.1,r.2]:=by
 have an:=(bg h);unfold gH;rw[QI an,(pi.1 h).2];simp
theorem U6 (rs:List Rg):(gH rs).length=rs.length*2:=by
 unfold gH
 induction rs with
 |nil=>rfl
 |cons a t ih=>rw[List.flatMap_cons,zH,ih,List.length_cons];simp;omega
theorem qfe (a b c:List UInt8) (h1:decide (a<=b)=true) (h2:decide (b<=c)=true):decide (a<=c)=true:=by simp only[decide_eq_true_eq]at*;exact List.le_trans h1 h2
theorem qff (a b:List UInt8):(decide (a<=b)||decide (b<=a))=true:=by simp only[Bool.or_eq_true,decide_eq_true_eq];exact List.le_total a b
theorem qfg (pJ:∀ r∈rs,(r.1=nil∨lr r.1)/\(r.2=nil∨lr r.2)) {l':List ByteArray} (hd:cK (λ(a:ByteArray) b=>b=true↔a.toList=[]) (gH rs) l') (S:Nat->Prop) (hS:∀ c,S c->97<=c/\c<=122/\∃ r∈rs,r.1=ch c∨r.2=ch c):
  AF S ((Lib.compact ((l'.map λk=>k.data.toList).mergeSort λx y=>decide (x<=y))).map λl=>(⟨l.toArray⟩:ByteArray)):=by
 have hm:∀ b,b∈(Lib.compact ((l'.map λk=>k.data.toList).mergeSort λx y=>decide (x<=y))).map (λl=>(⟨l.toArray⟩:ByteArray))↔b∈l':=λb=>by
  rw[List.mem_map];constructor
  ·rintro⟨l,hl,rfl⟩;rw[U0,(List.mergeSort_perm _ _).mem_iff,List.mem_map]at hl;obtain⟨k,hk,rfl⟩:=hl;exact hk
  ·intro hb;refine⟨b.data.toList,?_,rfl⟩;rw[U0,(List.mergeSort_perm _ _).mem_iff,List.mem_map];exact⟨b,hb,rfl⟩
 have hc:∀ b∈l',lr b:=λb hb=>by
  obtain⟨h1,h2⟩:=hd.not hb;have aN:b≠nil:=λe=>by have:=h2.2 (by rw[e];exact nU);cases this
  unfold gH at h1;obtain⟨r,hr,oq⟩:=List.mem_flatMap.1 h1;simp only[KX,List.not_mem_nil,or_false]at oq;rcases oq with rfl|rfl
  ·exact(pJ r hr).1.resolve_left aN
  ·exact(pJ r hr).2.resolve_left aN
 refine⟨λb hb=>hc b ((hm b).1 hb),λc hcS=> ?_,?_⟩
 ·obtain⟨h1,h2,r,hr,sy⟩:=hS c hcS;rw[hm];have c7:ch c∈gH rs:=List.mem_flatMap.2 ⟨r,hr,by simp;rcases sy with h|h;exact .inl h.symm;exact .inr h.symm⟩;rcases hd.mem c7 with h|h
  ·exact h
  ·have:=h.1 rfl;rw[oR]at this
   cases this
 ·have hs:=(List.pairwise_mergeSort qfe qff (l'.map λk=>k.data.toList)).sublist (U1 _);refine List.pairwise_map.2 (hs.imp_of_mem λ{a b} ha hb ib=> ?_);have h1:=hc _ ((hm ⟨a.toArray⟩).1 (List.mem_map.2 ⟨a,ha,rfl⟩));have h2:=hc _ ((hm ⟨b.toArray⟩).1 (List.mem_map.2 ⟨b,hb,rfl⟩));exact qe' h1 h2 (by simpa using ib)
theorem qfh (v:Value) (rs:List Rg) (w:World) (bH:Rw w 63 2 bZ v rs) (hl:rs.length<=100) (pJ:∀ r∈rs,(r.1=nil∨lr r.1)/\(r.2=nil∨lr r.2)) (S:Nat->Prop) (hS:∀ c,S c->97<=c/\c<=122/\∃ r∈rs,r.1=ch c∨r.2=ch c):
  Calls prog 249 #[v] w λe w'=>∃ v' bs,e= .returned v'/\Rw w' 9 1 cd v' bs/\bs.length<=200/\AF S bs/\ad w w':=by
 obtain⟨A,c,rfl,bl,bQ⟩:=bH.form;obtain⟨n,hn⟩:=eqQ rs.length;have HV:=aa bH;have HN:=aa hn;have HB:ag (∀ l',cK (λ(a:ByteArray) b=>b=true↔a.toList=[]) (gH rs) l'->AF S ((Lib.compact ((l'.map λk=>k.data.toList).mergeSort λx y=>decide (x<=y))).map λl=>(⟨l.toArray⟩:ByteArray))):=λl' hd=>qfg pJ hd S hS;rw[hn]at HV bl hl⊢;clear bH hn pJ hS;obtain⟨i0,hi,a7,aY,aW⟩:=ql0 B4;go_wp2;go_loopw [3,8] (λsv iv wr=>∃ U:Nat,U<=n/\iv= .int .i64 U/\ad w wr/\ag (wr.ownsRow w.heap.size 9 1 sv (gH (rs.take U)).length ((gH (rs.take U)).flatMap cd))) (λ_ iv _=>n-(intOf iv).toNat)
 case atStart=>exact⟨0,ab,rfl,al,qcb _ _ _ _⟩
 case round=>
  obtain⟨U,hj,rfl,kr,hs⟩:=hrel;by_cases an:U<n
  ·obtain⟨r,hr⟩:=exQ rs U (by rw[HN.o];exact an);obtain⟨b,off,rfl,hb,hc⟩:=HV.o.af hr
   have j1:ag ((gH (rs.take U)).flatMap cd++[.string r.1,.string r.2]=(gH (rs.take (U+1))).flatMap cd/\(gH (rs.take U)).length+2=(gH (rs.take (U+1))).length):=by
    unfold ag;rw[qfd hr,List.flatMap_append,zH];exact⟨rfl,rfl⟩
   have fL:ag ((gH (rs.take U)).length<=200):=by unfold ag;rw[U6,qcd,HN.o];omega
   obtain⟨r1,r2⟩:=r;obtain⟨c0,c1⟩:=Uuh λU u hu=>kr.af (hc U u hu);have ou:=kr.size;clear hc hr;go_wp2_with (at_builtin;have UY:=fL.o;refine wpList_append_own _ rfl _ _ 34 rfl w.heap.size 9 i0 (.string ⟨#[]⟩) 1 16 underlying34 hi a7 aY aW rfl ak _ _ _ rfl ((hs.o.alloc _).alloc _) ⟨wr.heap.size+1,0,none⟩ 2 2 [.string r1,.string r2] rfl rfl (by have h:=JZ (yY (wr.alloc (.cells #[.string r1,.string r2] 63)) (.cells #[.string r1,.string r2] 9));rw[World.size_alloc]at h;exact h) (by intro u hu;simp only[KX,List.not_mem_nil,or_false]at hu;rcases hu with rfl|rfl <;>rfl) (by unfold maxLen;omega) ab (by simp;omega) ?_;intro v' w3 dk gW _;have eR:ag (w3.ownsRow w.heap.size 9 1 v' (gH (rs.take (U+1))).length ((gH (rs.take (U+1))).flatMap cd)):=(by rw[<- j1.o.1,<- j1.o.2];exact dk);have K3:=((kr.alloc _).alloc _).grown gW (λg hg=>(hs.o.lt g hg).1);obtain⟨A3,c3,rfl⟩:=ca dk;clear dk gW)
   go_roundw
   case rel=>exact⟨U+1,ab,aA,K3,eR⟩
   case measure=>exact dY
  ·obtain rfl:U=n:=ab;obtain⟨A3,c3,e3⟩:=ca hs.o;subst e3
   have dp:ag (wr.ownsRow w.heap.size 9 1 (.slice A3 (gH rs).length c3) (gH rs).length ((gH rs).flatMap cd)):=by
    have h:=hs.o;rwa [qcc (by rw[HN.o];omega)]at h
   rw[qcc (by rw[HN.o];omega)];clear hs;have HT:ag (fI (Value.slice A3 (gH rs).length c3).ownBlock.toList wr 279 #[] (λs=> .string s) (gH rs) (λ(a:ByteArray) b=>b=true↔a.toList=[])):=⟨λargs w=>enters_of func279 av rfl args w,λW _ a _=>qfb a W⟩;have ou:=kr.size;go_wp2_with fail
   refine(QP w.heap.size _ (gH rs) _ _ _ wr ou dp.o HT.o).mono ?_;rintro e w4 ⟨v4,l',rfl,h4,hd,k4⟩;have sa:=aa (HB.o l' hd);have rO:l'.length<=200:=by have:=hd.sub.length_le;rw[U6,HN.o]at this;omega
   have K4:ad w w4:=kr.but k4 λx hx=>(dp.o.lt x (Option.mem_toList.1 hx)).1;rw[MG]at h4;clear hd k4 dp HT ou;rcases h4.2 with ⟨rfl,h0⟩|⟨gb,cap,cur,rfl,qS,eP,r1,r2,r3,r4⟩
   ·obtain rfl:l'=[]:=ql2 h0
    have MI:ag (AF S []):=by
     have h:=sa.o;simpa [ag,Lib.compact,Lib.compactUpTo]using h
    clear sa h4 h0;go_wp2_with fail
    refine(AnyM.slices_Sort_string_none sort221 none 0 w4).mono ?_;rintro e w5 ⟨rfl,rfl⟩;go_wp2_with fail
    refine(slices_Compact_string_empty none 0 w5).mono ?_;rintro e w6 ⟨rfl,rfl⟩;go_wp2;go_ret;exact⟨_,[],rfl,Rw.nil _,ao,MI.o,K4⟩
   ·have hH:Holds encStr w4 gb 0 (l'.map λk=>k.data.toList).toArray:=holds_of_block eP (by simpa using r4);have hZ:gb<w4.heap.size:=(aQ eP);have qA:=AnyM.slices_Sort_string sort221 gb 0 cap (l'.map λk=>k.data.toList) w4 hH hZ (by simp;omega);rw[List.length_map]at qA;have pA:=aa qA;have vg:=aa eP;clear qA hH eP h4 r4;go_wp2_with fail
    refine pA.o.mono ?_;rintro e w5 ⟨rfl,nn,os,rfl⟩;obtain⟨ss,gI⟩:=eqR ((l'.map λk=>k.data.toList).mergeSort λx y=>decide (x<=y));have qm:ss.length=l'.length:=by rw[gI];simp
    have Hp:=heap_sorted (n:=nn) (os:=os) ss.toArray vg.o;have MJ:ah [gb] w4 (grow (putRow encStr (Sort.ahead w4 nn) gb 0 ss.toArray) os):=(ah.refl [gb] w4).grown (grownBy_sorted ss.toArray) (λx hx=>by cases hx;exact .inl ao);rw[<- gI]at sa⊢;obtain⟨W5,jZ⟩:=eqR (grow (putRow encStr (Sort.ahead w4 nn) gb 0 ss.toArray) os);rw[<- jZ]at Hp MJ⊢;have hcz:(putCells encStr 0 ss.toArray cur).size=cur.size:=by simp[putCells]
    have U7:Holds encStr W5 gb 0 ss.toArray:=holds_of_block Hp (take_putCells cur ss ab);have yb:=slices_Compact_string gb 0 cap ss W5 U7 ab ab;have bL:(Lib.compact ss).length<=ss.length:=(U1 ss).length_le;have Da:(Lib.compact ss++List.replicate (ss.length-(Lib.compact ss).length) []).length=ss.length:=by rw[zH,List.length_replicate];omega
    have cN:ag (∀ q,Rw (putRow encStr (Sort.ahead W5 q) gb 0 (Lib.compact ss++List.replicate (ss.length-(Lib.compact ss).length) []).toArray) 9 1 cd (.slice (some ⟨gb,0,none⟩) (Lib.compact ss).length cap) ((Lib.compact ss).map λl=>(⟨l.toArray⟩:ByteArray))):=λq=>by
     have h:=qfc (q:=q) (m:=(Lib.compact ss).length) (cap:=cap) (ts:=Lib.compact ss++List.replicate (ss.length-(Lib.compact ss).length) []) Hp ab ab ab r2;rwa [List.take_left']at h
     rfl
    rw[qm]at yb;have DP:=aa yb;have K5:ad w W5:=K4.but MJ (by simpa using qS);rw[qm]at cN;clear yb U7 Hp MJ jZ gI Da hcz;go_wp2_with fail
    refine DP.o.mono ?_;rintro e w6 ⟨rfl,q,rfl⟩;go_wp2;go_ret;exact⟨_,_,rfl,cN.o q,by rw[List.length_map];omega,sa.o,K5.but (UU W5 q gb _) (by simpa using qS)⟩
attribute [local go_sem] Oper.semAt_some
def yc (r:Rg):Value:= .agg #[.string r.1,.string r.2]
def q' (bs:List ByteArray) (i:Nat):List Rg:=(List.range i).map λU=>(((nil::bs)[U]?).getD nil,(bs[U]?).getD nil)
theorem qfi (bs:List ByteArray) (i:Nat):q' bs (i+1)=q' bs i++[(((nil::bs)[i]?).getD nil,(bs[i]?).getD nil)]:=by
 unfold q';rw[List.range_succ,List.map_append];rfl
theorem MK (bs:List ByteArray) (i:Nat):(q' bs i).length=i:=by unfold q';simp
theorem U8 (bs:List ByteArray):nD nil bs=q' bs bs.length++[(((nil::bs)[bs.length]?).getD nil,nil)]:=U2 nil bs
theorem qfj (bs:List ByteArray):(nD nil bs).length=bs.length+1:=by rw[U8,zH,MK];rfl
theorem qfk (F:Fence) (n:Nat) (hf:F.fn 278) (ej:F.round=none) (hn:1<=n) (l Bs:Nat) (Kp:World->World->Prop) (v:Value) (bs:List ByteArray) (U9:∀ X Y,Kp X Y->Rw X 9 1 cd v bs->Rw Y 9 1 cd v bs) (cO:bs.length<=1000000) (J Jx:List Rg->World->Prop)
  (hY:∀ pre x W,J pre W->pre.length<bs.length+1->YieldAt F (n-1) prog l #[yc x] W λe W'=>(e= .returned (.bool true)/\J (pre++[x]) W'/\Kp W W')∨(e= .returned (.bool false)/\Jx (pre++[x]) W'))
  (W:World) (hv:Rw W 9 1 cd v bs) (DL:W.cell? ⟨Bs,0,none⟩=some v) (h0:J [] W):
  CallsIn F n prog 278 #[.func (.yield l) #[] #[],.pointer (some ⟨Bs,0,none⟩)] W λe W'=>(∃ v,e= .returned v)/\((∃ ys,ys=nD nil bs/\J ys W')∨(∃ pre,True/\Jx pre W')):=by
 obtain⟨A,c,rfl,bl,bQ⟩:=hv.form;obtain⟨m,hm⟩:=eqQ bs.length;have U':=aa U9;have HV:=aa hv;have HY:=aa hY;have HM:=aa hm;rw[hm]at HV U' HY cO bl DL;clear hv hY hm U9;refine callsIn_of_wp func278 rfl hf ?_ ej;simp only[ntmps278,List.size_toArray,List.length_cons,List.length_nil,Nat.reduceAdd,Nat.reduceSub,Array.replicate_succ,Array.replicate_zero,List.push_toArray,List.append_toArray,List.nil_append,List.cons_append];gi_wp2
 gi_loopw [3,8] (λfF iv wr=>∃ i:Nat,i<=m/\iv= .int .i64 i/\fF= .string (((nil::bs)[i]?).getD nil)/\ag (J (q' bs i) wr)/\ag (Rw wr 9 1 cd (.slice A m c) bs)) (λ_ iv _=>m-(intOf iv).toNat)
 case atStart=>exact⟨0,ab,rfl,rfl,h0,HV⟩
 case round=>
  obtain⟨i,hi,rfl,rfl,vv,kr⟩:=hrel;by_cases an:i<m
  ·obtain⟨x,hx⟩:=exQ bs i (by rw[HM.o];exact an);obtain⟨b,off,rfl,hb,hc⟩:=kr.o.af hx;obtain⟨y,yd⟩:=eqQ (((nil::bs)[i]?).getD nil);have j1:ag (q' bs i++[(y,x)]=q' bs (i+1)):=by unfold ag;rw[qfi,yd,hx];rfl
   have dV:ag (((nil::bs)[i+1]?).getD nil=x):=by unfold ag;rw[List.getElem?_cons_succ,hx];rfl
   rw[yd];obtain c0:=iU hc;simp only[Nat.mul_one]at c0;obtain⟨fn,tmps,assign,body,hy,hR⟩:=HY.o _ (y,x) wr vv.o (by rw[MK];omega);dsimp only[yc]at hy
   clear hc hx yd;gi_wp2
   refine hR.mono ?_;rintro e W3 (⟨rfl,qY,lj⟩|⟨rfl,x'⟩)
   ·have tI:ag (J (q' bs (i+1)) W3):=by rw[<- j1.o];exact qY
    have k3:ag (Rw W3 9 1 cd (.slice (some ⟨b,off,none⟩) m c) bs):=U'.o _ _ lj kr.o;clear qY;gi_wp2
    go_roundw
    case rel=>exact⟨i+1,ab,aA,by rw[dV.o],tI,k3⟩
    case measure=>exact dY
   ·gi_wp2
    refine KV (results_none rfl _ _ _) rfl ?_;exact⟨⟨_,rfl⟩,.inr ⟨_,trivial,x'⟩⟩
  ·obtain rfl:i=m:=ab;obtain⟨y,yd⟩:=eqQ (((nil::bs)[i]?).getD nil);have j1:ag (q' bs i++[(y,nil)]=nD nil bs):=by unfold ag;rw[U8,HM.o,yd]
   rw[yd];obtain⟨fn,tmps,assign,body,hy,hR⟩:=HY.o _ (y,nil) wr vv.o (by rw[MK];omega);dsimp only[yc,nil]at hy
   clear yd;gi_wp2
   refine hR.mono ?_;rintro e W3 (⟨rfl,qY,lj⟩|⟨rfl,x'⟩)
   ·have tI:ag (J (nD nil bs) W3):=by rw[<- j1.o];exact qY
    clear qY;gi_wp2
    go_end0
    exact⟨⟨_,rfl⟩,.inl ⟨_,rfl,tI.o⟩⟩
   ·gi_wp2
    go_end0
    exact⟨⟨_,rfl⟩,.inr ⟨_,trivial,x'⟩⟩
theorem qfl (F:Fence) (n:Nat) (hf:F.fn 248) (ej:F.round=none) (A:Option Addr) (m c:Nat) (w:World):
  CallsIn F n prog 248 #[.slice A m c] w λe w'=>e= .returned (.func (.func 278) #[] #[.pointer (some ⟨w.heap.size,0,none⟩)])/\w'=w.alloc (.cells #[.slice A m c] 34):=by
 refine callsIn_of_wp func248 rfl hf ?_ ej;simp only[ntmps248,List.size_toArray,List.length_cons,List.length_nil,Nat.reduceAdd,Nat.reduceSub,Array.replicate_succ,Array.replicate_zero,List.push_toArray,List.append_toArray,List.nil_append,List.cons_append];gi_wp2
 go_ret;exact⟨rfl,rfl⟩
attribute [local go_sem] Oper.semAt_some
structure Hq (es aH:List Nat) (pt:List Rg):Prop where
 bx:pt.length<=201
 all:∀ k,∃ r∈pt,hasB r.1 r.2 k=true/\bV es (hv r.1)=bV es (hv k)/\bV aH (hv r.1)=bV aH (hv k)
theorem Va (hu:Up es):∀ r∈bw es,(r.1=nil∨lr r.1)/\(r.2=nil∨lr r.2):=by
 intro r hr;unfold bw at hr;obtain⟨i,hi,rfl⟩:=List.mem_map.1 hr;rw[List.mem_range]at hi;have hg:∀ U,U<es.length->lr (ch (g es U)):=λU hj=>⟨_,(hu.gN U hj).1,(hu.gN U hj).2,rfl⟩;refine⟨?_,?_⟩
 ·show fr es i=nil∨lr (fr es i)
  unfold fr;split
  ·exact .inl rfl
  ·exact .inr (hg _ ab)
 ·show to es i=nil∨lr (to es i)
  unfold to;split
  ·exact .inr (hg _ bk)
  ·exact .inl rfl
theorem Vb (hu:Up es) (hc:c∈es):97<=c/\c<=122/\∃ r∈bw es,r.1=ch c∨r.2=ch c:=by
 obtain⟨i,hi⟩:=qcl.1 hc;have hl:=(bg hi);have hg:g es i=c:=by unfold g;rw[hi];rfl
 have hr:=hu.gN i hl;rw[hg]at hr;refine⟨hr.1,hr.2,(fr es i,to es i),?_,.inr ?_⟩
 ·unfold bw;exact List.mem_map.2 ⟨i,List.mem_range.2 ab,rfl⟩
 ·show to es i=ch c
  unfold to;rw[if_pos hl,hg]
def nE (W W':World):Prop:=∀ (b:Nat) (cur:Array Value),W.heap[b]? =some (.cells cur 9 (0,0))->W'.heap[b]? =some (.cells cur 9 (0,0))
theorem nE.rw {W:World} (h:nE W W') (hr:Rw W 9 1 cd v bs):Rw W' 9 1 cd v bs:=by
 obtain⟨A,c,rfl,h1,h2,h3,h4⟩:=hr;refine⟨A,c,rfl,h1,h2,h3,λp hl=> ?_⟩;obtain⟨b,off,cur,rfl,hb,hc⟩:=h4 p hl;exact⟨b,off,cur,rfl,h b cur hb,hc⟩
theorem nE.kept {W:World} (h:ad W W'):nE W W':=λb cur hb=>h.heap hb
theorem nE.putObj {W:World} {l:Nat} {qD:Obj} (o':Obj) (hl:W.heap[l]? =some qD) (ho:qD.isCells=false):nE W (W.putObj l o'):=λb cur hb=>by
 have aN:b≠l:=by rintro rfl;rw[hl]at hb;cases hb;cases ho
 rw[World.putObj_heap_other aN];exact hb
theorem nE.app {W w1:World} {B n₀ k:Nat} {size:Nat} {v':Value} {tmp:Obj} (hv:Boxed W B t v) (ht:t≠9) (he:e≠9) (bR:W.ownsRow n₀ e size v k xs) (gW:(W.alloc tmp).grownBy w1 v.ownBlock):nE W (w1.setCell ⟨B,0,none⟩ v'):=λb cur hb=>by
 have an:=(aQ hb);have h1:(W.alloc tmp).heap[b]? =some (.cells cur 9 (0,0)):=(Below.heap_alloc W tmp b an).trans hb
 have h2:w1.heap[b]? =some (.cells cur 9 (0,0)):=by
  refine(gW.block b (aQ h1) (λrM=> ?_)).trans h1;rcases bR.2 with ⟨rfl,_⟩|⟨g,cap,jb,rfl,_,hg,_⟩
  ·simp[Value.ownBlock]at rM
  ·obtain rfl:b=g:=by simpa [Value.ownBlock]using rM
   rw[hg]at hb;simp only[Option.some.injEq,Obj.cells.injEq]at hb;exact he hb.2.1
 have aN:b≠B:=by
  rintro rfl;have:=(show W.heap[b]? =_ from hv).symm.trans hb;simp only[Option.some.injEq,Obj.cells.injEq]at this;exact ht this.2.1
 rw[Below.heap_setCell w1 ⟨B,0,none⟩ v' b (by simpa using aN)];exact h2
theorem qfm (W:World) (a b:Value) (t:TypeId):∀ (U:Nat) u,[a,b][U]? =some u->(W.alloc (.cells #[a,b] t)).cell? ((⟨W.heap.size,0,none⟩:Addr).add U)=some u:=by
 intro U u hu;rw[Addr.add_lit,Nat.zero_add,aE (yY W _) U,<- hu];exact List.getElem?_toArray
theorem qfn (v v2:Value) (es aH:List Nat) (os ps aJ a':List Int) (w:World) (h:pI w v es os ps) (h2:pI w v2 aH aJ a') (hf:eA es os ps ps.length) (eG:eA aH aJ a' a'.length) (hn:ps.length=a'.length):
  Calls prog 191 #[v,v2] w λe w'=>∃ v' pt,e= .returned v'/\Rw w' 63 2 bZ v' pt/\Hq es aH pt/\ad w w':=by
 have HH:=aa h;have GV:=aa h2;have HFT:=aa (λw1 (K:ad w w1)=>MF v v2 es aH os ps aJ a' w1 (h.keep K) (h2.keep K) hf eG hn);obtain⟨A,B,C,n1,c1,n2,c2,c3,rfl,hr⟩:=h;obtain⟨A',B',C',m1,d1,m2,d2,d3,rfl,b3⟩:=h2;have HR:=aa hr;have di:=aa b3;have AG:ag ((bw es).length=n1):=hr.rs.1;have AH:ag ((bw aH).length=m1):=b3.rs.1;have hu:=hf.fit.up;have pd:=eG.fit.up;have h61:0<n1/\n1<=100:=by have:=AG.o;rw[ju]at this;have:=hu.cV;omega
 have h62:0<m1/\m1<=100:=by have:=AH.o;rw[ju]at this;have:=pd.cV;omega
 have HU:=aa hu;have zI:=aa pd;clear hr b3 hf eG hu pd HH GV hn;refine(callsIn_wide (n:=5)).1 ?_;refine callsIn_of_wp_marks func191 rfl trivial ?_ rfl;simp only[ntmps191,List.size_toArray,List.length_cons,List.length_nil,Nat.reduceAdd,Nat.reduceSub,Array.replicate_succ,Array.replicate_zero,List.push_toArray,List.append_toArray,List.nil_append,List.cons_append];gi_wp2_with (refine⟨trivial,?_⟩;gi_at_call 117;refine(callsIn_wide.2 (HFT.o _ al)).mono ?_;rintro e w1 ⟨rfl,k1⟩;have K1:ad w w1:=ad.call al k1;have e0:w1.cell? ⟨w.heap.size,0,none⟩=some (.slice A n1 c1):=k1.af (by go_simp);have e1:w1.cell? ⟨w.heap.size+1,0,none⟩=some (.slice A' m1 d1):=k1.af (by go_simp);have z1:=k1.size;simp only[World.size_alloc]at z1;have x0:=((ad.refl w1).alloc (.cells #[.slice none 0 0] 27)).af e0;have x1:=((ad.refl w1).alloc (.cells #[.slice none 0 0] 27)).af e1;have cx:=aa K1;clear k1 K1 e0 e1)
 have Uua:ag (∀ q w2,ad w w2->w2.cell? ⟨q,0,none⟩=some (.slice A n1 c1)->w2.cell? ⟨q,1,none⟩=some (.slice A' m1 d1)->Calls prog 250 #[.slice (some ⟨q,0,none⟩) 2 2] w2 λe w'=>∃ v,e= .returned v/\w'.ownsRow w2.heap.size 63 2 v (bw es++bw aH).length ((bw es++bw aH).flatMap bZ)/\ad w2 w'):=λq w2 K g0 g1=>by
  refine qe9 q A A' c1 d1 (bw es) (bw aH) w2 ?_ ?_ ?_ ?_ ?_ ?_
  ·rw[AG.o];exact HR.o.rs.keep K
  ·rw[AH.o];exact di.o.rs.keep K
  ·rw[AG.o];exact h61
  ·rw[AH.o];exact h62
  ·rw[AG.o];exact g0
  ·rw[AH.o];exact g1
 have hq:=FI (yY (w1.alloc (.cells #[.slice none 0 0] 27)) (.cells #[.slice A n1 c1,.slice A' m1 d1] 27));rw[World.size_alloc]at hq;refine⟨trivial,(callsIn_wide.2 (Uua.o _ _ ((cx.o.alloc _).alloc _) hq.1 hq.2.1)).mono ?_⟩;rintro e w2 ⟨v2,rfl,dA,k2⟩;have AI:Boxed w2 w1.heap.size 27 (.slice none 0 0):=k2.heap ((Boxed.new w1 _ _).alloc _);have z2:=k2.size;simp only[World.size_alloc]at z2;have K2:ad w w2:=((cx.o.alloc _).alloc _).call k2;have cM:ag ((bw es++bw aH).length<=100):=by unfold ag;rw[zH,AG.o,AH.o];have a:=AG.o;have b:=AH.o;rw[ju]at a b;have:=HU.o.cV;have:=zI.o.cV;omega
 obtain⟨nl,tC⟩:=eqQ ((bw es++bw aH).length);obtain⟨A2,ML,rfl⟩:=ca dA;have xD:=Rw.bp dA nZ ak;rw[tC]at xD⊢;have cN:=aa xD
 have sa:ag (∀ w3,ad w2 w3->Calls prog 249 #[.slice A2 nl ML] w3 λe w'=>∃ v' bs,e= .returned v'/\Rw w' 9 1 cd v' bs/\bs.length<=200/\AF (λc=>c∈es∨c∈aH) bs/\ad w3 w'):=λw3 K3=>
  qfh _ (bw es++bw aH) w3 (cN.o.kept K3) cM.o (λr hr=>(Pv.1 hr).elim (Va HU.o r) (Va zI.o r)) _ (λc hc=>by
   rcases hc with hc|hc
   ·obtain⟨a,b,r,hr,e⟩:=Vb HU.o hc;exact⟨a,b,r,List.mem_append_left _ hr,e⟩
   ·obtain⟨a,b,r,hr,e⟩:=Vb zI.o hc;exact⟨a,b,r,List.mem_append_right _ hr,e⟩)
 clear dA hq x0 x1 k2 Uua xD tC;gi_wp2
 refine⟨trivial,(callsIn_wide.2 (sa.o w2 (ad.refl _))).mono ?_⟩;rintro e w3 ⟨v3,bs,rfl,h3,dZ,pK,k3⟩;obtain⟨A3,sA,rfl,_,_⟩:=h3.form;have H3:=aa h3;have HP:ag (∀ k,∃ r∈nD nil bs,hasB r.1 r.2 k=true/\bV es (hv r.1)=bV es (hv k)/\bV aH (hv r.1)=bV aH (hv k)):=λk=>qfa HU.o zI.o pK k;have AI:Boxed w3 w1.heap.size 27 (.slice none 0 0):=k3.heap AI;have z3:=k3.size;have K3:=K2.call k3;obtain⟨nb,aL⟩:=eqQ bs.length;have oG:=aa aL;rw[aL]at H3 dZ⊢;clear h3 pK k3 sa cN aL;gi_wp2
 refine⟨trivial,(qfl Fence.wide 4 trivial rfl _ _ _ w3).mono ?_⟩;rintro e w4 ⟨rfl,rfl⟩;gi_wp2
 have AI:=AI.alloc (.cells #[.slice A3 nb sA] 34);have K4:ad w (w3.alloc (.cells #[.slice A3 nb sA] 34)):=K3.alloc _;have du:(w3.alloc (.cells #[.slice A3 nb sA] 34)).cell? ⟨w3.heap.size,0,none⟩=some (.slice A3 nb sA):=aE (yY w3 _) 0;have z4:(w3.alloc (.cells #[.slice A3 nb sA] 34)).heap.size=w3.heap.size+1:=ao;have H4:ag (Rw (w3.alloc (.cells #[.slice A3 nb sA] 34)) 9 1 cd (.slice A3 nb sA) bs):=H3.o.kept ((ad.refl _).alloc _);obtain⟨W0,gh⟩:=eqQ (w3.alloc (.cells #[.slice A3 nb sA] 34));rw[gh]at AI K4 du z4 H4⊢
 refine wpIn_rangeFunc_ownH rfl ab (gf:=278) (lb:= #[.pointer (some ⟨w3.heap.size,0,none⟩)]) rfl trivial (enters_of func278 av rfl)
  (S:=λys=>ys=nD nil bs) (Sp:=λ_=>True) (N:=nb+1) (w0:=W0) (encs:=λr:Rg=> #[yc r]) (Kp:=nE)
  (λl J Jx W hW kK _ hY h0=>qfk Fence.wide 4 trivial rfl ab l w3.heap.size nE _ bs (λX Y h hr=>h.rw hr) (by rw[oG.o];omega) J Jx (by rw[oG.o];exact hY) W (H4.o.kept hW) ((hW.cell (p:=⟨w3.heap.size,0,none⟩) (show w3.heap.size<W0.heap.size by omega)).trans du) h0)
  (λh k b cur hb=>k b cur (h b cur hb)) (λW l qD o' _ hl ho _=>nE.putObj o' hl ho) (Below.refl _ _) (λ_=>rfl)
  (λpre W=>(∃ v,Boxed W w1.heap.size 27 v/\W.ownsRow w.heap.size 63 2 v pre.length (pre.flatMap bZ)/\True)/\Below w.heap.size w W)
  (λ_ _ _=>False)
  (OwnFrom.and (Own.from (holdsRow_own _ _ _ _ _ (λpre:List Rg=>pre.length) (λpre=>pre.flatMap bZ) (λ_ _=>True)) _) (ownFrom_below (CP _) ab))
  (λ_ _ _ _ _ hs _ _=>hs)
  ⟨⟨_,AI,qcb _ _ _ _,trivial⟩,K4⟩
  (λx bI W=>∃ Bx,w1.heap.size<Bx/\W.heap[Bx]? =some (.cells #[.string x.1,.string x.2] 63 (0,0))/\bI={tmps:= #[.agg #[.slice A n1 c1,.slice B n2 c2,.slice C ps.length c3],.agg #[.slice A' m1 d1,.slice B' m2 d2,.slice C' a'.length d3],.pointer (some ⟨w.heap.size,0,none⟩),.pointer (some ⟨w.heap.size+1,0,none⟩),.slice none 0 0,.pointer (some ⟨w1.heap.size,0,none⟩),.pointer (some ⟨Bx,0,none⟩),.agg #[.slice A n1 c1,.slice B n2 c2,.slice C ps.length c3],.agg #[.slice A' m1 d1,.slice B' m2 d2,.slice C' a'.length d3],.bool true,.bool false,.pointer (some ⟨w.heap.size,0,none⟩),.slice A n1 c1,.pointer (some ⟨w.heap.size+1,0,none⟩),.slice A' m1 d1,.slice (some ⟨w1.heap.size+1,0,none⟩) 2 2,.slice A2 nl ML,.slice A3 nb sA,.func (.func 278) #[] #[.pointer (some ⟨w3.heap.size,0,none⟩)],yc x,undef,undef,undef,undef,undef],defers:=[]})
  (λx bI _ X Y row hs hg hr=>by obtain⟨Bx,h1,h2,h3⟩:=hs;exact⟨Bx,h1,UM h2 hg (λr e=>(hr r e).2),h3⟩)
  ?assign ?body ?done ?stop
 case assign=>
  rintro l pre x W K ⟨⟨v,hv,hr,_⟩,hB⟩ hK;obtain⟨x0,x1⟩:=x;unfold yc at*;gi_wp2
  exact hK _ _ ((KeepsOthers.alloc _ _).from _) (nE.kept ((ad.refl W).alloc _)) ⟨⟨v,hv.alloc _,hr.alloc _,trivial⟩,hB.alloc hB.size _⟩ ⟨W.heap.size,hv.lt,yY W _,rfl⟩
 case body=>
  rintro l pre x bI W hl ⟨r,hr⟩ ⟨⟨v,hv,bR,_⟩,hB⟩ ⟨Bx,hBx,hX,rfl⟩ an;obtain⟨x0,x1⟩:=x;have y0:W.cell? ⟨Bx,0,none⟩=some (.string x0):=aE hX 0;have y1:W.cell? ⟨Bx,1,none⟩=some (.string x1):=aE hX 1;have hc:=hv.cell;have hz:=hB.size;have hBO:w.heap.size<=w1.heap.size:=ab;obtain⟨i0,hi,a7,aY,aW⟩:=ql0 rU;clear hX hr;unfold yc;gi_wp2_with (gi_at_builtin;refine wpListIn_append_own _ rfl _ _ 27 rfl w.heap.size 63 i0 (.agg #[.string ⟨#[]⟩,.string ⟨#[]⟩]) 2 32 underlying27 hi a7 aY aW rfl ak _ _ _ rfl (bR.alloc _) ⟨W.heap.size,0,none⟩ 1 1 [.string x0,.string x1] rfl rfl (qfm W _ _ _) (by intro u hu;simp only[KX,List.not_mem_nil,or_false]at hu;rcases hu with rfl|rfl <;>rfl) (by unfold maxLen;omega) ab (by simp;omega) ?_;intro v' w5 dk gW _;obtain⟨g',kP,rfl⟩:=ownsRow_succ dk;obtain⟨ft,cW,b3,bb,bG⟩:=hv.appended ak bR hz hBO dk gW;have og:=ft.cell;have vw:=ft.frozen)
  have gG:(w5.setCell ⟨w1.heap.size,0,none⟩ (.slice (some ⟨g',0,none⟩) (pre.length+1) kP)).ownsRow w.heap.size 63 2 (.slice (some ⟨g',0,none⟩) (pre.length+1) kP) (pre++[((x0,x1):Rg)]).length ((pre++[((x0,x1):Rg)]).flatMap bZ):=by simpa [bZ]using b3
  have hkp:nE W (w5.setCell ⟨w1.heap.size,0,none⟩ (.slice (some ⟨g',0,none⟩) (pre.length+1) kP)):=nE.app hv ak ak bR gW;exact⟨bb.from _,hkp,by first|exact⟨⟨_,cW,gG⟩,hB.trans bG⟩|exact⟨⟨_,cW,gG,trivial⟩,hB.trans bG⟩⟩
 case done=>
  rintro D ys W ja hS ⟨⟨v,hv,bR,_⟩,hB⟩ hK;subst hS;have hc:=hv.cell;have HRO:=aa (Rw.bp (ownsRow_putObj bR (.deferred none) hK rfl) nZ ak);obtain⟨qk2,e6,rfl⟩:=ca bR;gi_wp2
  refine⟨ao,.inl ⟨_,_,rfl,run_takeDeferred hK,?_⟩⟩;exact⟨_,by simp[results,results191,go_sem],_,_,rfl,HRO.o,⟨by rw[qfj];have:=oG.o;omega,HP.o⟩,hB.trans (belowK_b (w:=w) (CP _) W D _ _ (by have:=K4.size;omega) hK rfl rfl)⟩
 case stop=>
  rintro D c pre W _ _ h _;exact h.elim
theorem qfo:(prog.info? 198).map (λi=>(i.zero,i.size,i.bytes))=some (some (.agg #[.int .i64 0,.int .i64 0,.string ⟨#[]⟩,.string ⟨#[]⟩]),4,48):=av
structure Mv where
 to:Int
 ij:Int
 f:ByteArray
 t:ByteArray
def sB (m:Mv):List Value:=[.int .i64 m.to,.int .i64 m.ij,.string m.f,.string m.t]
theorem qfp:∀ a,(sB a).length=4:=λ_=>rfl
theorem qfq (m:Int):∃ r,DM m r:=by
 have h:∀ n:Nat,n<=6->(∀ i:Nat,i<n->cq m i=false)∨∃ i:Nat,i<n/\cq m i=true/\∀ U:Nat,U<i->cq m U=false:=by
  intro n
  induction n with
  |zero=>exact λ_=> .inl λi hi=>ab
  |succ n ih=>
   intro hn;rcases ih ab with h|⟨i,h1,h2,h3⟩
   ·cases hb:cq m n
    ·exact .inl λi hi=>by
      rcases R6 i n with g|g
      ·exact h i g
      ·obtain rfl:i=n:=ab;exact hb
    ·exact .inr ⟨n,ab,hb,h⟩
   ·exact .inr ⟨i,ab,h2,h3⟩
 rcases h 6 ab with h|⟨i,h1,h2,h3⟩
 ·exact⟨-1,.inl ⟨rfl,h⟩⟩
 ·exact⟨i,.inr ⟨i,rfl,h1,h2,h3⟩⟩
theorem qfr {m r vy:Int} (h:DM m r) (k:DM m vy):r=vy:=by
 rcases h with ⟨rfl,h1⟩|⟨i,rfl,h1,h2,h3⟩
 ·rcases k with ⟨rfl,_⟩|⟨U,rfl,k1,k2,_⟩
  ·rfl
  ·rw[h1 U k1]at k2;cases k2
 ·rcases k with ⟨rfl,k1⟩|⟨U,rfl,k1,k2,k3⟩
  ·rw[k1 i h1]at h2;cases h2
  ·rcases Nat.lt_trichotomy i U with g|g|g
   ·rw[k3 i g]at h2;cases h2
   ·rw[g]
   ·rw[h3 U g]at k2;cases k2
def ow (es:List Nat) (os:List Int) (k:ByteArray):Int:=oa os (bV es (hv k))
theorem qfs (hf:Fit es os n) (k:ByteArray):1<=ow es os k/\ow es os k<((2 ^ n:Nat):Int):=hf.own _ (by have:=nV es (hv k);omega)
theorem Vc (hf:Fit es os n) {r:Int} (h:DM (ow es os k) r):0<=r/\r<n/\cq (ow es os k) r=true:=by
 obtain⟨h1,h2⟩:=qfs hf k;have gV:=hf.one;have jJ:=hf.cV;rcases h with ⟨rfl,h3⟩|⟨i,rfl,h3,h4,_⟩
 ·exfalso
  generalize ow es os k=m at*
  have hb:∀ i:Nat,i<6->¬(m/2 ^ i%2=1):=λi hi he=>by
   have:=h3 i hi;unfold cq at this;simp[he]at this;omega
  have b0:=hb 0 ab;have b1:=hb 1 ab;have b2:=hb 2 ab;have ck:=hb 3 ab;have iV:=hb 4 ab;have dB:=hb 5 ab;have hm:m<64:=by have:=tb jJ;omega
  simp only[Int.reducePow]at b0 b1 b2 ck iV dB;omega
 ·refine⟨ab,?_,h4⟩;generalize ow es os k=m at*;unfold cq at h4;simp only[Bool.and_eq_true,decide_eq_true_eq]at h4;obtain⟨_,h5⟩:=h4;rcases R6 i n with g|g
  ·omega
  ·exfalso
   have:m/2 ^ ((i:Nat):Int).toNat=0:=by
    apply Int.ediv_eq_zero_of_lt ab
    have hp:(2 ^ n:Nat)<=2 ^ i:=Nat.pow_le_pow_right ab g;have:((2 ^ n:Nat):Int)<=((2 ^ i:Nat):Int):=by exact_mod_cast hp
    simp only[Int.toNat_natCast];have e:((2 ^ i:Nat):Int)=(2:Int) ^ i:=ao;omega
   rw[this]at h5
   cases h5
def comes (es aH:List Nat) (os aJ:List Int) (f:ByteArray) (s:Int):Bool:=cq (ow aH aJ f) s&& !cq (ow es os f) s
theorem qft (NB RB OB:Nat) (s:Int) (f t:ByteArray) (A B C A' B' C':Option Addr) (n1 c1 n2 c2 n3 c3 m1 d1 m2 d2 d3:Nat) (es aH:List Nat) (os ps aJ a':List Int) (w:World)
  (hr:fY w A n1 c1 B n2 c2 C n3 c3 (bw es) os ps) (b3:fY w A' m1 d1 B' m2 d2 C' n3 d3 (bw aH) aJ a') (hf:Fit es os n3) (eG:Fit aH aJ n3)
  (a0:w.cell? ⟨OB,0,none⟩=some (.slice A n1 c1)) (bj:w.cell? ⟨OB,1,none⟩=some (.slice B n2 c2)) (a2:w.cell? ⟨OB,2,none⟩=some (.slice C n3 c3))
  (b0:w.cell? ⟨NB,0,none⟩=some (.slice A' m1 d1)) (b1:w.cell? ⟨NB,1,none⟩=some (.slice B' m2 d2)) (b2:w.cell? ⟨NB,2,none⟩=some (.slice C' n3 d3))
  (g0:w.cell? ⟨RB,0,none⟩=some (.string f)):
  Calls prog 192 #[.int .i64 s,.pointer (some ⟨NB,0,none⟩),.pointer (some ⟨RB,0,none⟩),.pointer (some ⟨OB,0,none⟩)] w λe w'=>e= .returned (.bool (comes es aH os aJ f s))/\ad w w':=by
 have HR:=aa hr;have di:=aa b3;have HC:ag (comes es aH os aJ f s=(cq (ow aH aJ f) s&& !cq (ow es os f) s)):=rfl;have qfu:=aa (λw1 (K:ad w w1)=>Qw A' B' C' m1 d1 m2 d2 n3 d3 aH aJ a' s f w1 (b3.keep K) eG);have T2:=aa (λw1 (K:ad w w1)=>Qw A B C n1 c1 n2 c2 n3 c3 es os ps s f w1 (hr.keep K) hf);have e1:ag (oa aJ (bV aH (hv f))=ow aH aJ f):=rfl;have e2:ag (oa os (bV es (hv f))=ow es os f):=rfl;clear hr b3;go_in;go_wp2_with fail
 refine(qfu.o w (ad.refl _)).mono ?_;rintro e w1 ⟨rfl,k1⟩;rw[e1.o];have a0:=k1.af a0;have bj:=k1.af bj;have a2:=k1.af a2;have g0:=k1.af g0
 cases h1:cq (ow aH aJ f) s
 ·go_wp2;go_ret;exact⟨by rw[HC.o,h1];rfl,k1⟩
 ·go_wp2_with fail
  refine(T2.o w1 k1).mono ?_;rintro e w2 ⟨rfl,k2⟩;rw[e2.o];go_wp2;go_ret;exact⟨by rw[HC.o,h1];rfl,k1.call k2⟩
structure nF (es aH:List Nat) (os aJ:List Int) (n:Nat) (pt:List Rg) (i U:Nat) (mv:List Mv):Prop where
 bx:mv.length<=i*6+U
 ok:∀ m∈mv,0<=m.to/\m.to<n/\0<=m.ij/\m.ij<n/\cq (ow es os m.f) m.ij=true
 all:∀ (a:Nat) (s:Nat) (r:Rg),(a<i/\s<n∨a=i/\s<U)->pt[a]? =some r->comes es aH os aJ r.1 s=true->∃ m∈mv,m.to=s/\m.f=r.1/\m.t=r.2
theorem nF.next {mv:List Mv} (h:nF es aH os aJ n pt i n mv) (hn:n<=6):nF es aH os aJ n pt (i+1) 0 mv:=
 ⟨by have:=h.bx;omega,h.ok,λa s r ha hr hc=>h.all a s r ab hr hc⟩
theorem nF.no {mv:List Mv} (h:nF es aH os aJ n pt i U mv) (hr:pt[i]? =some r) (hc:comes es aH os aJ r.1 U=false):nF es aH os aJ n pt i (U+1) mv:=
 ⟨by have:=h.bx;omega,h.ok,λa s vy ha tJ eW=>by
  rcases ha with ha|⟨rfl,ha⟩
  ·exact h.all a s vy (.inl ha) tJ eW
  ·rcases R6 s U with g|g
   ·exact h.all a s vy (.inr ⟨rfl,g⟩) tJ eW
   ·obtain rfl:s=U:=ab;rw[hr]at tJ;cases tJ;rw[hc]at eW;cases eW⟩
theorem nF.yes {mv:List Mv} {q:Int} (h:nF es aH os aJ n pt i U mv) (hr:pt[i]? =some r) (hj:U<n) (hq:0<=q/\q<n/\cq (ow es os r.1) q=true):nF es aH os aJ n pt i (U+1) (mv++[⟨U,q,r.1,r.2⟩]):=
 ⟨by have:=h.bx;rw[zH,List.length_singleton];omega,λm hm=>by
  rcases Pv.1 hm with hm|hm
  ·exact h.ok m hm
  ·simp only[At]at hm;subst hm
   exact⟨ao,by simp;omega,hq.1,hq.2.1,hq.2.2⟩,λa s vy ha tJ eW=>by
  rcases ha with ha|⟨rfl,ha⟩
  ·obtain⟨m,h1,h2⟩:=h.all a s vy (.inl ha) tJ eW;exact⟨m,List.mem_append_left _ h1,h2⟩
  ·rcases R6 s U with g|g
   ·obtain⟨m,h1,h2⟩:=h.all a s vy (.inr ⟨rfl,g⟩) tJ eW;exact⟨m,List.mem_append_left _ h1,h2⟩
   ·obtain rfl:s=U:=ab;rw[hr]at tJ;cases tJ;exact⟨⟨s,q,r.1,r.2⟩,List.mem_append_right _ ao,rfl,rfl,rfl⟩⟩
theorem qfv {w0 wd:World} {a b c d:Value} (h:ad (w0.alloc (.cells #[a,b,c,d] t)) wd):∀ (U:Nat) (u:Value),[a,b,c,d][U]? =some u->wd.cell? ((⟨w0.heap.size,0,none⟩:Addr).add U)=some u:=by
 intro U u hu;rw[Addr.add_lit,Nat.zero_add,aE (h.heap (yY w0 _)) U,<- hu];exact List.getElem?_toArray
theorem qfw (mv:List Mv) (m:Mv):mv.flatMap sB++[.int .i64 m.to,.int .i64 m.ij,.string m.f,.string m.t]=(mv++[m]).flatMap sB:=by simp[sB]
def NM (e:TypeId):Prop:=e≠198
theorem ye {base e k:Nat} (h:w.ownsRow base e k v n xs) (hb:ah v.ownBlock.toList w w2):Fr (λt=>t≠e) w w2:=
 Fr.gn hb λs hs cur t ht aN=>by
  rcases h.2 with ⟨rfl,_⟩|⟨g,cap,jb,rfl,_,hg,_⟩
  ·simp[Value.ownBlock]at hs
  ·obtain rfl:s=g:=by simpa [Value.ownBlock]using hs
   rw[hg]at ht;simp only[Option.some.injEq,Obj.cells.injEq]at ht;exact aN ht.2.1.symm
def tK (es aH:List Nat) (os aJ:List Int) (n:Nat) (pt:List Rg) (w wr:World) (sv:Value) (i U:Nat):Prop:=∃ mv,wr.ownsRow w.heap.size 198 4 sv mv.length (mv.flatMap sB)/\nF es aH os aJ n pt i U mv
theorem tK.keep {wr:World} {sv:Value} (h:tK es aH os aJ n pt w wr sv i U) (hk:ad wr w2):tK es aH os aJ n pt w w2 sv i U:=by
 obtain⟨mv,h1,h2⟩:=h;exact⟨mv,ad.own h1 hk,h2⟩
theorem qfx (v v2:Value) (es aH:List Nat) (os ps aJ a':List Int) (w:World) (h:pI w v es os ps) (h2:pI w v2 aH aJ a') (hf:eA es os ps ps.length) (eG:eA aH aJ a' a'.length) (hn:ps.length=a'.length):
  Calls prog 121 #[v,v2] w λe w'=>∃ v' pt mv,e= .returned v'/\Rw w' 198 4 sB v' mv/\Hq es aH pt/\nF es aH os aJ ps.length pt pt.length 0 mv/\ad w w':=by
 have oF:=aa (λw1 (K:ad w w1)=>qfn v v2 es aH os ps aJ a' w1 (h.keep K) (h2.keep K) hf eG hn);obtain⟨A,B,C,n1,c1,n2,c2,c3,rfl,hr⟩:=h;obtain⟨A',B',C',m1,d1,m2,d2,d3,rfl,b3⟩:=h2;have HR:=aa hr;have di:=aa b3;have b1:=hr.nX;have b2:=b3.nX;have yf:=aa hf.fit;have Vd:=aa eG.fit;obtain⟨n,hN⟩:=eqQ ps.length;have jJ:n<=6:=by rw[<- hN];exact hf.fit.cV
 rw[hN]at HR yf b1 oF⊢;rw[<- hn,hN]at di Vd b2 oF⊢;clear hr b3 hf eG hn hN;obtain⟨i0,qfy,a7,aY,aW⟩:=ql0 qfo;go_in;go_wp2_with fail
 refine(oF.o _ al).mono ?_;rintro e w1 ⟨pv,pt,rfl,MM,mX,k1⟩;obtain⟨PA,pc,rfl,qfz,qk3⟩:=MM.form;have Ve:w1.heap[w.heap.size]? =some (.cells #[.slice A n1 c1,.slice B n2 c2,.slice C n c3] 29 (0,0)):=k1.heap (((ad.refl _).alloc _).heap (yY w _));have Vf:w1.heap[w.heap.size+1]? =some (.cells #[.slice A' m1 d1,.slice B' m2 d2,.slice C' n d3] 29 (0,0)):=k1.heap (by have h:=yY (w.alloc (.cells #[.slice A n1 c1,.slice B n2 c2,.slice C n c3] 29)) (.cells #[.slice A' m1 d1,.slice B' m2 d2,.slice C' n d3] 29);rw[World.size_alloc]at h;exact h);have HOB:=aa Ve;have oG:=aa Vf;clear Ve Vf;have z1:=k1.size;simp only[World.size_alloc]at z1;have K1:ad w w1:=ad.call al k1;obtain⟨np,mj⟩:=eqQ pt.length;have qk4:np<=201:=by rw[<- mj];exact mX.bx
 have pL:=aa mj;have ma:=aa MM;have qfA:=aa mX;rw[mj]at ma qfz⊢;clear MM mX k1 mj oF;go_wp2;go_loopw [5,14] (λsv iv wr=>∃ i:Nat,i<=np/\iv= .int .i64 i/\ag (Fr NM w1 wr)/\ad w wr/\ag (tK es aH os aJ n pt w wr sv i 0)) (λ_ iv _=>np-(intOf iv).toNat)
 case atStart=>exact⟨0,ab,rfl,Fr.ar (ad.refl _),K1,[],qcb _ _ _ _,ao,λm hm=>(by cases hm),λa s r ha=>ab⟩
 case round=>
  obtain⟨i,hi,rfl,cG,kr,hs⟩:=hrel;by_cases an:i<np
  ·obtain⟨r,hr⟩:=exQ pt i (by rw[pL.o];exact an);obtain⟨b,off,rfl,hb,hc⟩:=(ma.o.fr cG.o (by unfold NM;decide)).af hr;have Vg:=aa hr;obtain⟨r1,r2⟩:=r;obtain⟨c0',c1'⟩:=Uuh hc;have Hr:=aa (cG.o.block _ _ _ HOB.o (by unfold NM;decide));have Hs:=aa (cG.o.block _ _ _ oG.o (by unfold NM;decide));have a0:wr.cell? ⟨w.heap.size,0,none⟩=some (.slice A n1 c1):=aE Hr.o 0;have bj:wr.cell? ⟨w.heap.size,1,none⟩=some (.slice B n2 c2):=aE Hr.o 1;have a2:wr.cell? ⟨w.heap.size,2,none⟩=some (.slice C n c3):=aE Hr.o 2;have g0:wr.cell? ⟨w.heap.size+1,0,none⟩=some (.slice A' m1 d1):=aE Hs.o 0;have g1:wr.cell? ⟨w.heap.size+1,1,none⟩=some (.slice B' m2 d2):=aE Hs.o 1;have g2:wr.cell? ⟨w.heap.size+1,2,none⟩=some (.slice C' n d3):=aE Hs.o 2;have qfB:=cG.o.size;have y0:w.heap.size<wr.heap.size:=ab;have y1:w.heap.size+1<wr.heap.size:=ab;clear hc hr;go_wp2_with fail
   refine(zh _ _ _ _ _ _ ab ⟨_,_,_,rfl⟩ ⟨_,_,_,rfl⟩).mono ?_;rintro e w2 ⟨rfl,k2⟩;have K2:ad w w2:=(kr.alloc _).call k2;have Vh:ag (w2.heap[wr.heap.size]? =some (.cells #[.string r1,.string r2] 63 (0,0))):=k2.heap (yY wr _);have dp:ag (tK es aH os aJ n pt w w2 u5 i 0):=hs.o.keep ((ad.refl _).alloc _ |>.call k2);have k3:ad wr w2:=((ad.refl _).alloc _).call k2;clear k2 hs;have Hu:=aa (k3.heap Hr.o);have tL:=aa (k3.heap Hs.o);have nG:ag (Fr NM w1 w2):=cG.o.trans (.ar k3);clear a0 bj a2 g0 g1 g2;have a0:w2.cell? ⟨w.heap.size,0,none⟩=some (.slice A n1 c1):=aE Hu.o 0;have bj:w2.cell? ⟨w.heap.size,1,none⟩=some (.slice B n2 c2):=aE Hu.o 1;have a2:w2.cell? ⟨w.heap.size,2,none⟩=some (.slice C n c3):=aE Hu.o 2;have g0:w2.cell? ⟨w.heap.size+1,0,none⟩=some (.slice A' m1 d1):=aE tL.o 0;have g1:w2.cell? ⟨w.heap.size+1,1,none⟩=some (.slice B' m2 d2):=aE tL.o 1;have g2:w2.cell? ⟨w.heap.size+1,2,none⟩=some (.slice C' n d3):=aE tL.o 2;have z2:=k3.size;obtain⟨RB,hRB⟩:=eqQ wr.heap.size;rw[hRB]at Vh qfB y0 y1 z2⊢;go_wp2;go_loopw [5,21] (λsv jv w4=>∃ U:Nat,U<=n/\jv= .int .i64 U/\ag (Fr NM w2 w4)/\ad w w4/\ag (tK es aH os aJ n pt w w4 sv i U)) (λ_ jv _=>n-(intOf jv).toNat)
   case atStart=>exact⟨0,ab,rfl,Fr.ar (ad.refl _),K2,dp⟩
   case round=>
    obtain⟨U,hj,rfl,yg,Hv,DT⟩:=hrel;by_cases UK:U<n
    ·have MN:=aa (yg.o.block _ _ _ Hu.o (by unfold NM;decide));have MO:=aa (yg.o.block _ _ _ tL.o (by unfold NM;decide));have Vi:=aa (yg.o.block _ _ _ Vh.o (by unfold NM;decide));clear a0 bj a2 g0 g1 g2;have a0:wr.cell? ⟨w.heap.size,0,none⟩=some (.slice A n1 c1):=aE MN.o 0;have bj:wr.cell? ⟨w.heap.size,1,none⟩=some (.slice B n2 c2):=aE MN.o 1;have a2:wr.cell? ⟨w.heap.size,2,none⟩=some (.slice C n c3):=aE MN.o 2;have g0:wr.cell? ⟨w.heap.size+1,0,none⟩=some (.slice A' m1 d1):=aE MO.o 0;have g1:wr.cell? ⟨w.heap.size+1,1,none⟩=some (.slice B' m2 d2):=aE MO.o 1;have g2:wr.cell? ⟨w.heap.size+1,2,none⟩=some (.slice C' n d3):=aE MO.o 2;have q0:wr.cell? ⟨RB,0,none⟩=some (.string r1):=aE Vi.o 0;have q1:wr.cell? ⟨RB,1,none⟩=some (.string r2):=aE Vi.o 1;have qk5:=yg.o.size;have KJ:ad w wr:=Hv;have Ap:=aa KJ;have jd:=aa (qft (w.heap.size+1) RB w.heap.size U r1 r2 A B C A' B' C' n1 c1 n2 c2 n c3 m1 d1 m2 d2 d3 es aH os ps aJ a' wr (HR.o.keep KJ) (di.o.keep KJ) yf.o Vd.o a0 bj a2 g0 g1 g2 q0);clear KJ;go_wp2_with fail
     refine jd.o.mono ?_;rintro e w5 ⟨rfl,k5⟩;have a0:=k5.af a0;have bj:=k5.af bj;have a2:=k5.af a2;have q0:=k5.af q0;have q1:=k5.af q1;have z5:=k5.size;have pw:ag (tK es aH os aJ n pt w w5 u5 i U):=DT.o.keep k5;have gv:ag (ad w w5):=Ap.o.call k5
     cases iR:comes es aH os aJ r1 U
     ·have fR:ag (tK es aH os aJ n pt w w5 u5 i (U+1)):=by
       obtain⟨mv,h1,h2⟩:=pw.o;exact⟨mv,h1,h2.no Vg.o iR⟩
      have K5:=Hv.call k5;have MP:ag (Fr NM w2 w5):=yg.o.trans (.ar k5);clear pw DT jd iR k5;go_wp2;go_roundw
      case rel=>exact⟨U+1,ab,aA,MP,K5,fR⟩
      case measure=>exact dY
     ·obtain⟨DU,fH⟩:=qfq (ow es os r1);have tM:=Vc yf.o fH
      have fR:ag (∃ mv,w5.ownsRow w.heap.size 198 4 u5 mv.length (mv.flatMap sB)/\mv.length<=2000/\nF es aH os aJ n pt i (U+1) (mv++[⟨U,DU,r1,r2⟩])):=by
       obtain⟨mv,h1,h2⟩:=pw.o;exact⟨mv,h1,by have:=h2.bx;omega,h2.yes Vg.o UK tM⟩
      have zg:ag (∀ w6,ad w w6->Calls prog 98 #[.agg #[.slice A n1 c1,.slice B n2 c2,.slice C n c3],.string r1] w6 λe w'=>e= .returned (.int .i64 DU)/\ad w6 w'):=λw6 K6=>
       (UN A B C n1 c1 n2 c2 n c3 es os ps r1 w6 (HR.o.keep K6) yf.o).mono λe w' ⟨r,h1,h2,h3⟩=>⟨by rw[h1,qfr h2 fH],h3⟩
      have MP:ag (Fr NM w2 w5):=yg.o.trans (.ar k5);obtain⟨mv,r8,Mh,AJ⟩:=fR.o;have HMP:=aa AJ;have Aw:=aa r8;obtain⟨MQ,mc,rfl⟩:=ca r8;clear pw DT fR jd iR k5 fH tM AJ r8 Hv;go_wp2;refine bz (λwB=>ad w5 wB/\ad w wB/\wB.cell? ⟨w.heap.size,0,none⟩=some (.slice A n1 c1)/\wB.cell? ⟨w.heap.size,1,none⟩=some (.slice B n2 c2)/\wB.cell? ⟨w.heap.size,2,none⟩=some (.slice C n c3)/\wB.cell? ⟨RB,0,none⟩=some (.string r1)/\wB.cell? ⟨RB,1,none⟩=some (.string r2)) λwB SS=> ?_;obtain⟨au,br,aB,aC,aF,aX,bK⟩:=SS.o _ (ad.refl _);iterate 9 (first|(apply DW.ct;(focus (intro wd hI;obtain⟨ae,ay,ai,aj,aq,az,aK⟩:=SS.o wd hI;go_wp2_with (go_at_call 98;refine(zg.o _ (br.call hI)).mono ?_;rintro e w6 ⟨rfl,cL⟩);exact aP));refine DW.np ?_)|(refine DW.bt av ?_;intro wd hI;obtain⟨ae,ay,ai,aj,aq,az,aK⟩:=SS.o wd hI;go_wp2_with (go_at_call 98;refine(zg.o _ (br.call hI)).mono ?_;rintro e w6 ⟨rfl,cL⟩);refine cu hI SS (λbf SS=> ?_) rfl;obtain⟨au,br,aB,aC,aF,aX,bK⟩:=SS.o _ (ad.refl _)))
      refine DW.tail av λwd hI=> ?_;obtain⟨ae,ay,ai,aj,aq,az,aK⟩:=SS.o wd hI;clear SS;have AK:=aa (qfv hI);have pM:ag (wd.ownsRow w.heap.size 198 4 (.slice MQ mv.length mc) mv.length (mv.flatMap sB)):=ad.own Aw.o ae;have hz9:w.heap.size<=wd.heap.size:=ay.size;clear hI;go_wp2_with (at_builtin;refine wpList_append_own _ rfl _ _ 195 rfl w.heap.size 198 i0 (.agg #[.int .i64 0,.int .i64 0,.string ⟨#[]⟩,.string ⟨#[]⟩]) 4 48 underlying195 qfy a7 aY aW rfl ak _ _ _ rfl pM.o _ 1 1 [.int .i64 (U:Int),.int .i64 DU,.string r1,.string r2] rfl rfl AK.o (by intro u hu;simp only[KX,List.not_mem_nil,or_false]at hu;rcases hu with rfl|rfl|rfl|rfl <;>rfl) (by unfold maxLen;omega) ab ab ?_;intro v7 w7 MR Vj _;have tN:ag (w7.ownsRow w.heap.size 198 4 v7 (mv++[(⟨U,DU,r1,r2⟩:Mv)]).length ((mv++[(⟨U,DU,r1,r2⟩:Mv)]).flatMap sB)):=(by rw[<- qfw,zH];exact MR);have K7:ah (Value.slice MQ mv.length mc).ownBlock.toList w5 w7:=(ah.ar ae).trans ((ah.refl _ _).grown Vj (λg hg=> .inl (Option.mem_toList.2 hg)));obtain⟨A7,tO,rfl⟩:=ca MR;clear MR Vj)
      go_roundw
      case rel=>exact⟨U+1,ab,aA,MP.o.trans (ye Aw.o K7),gv.o.but K7 (λx hx=>(Aw.o.lt x (Option.mem_toList.1 hx)).1),_,tN,HMP.o⟩
      case measure=>exact dY
    ·obtain rfl:U=n:=ab
     have fR:ag (tK es aH os aJ U pt w wr u5 (i+1) 0):=by
      obtain⟨mv,h1,h2⟩:=DT.o;exact⟨mv,h1,h2.next jJ⟩
     have qfC:ag (Fr NM w1 wr):=nG.o.trans yg.o;clear DT;go_wp2;go_roundw
     case rel=>exact⟨i+1,ab,aA,qfC,Hv,fR⟩
     case measure=>exact dY
  ·obtain rfl:i=np:=ab;go_wp2;go_ret;obtain⟨mv,h1,h2⟩:=hs.o;exact⟨_,pt,mv,rfl,Rw.bp h1 qfp ak,qfA.o,by rw[pL.o];exact h2,kr⟩
end Go.Proofs.YtehaoggjlciobaaGreat

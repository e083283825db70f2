/- Part 10 of 40. -/
import Derived.Test.YtehaoggjlciobaaGreatSi
import Derived.Shelf.Strings.Builder1
import Derived.Laws.EntriesVeiled
import Derived.Lib.Bytes
import Derived.Test.YtehaoggjlciobaaGreatQal
import Derived.Lib.AppendStr
import Derived.Lib.UnsafeStr
set_option linter.all false
set_option maxRecDepth 20000
set_option maxHeartbeats 16000000
namespace Go.Proofs.YtehaoggjlciobaaGreat
open Go.RowKit Go.Proofs.Tryz
variable {a e en mid:Int} {L X Y:List UInt8} {bs:List Value} {l:List aD} {B U b m n s t:Nat} {c:UInt8} {w:World} {d:aD}
def enc (n:Nat):List UInt8:=if n<128 then [UInt8.ofNat n]else UInt8.ofNat (128+n%128)::enc (n/128)
termination_by n
decreasing_by omega
theorem CU (h:n<128):enc n=[UInt8.ofNat n]:=by rw[enc,if_pos h]
theorem CV (h:128<=n):enc n=UInt8.ofNat (128+n%128)::enc (n/128):=by rw[enc,if_neg ab]
theorem Sv (n:Nat):enc n≠[]:=by rw[enc];split <;>simp
theorem CW (n:Nat):0<(enc n).length:=by
 have:=Sv n
 cases h:enc n with
 |nil=>exact absurd h this
 |cons a l=>simp
theorem CX (n:Nat) (h:n<256):(UInt8.ofNat n).toNat=n:=by simp[UInt8.toNat_ofNat'];omega
theorem Ad (m:Nat) (c:UInt8) (r:List UInt8) (hc:c.toNat<128):enc m <+: c::r↔m=c.toNat:=by
 constructor
 ·intro h;rcases R6 m 128 with hm|hm
  ·rw[CU hm,List.cons_prefix_cons]at h;rw[<- h.1,CX m ab]
  ·rw[CV hm,List.cons_prefix_cons]at h;have:=h.1;have h2:c.toNat=128+m%128:=by rw[<- this,CX _ ab]
   omega
 ·rintro rfl;rw[CU hc];simp
theorem CY (m:Nat) (c:UInt8) (r:List UInt8) (hc:128<=c.toNat):enc m <+: c::r↔∃ k,m=(c.toNat-128)+128*k/\0<k/\enc k <+: r:=by
 have cz:c.toNat<256:=c.toNat_lt;constructor
 ·intro h;rcases R6 m 128 with hm|hm
  ·rw[CU hm,List.cons_prefix_cons]at h;have h2:c.toNat=m:=by rw[<- h.1,CX m ab]
   omega
  ·rw[CV hm,List.cons_prefix_cons]at h;have h2:c.toNat=128+m%128:=by rw[<- h.1,CX _ ab]
   exact⟨m/128,ab,ab,h.2⟩
 ·rintro⟨k,rfl,hk,h⟩;rw[CV ab,List.cons_prefix_cons];refine⟨?_,?_⟩
  ·apply UInt8.toNat_inj.1
   rw[CX _ ab];omega
  ·rw[show(c.toNat-128+128*k)/128=k by omega];exact h
theorem Li (m:Nat):¬enc m <+: []:=by
 intro h;exact Sv m (List.prefix_nil.1 h)
def je (L:List UInt8) (U n:Nat):Prop:=n<128 ^ U/\∀ m,enc m <+: L↔∃ k,m=n+128 ^ U*k/\(0<U->0<k)/\enc k <+: L.drop U
theorem je.zero (L:List UInt8):je L 0 0:=⟨ao,λm=>ao⟩
theorem drop_cons (h:L[U]? =some c):L.drop U=c::L.drop (U+1):=by
 obtain⟨hl,he⟩:=pi.1 h;rw[List.drop_eq_getElem_cons hl,he]
theorem je.next (h:je L U n) (hc:L[U]? =some c) (h1:128<=c.toNat):je L (U+1) (n+(c.toNat-128)*128 ^ U):=by
 have cz:c.toNat<256:=c.toNat_lt;refine⟨?_,λm=> ?_⟩
 ·have h0:=h.1;have:(c.toNat-128)*128 ^ U<=127*128 ^ U:=Nat.mul_le_mul_right _ ab;rw[Nat.pow_succ];omega
 ·rw[h.2,drop_cons hc];constructor
  ·rintro⟨k,rfl,_,hk⟩;obtain⟨k2,rfl,h3,h4⟩:=(CY k c _ h1).1 hk;refine⟨k2,?_,λ_=>h3,h4⟩;rw[Nat.pow_succ,Nat.mul_add,Nat.mul_comm (128 ^ U) (c.toNat-128),Nat.mul_assoc];omega
  ·rintro⟨k2,rfl,h3,h4⟩;refine⟨(c.toNat-128)+128*k2,?_,λ_=>by have:=h3 ab;omega,(CY _ c _ h1).2 ⟨k2,rfl,h3 ab,h4⟩⟩;rw[Nat.pow_succ,Nat.mul_add,Nat.mul_comm (128 ^ U) (c.toNat-128),Nat.mul_assoc];omega
theorem je.done (h:je L U n) (hc:L[U]? =some c) (h1:c.toNat<128) (h2:0<U->0<c.toNat) (m:Nat):enc m <+: L↔m=n+c.toNat*128 ^ U:=by
 rw[h.2,drop_cons hc];constructor
 ·rintro⟨k,rfl,_,hk⟩;rw[(Ad k c _ h1).1 hk,Nat.mul_comm]
 ·rintro rfl;exact⟨c.toNat,by rw[Nat.mul_comm],h2,(Ad _ c _ h1).2 rfl⟩
theorem je.bad (h:je L U n) (hc:L[U]? =some c) (h1:c.toNat=0) (h2:0<U) (m:Nat):¬enc m <+: L:=by
 rw[h.2,drop_cons hc];rintro⟨k,rfl,h3,hk⟩;have:=(Ad k c _ ab).1 hk;have:=h3 h2;omega
theorem je.Lj (h:je L U n) (h2:L.length<=U) (m:Nat):¬enc m <+: L:=by
 rw[h.2,List.drop_eq_nil_of_le h2];rintro⟨k,_,_,hk⟩;exact Li k hk
theorem je.big (h:je L U n) (hc:L[U]? =some c) (B:Nat) (h1:B<=(c.toNat%128)*128 ^ U) (m:Nat) (hm:m<B):¬enc m <+: L:=by
 have cz:c.toNat<256:=c.toNat_lt;rw[h.2,drop_cons hc];rintro⟨k,rfl,h3,hk⟩
 have bb:c.toNat%128<=k:=by
  rcases R6 c.toNat 128 with an|rQ
  ·have:=(Ad k c _ an).1 hk;omega
  ·obtain⟨k2,rfl,_,_⟩:=(CY k c _ rQ).1 hk;omega
 have:=Nat.mul_le_mul_left (128 ^ U) bb;rw[Nat.mul_comm (128 ^ U) (c.toNat%128)]at this;omega
theorem je.qcT (h:je L 10 n) (m:Nat) (hm:m<18446744073709551616):¬enc m <+: L:=by
 rw[h.2];rintro⟨k,rfl,h3,hk⟩;have:=h3 ab;have:128 ^ 10*1<=128 ^ 10*k:=Nat.mul_le_mul_left _ ab;omega
theorem Ae (m n:Nat) (L:List UInt8) (h1:enc m <+: L) (h2:enc n <+: L):m=n:=by
 induction m using Nat.strongRecOn generalizing n L with
 |_ m ih=>
  cases L with
  |nil=>exact absurd h1 (Li m)
  |cons c r=>
   rcases R6 c.toNat 128 with hc|hc
   ·rw[(Ad m c r hc).1 h1,(Ad n c r hc).1 h2]
   ·obtain⟨k,hk,pq,k1⟩:=(CY m c r hc).1 h1;obtain⟨l,hl,Uuf,l1⟩:=(CY n c r hc).1 h2;have:=ih k ab l r k1 l1;omega
theorem Lk (n:Nat):∀ U,(enc n).length<=U+1↔n<128 ^ (U+1):=by
 induction n using Nat.strongRecOn with
 |_ n ih=>
  intro U;rcases R6 n 128 with h|h
  ·rw[CU h];have:128 ^ 1<=128 ^ (U+1):=Nat.pow_le_pow_right ab ab;simp only[List.length_cons,List.length_nil];omega
  ·rw[CV h];simp only[List.length_cons]
   cases U with
   |zero=>have:=CW (n/128);omega
   |succ U=>
    rw[Nat.add_le_add_iff_right,ih (n/128) ab U,Nat.pow_succ 128 (U+1),Nat.div_lt_iff_lt_mul ab]
theorem je.len (h:je L U n) (c m:Nat) (h1:c<128) (h2:0<U->0<c) (hm:n+c*128 ^ U=m):(enc m).length=U+1:=by
 have h0:=h.1;have h3:c*128 ^ U<=127*128 ^ U:=Nat.mul_le_mul_right _ ab;have h4:(enc m).length<=U+1:=(Lk m U).2 (by rw[Nat.pow_succ];omega);rcases U with _|U
 ·have:=CW m;omega
 ·have h5:¬(enc m).length<=U+1:=by
   rw[Lk];have:1*128 ^ (U+1)<=c*128 ^ (U+1):=Nat.mul_le_mul_right _ (h2 ab);omega
  omega
theorem qcU (n U:Nat) (h:n<128 ^ (U+1)):(enc n).length<=U+1:=(Lk n U).2 h
theorem kz (n:Nat) (h:n<18446744073709551616):(enc n).length<=10:=qcU n 9 ab
theorem infoByte:(prog.info? 5).map (λi=>(i.zero,i.size,i.bytes))=some (some (.int .u8 0),1,1):=av
theorem Sw:((prog.info? 315).map (·.size))=some 2:=av
theorem liesBuilder:liesAt prog prog.depth 315 (2/prog.cellsOf 315) 0 315 1=true:=av
theorem qcV (b:Nat) (w:World) (h0:w.cell? ⟨b,0,none⟩=some (.pointer (some ⟨b,0,none⟩))):
  Calls prog 283 #[.pointer (some ⟨b,0,none⟩)] w λe w'=>e= .returned (.tuple #[])/\w=w':=by
 obtain⟨U,hj,_⟩:=Option.map_eq_some_iff.1 Sw;have aN:=λ(w:World)=>Lib.run_neq_ptr_same (P:=prog) w ⟨b,0,none⟩ underlying313 hj;go_wp2;go_end0
 exact⟨rfl,rfl⟩
theorem qcW (b:Nat) (w:World) (h0:w.cell? ⟨b,0,none⟩=some (.pointer none)) (wJ:w.shape? b=some (315,2)) (uV:w.frozen? ⟨b,0,none⟩=false):
  Calls prog 283 #[.pointer (some ⟨b,0,none⟩)] w λe w'=>e= .returned (.tuple #[])/\w.setCell ⟨b,0,none⟩ (.pointer (some ⟨b,0,none⟩))=w':=by
 obtain⟨U,hj,hjs⟩:=Option.map_eq_some_iff.1 Sw;go_wp2;rw[Lib.run_to_unsafe w ⟨b,0,none⟩ underlying313 underlying358 hj (by rw[hjs];decide) wJ (Nat.zero_lt_succ 1)];simp only[Result.andThen];rw[Oper.upon_value];go_wp2;rw[run_callFunc_extern func310 av av av (e:=Extern.AbiNoEscape.same) av];rw[Lib.run_noEscape];simp only[Result.andThen];rw[Oper.upon_value];go_wp2;rw[Lib.run_from_unsafe w ⟨b,0,none⟩ underlying358 underlying313 hj wJ liesBuilder];simp only[Result.andThen];rw[Oper.upon_value];go_wp2;go_end0
 exact⟨rfl,rfl⟩
theorem Sx (B b:Nat) (bs:List Value) (w:World) (h:Lib.IsBuilder 315 5 B b bs w):
  Calls prog 283 #[.pointer (some ⟨b,0,none⟩)] w λe w'=>e= .returned (.tuple #[])/\(Lib.BuilderAt 315 5 B b (.pointer (some ⟨b,0,none⟩)) bs w'/\Below B w w'):=by
 rcases h with h|h
 ·refine(qcW b w h.cell0 h.shape h.frozen0).mono ?_;rintro e w' ⟨rfl,rfl⟩;exact⟨rfl,h.used _,(Below.refl B w).setCell (p:=⟨b,0,none⟩) h.1 _⟩
 ·refine(qcV b w h.cell0).mono ?_;rintro e w' ⟨rfl,rfl⟩;exact⟨rfl,h,Below.refl B _⟩
theorem Sy (B b:Nat) (bs:List Value) (c:Int) (w:World) (h:Lib.IsBuilder 315 5 B b bs w) (hlen:bs.length+1<=140737488355328) (Sz:B<=w.heap.size):
  Calls prog 312 #[.pointer (some ⟨b,0,none⟩),.int .u8 c] w λe w'=>e= .returned .nilIface/\(Lib.IsBuilder 315 5 B b (bs++[.int .u8 c]) w'/\Below B w w'):=by
 obtain⟨i0,hi,a7,aY,aW⟩:=ql0 infoByte;go_in;go_wp2_with fail
 refine(Sx B b bs _ h).mono ?_;rintro e w1 ⟨rfl,h1,bD⟩;obtain⟨hB,v,dP,bA,aN⟩:=h1;have c0:w1.cell? ⟨b,0,none⟩=some (.pointer (some ⟨b,0,none⟩)):=by rw[Lib.cell_of_heap dP];rfl
 have c1:w1.cell? ⟨b,1,none⟩=some v:=by rw[Lib.cell_of_heap dP];rfl
 go_wp2_with (at_builtin;refine wpList_append_own _ rfl _ _ 105 rfl B 5 i0 (.int .u8 0) 1 1 underlying105 hi a7 aY aW rfl ak _ _ _ rfl (bA.alloc _) ⟨w1.heap.size,0,none⟩ 1 1 [.int .u8 c] rfl rfl ?c1 ?c2 ?c3 ?c4 ?c5 ?_)
 case c1=>
  intro U u hj
  match U,hj with
  |0,hj=>simp at hj;subst hj;simp[Addr.add]
 case c2=>intro u hu;simp at hu;subst hu;rfl
 case c3=>unfold maxLen;omega
 case c4=>omega
 case c5=>have:=bD.size;simp;omega
 intro v' w2 dk gW _
 have an:b<w1.heap.size:=by
  rcases R6 b w1.heap.size with h'|h'
  ·exact h'
  ·simp[Array.getElem?_eq_none h']at dP
 have bG:w2.heap[b]? =some (.cells #[.pointer (some ⟨b,0,none⟩),v] 315 (0,0)):=by
  rw[gW.block b (by simp;omega) (λe=>aN e.symm),Lib.alloc_old w1 _ b an];exact dP
 have d0:w2.cell? ⟨b,0,none⟩=some (.pointer (some ⟨b,0,none⟩)):=by rw[Lib.cell_of_heap bG];rfl
 have d1:w2.cell? ⟨b,1,none⟩=some v:=by rw[Lib.cell_of_heap bG];rfl
 have f1:w2.frozen? ⟨b,1,none⟩=false:=Lib.frozen_of_heap bG 1
 obtain⟨g,cap,rfl⟩:∃ g cap,v'= .slice (some ⟨g,0,none⟩) (bs.length+1) cap:=by
  rcases dk.2 with ⟨_,h0⟩|⟨g,cap,cur,hv,_⟩
  ·omega
  ·exact⟨g,cap,hv⟩
 go_wp2;go_ret;refine⟨rfl,.inr ?_,?_⟩
 ·exact Lib.BuilderAt.put (T:=315) (e:=5) hB bG (bs':=bs++[.int .u8 c]) (by simpa using dk) ak
 ·exact((bD.alloc (by have:=bD.size;omega) _).grown gW (by have:=bD.size;simp;omega) (λk hk=>(bA.lt k hk).1)).setCell (p:=⟨b,1,none⟩) hB _
theorem qcX:∀ x:Nat,x<256->bits .or .u8 (x:Int) 128=((128+x%128:Nat):Int):=by
 intro x hx;have h:∀ y:Fin 256,bits .or .u8 ((y.val:Nat):Int) 128=((128+y.val%128:Nat):Int):=by decide+kernel
 exact h ⟨x,hx⟩
theorem SC (l:List UInt8) (m:Nat) (h:m<256) (c:Int) (hc:c=(m:Int)):Lib.byteCells l++[.int .u8 c]=Lib.byteCells (l++[UInt8.ofNat m]):=by
 subst hc;simp[Lib.byteCells,Nat.mod_eq_of_lt h]
theorem Ll (l:List UInt8):(Lib.byteCells l).length=l.length:=by simp[Lib.byteCells]
def SD (B b:Nat) (l:List UInt8) (w:World) (e:Ending) (w':World):Prop:=e= .returned (.tuple #[])/\Lib.IsBuilder 315 5 B b (Lib.byteCells l) w'/\Below B w w'
theorem qcY (B b:Nat) (l:List UInt8) (n:Nat) (w:World) (hn:n<18446744073709551616) (h:Lib.IsBuilder 315 5 B b (Lib.byteCells l) w) (hl:l.length+11<=140737488355328) (hB:B<=w.heap.size):
  Calls prog 286 #[.pointer (some ⟨b,0,none⟩),.int .u64 n] w (SD B b (l++enc n) w):=by
 have qkR:=kz n hn;have HN:=aa hn;clear hn;go_wp2;go_loopw [1] (λv wr=>∃ (m:Nat) (l2:List UInt8),m<=n/\v= .int .u64 m/\l++enc n=l2++enc m/\Lib.IsBuilder 315 5 B b (Lib.byteCells l2) wr/\Below B w wr) (λv _=>(intOf v).toNat)
 case atStart=>exact⟨n,l,CP _,rfl,rfl,h,Below.refl _ _⟩
 case round=>
  obtain⟨m,l2,hmn,rfl,heq,hb,kb⟩:=hrel;have SE:=aa heq
  have jy:l2.length<=l.length+10:=by
   have:=congrArg List.length heq;simp only[zH]at this;have:=CW m;omega
  clear heq;have HL:=aa hl;clear hl;have r9:B<=wr.heap.size:=qcg hB kb.size;rcases R6 m 128 with hm|hm
  ·go_wp2_with fail
   refine(Sy B b (Lib.byteCells l2) _ wr hb (by rw[Ll];have:=HL.o;omega) r9).mono ?_;rintro e w4 ⟨rfl,h4,k4⟩;rw[SC l2 m ab _ rfl]at h4;go_wp2;go_end0
   refine⟨rfl,?_,kb.trans k4⟩;rw[SE.o,CU hm];exact h4
  ·have h7:0<m/128:=ab;go_wp2_with fail
   refine(Sy B b (Lib.byteCells l2) _ wr hb (by rw[Ll];have:=HL.o;omega) r9).mono ?_;rintro e w4 ⟨rfl,h4,k4⟩
   rw[SC l2 (128+m%128) ab _ (by
    rw[show((m:Int)%256)=((m%256:Nat):Int)by omega,qcX (m%256) ab,show m%256%128=m%128 by omega])]at h4
   have SF:ag (l++enc n=(l2++[UInt8.ofNat (128+m%128)])++enc (m/128)):=by
    unfold ag;rw[SE.o,CV hm,List.append_assoc];rfl
   generalize Lm:l2++[UInt8.ofNat (128+m%128)]=l3 at*;clear Lm;go_wp2;go_roundw
   case rel=>exact⟨m/128,l3,ab,aA,SF.o,h4,kb.trans k4⟩
   case measure=>exact dY
theorem qcZ (B b:Nat) (l:List UInt8) (n:Nat) (w:World) (hn:n<18446744073709551616) (h:Lib.IsBuilder 315 5 B b (Lib.byteCells l) w) (hl:l.length+11<=140737488355328) (hB:B<=w.heap.size) (fn:Fn) (w0:World):
  Calls prog 285 #[.int .u64 n,.pointer (some ⟨b,0,none⟩)] w (SD B b (l++enc n) w):=by
 have HN:=aa hn;have HL:=aa hl;clear hn hl;go_in;go_wp2_with fail
 refine(qcY B b l n w HN.o h HL.o hB).mono ?_;rintro e w1 ⟨rfl,h1,k1⟩;go_wp2_with fail
 go_end0
 exact⟨rfl,h1,k1⟩
def encs (l:List Nat):List UInt8:=(l.map enc).flatten
theorem qc0 (l:List Nat) (n:Nat):encs (l++[n])=encs l++enc n:=by simp[encs]
theorem qc1 (l:List Nat) (h:∀ n∈l,n<18446744073709551616):(encs l).length<=l.length*10:=by
 induction l with
 |nil=>simp[encs]
 |cons a l ih=>
  have h1:=kz a (h a ao);have h2:=ih λn hn=>h n (by simp[hn]);have e:encs (a::l)=enc a++encs l:=rfl;rw[e,zH,List.length_cons];omega
def Str (l:List UInt8) (w:World) (e:Ending) (w':World):Prop:=e= .returned (.string ⟨l.toArray⟩)/\ad w w'
theorem SG (A:Option Addr) (n c:Nat) (xs:List Nat) (w:World) (hn:xs.length=n) (aL:n<=1000) (kU:n<=c) (hx:∀ x∈xs,x<18446744073709551616)
  (hc:0<n->∃ b off,A=some ⟨b,off,none⟩/\b<w.heap.size/\∀ i,i<n->w.cell? ⟨b,off+i,none⟩=some (.int .u64 (xs[i]?.getD 0:Nat))):
  Calls prog 263 #[.slice A n c] w (Str (encs xs) w):=by
 have HN:=aa hn;have HX:=aa hx;have HC:=aa hc;clear hn hx hc;have iS:∀ (fn:Fn) (first cap:Array Value) (w:World),(Instr.makeFunc fn first cap).run prog w= .ok (.func fn first cap) w:=λ_ _ _ _=>rfl
 have CZ:Lib.IsBuilder 315 5 w.heap.size w.heap.size (Lib.byteCells []) (w.alloc (.cells #[.pointer none,.slice none 0 0] 315)):=
  .inl ⟨CP _,_,yY w _,qcb _ _ _ _,by simp[Value.ownBlock]⟩
 go_wp2;go_loopw [10] (λv wr=>∃ k:Nat,k<=n/\v= .int .i64 k/\Lib.IsBuilder 315 5 w.heap.size w.heap.size (Lib.byteCells (encs (xs.take k))) wr/\ad w wr) (λv _=>n-(intOf v).toNat)
 case atStart=>exact⟨0,Nat.zero_le _,rfl,CZ,al⟩
 case round=>
  clear CZ;obtain⟨k,hk,rfl,hb,kr⟩:=hrel;have hz:=kr.size
  have cM:ag ((encs (xs.take k)).length<=10000):=by
   unfold ag;have h1:=qc1 (xs.take k) (λx hx=>HX.o x (List.mem_of_mem_take hx));have h2:(xs.take k).length<=k:=List.length_take_le _ _;omega
  by_cases an:k<n
  ·obtain⟨b,off,rfl,dZ,hc⟩:=HC.o ab;have dD:=kr.af (hc k an);clear hc;obtain⟨y,hy⟩:=eqR (xs[k]?.getD 0);rw[<- hy]at dD;have HY:=aa hy;clear hy;go_wp2_with fail
   refine(qcZ w.heap.size w.heap.size (encs (xs.take k)) y wr (by
    rw[HY.o,vF (by rw[HN.o];exact an)];exact HX.o _ (List.getElem_mem _)) hb (by have:=cM.o;omega) hz (.func 285) wr).mono ?_
   rintro e w4 ⟨rfl,h4,k4⟩
   have he:ag (encs (xs.take k)++enc y=encs (xs.take (k+1))):=by
    unfold ag;rw[List.take_add_one,vF (by rw[HN.o];exact an),Option.toList_some,qc0,HY.o,vF (by rw[HN.o];exact an)];rfl
   rw[he.o]at h4;have k5:ad w w4:=Below.trans kr k4;go_wp2;go_roundw
   case rel=>exact⟨k+1,ab,aA,h4,k5⟩
   case measure=>exact dY
  ·obtain rfl:n=k:=ab;rw[qcc (by rw[HN.o];exact CP _)]at hb;go_wp2_with fail
   refine(Builder_String_any w.heap.size w.heap.size (encs xs) wr hb hz).mono ?_;rintro e w4 ⟨rfl,k4⟩;have k5:ad w w4:=Below.trans kr k4;go_wp2;go_ret;exact⟨rfl,k5⟩
def num (n:Nat):ByteArray:=⟨(enc n).toArray⟩
theorem Ln (n:Nat) (w:World) (hn:n<18446744073709551616):
  Calls prog 212 #[.int .u64 n] w λe w'=>e= .returned (.string (num n))/\ad w w':=by
 have HN:=aa hn;clear hn;have C0:=yY w (.cells #[.int .u64 n] 244);have qJ:=aa C0;clear C0;go_in;go_wp2_with fail
 refine(SG (some ⟨w.heap.size,0,none⟩) 1 1 [n] _ rfl ab ab (by simpa using HN.o) (λ_=>⟨w.heap.size,0,rfl,ao,λi hi=> ?_⟩)).mono ?_
 ·obtain rfl:i=0:=ab;rw[Lib.cell_of_heap qJ.o];rfl
 rintro e w1 ⟨rfl,k1⟩;have e1:encs [n]=enc n:=by simp[encs]
 rw[e1];have k2:ad w w1:=ad.call al k1;go_wp2;go_ret;exact⟨rfl,k2⟩
def eB (s:ByteArray):ByteArray:=num s.size++s
theorem GC (s:ByteArray) (w:World) (hs:s.size<=4294967296):
  Calls prog 211 #[.string s] w λe w'=>e= .returned (.string (eB s))/\ad w w':=by
 have hz:(num s.size).size<=10:=kz _ ab;go_in;go_wp2_with fail
 refine(Ln s.size w ab).mono ?_;rintro e w1 ⟨rfl,k1⟩;go_wp2;go_ret;exact⟨rfl,k1⟩
theorem qc2:∀ x:Nat,x<256->bits .andNot .u64 (x:Int) 128=((x%128:Nat):Int):=by
 intro x hx;have h:∀ y:Fin 256,bits .andNot .u64 ((y.val:Nat):Int) 128=((y.val%128:Nat):Int):=by decide+kernel
 exact h ⟨x,hx⟩
theorem Lo (U:Nat):(2:Int) ^ (7*U)=((128 ^ U:Nat):Int):=by
 rw[Int.pow_mul];simp
theorem qc3 (lo U:Nat) (h:lo*128 ^ U<18446744073709551616):IntKind.u64.wrap ((lo:Int)*2 ^ (7*U))=((lo*128 ^ U:Nat):Int):=by
 rw[Lo,<- Int.natCast_mul,IntKind.wrap_u64];omega
theorem qc4 (lo U:Nat):((lo*128 ^ U:Nat):Int)/2 ^ (7*U)=(lo:Int):=by
 rw[Lo,<- Int.natCast_ediv,Nat.mul_div_cancel _ (Nat.pow_pos ab)]
theorem qc5 (lo U:Nat) (h:18446744073709551616<=lo*128 ^ U):∃ q:Nat,IntKind.u64.wrap ((lo:Int)*2 ^ (7*U))/2 ^ (7*U)=(q:Int)/\q≠lo:=by
 rw[Lo,<- Int.natCast_mul,IntKind.wrap_u64];refine⟨(lo*128 ^ U)%18446744073709551616/128 ^ U,ao,λe=> ?_⟩;have h1:=Nat.div_mul_le_self ((lo*128 ^ U)%18446744073709551616) (128 ^ U);rw[e]at h1;have:=Nat.mod_lt (lo*128 ^ U) (show 0<18446744073709551616 by omega);omega
theorem qc6 (n lo U:Nat) (h1:n<128 ^ U) (h2:n+lo*128 ^ U<18446744073709551616):bits .or .u64 (n:Int) ((lo*128 ^ U:Nat):Int)=((n+lo*128 ^ U:Nat):Int):=by
 have e:∀ m:Nat,m<18446744073709551616->(BitVec.ofInt 64 (m:Int)).toNat=m:=λm hm=>by
  rw[BitVec.ofInt_natCast,BitVec.toNat_ofNat];exact Nat.mod_eq_of_lt ab
 show IntKind.u64.wrap ((BitVec.ofInt 64 (n:Int) ||| BitVec.ofInt 64 ((lo*128 ^ U:Nat):Int)).toNat:Int)=_
 rw[BitVec.toNat_or,e n ab,e (lo*128 ^ U) ab,IntKind.wrap_u64]
 have h3:n ||| lo*128 ^ U=n+lo*128 ^ U:=by
  have e2:128 ^ U=2 ^ (7*U):=by rw[Nat.pow_mul]
  rw[e2]at h1⊢;rw[Nat.or_comm,Nat.mul_comm,<- Nat.two_pow_add_eq_or_of_lt h1,Nat.add_comm]
 rw[h3];omega
theorem qc7 (U:Nat) (h:U<=8):128 ^ U<=72057594037927936:=by
 have:=Nat.pow_le_pow_right (show 0<128 by omega) h;omega
def Rd (L:List UInt8) (a:Int) (n:Nat) (e:Int) (ok:Bool):Prop:=
 (ok=true/\n<18446744073709551616/\0<=a/\enc n <+: L.drop a.toNat/\e=a+((enc n).length:Nat))∨
 (ok=false/\n=0/\e=0/\(0<=a->∀ m,m<18446744073709551616->¬enc m <+: L.drop a.toNat))
def qc8 (s:ByteArray) (a:Int) (w:World) (e:Ending) (w':World):Prop:=
 ∃ (n:Nat) (en:Int) (ok:Bool),e= .returned (.tuple #[.int .u64 n,.int .i64 en,.bool ok])/\Rd s.data.toList a n en ok/\ad w w'
theorem GD (s:ByteArray) (a:Int) (w:World) (hs:s.size<=1099511627776):
  Calls prog 239 #[.string s,.int .i64 a] w (qc8 s a w):=by
 rcases Int.lt_or_le a 0 with h0|h0
 ·go_wp2;go_step3
  go_wp2;try rw[Exit.noGoto_ret]
  go_ret3
  exact⟨0,0,false,rfl,.inr ⟨rfl,rfl,rfl,λh=>absurd h ab⟩,al⟩
 ·obtain⟨k,rfl⟩:=Int.eq_ofNat_of_zero_le h0;rcases R6 k s.size with h1|h1
  ·clear h0;have e1:decide (s.size<=k)=false:=by simp;(try omega)
   have e2:decide ((k:Int)<0)=false:=by simp;(try omega)
   go_wp2;go_step3
   go_wp2;go_step3
   go_wp2;go_loopw [4,7] (λnv iv wr=>∃ (U n:Nat),U<=10/\k+U<=s.size/\nv= .int .u64 n/\iv= .int .i64 ((k+U:Nat):Int)/\je (s.data.toList.drop k) U n/\ad w wr) (λ_ i _=>s.size-(intOf i).toNat)
   case atStart=>exact⟨0,0,ab,ab,rfl,rfl,je.zero _,ad.refl _⟩
   case round=>
    obtain⟨U,n,hj,fX,rfl,rfl,hh,kr⟩:=hrel;by_cases an:k+U<s.size
    ·obtain⟨c,hc⟩:=eqQ (s[k+U].toNat);have cz:c<256:=by rw[<- hc];exact UInt8.toNat_lt _
     have GF:ag ((s.data.toList.drop k)[U]? =some s[k+U]):=by
      unfold ag;rw[List.getElem?_drop,Array.getElem?_toList,Ht an];rfl
     have HC:=aa hc;have qc9:=qc2 c cz;obtain⟨lo,gX⟩:=eqQ (c%128);rw[gX]at qc9;have SH:lo<=127:=ab;have C1:=aa gX;have HH:=aa hh;clear hh gX;have SI:(c:Int)<256:=ab;rcases R6 U 10 with qc'|qc'
     ·rcases R6 (lo*128 ^ U) 18446744073709551616 with Lp|C2
      ·have Lq:=HH.o.1;obtain⟨sh,wJ⟩:=eqQ (lo*128 ^ U);have r1:=qc3 lo U Lp;have r2:=qc4 lo U;rw[wJ]at r1 r2;have C3:=aa wJ;have jW:=aa Lp;clear wJ Lp;by_cases hz:c=0/\0<U
       ·obtain⟨aY,aW⟩:=hz;have mS:((c:Int)==0)=true:=by simp[aY]
        have C4:=aa aY;clear aY;go_wp2
        (try rw[Exit.noGoto_ret])
        go_ret3
        exact⟨0,0,false,rfl,.inr ⟨rfl,rfl,rfl,λ_ m _=>HH.o.bad GF.o (by rw[HC.o];exact C4.o) aW m⟩,kr⟩
       ·have Cs:((c:Int)==0&&decide ((k:Int)<(k:Int)+(U:Int)))=false:=by
         rw[Bool.and_eq_false_iff];by_cases h1:c=0
         ·right;simp;omega
         ·left;simp;omega
        have HZ:=aa hz;clear hz
        have C5:n+sh<18446744073709551616:=by
         have h1:=C3.o;have h2:=jW.o;rcases R6 U 9 with h9|h9
         ·have h3:=qc7 U ab;have h4:lo*128 ^ U<=127*72057594037927936:=Nat.mul_le_mul SH h3;omega
         ·obtain rfl:U=9:=ab;simp only[Nat.reducePow]at h1 h2 Lq;omega
        have r3:bits .or .u64 (n:Int) (sh:Int)=((n+sh:Nat):Int):=by
         rw[<- C3.o];exact qc6 n lo U Lq (by rw[C3.o];exact C5)
        have qda:=aa C5;clear C5 Lq;have GG:c=0∨0<c:=ab;obtain⟨m,hm⟩:=eqQ (n+sh);rw[hm]at r3;have HM:=aa hm;clear hm
        have done:c<128->enc m <+: s.data.toList.drop k/\m<18446744073709551616/\(enc m).length=U+1:=by
         intro qK
         have h0:0<U->0<c:=λC6=>by
          rcases GG with h|h
          ·exact absurd ⟨h,C6⟩ HZ.o
          ·exact h
         have h1:=HH.o.done GF.o (by rw[HC.o];exact qK) (by rw[HC.o];exact h0);rw[HC.o]at h1
         have h2:n+c*128 ^ U=m:=by
          rw[<- HM.o,<- C3.o,<- C1.o,Nat.mod_eq_of_lt qK]
         rw[h2]at h1;exact⟨(h1 m).2 rfl,by rw[<- HM.o];exact qda.o,HH.o.len c m qK h0 h2⟩
        have SJ:=aa done
        have next:128<=c->je (s.data.toList.drop k) (U+1) m:=by
         intro qK;have h1:=HH.o.next GF.o (by rw[HC.o];exact qK);rw[HC.o]at h1;have h2:c-128=lo:=by rw[<- C1.o];omega
         rw[h2,C3.o,HM.o]at h1;exact h1
        have KL:=aa next;clear done next GG;rcases vd:((c:Int)==0)with _|_
        ·rcases R6 c 128 with qK|qK
         ·obtain⟨d1,d2,d3⟩:=SJ.o qK;have D1:=aa d1;have D2:=aa d2;have D3:=aa d3;clear d1 d2 d3;go_wp2
          (try rw[Exit.noGoto_ret])
          go_ret3
          exact⟨m,_,true,rfl,.inl ⟨rfl,D2.o,ab,D1.o,by rw[D3.o];omega⟩,kr⟩
         ·have D1:=aa (KL.o qK);go_wp2;go_roundw
          case rel=>exact⟨U+1,m,ab,ab,rfl,aA,D1.o,kr⟩
          case measure=>exact dY
        ·have C6:U<=0:=by
          have h1:c=0:=by simpa using vd
          rcases Nat.eq_zero_or_pos U with h|h
          ·omega
          ·exact absurd ⟨h1,h⟩ HZ.o
         have nj:decide ((k:Int)<(k:Int)+(U:Int))=false:=by simp;omega
         have qK:c<128:=by
          have h1:c=0:=by simpa using vd
          omega
         obtain⟨d1,d2,d3⟩:=SJ.o qK;have D1:=aa d1;have D2:=aa d2;have D3:=aa d3;clear d1 d2 d3;go_wp2
         (try rw[Exit.noGoto_ret])
         go_ret3
         exact⟨m,_,true,rfl,.inl ⟨rfl,D2.o,ab,D1.o,by rw[D3.o];omega⟩,kr⟩
      ·obtain⟨q,kp,gE⟩:=qc5 lo U C2;have Lr:((q:Int)==(lo:Int))=false:=by simp;omega
       have Ls:((q:Int)!=(lo:Int))=true:=by simp;omega
       have qdb:=aa C2;clear C2;go_wp2
       (try rw[Exit.noGoto_ret])
       go_ret3
       exact⟨0,0,false,rfl,.inr ⟨rfl,rfl,rfl,λ_ m hm=>HH.o.big GF.o _ (by rw[HC.o,C1.o];exact qdb.o) m hm⟩,kr⟩
     ·obtain rfl:U=10:=ab;go_wp2
      (try rw[Exit.noGoto_ret])
      go_ret3
      exact⟨0,0,false,rfl,.inr ⟨rfl,rfl,rfl,λ_ m hm=>HH.o.qcT m hm⟩,kr⟩
    ·have HH:=aa hh;clear hh;go_wp2
     (try rw[Exit.noGoto_ret])
     go_ret3
     exact⟨0,0,false,rfl,.inr ⟨rfl,rfl,rfl,λ_ m hm=>HH.o.Lj (by simp;omega) m⟩,kr⟩
  ·go_wp2;go_step3
   go_wp2
   (try rw[Exit.noGoto_ret])
   go_ret3
   exact⟨0,0,false,rfl,.inr ⟨rfl,rfl,rfl,λ_ m hm=>by
    have e:s.data.toList.drop (k:Int).toNat=[]:=List.drop_eq_nil_of_le (by simpa using h1);rw[e];exact Li m⟩,al⟩
theorem Rd.ok {ok:Bool} (h:Rd L a n e ok) (h0:0<=a) (hm:m<18446744073709551616) (hp:enc m <+: L.drop a.toNat):n=m/\e=a+((enc m).length:Nat)/\ok=true:=by
 rcases h with ⟨rfl,_,_,h1,rfl⟩|⟨_,_,_,h1⟩
 ·have:=Ae n m _ h1 hp;subst this;exact⟨rfl,rfl,rfl⟩
 ·exact absurd hp (h1 h0 m hm)
theorem Rd.no {ok:Bool} (h:Rd L a n e ok) (hp:0<=a->∀ m,m<18446744073709551616->¬enc m <+: L.drop a.toNat):n=0/\e=0/\ok=false:=by
 rcases h with ⟨rfl,h2,h3,h1,rfl⟩|⟨h2,h3,h4,h1⟩
 ·exact absurd h1 (hp h3 n h2)
 ·exact⟨h3,h4,h2⟩
theorem Lt (s:ByteArray) (a:Int) (k m len:Nat) (w:World) (hs:s.size<=1099511627776) (ha:a=(k:Int)) (hm:m<18446744073709551616) (hp:enc m <+: s.data.toList.drop k) (hl:len=(enc m).length):
  Calls prog 239 #[.string s,.int .i64 a] w λe w'=>e= .returned (.tuple #[.int .u64 m,.int .i64 ((k:Int)+(len:Int)),.bool true])/\ad w w':=by
 subst ha hl;refine(GD s k w hs).mono ?_;rintro e w' ⟨n,en,ok,rfl,hr,hk⟩;obtain⟨rfl,rfl,rfl⟩:=hr.ok ab hm hp;exact⟨rfl,hk⟩
theorem C7 {a b:ByteArray} (h:a.data.toList=b.data.toList):a=b:=by
 ext1
 exact Array.toList_inj.1 h
theorem SM (a b:ByteArray):(a++b).data.toList=a.data.toList++b.data.toList:=by simp[ByteArray.data_append]
theorem qdc (a:ByteArray) (i U:Nat):(a.extract i U).data.toList=(a.data.toList.take U).drop i:=by
 simp[ByteArray.data_extract,List.extract_eq_take_drop,List.drop_take]
theorem Af (a:ByteArray):a.data.toList.length=a.size:=rfl
def SN (c:Int):ByteArray:=⟨#[UInt8.ofNat c.toNat]⟩
def iD (n s:Nat):List UInt8:=enc n++enc s
theorem GH (n s:Nat):(iD n s).length=(enc n).length+(enc s).length:=by simp[iD]
theorem C8 (n s:Nat) (X:List UInt8):iD n s <+: X↔enc n <+: X/\enc s <+: X.drop (enc n).length:=by
 unfold iD;constructor
 ·rintro⟨r,rfl⟩;refine⟨by rw[List.append_assoc];exact List.prefix_append _ _,?_⟩;rw[List.append_assoc,List.drop_left];exact List.prefix_append _ _
 ·rintro⟨⟨r,rfl⟩,h2⟩;rw[List.drop_left]at h2;obtain⟨q,rfl⟩:=h2;exact⟨q,by rw[List.append_assoc]⟩
def pr (L:List UInt8) (a:Int) (n s:Nat) (e:Int) (ok:Bool):Prop:=
 (ok=true/\1<=n/\n<=1099511627776/\s<6/\0<=a/\iD n s <+: L.drop a.toNat/\e=a+((iD n s).length:Nat))∨
 (ok=false/\n=0/\s=0/\e=0/\(0<=a->∀ m t,1<=m->m<=1099511627776->t<6->¬iD m t <+: L.drop a.toNat))
theorem qdd (h:iD n s <+: X) (g:iD m t <+: X):n=m/\s=t:=by
 rw[C8]at h g;have:=Ae n m X h.1 g.1;subst this;exact⟨rfl,Ae s t _ h.2 g.2⟩
theorem pr.same {f:Int} {ok is:Bool} (h:pr L a n s e ok) (g:pr L a m t f is):n=m/\s=t/\e=f/\ok=is:=by
 rcases h with ⟨rfl,h1,h2,h3,h4,h5,rfl⟩|⟨rfl,rfl,rfl,rfl,h1⟩
 ·rcases g with ⟨rfl,g1,g2,g3,g4,g5,rfl⟩|⟨rfl,rfl,rfl,rfl,g1⟩
  ·obtain⟨rfl,rfl⟩:=qdd h5 g5;exact⟨rfl,rfl,rfl,rfl⟩
  ·exact absurd h5 (g1 h4 n s h1 h2 h3)
 ·rcases g with ⟨rfl,g1,g2,g3,g4,g5,rfl⟩|⟨rfl,rfl,rfl,rfl,g1⟩
  ·exact absurd g5 (h1 g4 m t g1 g2 g3)
  ·exact⟨rfl,rfl,rfl,rfl⟩
theorem Lu (L:List UInt8) (a:Int) (n:Nat) (h0:0<=a):L.drop (a+((enc n).length:Nat)).toNat=(L.drop a.toNat).drop (enc n).length:=by
 rw[List.drop_drop,show(a+((enc n).length:Nat)).toNat=a.toNat+(enc n).length by omega]
theorem qde (h:Rd L a n mid true) (g:Rd L mid m en true) (h1:1<=n) (h2:n<=1099511627776) (h3:m<6):pr L a n m en true:=by
 rcases h with ⟨_,_,h4,h5,rfl⟩|⟨h,_⟩
 ·rcases g with ⟨_,_,g4,g5,rfl⟩|⟨g,_⟩
  ·refine .inl ⟨rfl,h1,h2,h3,h4,(C8 n m _).2 ⟨h5,?_⟩,by rw[GH];omega⟩;rw[Lu L a n h4]at g5;exact g5
  ·cases g
 ·cases h
theorem qdf (h:Rd L a n mid false):pr L a 0 0 0 false:=by
 rcases h with ⟨h,_⟩|⟨_,_,_,h1⟩
 ·cases h
 ·exact .inr ⟨rfl,rfl,rfl,rfl,λh0 m t _ h2 _ hp=>h1 h0 m ab ((C8 m t _).1 hp).1⟩
theorem qdg (h:Rd L a n mid true) (g:Rd L mid m en false):pr L a 0 0 0 false:=by
 rcases h with ⟨_,h3,h4,h5,rfl⟩|⟨h,_⟩
 ·rcases g with ⟨g,_⟩|⟨_,_,_,g1⟩
  ·cases g
  ·refine .inr ⟨rfl,rfl,rfl,rfl,λh0 k t _ h2 ht hp=> ?_⟩;rw[C8]at hp;have:=Ae n k _ h5 hp.1;subst this;refine g1 ab t ab ?_;rw[Lu L a n h4];exact hp.2
 ·cases h
theorem SO (h:Rd L a n mid true) (g:Rd L mid m en true) (hb:1099511627776<n∨n<1∨6<=m):pr L a 0 0 0 false:=by
 rcases h with ⟨_,h3,h4,h5,rfl⟩|⟨h,_⟩
 ·rcases g with ⟨_,g3,g4,g5,rfl⟩|⟨g,_⟩
  ·refine .inr ⟨rfl,rfl,rfl,rfl,λh0 k t eN bb ht hp=> ?_⟩;rw[C8]at hp;have:=Ae n k _ h5 hp.1;subst this;rw[Lu L a n h4]at g5;have:=Ae m t _ g5 hp.2;omega
  ·cases g
 ·cases h
def xE (n s:Nat):ByteArray:=⟨(iD n s).toArray⟩
theorem qdh (n s:Nat):(xE n s).size=(iD n s).length:=rfl
theorem GI (n s:Nat) (w:World) (h1:1<=n) (h2:n<=1099511627776) (h3:s<6):
  Calls prog 213 #[.agg #[.int .i64 n,.int .i64 s]] w λe w'=>e= .returned (.string (xE n s))/\ad w w':=by
 have C0:=yY w (.cells #[.int .i64 n,.int .i64 s] 45);have qJ:=aa C0;clear C0;go_in;go_wp2_with fail
 refine(Q' n s _ ab).mono ?_;rintro e w1 ⟨rfl,k1⟩;have K1:ad w w1:=ad.call al k1;have Lv:=k1.heap qJ.o;have c0:w1.cell? ⟨w.heap.size,0,none⟩=some (.int .i64 n):=by rw[Lib.cell_of_heap Lv];rfl
 have c1:w1.cell? ⟨w.heap.size,1,none⟩=some (.int .i64 s):=by rw[Lib.cell_of_heap Lv];rfl
 clear Lv;have SQ:=yY w1 (.cells #[.int .u64 n,.int .u64 s] 244);have HJ1:=aa SQ;clear SQ;go_wp2_with fail
 refine(SG (some ⟨w1.heap.size,0,none⟩) 2 2 [n,s] _ rfl ab ab (by intro x hx;simp at hx;omega) (λ_=>⟨w1.heap.size,0,rfl,ao,λi hi=> ?_⟩)).mono ?_
 ·rw[Lib.cell_of_heap HJ1.o];have:i=0∨i=1:=ab;rcases this with rfl|rfl <;>rfl
 rintro e w2 ⟨rfl,k2⟩;have K2:ad w w2:=K1.call (ad.call al k2);have e1:encs [n,s]=iD n s:=by simp[encs,iD]
 rw[e1];go_wp2;go_ret;exact⟨rfl,K2⟩
def qdi (s:ByteArray) (a:Int) (w:World) (e:Ending) (w':World):Prop:=
 ∃ (n m:Nat) (en:Int) (ok:Bool),e= .returned (.tuple #[.agg #[.int .i64 n,.int .i64 m],.int .i64 en,.bool ok])/\pr s.data.toList a n m en ok/\ad w w'
theorem qdj (s:ByteArray) (a:Int) (w:World) (hs:s.size<=1099511627776):
  Calls prog 179 #[.string s,.int .i64 a] w (qdi s a w):=by
 have X0:=yY w (.cells #[.int .i64 0,.int .i64 0] 45);have Lw:=aa X0;clear X0;go_in;go_wp2_with fail
 refine(GD s a _ hs).mono ?_;rintro e w1 ⟨n,mid,ok1,rfl,h1,k1⟩;go_wp2_with fail
 refine(GD s mid _ hs).mono ?_;rintro e w2 ⟨m,en,ok2,rfl,h2,k2⟩;have X2:=(k1.call k2).heap Lw.o;have x0:w2.cell? ⟨w.heap.size,0,none⟩=some (.int .i64 0):=by rw[Lib.cell_of_heap X2];rfl
 have x1:w2.cell? ⟨w.heap.size,1,none⟩=some (.int .i64 0):=by rw[Lib.cell_of_heap X2];rfl
 have f0:w2.frozen? ⟨w.heap.size,0,none⟩=false:=Lib.frozen_of_heap X2 0;have f1:w2.frozen? ⟨w.heap.size,1,none⟩=false:=Lib.frozen_of_heap X2 1;have K2:ad w w2:=ad.call al (k1.call k2);have aW:w.heap.size<w2.heap.size:=by have:=(k1.call k2).size;simp at this;omega
 have iE:=aa X2;have H1:=aa h1;have H2:=aa h2;clear h1 h2 X2
 cases ok1
 ·go_wp2;refine KV (v:= .tuple #[.agg #[.int .i64 0,.int .i64 0],.int .i64 0,.bool false]) (by simp[results,results179,go_sem,x0,x1]) rfl ⟨0,0,0,false,rfl,qdf H1.o,?_⟩;exact al
 ·cases ok2
  ·go_wp2;refine KV (v:= .tuple #[.agg #[.int .i64 0,.int .i64 0],.int .i64 0,.bool false]) (by simp[results,results179,go_sem,x0,x1]) rfl ⟨0,0,0,false,rfl,qdg H1.o H2.o,?_⟩;exact al
  ·by_cases hb:1099511627776<n∨6<=m
   ·have bW:pr s.data.toList a 0 0 0 false:=SO H1.o H2.o ab;have jX:=aa bW;clear bW;rcases R6 1099511627776 n with h1|h1
    ·go_wp2;refine KV (v:= .tuple #[.agg #[.int .i64 0,.int .i64 0],.int .i64 0,.bool false]) (by simp[results,results179,go_sem,x0,x1]) rfl ⟨0,0,0,false,rfl,jX.o,?_⟩;exact al
    ·have h2:6<=m:=ab;clear hb;go_wp2;refine KV (v:= .tuple #[.agg #[.int .i64 0,.int .i64 0],.int .i64 0,.bool false]) (by simp[results,results179,go_sem,x0,x1]) rfl ⟨0,0,0,false,rfl,jX.o,?_⟩;exact al
   ·have bD:n<=1099511627776:=ab;have bG:m<6:=ab;clear hb;have SR:ad w ((w2.setCell ⟨w.heap.size,0,none⟩ (.int .i64 n)).setCell ⟨w.heap.size,1,none⟩ (.int .i64 m)):=(K2.setCell ao _).setCell ao _
    have XS:ag (((w2.setCell ⟨w.heap.size,0,none⟩ (.int .i64 n)).setCell ⟨w.heap.size,1,none⟩ (.int .i64 m)).heap[w.heap.size]? =some (.cells #[.int .i64 n,.int .i64 m] 45 (0,0))):=by
     unfold ag;have:=iE.o;simp[World.setCell,Array.getElem?_modify,this]
    rcases Nat.eq_zero_or_pos n with hz|hz
    ·subst hz;have bW:pr s.data.toList a 0 0 0 false:=SO H1.o H2.o ab;have jX:=aa bW;clear bW;go_wp2_with fail
     refine(qbo 0 m _ ab).mono ?_;rintro e w3 ⟨rfl,k3⟩;have X3:=k3.heap XS.o;have x0:w3.cell? ⟨w.heap.size,0,none⟩=some (.int .i64 0):=by rw[Lib.cell_of_heap X3];rfl
     have x1:w3.cell? ⟨w.heap.size,1,none⟩=some (.int .i64 m):=by rw[Lib.cell_of_heap X3];rfl
     have f0:w3.frozen? ⟨w.heap.size,0,none⟩=false:=Lib.frozen_of_heap X3 0;have f1:w3.frozen? ⟨w.heap.size,1,none⟩=false:=Lib.frozen_of_heap X3 1;have K3:=SR.call k3;clear X3;go_wp2;refine KV (v:= .tuple #[.agg #[.int .i64 0,.int .i64 0],.int .i64 0,.bool false]) (by simp[results,results179,go_sem,x0,x1]) rfl ⟨0,0,0,false,rfl,jX.o,?_⟩;exact al
    ·have lZ:pr s.data.toList a n m en true:=qde H1.o H2.o hz bD bG;have HY:=aa lZ;clear lZ;go_wp2_with fail
     refine(Q' n m _ ab).mono ?_;rintro e w3 ⟨rfl,k3⟩;have X3:=k3.heap XS.o;have x0:w3.cell? ⟨w.heap.size,0,none⟩=some (.int .i64 n):=by rw[Lib.cell_of_heap X3];rfl
     have x1:w3.cell? ⟨w.heap.size,1,none⟩=some (.int .i64 m):=by rw[Lib.cell_of_heap X3];rfl
     have f0:w3.frozen? ⟨w.heap.size,0,none⟩=false:=Lib.frozen_of_heap X3 0;have f1:w3.frozen? ⟨w.heap.size,1,none⟩=false:=Lib.frozen_of_heap X3 1;have K3:=SR.call k3;clear X3;go_wp2;refine KV (v:= .tuple #[.agg #[.int .i64 n,.int .i64 m],.int .i64 en,.bool true]) (by simp[results,results179,go_sem,x0,x1]) rfl ⟨n,m,en,true,rfl,HY.o,?_⟩;exact al
def sh (s:ByteArray) (n:Nat):ByteArray:=if n<s.size then s.extract 0 n else s
def nk (s:ByteArray) (n:Nat) (en:Int) (ok:Bool) (da:Int):Bool:=ok&&decide (0<=da)&&decide ((n:Int)<=da)&&decide ((n:Int)<=(s.size:Int)-en)
def ve (s:ByteArray) (n:Nat) (en:Int) (ok:Bool) (da:Int):ByteArray:=if nk s n en ok da then s.extract en.toNat (en.toNat+n)else⟨#[]⟩
def vf (s:ByteArray) (n:Nat) (en:Int) (ok:Bool) (da:Int):Int:=if nk s n en ok da then en+n else 0
def qdk (s:ByteArray) (a da:Int) (w:World) (e:Ending) (w':World):Prop:=
 ∃ (n:Nat) (en:Int) (ok:Bool),e= .returned (.tuple #[.string (ve s n en ok da),.int .i64 (vf s n en ok da),.bool (nk s n en ok da)])/\Rd s.data.toList a n en ok/\ad w w'
theorem qdl {s:ByteArray} {ok:Bool} (h:Rd s.data.toList a n en ok):0<=en/\en<=(s.size:Int):=by
 rcases h with ⟨_,_,h1,h2,rfl⟩|⟨_,_,rfl,_⟩
 ·have h3:=h2.length_le;have h5:=CW n;rw[ql1]at h3;have h4:s.data.toList.length=s.size:=rfl;omega
 ·omega
theorem qdm (s:ByteArray) (a da:Int) (w:World) (hs:s.size<=1099511627776) (Ag: -9223372036854775808<=da) (gd:da<=9223372036854775807):
  Calls prog 238 #[.string s,.int .i64 a,.int .i64 da] w (qdk s a da w):=by
 have HM1:=aa Ag;have HM2:=aa gd;clear Ag gd;go_in;go_wp2_with fail
 refine(GD s a w hs).mono ?_;rintro e w1 ⟨n,en,ok,rfl,hr,k1⟩;obtain⟨he1,he2⟩:=qdl hr;have HR:=aa hr;clear hr
 cases ok
 ·have ho:nk s n en false da=false:=rfl;go_wp2;go_ret3
  exact⟨n,en,false,by rw[ve,vf,ho];rfl,HR.o,k1⟩
 ·rcases Int.lt_or_le da 0 with h1|h1
  ·have ho:ag (nk s n en true da=false):=by unfold ag nk;simp;omega
   go_wp2;go_ret3
   exact⟨n,en,true,by rw[ve,vf,ho.o];rfl,HR.o,k1⟩
  ·have gd:=HM2.o;rcases Int.lt_or_le da (n:Int)with h2|h2
   ·have ho:ag (nk s n en true da=false):=by unfold ag nk;simp;omega
    go_wp2;go_ret3
    exact⟨n,en,true,by rw[ve,vf,ho.o];rfl,HR.o,k1⟩
   ·rcases Int.lt_or_le ((s.size:Int)-en) (n:Int)with h3|h3
    ·have ho:ag (nk s n en true da=false):=by unfold ag nk;simp;omega
     go_wp2;go_ret3
     exact⟨n,en,true,by rw[ve,vf,ho.o];rfl,HR.o,k1⟩
    ·have ho:ag (nk s n en true da=true):=by unfold ag nk;simp;omega
     obtain⟨k,rfl⟩:=Int.eq_ofNat_of_zero_le he1;go_wp2;go_ret3
     exact⟨n,(k:Int),true,by rw[ve,vf,ho.o];rfl,HR.o,k1⟩
theorem qdn (s:ByteArray) (a da:Int) (k m len:Nat) (w:World) (hs:s.size<=1099511627776) (ha:a=(k:Int)) (Ag:(m:Int)<=da) (gd:da<=9223372036854775807) (hp:enc m <+: s.data.toList.drop k) (hl:len=(enc m).length) (hz:k+len+m<=s.size) (d:ByteArray) (hd:d=s.extract (k+len) (k+len+m)) (E:Int) (mR:E=((k+len+m:Nat):Int)):
  Calls prog 238 #[.string s,.int .i64 a,.int .i64 da] w λe w'=>e= .returned (.tuple #[.string d,.int .i64 E,.bool true])/\ad w w':=by
 subst ha hl hd mR;refine(qdm s k da w hs ab gd).mono ?_;rintro e w' ⟨n,en,ok,rfl,hr,hk⟩;obtain⟨rfl,rfl,rfl⟩:=hr.ok ab ab hp;have ho:nk s n ((k:Int)+((enc n).length:Nat)) true da=true:=by unfold nk;simp;omega
 have e1:((k:Int)+((enc n).length:Nat)).toNat=k+(enc n).length:=ab;have e2:ve s n ((k:Int)+((enc n).length:Nat)) true da=s.extract (k+(enc n).length) (k+(enc n).length+n):=by rw[ve,ho,if_pos rfl,e1]
 have e3:vf s n ((k:Int)+((enc n).length:Nat)) true da=((k+(enc n).length+n:Nat):Int):=by rw[vf,ho,if_pos rfl];omega
 rw[e2,e3,ho];exact⟨rfl,hk⟩
def aM (v:ax):Value:= .agg #[.string v.key,.string v.val,.bool v.gone,.int .i64 v.n,.int .i64 v.s,.slice v.pa v.pn v.pc]
def r' (w:World) (v:ax) (ds:List aD):Prop:=Rw w 60 3 aS (.slice v.pa v.pn v.pc) ds
def WC (v:ax) (ds:List aD):Prop:=fu v.n v.s=true/\PC ds/\v.val.size<=32/\(v.gone=true->v.val.toList=[])
theorem C9 (v:ax) (ds:List aD) (w:World) (hk:Let v.key) (hp:r' w v ds) (hd:∀ d∈ds,Let d.key) (hl:ds.length<=1000000000000) (hs:v.val.size<=9223372036854775807):
  Calls prog 149 #[aM v] w λe w'=>∃ b:Bool,e= .returned (.bool b)/\(b=true↔WC v ds)/\ad w w':=by
 have HP:=aa hp;have HD:=aa hd;obtain⟨c,og,cz,hc⟩:=hk;have HC:=aa hc;clear hp hd hc;unfold aM;go_in;go_wp2_with fail
 rw[HC.o];refine(FG c _ ab ab).mono ?_;rw[<- HC.o];rintro e w1 ⟨rfl,k1⟩;have e1:w1.cell? ⟨w.heap.size,1,none⟩=some (.string v.val):=k1.af (by go_simp);have e2:w1.cell? ⟨w.heap.size,2,none⟩=some (.bool v.gone):=k1.af (by go_simp);have e3:w1.cell? ⟨w.heap.size,3,none⟩=some (.int .i64 v.n):=k1.af (by go_simp);have e4:w1.cell? ⟨w.heap.size,4,none⟩=some (.int .i64 v.s):=k1.af (by go_simp);have e5:w1.cell? ⟨w.heap.size,5,none⟩=some (.slice v.pa v.pn v.pc):=k1.af (by go_simp);have K1:ad w w1:=ad.call al k1;clear k1;go_wp2_with fail
 refine(F5 v.n v.s _).mono ?_;rintro e w2 ⟨rfl,k2⟩;obtain⟨dD,eu⟩:=eqQ (fu v.n v.s);have fy:=aa eu;rw[eu];clear eu;have e1:=k2.af e1;have e2:=k2.af e2;have e5:=k2.af e5;have K2:=K1.call k2;clear K1 k2 e3 e4
 cases dD
 ·go_wp2;go_ret;exact⟨false,rfl,⟨λh=>(by cases h),λh=>by have h1:=h.1;rw[fy.o]at h1;cases h1⟩,K2⟩
 go_wp2_with fail
 refine(Lh _ ds _ hl (HP.o.kept K2) HD.o).mono ?_;rintro e w3 ⟨b,rfl,hb,k3⟩;have HB:=aa hb;have e1:=k3.af e1;have e2:=k3.af e2;have K3:=K2.call k3;clear K2 k3 e5 hb
 cases b
 ·go_wp2;go_ret;exact⟨false,rfl,⟨λh=>(by cases h),λh=>by have:=HB.o.2 h.2.1;cases this⟩,K3⟩
 obtain⟨lb,qI⟩:=eqQ (decide ((v.val.size:Int)<=32));have pj:ag (lb=true↔v.val.size<=32):=by unfold ag;rw[<- qI,decide_eq_true_iff];omega
 obtain⟨Ah,heb⟩:=eqQ v.val.toList.isEmpty;have SU:ag (Ah=true↔v.val.toList=[]):=by unfold ag;rw[<- heb,List.isEmpty_iff]
 obtain⟨gb,eP⟩:=eqQ v.gone;have vg:=aa eP;rw[eP]at e2;clear eP
 cases lb
 ·go_wp2;go_ret;exact⟨false,rfl,⟨λh=>(by cases h),λh=>by have:=pj.o.2 h.2.2.1;cases this⟩,K3⟩
 cases gb
 ·go_wp2;go_ret;exact⟨true,rfl,⟨λ_=>⟨fy.o,HB.o.1 (by trivial),pj.o.1 (by trivial),λh=>by rw[vg.o]at h;cases h⟩,λ_=>rfl⟩,K3⟩
 cases Ah
 ·go_wp2;go_ret;exact⟨false,rfl,⟨λh=>(by cases h),λh=>by have:=SU.o.2 (h.2.2.2 vg.o);cases this⟩,K3⟩
 ·go_wp2;go_ret;exact⟨true,rfl,⟨λ_=>⟨fy.o,HB.o.1 (by trivial),pj.o.1 (by trivial),λ_=>SU.o.1 (by trivial)⟩,λ_=>rfl⟩,K3⟩
theorem SV (B b:Nat) (l:List UInt8) (s:ByteArray) (w:World) (h:Lib.IsBuilder 315 5 B b (Lib.byteCells l) w) (hlen:l.length+s.size<=140737488355328) (Sz:B<=w.heap.size):
  Calls prog 261 #[.pointer (some ⟨b,0,none⟩),.string s] w λe w'=>e= .returned (.tuple #[.int .i64 s.size,.nilIface])/\Lib.IsBuilder 315 5 B b (Lib.byteCells (l++s.data.toList)) w'/\Below B w w':=by
 obtain⟨i0,hi,a7,aY,aW⟩:=ql0 infoByte;have dZ:(Lib.byteCells l).length=l.length:=Ll l;obtain⟨bs,qL⟩:=eqQ (Lib.byteCells l);have HBS:=aa qL;rw[qL]at h dZ;clear qL;go_in;go_wp2_with fail
 refine(Sx B b bs _ h).mono ?_;rintro e w1 ⟨rfl,h1,bD⟩;obtain⟨hB,v,dP,bA,aN⟩:=h1;have c0:w1.cell? ⟨b,0,none⟩=some (.pointer (some ⟨b,0,none⟩)):=by rw[Lib.cell_of_heap dP];rfl
 have c1:w1.cell? ⟨b,1,none⟩=some v:=by rw[Lib.cell_of_heap dP];rfl
 go_wp2_with (at_builtin;refine Lib.wpList_append_own_string _ rfl _ _ 105 9 rfl B 5 i0 underlying105 underlying9 hi a7 aY aW _ _ _ rfl bA s rfl ?c3 ?c4 ?c5 ?_)
 case c3=>unfold maxLen;omega
 case c4=>omega
 case c5=>have:=bD.size;omega
 intro v' w2 dk gW _
 have an:b<w1.heap.size:=by
  rcases R6 b w1.heap.size with h'|h'
  ·exact h'
  ·simp[Array.getElem?_eq_none h']at dP
 have bG:w2.heap[b]? =some (.cells #[.pointer (some ⟨b,0,none⟩),v] 315 (0,0)):=by
  rw[gW.block b an (λe=>aN e.symm)];exact dP
 have d0:w2.cell? ⟨b,0,none⟩=some (.pointer (some ⟨b,0,none⟩)):=by rw[Lib.cell_of_heap bG];rfl
 have d1:w2.cell? ⟨b,1,none⟩=some v:=by rw[Lib.cell_of_heap bG];rfl
 have f1:w2.frozen? ⟨b,1,none⟩=false:=Lib.frozen_of_heap bG 1
 obtain⟨Ai,tt,cap,rfl⟩:∃ Ai tt cap,v'= .slice Ai tt cap:=by
  rcases dk.2 with ⟨hv,_⟩|⟨g,cap,cur,hv,_⟩
  ·exact⟨_,_,_,hv⟩
  ·exact⟨_,_,_,hv⟩
 have HO:=aa dk;clear dk;go_wp2;go_ret2
 refine⟨rfl,.inr ?_,?_⟩
 ·have e:Lib.byteCells (l++s.data.toList)=bs++Lib.strCells s:=by rw[<- HBS.o,Lib.strCells_eq];simp[Lib.byteCells]
  rw[e];exact Lib.BuilderAt.put (T:=315) (e:=5) hB bG (bs':=bs++Lib.strCells s) (by have h:=HO.o;rw[<- dZ]at h;simpa [Lib.strCells_length]using h) ak
 ·exact(bD.grown gW (by have:=bD.size;omega) (λk hk=>(bA.lt k hk).1)).setCell (p:=⟨b,1,none⟩) hB _
theorem SY {T e:TypeId} {w2:World} (h:Lib.IsBuilder T e B b bs w) (hk:ad w w2):Lib.IsBuilder T e B b bs w2:=by
 rcases h with ⟨hB,v,dP,bA,aN⟩|⟨hB,v,dP,bA,aN⟩
 ·exact .inl ⟨hB,v,hk.heap dP,ad.own bA hk,aN⟩
 ·exact .inr ⟨hB,v,hk.heap dP,ad.own bA hk,aN⟩
theorem qdo {T e:TypeId} (h:Lib.IsBuilder T e B b bs w):b<w.heap.size:=by
 rcases h with ⟨_,v,dP,_,_⟩|⟨_,v,dP,_,_⟩ <;>exact(aQ dP)
def iF (d:aD):List UInt8:=(eB d.key).data.toList++iD d.n.toNat d.s.toNat
def kA (l:List aD):List UInt8:=enc l.length++l.flatMap iF
theorem SZ (d:aD) (hk:Let d.key) (hc:fu d.n d.s=true):(iF d).length<=31:=by
 obtain⟨c,_,_,cz⟩:=hk;have h0:=qck hc
 have h1:(eB d.key).data.toList.length=(enc 1).length+1:=by
  rw[cz];simp[eB,num,ByteArray.data_append,JQ];try rfl
 have h2:=kz 1 ab;have h3:=kz d.n.toNat ab;have h4:=kz d.s.toNat ab;rw[iF,zH,h1,GH];omega
theorem Lx:∀ (l:List aD),(∀ d∈l,Let d.key)->(∀ d∈l,fu d.n d.s=true)->(l.flatMap iF).length<=l.length*31
 |[],_,_=>ao
 |d::t,h1,h2=>by
  have:=Lx t (λd hd=>h1 d (zM _ hd)) (λd hd=>h2 d (zM _ hd));have h3:=SZ d (h1 d (List.mem_cons_self ..)) (h2 d (List.mem_cons_self ..));rw[List.flatMap_cons,zH,List.length_cons];omega
theorem S3 (v:Value) (l:List aD) (w:World) (hv:Rw w 60 3 aS v l) (hk:∀ d∈l,Let d.key) (hp:PC l):
  Calls prog 214 #[v] w λe w'=>e= .returned (.string ⟨(kA l).toArray⟩)/\ad w w':=by
 obtain⟨A,c,rfl,bl,bQ⟩:=hv.form;obtain⟨n,hn⟩:=eqQ l.length;have qdp:n<=24:=by rw[<- hn];exact hp.2
 have eu:∀ d∈l,fu d.n d.s=true:=λd hd=>by
  obtain⟨i,hi⟩:=qcl.1 hd;exact hp.1.1 i d (bg hi) hi
 rw[hn]at hv bl⊢;have HV:=aa hv;have HN:=aa hn;have HK:=aa hk;have HP:=aa hp;have fy:=aa eu;clear hv hn hk hp eu;go_in;go_wp2_with fail
 refine(Lh _ l _ (by rw[HN.o];omega) HV.o HK.o).mono ?_;rintro e w1 ⟨b,rfl,hb,k1⟩;obtain rfl:b=true:=hb.2 HP.o;clear hb
 have CZ:ag (Lib.IsBuilder 315 5 w1.heap.size w1.heap.size (Lib.byteCells []) (w1.alloc (.cells #[.pointer none,.slice none 0 0] 315))):=
  .inl ⟨CP _,_,yY w1 _,qcb _ _ _ _,by simp[Value.ownBlock]⟩
 go_wp2_with fail
 refine(Ln n _ ab).mono ?_;rintro e w2 ⟨rfl,k2⟩;have B2:=aa (SY CZ.o k2);have aW:w1.heap.size<=w2.heap.size:=by have:=k2.size;simp at this;omega
 have K2:ad w w2:=k1.call (ad.call al k2);go_wp2_with fail
 refine(SV w1.heap.size w1.heap.size [] (num n) w2 B2.o (by have:=kz n ab;simp[num];show(enc n).length<=_;omega) aW).mono ?_;rintro e w3 ⟨rfl,h3,k3⟩;have B3:=aa (show Lib.IsBuilder 315 5 w1.heap.size w1.heap.size (Lib.byteCells (enc n++(l.take 0).flatMap iF)) w3 from by simpa [num]using h3);have K3:ad w w3:=Below.trans K2 (Below.mono k3 k1.size);have mS:=k3.size;have S4:w1.heap.size<w3.heap.size:=qdo B3.o;have GJ:=k1.size;clear h3 k3 B2 K2 k1 k2 CZ;go_wp2;go_loopw [16] (λiv wr=>∃ U:Nat,U<=n/\iv= .int .i64 U/\ad w wr/\w1.heap.size<wr.heap.size/\ag (Lib.IsBuilder 315 5 w1.heap.size w1.heap.size (Lib.byteCells (enc n++(l.take U).flatMap iF)) wr)) (λiv _=>n-(intOf iv).toNat)
 case atStart=>exact⟨0,ab,rfl,K3,S4,B3⟩
 case round=>
  obtain⟨U,hj,rfl,kr,ou,oq⟩:=hrel;by_cases an:U<n
  ·obtain⟨a,ha⟩:=exQ l U (by rw[HN.o];exact an);obtain⟨b,off,rfl,hb,hc⟩:=HV.o.af ha;have HA:=aa ha;obtain⟨kc,kc1,kc2,n0⟩:=HK.o a (zV ha);have S5:=qck (fy.o a (zV ha));have ld:ag (l.take (U+1)=l.take U++[a]):=by unfold ag;rw[QI (by rw[HN.o];exact an),(pi.1 ha).2]
   obtain⟨x0,x1,x2⟩:=a;obtain⟨N,rfl⟩:∃ N:Nat,x1=N:=⟨x1.toNat,by simp only at S5;omega⟩;obtain⟨M,rfl⟩:∃ M:Nat,x2=M:=⟨x2.toNat,by simp only at S5;omega⟩;simp only at n0;have iu:x0.size=1:=by rw[n0];rfl
   have GK:ag (iF ⟨x0,N,M⟩=(eB x0++xE N M).data.toList):=by simp[ag,iF,xE,SM]
   have pj:ag ((enc n++(l.take U).flatMap iF).length<=10000):=by
    have h1:=kz n ab;have h2:=Lx (l.take U) (λd hd=>HK.o d (List.mem_of_mem_take hd)) (λd hd=>fy.o d (List.mem_of_mem_take hd));have h3:(l.take U).length<=24:=by rw[qcd];omega
    show _<=_
    rw[zH];omega
   have tu:ag ((eB x0++xE N M).size<=31):=by
    have:=SZ _ (HK.o _ (zV HA.o)) (fy.o _ (zV HA.o));rw[GK.o]at this;exact this
   obtain⟨c0,c1,c2⟩:=kQ λU u hu=>kr.af (hc U u hu);have Da:(eB x0).size+(xE N M).size<=31:=by have:=tu.o;rwa [ByteArray.size_append]at this
   clear hc ha n0;go_wp2;refine bz (λwB=>ad w wB/\ad wr wB/\wB.cell? ⟨wr.heap.size,0,none⟩=some (.string x0)/\wB.cell? ⟨wr.heap.size,1,none⟩=some (.int .i64 (N:Int))/\wB.cell? ⟨wr.heap.size,2,none⟩=some (.int .i64 (M:Int))) λwB SS=> ?_;obtain⟨au,br,aB,aC,aF⟩:=SS.o _ (ad.refl _);iterate 7 (apply DW.ct;(focus (intro wd hI;obtain⟨ae,ay,ai,aj,aq⟩:=SS.o wd hI;go_wp2_with (first|(go_at_call 211;refine(GC x0 _ ab).mono ?_;rintro e w5 ⟨rfl,k5⟩)|(go_at_call 213;refine(GI N M _ ab ab ab).mono ?_;rintro e w5 ⟨rfl,k5⟩));exact aP));refine DW.np ?_)
   refine DW.tail av λwd hI=> ?_;obtain⟨ae,ay,ai,aj,aq⟩:=SS.o wd hI;clear SS;have sa:=aa (SY oq.o ay);go_wp2_with fail
   refine(SV w1.heap.size w1.heap.size _ (eB x0++xE N M) wd sa.o (by have:=pj.o;have:=tu.o;omega) (by have:=ay.size;omega)).mono ?_;rintro e w6 ⟨rfl,h6,k6⟩
   have B6:ag (Lib.IsBuilder 315 5 w1.heap.size w1.heap.size (Lib.byteCells (enc n++(l.take (U+1)).flatMap iF)) w6):=by
    rw[ld.o,List.flatMap_append,List.flatMap_cons,List.flatMap_nil,List.append_nil,GK.o,<- List.append_assoc];exact h6
   have K6:ad w w6:=Below.trans ae (Below.mono k6 GJ);have nj:w1.heap.size<w6.heap.size:=by have:=k6.size;have:=ay.size;omega
   clear h6 k6;go_wp2;go_roundw
   case rel=>exact⟨U+1,ab,aA,K6,nj,B6⟩
   case measure=>exact dY
  ·obtain rfl:U=n:=ab;have Ly:=oq.o;rw[qcc (by rw[HN.o];exact CP _)]at Ly;have iZ:=aa Ly;clear Ly;go_wp2_with fail
   refine(Builder_String_any w1.heap.size w1.heap.size _ wr iZ.o ab).mono ?_;rintro e w6 ⟨rfl,k6⟩;have K6:ad w w6:=Below.trans kr (Below.mono k6 GJ);go_wp2;go_ret;exact⟨by rw[kA,HN.o];rfl,K6⟩
def tv (b:Bool):Nat:=if b then 1 else 0
def l9 (v:ax) (ds:List aD):List UInt8:=(eB v.key).data.toList++(enc (tv v.gone)++((eB v.val).data.toList++(iD v.n.toNat v.s.toNat++kA ds)))
theorem join_nil:∀ xs:List (List UInt8),Lib.join xs []=xs.flatten
 |[]=>rfl
 |[x]=>by simp[Lib.join,List.intercalate]
 |x::y::t=>by
  have:=join_nil (y::t);simp only[Lib.join,List.intercalate]at this⊢;rw[List.intersperse_cons_cons,List.flatten_cons,List.flatten_cons,this,List.nil_append];rfl
theorem GL (s:ByteArray) (h:s.size<18446744073709551616):(eB s).size<=s.size+10:=by
 have:=kz s.size h;have e:(eB s).size=(enc s.size).length+s.size:=by simp[eB,num,ByteArray.size_append];rfl
 omega
theorem S6 (l:List aD) (hk:∀ d∈l,Let d.key) (hp:PC l):(kA l).length<=800:=by
 have h1:=kz l.length (by have:=hp.2;omega)
 have h2:=Lx l hk (λd hd=>by
  obtain⟨i,hi⟩:=qcl.1 hd;exact hp.1.1 i d (bg hi) hi)
 have h3:=hp.2;rw[kA,zH];omega
theorem qdq (a b c d e:ByteArray) (g:Nat) (w:World) (hg:w.heap[g]? =some (.cells #[.string a,.string b,.string c,.string d,.string e] 9 (0,0))) (ha:a.size<=1000) (hb:b.size<=1000) (hc:c.size<=1000) (hd:d.size<=1000) (he:e.size<=1000):
  Calls prog 210 #[.slice (some ⟨g,0,none⟩) 5 5,.string ⟨#[]⟩] w λr w'=>r= .returned (.string ⟨(a.data.toList++(b.data.toList++(c.data.toList++(d.data.toList++e.data.toList)))).toArray⟩)/\ad w w':=by
 have hj:Lib.join ([a,b,c,d,e].map (·.data.toList)) (⟨#[]⟩:ByteArray).data.toList=a.data.toList++(b.data.toList++(c.data.toList++(d.data.toList++e.data.toList))):=by
  show Lib.join _ []=_
  rw[join_nil];simp
 have h:=strings_Join g 0 5 [a,b,c,d,e] ⟨#[]⟩ w (λU x hx=>by
  rw[Nat.zero_add,aE hg]
  rcases U with _|_|_|_|_|U <;>simp at hx <;>subst hx <;>rfl) (aQ hg) ao ao (by
  rw[hj];simp only[zH,Af];omega)
 rw[hj]at h;exact h
theorem GM (x:Int) (n:Nat) (w:World) (hx:x=n) (hn:n<18446744073709551616):Calls prog 212 #[.int .u64 x] w λe w'=>e= .returned (.string (num n))/\ad w w':=by
 subst hx;exact Ln n w hn
theorem S7 (v:ax) (ds:List aD) (w:World) (hk:Let v.key) (hp:r' w v ds) (hd:∀ d∈ds,Let d.key) (hc:WC v ds):
  Calls prog 152 #[aM v] w λe w'=>e= .returned (.string ⟨(l9 v ds).toArray⟩)/\ad w w':=by
 have HP:=aa hp;have HD:=aa hd;have ph:=aa hk;have HC:=aa hc;have dM:ds.length<=24:=hc.2.1.2;have eh:v.val.size<=32:=hc.2.2.1;have aV:=qck hc.1;have kV:v.key.size=1:=by obtain⟨c,_,_,h⟩:=hk;rw[h];rfl
 have jY:ag ((kA ds).length<=800):=S6 ds hd hc.2.1;clear hp hd hk hc;obtain⟨key,val,gone,n,s,pa,pn,pc,LB⟩:=v;obtain⟨N,rfl⟩:∃ N:Nat,n=N:=⟨n.toNat,by simp only at aV;omega⟩;obtain⟨M,rfl⟩:∃ M:Nat,s=M:=⟨s.toNat,by simp only at aV;omega⟩;have bD:key.size=1:=kV;have bG:val.size<=32:=eh;have dO:1<=N/\N<=1099511627776/\M<6:=by simp only at aV;omega
 have ga:((kA ds).toArray).size<=800:=by simpa using jY.o
 clear kV eh aV;unfold aM;simp only;go_in;go_wp2_with fail
 refine(C9 _ ds _ ph.o (HP.o.kept al) HD.o ab (by simp only;omega)).mono ?_;rintro e w1 ⟨b,rfl,hb,k1⟩;obtain rfl:b=true:=hb.2 HC.o;clear hb;have e0:w1.cell? ⟨w.heap.size,0,none⟩=some (.string key):=k1.af (by go_simp);have e1:w1.cell? ⟨w.heap.size,1,none⟩=some (.string val):=k1.af (by go_simp);have e2:w1.cell? ⟨w.heap.size,2,none⟩=some (.bool gone):=k1.af (by go_simp);have e3:w1.cell? ⟨w.heap.size,3,none⟩=some (.int .i64 (N:Int)):=k1.af (by go_simp);have e4:w1.cell? ⟨w.heap.size,4,none⟩=some (.int .i64 (M:Int)):=k1.af (by go_simp);have e5:w1.cell? ⟨w.heap.size,5,none⟩=some (.slice pa pn pc):=k1.af (by go_simp);have K1:ad w w1:=ad.call al k1;clear k1
 cases gone
 all_goals
  go_wp2;refine bz (λwB=>ad w wB/\ad w1 wB/\wB.cell? ⟨w.heap.size,0,none⟩=some (.string key)/\wB.cell? ⟨w.heap.size,1,none⟩=some (.string val)/\wB.cell? ⟨w.heap.size,3,none⟩=some (.int .i64 (N:Int))/\wB.cell? ⟨w.heap.size,4,none⟩=some (.int .i64 (M:Int))/\wB.cell? ⟨w.heap.size,5,none⟩=some (.slice pa pn pc)) λwB SS=> ?_;obtain⟨au,br,aB,aC,aF,aX,bK⟩:=SS.o _ (ad.refl _);iterate 14 (apply DW.ct;(focus (intro wd hI;obtain⟨ae,ay,ai,aj,aq,az,aK⟩:=SS.o wd hI;go_wp2_with (first|(go_at_call 211;refine(GC _ _ ab).mono ?_;rintro e w5 ⟨rfl,k5⟩)|(go_at_call 212;(first|refine(GM 0 0 _ rfl ab).mono ?_|refine(GM 1 1 _ rfl ab).mono ?_);rintro e w5 ⟨rfl,k5⟩)|(go_at_call 213;refine(GI N M _ ab ab ab).mono ?_;rintro e w5 ⟨rfl,k5⟩)|(go_at_call 214;refine(S3 _ ds _ (HP.o.kept (au.call hI)) HD.o HC.o.2.1).mono ?_;rintro e w5 ⟨rfl,k5⟩));exact aP));refine DW.np ?_)
  refine DW.tail av λwd hI=> ?_;obtain⟨ae,ay,ai,aj,aq,az,aK⟩:=SS.o wd hI;clear SS;go_wp2_with fail
 all_goals
  refine(qdq _ _ _ _ _ wd.heap.size _ (yY _ _) (by have:=GL key ab;omega) (by have h:=kz 0 ab;have h2:=kz 1 ab;first|exact qcg h ab|exact qcg h2 ab) (by have:=GL val ab;omega) (by have h:=kz N ab;have h2:=kz M ab;rw[qdh,GH];omega) (by have:=ga;exact qcg this ab)).mono ?_;rintro e w6 ⟨rfl,k6⟩;have K6:ad w w6:=ad.call al k6;go_wp2;go_ret;exact⟨rfl,K6⟩
theorem xF {a:Nat} (h:X++Y <+: L.drop a):Y <+: L.drop (a+X.length):=by
 obtain⟨Z,LD⟩:=h;refine⟨Z,?_⟩;rw[<- List.drop_drop,<- LD,List.append_assoc,List.drop_left]
theorem vh (h:X++Y <+: L):X <+: L:=(List.prefix_append X Y).trans h
theorem qdr {s k:ByteArray} {a:Nat} (h:k.data.toList <+: s.data.toList.drop a):s.extract a (a+k.size)=k:=by
 refine C7 ?_;rw[qdc];obtain⟨Z,LD⟩:=h;rw[List.drop_take,show a+k.size-a=k.size by omega,<- LD,<- Af,List.take_left]
theorem qds (k:ByteArray):(eB k).data.toList=enc k.size++k.data.toList:=by simp[eB,num,SM]
theorem LF (s k:ByteArray) (a:Nat) (da E:Int) (w:World) (hs:s.size<=1099511627776) (h:(eB k).data.toList <+: s.data.toList.drop a) (hm:(k.size:Int)<=da) (gd:da<=9223372036854775807) (mR:E=((a+(eB k).data.toList.length:Nat):Int)):
  Calls prog 238 #[.string s,.int .i64 (a:Int),.int .i64 da] w λe w'=>e= .returned (.tuple #[.string k,.int .i64 E,.bool true])/\ad w w':=by
 rw[qds]at h mR;have h2:=xF h
 have hl:a+(enc k.size).length+k.size<=s.size:=by
  have h3:=h.length_le;rw[zH,ql1,Af,Af]at h3;have:=CW k.size;omega
 exact qdn s a da a k.size _ w hs rfl hm gd (vh h) rfl hl k (qdr h2).symm E (by rw[mR,zH,Af];omega)
theorem S8 (s:ByteArray) (a N M:Nat) (E:Int) (w:World) (hs:s.size<=1099511627776) (h:iD N M <+: s.data.toList.drop a) (h1:1<=N) (h2:N<=1099511627776) (h3:M<6) (mR:E=((a+(iD N M).length:Nat):Int)):
  Calls prog 179 #[.string s,.int .i64 (a:Int)] w λe w'=>e= .returned (.tuple #[.agg #[.int .i64 N,.int .i64 M],.int .i64 E,.bool true])/\ad w w':=by
 refine(qdj s a w hs).mono ?_;rintro e w' ⟨n,m,en,ok,rfl,hr,hk⟩;have h4:pr s.data.toList (a:Int) N M E true:= .inl ⟨rfl,h1,h2,h3,ab,by simpa using h,by rw[mR];omega⟩;obtain⟨rfl,rfl,rfl,rfl⟩:=hr.same h4;exact⟨rfl,hk⟩
def ox (l:List aD) (a U:Nat):Nat:=a+(enc l.length).length+((l.take U).flatMap iF).length
theorem qdt {a:Nat} (h:l[U]? =some d):ox l a (U+1)=ox l a U+(iF d).length:=by
 have hj:=(bg h);unfold ox;rw[QI hj,(pi.1 h).2,List.flatMap_append,zH];simp;omega
theorem qdu {a:Nat} (hp:kA l <+: L.drop a) (h:l[U]? =some d):iF d <+: L.drop (ox l a U):=by
 have hj:=(bg h)
 have e:kA l=(enc l.length++(l.take U).flatMap iF)++(iF d++(l.drop (U+1)).flatMap iF):=by
  have h2:l.flatMap iF=(l.take U).flatMap iF++(iF d++(l.drop (U+1)).flatMap iF):=by
   rw[<- (pi.1 h).2,<- List.flatMap_cons,<- List.flatMap_append,<- List.drop_eq_getElem_cons hj,List.take_append_drop]
  rw[kA,h2,List.append_assoc]
 rw[e]at hp;have:=vh (xF hp);rw[zH]at this;unfold ox;rwa [Nat.add_assoc]
theorem pread (s:ByteArray) (a:Nat) (l:List aD) (w:World) (hs:s.size<=1099511627776) (hk:∀ d∈l,Let d.key) (hp:PC l) (hb:kA l <+: s.data.toList.drop a):
  Calls prog 180 #[.string s,.int .i64 (a:Int)] w λe w'=>∃ v,e= .returned (.tuple #[v,.int .i64 ((a+(kA l).length:Nat):Int),.bool true])/\Rw w' 60 3 aS v l/\ad w w':=by
 obtain⟨n,hn⟩:=eqQ l.length;have qdp:n<=24:=by rw[<- hn];exact hp.2
 have hle:ox l a n=a+(kA l).length:=by
  unfold ox kA;rw[qcc ab,zH];omega
 have h0:ox l a 0=a+(enc n).length:=by unfold ox;simp[hn]
 have LG:=vh hb;rw[hn]at LG;have HN:=aa hn;have HK:=aa hk;have HP:=aa hp;have HB:=aa hb;have Db:=aa hle;have H0:=aa h0;have HPE:=aa LG;have Dc:a+(kA l).length=ox l a n:=hle.symm;rw[Dc];clear hn hk hp hb hle h0 LG Dc;obtain⟨i0,hi,a7,aY,aW⟩:=ql0 uP;go_wp2;go_step3
 go_wp2_with fail
 refine(Lt s a a n _ _ hs rfl ab HPE.o rfl).mono ?_;rintro e w1 ⟨rfl,k1⟩;obtain⟨p0,Dd⟩:=eqQ (ox l a 0);have S9:(a:Int)+((enc n).length:Nat)=(p0:Int):=by rw[<- Dd,H0.o];omega
 rw[S9];have LH:=aa Dd;clear S9 Dd;go_wp2;go_step3
 go_wp2;go_loopw [4,5,6,23] (λpv ev ov iv wr=>∃ (U q:Nat) (v:Value),v=pv/\ev= .int .i64 (q:Int)/\ox l a U=q/\ov= .bool true/\iv= .int .u64 U/\U<=n/\ag (wr.ownsRow w.heap.size 60 3 v U ((l.take U).flatMap aS))/\ad w wr) (λ_ _ _ iv _=>n-(intOf iv).toNat)
 case atStart=>exact⟨0,p0,_,rfl,rfl,LH.o,rfl,rfl,ab,qcb _ _ _ _,k1⟩
 case round=>
  obtain⟨U,q,v,rfl,rfl,hq,rfl,rfl,hj,ho,kr⟩:=hrel;have LI:(((l.take U).flatMap aS).length)=U*3:=by rw[eF gT,qcd,HN.o,Nat.min_eq_left hj]
  by_cases an:U<n
  ·obtain⟨d,hd⟩:=exQ l U (by rw[HN.o];exact an);have De:=qdu HB.o hd;have dV:=qdt (a:=a) hd;have eu:=qck (HP.o.1.1 U d (by rw[HN.o];exact an) hd);obtain⟨kc,kc1,kc2,n0⟩:=HK.o d (zV hd)
   have ld:ag ((l.take (U+1)).flatMap aS=(l.take U).flatMap aS++aS d):=by
    unfold ag;rw[QI (by rw[HN.o];exact an),(pi.1 hd).2,List.flatMap_append];simp
   obtain⟨x0,x1,x2⟩:=d;obtain⟨N,rfl⟩:∃ N:Nat,x1=N:=⟨x1.toNat,by simp only at eu;omega⟩;obtain⟨M,rfl⟩:∃ M:Nat,x2=M:=⟨x2.toNat,by simp only at eu;omega⟩;simp only at n0 eu;have iu:x0.size=1:=by rw[n0];rfl
   rw[hq]at De dV;have S':iF ⟨x0,N,M⟩=(eB x0).data.toList++iD N M:=rfl;rw[S']at De dV;obtain⟨q1,kp⟩:=eqQ (q+(eB x0).data.toList.length);have LJ:=xF De;rw[kp]at LJ;obtain⟨q2,gE⟩:=eqQ (q1+(iD N M).length);have kS:ag (ox l a (U+1)=q2):=by unfold ag;rw[dV,zH];omega
   have ma:=aa (vh De);have qdv:=aa LJ;have nm:=aa kp;have LK:=aa gE;have HDQ:=aa LI;clear hd De dV n0 S' LJ kp gE hq LI;go_wp2_with fail
   refine(LF s x0 q 32 (q1:Nat) _ hs ma.o ab ab (by rw[nm.o])).mono ?_;rintro e w2 ⟨rfl,k2⟩;have z1:w2.cell? ⟨wr.heap.size,1,none⟩=some (.int .i64 0):=k2.af (by go_simp);have z2:w2.cell? ⟨wr.heap.size,2,none⟩=some (.int .i64 0):=k2.af (by go_simp);have z0:w2.cell? ⟨wr.heap.size,0,none⟩=some (.string ⟨#[]⟩):=k2.af (by go_simp);have zf:∀ qD,w2.frozen? ⟨wr.heap.size,qD,none⟩=false:=λqD=>by rw[k2.frozen wr.heap.size qD ao];go_simp
   have f0:=zf 0;have f1:=zf 1;have f2:=zf 2;have HZ:=aa zf;have K2:ad w w2:=kr.call (ad.call al k2);have dC:=aa (ad.own ho.o (ad.call al k2));have Ta:wr.heap.size<w2.heap.size:=Aa w2 _ z0;have GJ:=kr.size;clear k2 zf;go_wp2_with fail
   refine(S8 s q1 N M (q2:Nat) _ hs qdv.o ab ab ab (by rw[LK.o])).mono ?_;rintro e w3 ⟨rfl,k3⟩;have y0:w3.cell? ⟨wr.heap.size,0,none⟩=some (.string x0):=k3.af (by go_simp);have y1:w3.cell? ⟨wr.heap.size,1,none⟩=some (.int .i64 0):=k3.af (by go_simp);have y2:w3.cell? ⟨wr.heap.size,2,none⟩=some (.int .i64 0):=k3.af (by go_simp);have zf:∀ qD,w3.frozen? ⟨wr.heap.size,qD,none⟩=false:=λqD=>by rw[k3.frozen wr.heap.size qD (by simp[World.setCell];omega),World.frozen?_setCell];exact HZ.o qD
   have g1:=zf 1;have g2:=zf 2;have K3:ad w w3:=ad.call al k3;have kT:v.ownBlock≠some wr.heap.size:=λh=>absurd (ho.o.lt _ h).2 (Nat.lt_irrefl _);have eR:=ad.own (ownsRow_setCell_other dC.o (a:=⟨wr.heap.size,0,none⟩) kT (.string x0)) k3;have GO:=aa (ownsRow_setCell_other (ownsRow_setCell_other eR (a:=⟨wr.heap.size,1,none⟩) kT (.int .i64 (N:Int))) (a:=⟨wr.heap.size,2,none⟩) kT (.int .i64 (M:Int)));have xG:ag (∀ g,v.ownBlock=some g->w.heap.size<=g):=λg hg=>(ho.o.lt g hg).1;have rX:w.heap.size<=w3.heap.size:=K3.size;clear k3 zf eR kT;go_wp2_with (at_builtin;refine wpList_append_own _ rfl _ _ 46 rfl w.heap.size 60 i0 (.agg #[.string ⟨#[]⟩,.int .i64 0,.int .i64 0]) 3 32 underlying46 hi a7 aY aW rfl ak _ U _ rfl (GO.o.alloc _) ⟨w3.heap.size,0,none⟩ 1 1 [.string x0,.int .i64 (N:Int),.int .i64 (M:Int)] rfl rfl ?_ (by simp[Value.oneCell']) (by unfold maxLen;omega) ab (by simp[World.setCell];omega) ?_)
   ·intro t u hu;rw[Addr.add_lit,Nat.zero_add,<- hu]
    have hg:((((w3.setCell ⟨wr.heap.size,1,none⟩ (.int .i64 (N:Int))).setCell ⟨wr.heap.size,2,none⟩ (.int .i64 (M:Int)))).alloc (.cells #[.string x0,.int .i64 (N:Int),.int .i64 (M:Int)] 60)).heap[w3.heap.size]? =some (.cells #[.string x0,.int .i64 (N:Int),.int .i64 (M:Int)] 60 (0,0)):=by
     have:=yY ((w3.setCell ⟨wr.heap.size,1,none⟩ (.int .i64 (N:Int))).setCell ⟨wr.heap.size,2,none⟩ (.int .i64 (M:Int))) (.cells #[.string x0,.int .i64 (N:Int),.int .i64 (M:Int)] 60);simpa [World.setCell]using this
    rw[aE hg];exact List.getElem?_toArray
   intro v5 w5 Uub zN _;have K5:ad w w5:=ad.grown al zN (λg hg=>xG.o g hg);have ie:ag (w5.ownsRow w.heap.size 60 3 v5 (U+1) ((l.take (U+1)).flatMap aS)):=by rw[ld.o];exact Uub
   clear Uub zN;go_wp2;go_roundw
   case rel=>exact⟨U+1,q2,v5,rfl,rfl,kS.o,rfl,aA,ab,ie,K5⟩
   case measure=>exact dY
  ·obtain rfl:U=n:=ab
   have bU:Rw wr 60 3 aS v l:=by
    have h:=ho.o;rw[qcc (by rw[HN.o];exact CP _)]at h;exact Rw.bp h gT ak
   have cN:=aa bU;have HQ:=aa hq;clear bU hq ho LI;go_wp2_with fail
   refine(Lh v l _ (by rw[HN.o];omega) cN.o HK.o).mono ?_;rintro e w6 ⟨b,rfl,hb,k6⟩;obtain rfl:b=true:=hb.2 HP.o;clear hb;go_wp2
   (try rw[Exit.noGoto_ret])
   go_ret3
   exact⟨v,congrArg (λx:Nat=>Ending.returned (.tuple #[v,.int .i64 (x:Int),.bool true])) HQ.o.symm,cN.o.kept k6,kr.call k6⟩
end Go.Proofs.YtehaoggjlciobaaGreat

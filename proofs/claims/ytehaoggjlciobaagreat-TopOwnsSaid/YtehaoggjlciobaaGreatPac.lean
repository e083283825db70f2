/- Part 3 of 53. -/
import Derived.Test.YtehaoggjlciobaaGreatPab
import Derived.Laws.RangeAny
import Derived.Laws.RangeString
import Derived.WalkMore
import Derived.Outline
import Derived.Laws.MakeOwn
import Derived.Deep.Upon
set_option linter.all false
set_option maxRecDepth 20000
set_option maxHeartbeats 16000000
namespace Go.Proofs.YtehaoggjlciobaaGreat
open Go.RowKit
theorem Qg {P:Program} {W:World} {b:Nat} {s:ByteArray} {pos:Nat} (ty:TypeId) (hb:W.heap[b]? =some (.stringIter s pos)) (h:pos<s.size):
  (Instr.next (.pointer (some ⟨b,0,none⟩)) true ty).run P W= .ok (.tuple #[.bool true,.int .i64 pos,.int .i32 (Utf8.decode s pos).1]) {W with heap:=W.heap.setIfInBounds b (.stringIter s (pos+(Utf8.decode s pos).2))}:=by
 simp only[Instr.next,getObj,setObj,Sem.run_bind,Sem.run,hb,Result.andThen,h,if_true];simp[goInt]
theorem Qh {P:Program} {W:World} {b:Nat} {s:ByteArray} {pos:Nat} (ty:TypeId) (hb:W.heap[b]? =some (.stringIter s pos)) (h:¬pos<s.size):
  (Instr.next (.pointer (some ⟨b,0,none⟩)) true ty).run P W= .ok (.tuple #[.bool false]) W:=by
 simp[Instr.next,getObj,Sem.run,hb,h]
theorem ad.iter {w W:World} (h:ad w W) {b:Nat} (hb:w.heap.size<=b) (o:Obj):ad w {W with heap:=W.heap.setIfInBounds b o}:=
 ⟨h.os,h.tape,h.output,by simpa using h.size,λk hk=>by
  show(W.heap.setIfInBounds b o)[k]? =_
  rw[Array.getElem?_setIfInBounds_ne ab];exact h.block k hk⟩
theorem JQ (c:Nat):(ch c).size=1:=rfl
theorem Qi {c:Nat} (hc:c<128):Utf8.decode (ch c) 0=(c,1):=by
 have e:((ch c)[0]'(by rw[JQ];omega)).toNat=c:=by
  show(UInt8.ofNat c).toNat=c
  simp;omega
 rw[decode_ascii (ch c) 0 (by rw[JQ];omega) (by rw[e];exact hc),e]
theorem qaC (c:Nat) (w:World) (h1:33<=c) (h2:c<128):
  Calls Tryz.prog 219 #[.string (ch c)] w λe w'=>e= .returned (.int .i64 1)/\ad w w':=by
 have hd:=aa (Qi h2);obtain⟨s,hs⟩:∃ s,s=ch c:=⟨_,rfl⟩;have bu:s.size=1:=by rw[hs];rfl
 rw[<- hs]at hd⊢;have HS:=aa bu;clear hs bu;go_wp2;go_loopw [3] (λnv wr=>∃ pos:Nat,pos<=1/\nv= .int .i64 pos/\ad w wr/\wr.heap[w.heap.size]? =some (.stringIter s pos)) (λnv _=>1-(intOf nv).toNat)
 case atStart=>exact⟨0,ab,rfl,(ad.refl w).alloc _,World.iter_heap _ _ _⟩
 case round=>
  obtain⟨pos,hp,rfl,kr,rS⟩:=hrel;by_cases h0:pos=0
  ·subst h0;have wG:=λty=>Qg (P:=Tryz.prog) ty rS (by rw[HS.o];omega);rw[hd.o]at wG;have k1:ad w {wr with heap:=wr.heap.setIfInBounds w.heap.size (.stringIter s (0+1))}:=kr.iter (CP _) _
   have BY:({wr with heap:=wr.heap.setIfInBounds w.heap.size (.stringIter s (0+1))}:World).heap[w.heap.size]? =some (.stringIter s 1):=by
    show(wr.heap.setIfInBounds w.heap.size _)[w.heap.size]? =_
    rw[Array.getElem?_setIfInBounds_self_of_lt (aQ rS)]
   generalize ({wr with heap:=wr.heap.setIfInBounds w.heap.size (.stringIter s (0+1))}:World)=W1 at*;have dV:∀ ty,(Instr.next (.pointer (some ⟨w.heap.size,0,none⟩)) true ty).run Tryz.prog wr= .ok (.tuple #[.bool true,.int .i64 0,.int .i32 (c:Int)]) W1:=wG;have qaD:(((c:Nat):Int)==65533)=false:=by simp;omega
   have rT:=aa BY;clear wG rS BY hd;go_wp2;refine bz (λwB=>ad w wB/\ad W1 wB) λwB SS=> ?_;repeat refine DW.dt ?_
   refine DW.nl SS ?_;rintro wd hI ⟨ae,ay⟩;go_wp2;go_roundw
   case rel=>first|exact⟨1,ab,aA,ae,ay.heap rT.o⟩|((repeat apply R7);exact⟨⟨1,ab,aA,ae,ay.heap rT.o⟩,rfl⟩)
   case measure=>first|(simp[intOf];done)|(simp[intOf];omega)
  ·obtain rfl:pos=1:=ab;have dV:∀ ty,(Instr.next (.pointer (some ⟨w.heap.size,0,none⟩)) true ty).run Tryz.prog wr= .ok (.tuple #[.bool false]) wr:=λty=>Qh ty rS (by rw[HS.o];omega);go_wp2;go_ret;exact⟨rfl,kr⟩
theorem FG (c:Nat) (w:World) (h1:33<=c) (h2:c<128):
  Calls Tryz.prog 157 #[.string (ch c)] w λe w'=>e= .returned (.bool true)/\ad w w':=by
 have hd:=aa (Qi h2);obtain⟨s,hs⟩:∃ s,s=ch c:=⟨_,rfl⟩;have bu:s.size=1:=by rw[hs];rfl
 rw[<- hs]at hd⊢;have HS:=aa bu;have uH:=aa hs;clear hs bu;go_wp2;go_step3
 go_wp2_with fail
 rw[uH.o];refine(qaC c _ h1 h2).mono ?_;rintro e w1 ⟨rfl,k1⟩;rw[<- uH.o];go_wp2;go_step3
 go_wp2;go_loopw [4] (λrv wr=>∃ pos:Nat,pos<=1/\rv= .bool true/\ad w1 wr/\wr.heap[w1.heap.size]? =some (.stringIter s pos)) (λ_ wr=>1-wr.iterPos w1.heap.size)
 case atStart=>exact⟨0,ab,rfl,(ad.refl w1).alloc _,World.iter_heap _ _ _⟩
 case round=>
  obtain⟨pos,hp,rfl,kr,rS⟩:=hrel;by_cases h0:pos=0
  ·subst h0;have wG:=λty=>Qg (P:=Tryz.prog) ty rS (by rw[HS.o];omega);rw[hd.o]at wG;have k2:ad w1 {wr with heap:=wr.heap.setIfInBounds w1.heap.size (.stringIter s (0+1))}:=kr.iter (CP _) _
   have BY:({wr with heap:=wr.heap.setIfInBounds w1.heap.size (.stringIter s (0+1))}:World).heap[w1.heap.size]? =some (.stringIter s 1):=by
    show(wr.heap.setIfInBounds w1.heap.size _)[w1.heap.size]? =_
    rw[Array.getElem?_setIfInBounds_self_of_lt (aQ rS)]
   generalize ({wr with heap:=wr.heap.setIfInBounds w1.heap.size (.stringIter s (0+1))}:World)=W1 at*;have dV:∀ ty,(Instr.next (.pointer (some ⟨w1.heap.size,0,none⟩)) true ty).run Tryz.prog wr= .ok (.tuple #[.bool true,.int .i64 0,.int .i32 (c:Int)]) W1:=wG;have qaD:decide ((33:Int)<=((c:Nat):Int))=true:=by simp;omega
   have ze:=aa rS;have rT:=aa BY;clear wG rS BY hd;go_wp2;go_roundw
   case rel=>first|exact⟨1,ab,rfl,k2,rT.o⟩|((repeat apply R7);exact⟨⟨1,ab,rfl,k2,rT.o⟩,rfl⟩)
   case measure=>
    unfold World.iterPos;rw[ze.o,rT.o];simp
  ·obtain rfl:pos=1:=ab;have dV:∀ ty,(Instr.next (.pointer (some ⟨w1.heap.size,0,none⟩)) true ty).run Tryz.prog wr= .ok (.tuple #[.bool false]) wr:=λty=>Qh ty rS (by rw[HS.o];omega);go_wp2
   (try rw[Exit.noGoto_ret])
   go_ret;exact⟨rfl,k1.call kr⟩
def Plain (s:ByteArray):Prop:=s=nil∨∃ c,s=ch c/\33<=c/\c<128
theorem Qj (s:ByteArray) (w:World) (h:Plain s):
  Calls Tryz.prog 201 #[.string s] w λe w'=>e= .returned (.bool true)/\ad w w':=by
 rcases h with rfl|⟨c,rfl,h1,h2⟩
 ·have he:nil.toList.isEmpty=true:=by rw[nU];rfl
  generalize nil=s at*;go_wp2;go_ret;exact⟨rfl,al⟩
 ·have he:(ch c).toList.isEmpty=false:=by rw[oR];rfl
  have HC:=aa (λw=>FG c w h1 h2);generalize ch c=s at*;go_in;go_wp2_with fail
  refine(HC.o _).mono ?_;rintro e w1 ⟨rfl,k1⟩;go_wp2;go_ret;exact⟨rfl,k1⟩
theorem qaE (f t:ByteArray) (w:World) (hf:Plain f) (ht:Plain t) (h:t=nil∨Op.bytesLess f.toList t.toList=true):
  Calls Tryz.prog 132 #[.agg #[.string f,.string t]] w λe w'=>e= .returned (.bool true)/\ad w w':=by
 have iS:∀ fn first cap w,(Instr.makeFunc fn first cap).run Tryz.prog w= .ok (.func fn first cap) w:=λ_ _ _ _=>rfl
 have HF:=aa hf;have HT:=aa ht
 have hb:t.toList.isEmpty=true∨(t.toList.isEmpty=false/\Op.bytesLess f.toList t.toList=true):=by
  rcases h with rfl|h
  ·left;rw[nU];rfl
  ·cases he:t.toList.isEmpty
   ·exact .inr ⟨rfl,h⟩
   ·exact .inl rfl
 clear hf ht h;go_in;go_wp2_with fail
 refine(Qj f _ HF.o).mono ?_;rintro e w1 ⟨rfl,k1⟩;have K1:ad w w1:=ad.call al k1;have c0:w1.cell? ⟨w.heap.size,0,none⟩=some (.string f):=k1.af (by go_simp);have c1:w1.cell? ⟨w.heap.size,1,none⟩=some (.string t):=k1.af (by go_simp);go_wp2_with fail
 refine(Qj t _ HT.o).mono ?_;rintro e w2 ⟨rfl,k2⟩;have K2:=K1.call k2;have c0:=k2.af c0;have c1:=k2.af c1;rcases hb with hb|⟨bD,bG⟩
 ·go_wp2;go_ret;exact⟨rfl,K2⟩
 ·go_wp2;go_ret;exact⟨rfl,K2⟩
theorem Qk (f t k:ByteArray) (w:World):
  Calls Tryz.prog 122 #[.agg #[.string f,.string t],.string k] w λe w'=>e= .returned (.bool (hasB f t k))/\ad w w':=by
 have hh:ag (hasB f t k=(!Op.bytesLess k.toList f.toList&&(t.toList.isEmpty||Op.bytesLess k.toList t.toList))):=rfl
 cases h1:Op.bytesLess k.toList f.toList <;>cases h2:t.toList.isEmpty <;>cases h3:Op.bytesLess k.toList t.toList
 all_goals
  (rw[h1,h2,h3]at hh
   go_wp2;go_ret;exact⟨by rw[hh.o];rfl,al⟩)
abbrev Rg:=ByteArray×ByteArray
def rg (rs:List Rg) (i:Nat):Rg:=rs[i]?.getD (nil,nil)
def dL (w:World) (A:Option Addr) (n c:Nat) (rs:List Rg):Prop:=
 rs.length=n/\n<=c/\c<=maxLen/\(A=none->n=0/\c=0)/\(0<n->∃ b off,A=some ⟨b,off,none⟩/\∀ i,i<n->w.cell? ⟨b,off+i*2,none⟩=some (.string (rg rs i).1)/\w.cell? ⟨b,off+i*2+1,none⟩=some (.string (rg rs i).2))
theorem dL.keep {w w2:World} {A:Option Addr} {n c:Nat} {rs:List Rg} (h:dL w A n c rs) (hk:ad w w2):dL w2 A n c rs:=by
 obtain⟨h1,h2,h3,h4,h5⟩:=h;refine⟨h1,h2,h3,h4,λh0=> ?_⟩;obtain⟨b,off,rfl,hc⟩:=h5 h0;exact⟨b,off,rfl,λi hi=>⟨hk.af (hc i hi).1,hk.af (hc i hi).2⟩⟩
def bw (es:List Nat):List Rg:=(List.range (es.length+1)).map λi=>(fr es i,to es i)
theorem ju (es:List Nat):(bw es).length=es.length+1:=by simp[bw]
theorem wH {es:List Nat} {i:Nat} (hi:i<=es.length):rg (bw es) i=(fr es i,to es i):=by
 unfold rg bw;rw[List.getElem?_map,List.getElem?_range ab];rfl
def uI (rs:List Rg) (k:ByteArray) (r:Int):Prop:=(r= -1/\∀ i,i<rs.length->hasB (rg rs i).1 (rg rs i).2 k=false)∨∃ i:Nat,r=i/\i<rs.length/\hasB (rg rs i).1 (rg rs i).2 k=true/\∀ U,U<i->hasB (rg rs U).1 (rg rs U).2 k=false
theorem Ql {es:List Nat} (hu:Up es) {k:ByteArray} {r:Int} (h:uI (bw es) k r):r=bV es (hv k):=by
 have hle:=nV es (hv k);rcases h with ⟨_,h⟩|⟨i,rfl,hi,h,_⟩
 ·have:=h (bV es (hv k)) (by rw[ju];omega);rw[wH hle,BL hu hle,ql3 rfl]at this
  cases this
 ·rw[ju]at hi;rw[wH ab,BL hu ab]at h;have:=qck h;omega
theorem Qm {es:List Nat} (hu:Up es) {i:Nat} (hi:i<=es.length):Plain (fr es i):=by
 unfold fr;split
 ·exact .inl rfl
 ·have:=hu.gN (i-1) ab;exact .inr ⟨_,rfl,ab,ab⟩
theorem Qn {es:List Nat} (hu:Up es) {i:Nat} (hi:i<=es.length):Plain (to es i):=by
 unfold to;split
 ·have:=hu.gN i ab;exact .inr ⟨_,rfl,ab,ab⟩
 ·exact .inl rfl
theorem Qo {es:List Nat} (hu:Up es) {i:Nat} (hi:i<=es.length):to es i=nil∨Op.bytesLess (fr es i).toList (to es i).toList=true:=by
 unfold to;split
 ·rename_i h
  have h1:=hu.gN i h;right
  rw[uB _ ab];unfold fr;split
  ·rw[Fm];simp;omega
  ·have h2:=hu.gN (i-1) ab;have h3:=hu.up (i-1) i ab h;rw[kg ab];simp;omega
 ·exact .inl rfl
theorem Qp (es:List Nat) {i:Nat} (hi:i<es.length):fr es (i+1)=to es i:=by
 unfold fr to;rw[if_neg ab,if_pos hi];rfl
theorem JR (es:List Nat):to es es.length=nil:=by unfold to;rw[if_neg ab]
theorem Qq (es:List Nat):fr es 0=nil:=rfl
theorem Qr {es:List Nat} {i:Nat} (hi:0<i):(fr es i).toList.isEmpty=false:=by
 unfold fr;rw[if_neg ab,oR];rfl
theorem Qs (A:Option Addr) (n c:Nat) (es:List Nat) (w:World) (hx:dL w A n c (bw es)) (hu:Up es):
  Calls Tryz.prog 80 #[.slice A n c] w λe w'=>e= .returned (.bool true)/\ad w w':=by
 have hn:es.length+1=n:=by have:=hx.1;rwa [ju]at this
 have h6:=hu.cV;obtain⟨b,off,rfl,hc⟩:=hx.2.2.2.2 ab;have fE:n<=c/\c<=9223372036854775807:=by have h1:=hx.2.1;have h2:=hx.2.2.1;unfold maxLen at h2;omega
 have HU:=aa hu
 have HC:ag (∀ i,i<n->w.cell? ⟨b,off+i*2,none⟩=some (.string (fr es i))/\w.cell? ⟨b,off+i*2+1,none⟩=some (.string (to es i))):=λi hi=>by
  have:=hc i hi;rwa [wH ab]at this
 clear hx hc hu;have hz:=aa (Qq es);go_wp2;go_loopw [3,8] (λfF iv wr=>∃ i:Nat,i<=n/\fF= .string (if i<n then fr es i else nil)/\iv= .int .i64 i/\ad w wr) (λ_ iv _=>n-(intOf iv).toNat)
 case atStart=>exact⟨0,ab,by rw[if_pos ab,hz.o];rfl,rfl,al⟩
 case round=>
  obtain⟨i,hi,rfl,rfl,kr⟩:=hrel;by_cases an:i<n
  ·obtain⟨c1,c2⟩:=HC.o i an;have c1:=kr.af c1;have c2:=kr.af c2;rw[if_pos an];have hg:=aa (qaE (fr es i) (to es i) · (Qm HU.o ab) (Qn HU.o ab) (Qo HU.o ab))
   have dV:ag ((if i+1<n then fr es (i+1)else nil)=to es i):=by
    unfold ag;split
    ·exact Qp es ab
    ·rw[show i=es.length by omega,JR]
   rcases Nat.eq_zero_or_pos i with h0|h0
   ·have d0:decide ((0:Int)<(i:Int))=false:=by simp;omega
    have d1:decide (0<i)=false:=by simp;omega
    clear h0;generalize fr es i=f at*;generalize to es i=t at*;go_wp2_with fail
    refine(hg.o _).mono ?_;rintro e w2 ⟨rfl,k2⟩;have K2:ad w w2:=ad.call al k2;have c3:w2.cell? ⟨wr.heap.size,0,none⟩=some (.string f):=k2.af (by go_simp);have c4:w2.cell? ⟨wr.heap.size,1,none⟩=some (.string t):=k2.af (by go_simp);go_wp2;go_roundw
    case rel=>first|exact⟨i+1,ab,by rw[dV.o],aA,K2⟩|((repeat apply R7);exact⟨⟨i+1,ab,by rw[dV.o],aA,K2⟩,rfl⟩)
    case measure=>simp[intOf];omega
   ·have lL:=Qr (es:=es) h0;have d0:decide ((0:Int)<(i:Int))=true:=by simp;omega
    have d1:decide (0<i)=true:=by simp;omega
    clear h0;generalize fr es i=f at*;generalize to es i=t at*;go_wp2_with fail
    refine(hg.o _).mono ?_;rintro e w2 ⟨rfl,k2⟩;have K2:ad w w2:=ad.call al k2;have c3:w2.cell? ⟨wr.heap.size,0,none⟩=some (.string f):=k2.af (by go_simp);have c4:w2.cell? ⟨wr.heap.size,1,none⟩=some (.string t):=k2.af (by go_simp);go_wp2;go_roundw
    case rel=>first|exact⟨i+1,ab,by rw[dV.o],aA,K2⟩|((repeat apply R7);exact⟨⟨i+1,ab,by rw[dV.o],aA,K2⟩,rfl⟩)
    case measure=>simp[intOf];omega
  ·obtain rfl:i=n:=ab;rw[if_neg ab];have aN:nil.toList.isEmpty=true:=by rw[nU];rfl
   generalize nil=z at*;go_wp2;go_ret;exact⟨by first|rfl|exact yZ (by simp;omega),kr⟩
theorem qaF (f t k:ByteArray) (K:Nat) (w:World) (BZ:w.cell? ⟨K,0,none⟩=some (.string k)):
  Calls Tryz.prog 140 #[.agg #[.string f,.string t],.pointer (some ⟨K,0,none⟩)] w λe w'=>e= .returned (.bool (hasB f t k))/\ad w w':=by
 have hK:K<w.heap.size:=Aa w _ BZ;go_in;go_wp2_with fail
 refine(Qk f t k _).mono ?_;rintro e w2 ⟨rfl,k2⟩;go_wp2;go_ret;exact⟨rfl,ad.call al k2⟩
theorem qaG (K:Nat) (B:Option Addr) (m d:Nat) (rs:List Rg) (k:ByteArray) (w:World) (BZ:w.cell? ⟨K,0,none⟩=some (.string k)) (hx:dL w B m d rs):
  Calls Tryz.prog 139 #[.slice B m d,.func (.func 140) #[] #[.pointer (some ⟨K,0,none⟩)]] w λe w'=>∃ r:Int,e= .returned (.int .i64 r)/\uI rs k r/\ad w w':=by
 have hm:m<=d/\d<=9223372036854775807:=by have h1:=hx.2.1;have h2:=hx.2.2.1;unfold maxLen at h2;omega
 have HX:=aa hx;clear hx;go_wp2;go_loopw [8] (λiv wr=>∃ U:Nat,U<=m/\iv= .int .i64 U/\ad w wr/\ag (∀ i,i<U->hasB (rg rs i).1 (rg rs i).2 k=false)) (λiv _=>m-(intOf iv).toNat)
 case atStart=>exact⟨0,ab,rfl,al,λi hi=>ab⟩
 case round=>
  obtain⟨U,hj,rfl,kr,b8⟩:=hrel;by_cases an:U<m
  ·have iT:=an;obtain⟨b,off,rfl,hc⟩:=(HX.o.keep kr).2.2.2.2 ab;obtain⟨c1,c2⟩:=hc U an
   have qi:ag (hasB (rg rs U).1 (rg rs U).2 k=false->∀ i,i<U+1->hasB (rg rs i).1 (rg rs i).2 k=false):=λh i hi=>by
    rcases R6 i U with g|g
    ·exact b8.o i g
    ·obtain rfl:i=U:=ab;exact h
   have zg:ag (hasB (rg rs U).1 (rg rs U).2 k=true->uI rs k U):=λh=> .inr ⟨U,rfl,by rw[HX.o.1];exact an,h,b8.o⟩;clear hc;generalize (rg rs U).1=f at*;generalize (rg rs U).2=t at*;have cK2:=kr.af BZ;go_wp2_with fail
   refine(qaF f t k K wr cK2).mono ?_;rintro e w2 ⟨rfl,k2⟩;have K2:=kr.call k2
   cases hv:hasB f t k
   ·have hn:=qi.o hv;go_wp2;go_roundw
    case rel=>first|exact⟨U+1,ab,aA,K2,hn⟩|((repeat apply R7);exact⟨⟨U+1,ab,aA,K2,hn⟩,rfl⟩)
    case measure=>simp[intOf];omega
   ·have hn:=aa (zg.o hv);go_wp2;go_ret;exact⟨U,rfl,hn.o,K2⟩
  ·obtain rfl:U=m:=ab;go_wp2;go_ret;exact⟨-1,rfl,.inl ⟨rfl,λi hi=>b8.o i (by rw[HX.o.1]at hi;exact hi)⟩,kr⟩
theorem wI (B:Option Addr) (m d:Nat) (rs:List Rg) (k:ByteArray) (w:World) (hx:dL w B m d rs):
  Calls Tryz.prog 84 #[.slice B m d,.string k] w λe w'=>∃ r:Int,e= .returned (.int .i64 r)/\uI rs k r/\ad w w':=by
 have iS:∀ fn first cap w,(Instr.makeFunc fn first cap).run Tryz.prog w= .ok (.func fn first cap) w:=λ_ _ _ _=>rfl
 have HX:=aa hx;clear hx;go_in;go_wp2_with fail
 refine(qaG w.heap.size B m d rs k _ (by go_simp) (HX.o.keep al)).mono ?_;rintro e w2 ⟨r,rfl,hr,k2⟩;have HR:=aa hr;clear hr;go_wp2;go_ret;exact⟨r,rfl,HR.o,ad.call al k2⟩
theorem qaH (f t k:ByteArray) (w:World):
  Calls Tryz.prog 40 #[.agg #[.string f,.string t],.string k] w λe w'=>e= .returned (.bool (hasB f t k))/\ad w w':=by
 have hh:ag (hasB f t k=(!Op.bytesLess k.toList f.toList&&(t.toList.isEmpty||Op.bytesLess k.toList t.toList))):=rfl
 cases h1:Op.bytesLess k.toList f.toList <;>cases h2:t.toList.isEmpty <;>cases h3:Op.bytesLess k.toList t.toList
 all_goals
  (rw[h1,h2,h3]at hh
   go_wp2;go_ret;exact⟨by rw[hh.o];rfl,al⟩)
theorem Qt (B:Option Addr) (m d:Nat) (rs:List Rg) (k:ByteArray) (w:World) (hx:dL w B m d rs):
  Calls Tryz.prog 15 #[.slice B m d,.string k] w λe w'=>∃ r:Int,e= .returned (.int .i64 r)/\uI rs k r/\ad w w':=by
 have hm:m<=d/\d<=9223372036854775807:=by have h1:=hx.2.1;have h2:=hx.2.2.1;unfold maxLen at h2;omega
 have HX:=aa hx;clear hx;go_wp2;go_loopw [5] (λiv wr=>∃ U:Nat,U<=m/\iv= .int .i64 U/\ad w wr/\ag (∀ i,i<U->hasB (rg rs i).1 (rg rs i).2 k=false)) (λiv _=>m-(intOf iv).toNat)
 case atStart=>exact⟨0,ab,rfl,al,λi hi=>ab⟩
 case round=>
  obtain⟨U,hj,rfl,kr,b8⟩:=hrel;by_cases an:U<m
  ·have iT:=an;obtain⟨b,off,rfl,hc⟩:=(HX.o.keep kr).2.2.2.2 ab;obtain⟨c1,c2⟩:=hc U an
   have qi:ag (hasB (rg rs U).1 (rg rs U).2 k=false->∀ i,i<U+1->hasB (rg rs i).1 (rg rs i).2 k=false):=λh i hi=>by
    rcases R6 i U with g|g
    ·exact b8.o i g
    ·obtain rfl:i=U:=ab;exact h
   have zg:ag (hasB (rg rs U).1 (rg rs U).2 k=true->uI rs k U):=λh=> .inr ⟨U,rfl,by rw[HX.o.1];exact an,h,b8.o⟩;clear hc;generalize (rg rs U).1=f at*;generalize (rg rs U).2=t at*;go_wp2_with fail
   refine(qaH f t k _).mono ?_;rintro e w2 ⟨rfl,k2⟩;have K2:=kr.call k2
   cases hv:hasB f t k
   ·have hn:=qi.o hv;go_wp2;go_roundw
    case rel=>first|exact⟨U+1,ab,aA,K2,hn⟩|((repeat apply R7);exact⟨⟨U+1,ab,aA,K2,hn⟩,rfl⟩)
    case measure=>simp[intOf];omega
   ·have hn:=aa (zg.o hv);go_wp2;go_ret;exact⟨U,rfl,hn.o,K2⟩
  ·obtain rfl:U=m:=ab;go_wp2;go_ret;exact⟨-1,rfl,.inl ⟨rfl,λi hi=>b8.o i (by rw[HX.o.1]at hi;exact hi)⟩,kr⟩
def bo (w:World) (A:Option Addr) (n c:Nat) (xs:List Int):Prop:=
 xs.length=n/\n<=c/\c<=maxLen/\(A=none->n=0/\c=0)/\(0<n->∃ b off,A=some ⟨b,off,none⟩/\∀ i,i<n->w.cell? ⟨b,off+i,none⟩=some (.int .i64 (xs[i]?.getD (-2))))
theorem bo.keep {w w2:World} {A:Option Addr} {n c:Nat} {xs:List Int} (h:bo w A n c xs) (hk:ad w w2):bo w2 A n c xs:=by
 obtain⟨h1,h2,h3,h4,h5⟩:=h;refine⟨h1,h2,h3,h4,λh0=> ?_⟩;obtain⟨b,off,rfl,hc⟩:=h5 h0;exact⟨b,off,rfl,λi hi=>hk.af (hc i hi)⟩
def uJ (Q:Prop) (w:World) (e:Ending) (w':World):Prop:=∃ B,e= .returned (.bool B)/\(B=true↔Q)/\ad w w'
theorem jw {Q:Prop} {w w':World} {e:Ending} (he:e= .returned (.bool false)) (h:¬Q) (k:ad w w'):uJ Q w e w':=⟨false,he,⟨λg=>Bool.noConfusion g,λg=>absurd g h⟩,k⟩
theorem JS {Q:Prop} {w w':World} {e:Ending} (he:e= .returned (.bool true)) (h:Q) (k:ad w w'):uJ Q w e w':=⟨true,he,⟨λ_=>h,λ_=>rfl⟩,k⟩
def lenOf:Value->Nat
 | .slice _ n _=>n
 |_=>0
theorem Qu {w:World} {base e k n:Nat} {v:Value} {xs:List Value} (h:w.ownsRow base e k v n xs):lenOf v=n:=by
 rcases h.2 with ⟨rfl,h0⟩|⟨g,cap,cur,rfl,_⟩
 ·exact h0.symm
 ·rfl
theorem oZ:(Tryz.prog.info? 3).map (λi=>(i.zero,i.size,i.bytes))=some (some (.int .i64 0),1,8):=av
theorem ad.own {w w2:World} {base e k n:Nat} {v:Value} {xs:List Value} (h:w.ownsRow base e k v n xs) (hk:ad w w2):w2.ownsRow base e k v n xs:=by
 refine h.kept (row:=none) ⟨hk.os,hk.tape,hk.output,hk.size,λk an _=>hk.block k an⟩ ?_;rcases hv:v.ownBlock with _|g
 ·exact .inl rfl
 ·exact .inr ao
theorem qaI (w:World) (a:Addr) (b v:Value) (t:TypeId):∀ (U:Nat) (u:Value),[v][U]? =some u->((w.setCell a b).alloc (.cells #[v] t)).cell? ((⟨w.heap.size,0,none⟩:Addr).add U)=some u:=by
 have h:=cell_one_new (w.setCell a b) v t;simpa only[World.size_setCell]using h
theorem JT {w:World} {base e k n:Nat} {v:Value} {xs:List Value} (h:w.ownsRow base e k v n xs):∃ A c,v= .slice A n c:=by
 rcases h.2 with ⟨rfl,h0⟩|⟨g,cap,cur,rfl,_⟩
 ·exact⟨none,0,by rw[h0]⟩
 ·exact⟨_,cap,rfl⟩
theorem uK {w:World} {base e k n:Nat} {v:Value} {xs:List Value} (h:w.ownsRow base e k v n xs) (h0:0<n):∃ g c,v= .slice (some ⟨g,0,none⟩) n c/\base<=g/\g<w.heap.size:=by
 rcases h.2 with ⟨rfl,h1⟩|⟨g,cap,cur,rfl,hb,hg,_⟩
 ·omega
 ·exact⟨g,cap,rfl,hb,(aQ hg)⟩
def oa (os:List Int) (i:Nat):Int:=os[i]?.getD (-2)
structure Fit (es:List Nat) (os:List Int) (n:Nat):Prop where
 up:Up es
 len:os.length=es.length+1
 own:∀ i,i<es.length+1->1<=oa os i/\oa os i<((2 ^ n:Nat):Int)
 one:1<=n
 cV:n<=6
theorem tb {n:Nat} (h:n<=6):2 ^ n<=64:=Nat.pow_le_pow_right (n:=2) ab h
structure fY (w:World) (A:Option Addr) (n1 c1:Nat) (B:Option Addr) (n2 c2:Nat) (C:Option Addr) (n3 c3:Nat) (rs:List Rg) (os ps:List Int):Prop where
 rs:dL w A n1 c1 rs
 os:bo w B n2 c2 os
 ps:bo w C n3 c3 ps
theorem fY.keep {w w2:World} {A B C:Option Addr} {n1 c1 n2 c2 n3 c3:Nat} {rs:List Rg} {os ps:List Int} (h:fY w A n1 c1 B n2 c2 C n3 c3 rs os ps) (hk:ad w w2):fY w2 A n1 c1 B n2 c2 C n3 c3 rs os ps:=⟨h.rs.keep hk,h.os.keep hk,h.ps.keep hk⟩
theorem fY.nX {w:World} {A B C:Option Addr} {n1 c1 n2 c2 n3 c3:Nat} {rs:List Rg} {os ps:List Int} (h:fY w A n1 c1 B n2 c2 C n3 c3 rs os ps):n1<=9223372036854775807/\n2<=9223372036854775807/\n3<=9223372036854775807:=by
 have bj:=h.rs.2.1;have a2:=h.rs.2.2.1;have b1:=h.os.2.1;have b2:=h.os.2.2.1;have d1:=h.ps.2.1;have d2:=h.ps.2.2.1;unfold maxLen at a2 b2 d2;omega
theorem zh (X Y:Value) (C:Option Addr) (n3 c3:Nat) (w:World) (h:n3<=9223372036854775807) (hX:∃ A n1 c1,X= .slice A n1 c1) (hY:∃ B n2 c2,Y= .slice B n2 c2):
  Calls Tryz.prog 23 #[.agg #[X,Y,.slice C n3 c3]] w λe w'=>e= .returned (.int .i64 n3)/\ad w w':=by
 obtain⟨A,n1,c1,rfl⟩:=hX;obtain⟨B,n2,c2,rfl⟩:=hY;go_wp2;go_ret;exact⟨rfl,al⟩
theorem JU (A B C:Option Addr) (n1 c1 n2 c2 n3 c3:Nat) (es:List Nat) (os ps:List Int) (w:World) (hr:fY w A n1 c1 B n2 c2 C n3 c3 (bw es) os ps) (hf:Fit es os n3):
  Calls Tryz.prog 47 #[.agg #[.slice A n1 c1,.slice B n2 c2,.slice C n3 c3]] w λe w'=>e= .returned (.bool true)/\ad w w':=by
 have h1:n1=es.length+1:=by have:=hr.rs.1;rw[ju]at this;omega
 have h2:n2=es.length+1:=by have:=hr.os.1;have:=hf.len;omega
 have fG:=hf.up.cV;have mM:=hf.one;have lM:=hf.cV;obtain⟨ob,oo,rfl,gP⟩:=hr.os.2.2.2.2 ab;have HR:=aa hr;have HF:=aa hf;have jx:ag (∀ i,i<n2->w.cell? ⟨ob,oo+i,none⟩=some (.int .i64 (oa os i))):=gP;have cz:n2<=c2/\c2<=9223372036854775807:=by have a:=hr.os.2.1;have b:=hr.os.2.2.1;unfold maxLen at b;omega
 obtain⟨L,hL⟩:∃ L,es.length=L:=⟨_,rfl⟩;have HL:=aa hL;rw[hL]at h1 h2 fG;clear hr hf gP hL;subst h1 h2;have d1:decide ((n3:Int)<1)=false:=by simp;omega
 have d2:decide ((6:Int)<(n3:Int))=false:=by simp;omega
 have d3:decide ((8:Int)<(L:Int)+1)=false:=by simp;omega
 go_in;go_wp2_with fail
 refine(zh _ _ C n3 c3 _ ab ⟨_,_,_,rfl⟩ ⟨_,_,_,rfl⟩).mono ?_;rintro e w1 ⟨rfl,k1⟩;have K1:ad w w1:=ad.call al k1;have e0:w1.cell? ⟨w.heap.size,0,none⟩=some (.slice A (L+1) c1):=k1.af (by go_simp);have e1:w1.cell? ⟨w.heap.size,1,none⟩=some (.slice (some ⟨ob,oo,none⟩) (L+1) c2):=k1.af (by go_simp);go_wp2_with fail
 refine(Qs A (L+1) c1 es _ (HR.o.rs.keep K1) HF.o.up).mono ?_;rintro e w2 ⟨rfl,k2⟩;have K2:=K1.call k2;have e1:=k2.af e1;go_wp2;go_loopw [38] (λiv wr=>∃ i:Nat,i<=L+1/\iv= .int .i64 i/\ad w wr) (λiv _=>L+1-(intOf iv).toNat)
 case atStart=>exact⟨0,ab,rfl,K2⟩
 case round=>
  obtain⟨i,hi,rfl,kr⟩:=hrel;by_cases an:i<L+1
  ·have c1:=kr.af (jx.o i an);obtain⟨o1,o2⟩:=HF.o.own i (by rw[HL.o];exact an);have Qv:((2 ^ n3:Nat):Int)=(2:Int) ^ n3:=ao;have wJ:oa os i/(2:Int) ^ n3=0:=by rw[<- Qv];exact Int.ediv_eq_zero_of_lt ab o2
   have h64:oa os i<64:=by have:=tb lM;omega
   have d5:decide (oa os i<1)=false:=by simp;omega
   clear o2 Qv;generalize oa os i=o at*;go_wp2;go_roundw
   case rel=>first|exact⟨i+1,ab,aA,kr⟩|((repeat apply R7);exact⟨⟨i+1,ab,aA,kr⟩,rfl⟩)
   case measure=>simp[intOf];omega
  ·obtain rfl:i=L+1:=ab;go_wp2;go_ret;exact⟨rfl,kr⟩
theorem JV (A B C:Option Addr) (n1 c1 n2 c2 n3 c3:Nat) (es:List Nat) (os ps:List Int) (k:ByteArray) (w:World) (hr:fY w A n1 c1 B n2 c2 C n3 c3 (bw es) os ps) (hf:Fit es os n3):
  Calls Tryz.prog 134 #[.agg #[.slice A n1 c1,.slice B n2 c2,.slice C n3 c3],.string k] w λe w'=>e= .returned (.int .i64 (oa os (bV es (hv k))))/\ad w w':=by
 have HR:=aa hr;have HF:=aa hf;have hle:=nV es (hv k);have h2:n2=es.length+1:=by have:=hr.os.1;have:=hf.len;omega
 obtain⟨ob,oo,rfl,gP⟩:=hr.os.2.2.2.2 ab;have jx:=aa (gP (bV es (hv k)) ab);have hb:=hr.nX;clear hr hf gP;obtain⟨r0,wK⟩:∃ r0,bV es (hv k)=r0:=⟨_,rfl⟩;have o0:=aa wK;rw[wK]at hle jx⊢;obtain⟨o,ho⟩:∃ o,oa os r0=o:=⟨_,rfl⟩;have jx:ag (w.cell? ⟨ob,oo+r0,none⟩=some (.int .i64 o)):=by have:=jx.o;unfold oa at ho;rwa [ho]at this
 rw[ho];have an:r0<n2:=ab;have cz:n2<=c2:=HR.o.os.2.1;clear wK ho h2 hle;go_in;go_wp2_with fail
 refine(JU A _ C n1 c1 n2 c2 n3 c3 es os ps _ (HR.o.keep al) HF.o).mono ?_;rintro e w1 ⟨rfl,k1⟩;have K1:ad w w1:=ad.call al k1;have e0:w1.cell? ⟨w.heap.size,0,none⟩=some (.slice A n1 c1):=k1.af (by go_simp);have e1:w1.cell? ⟨w.heap.size,1,none⟩=some (.slice (some ⟨ob,oo,none⟩) n2 c2):=k1.af (by go_simp);go_wp2_with fail
 refine(wI A n1 c1 (bw es) k _ (HR.o.rs.keep K1)).mono ?_;rintro e w2 ⟨r,rfl,fH,k2⟩;have tc:r=(r0:Int):=by rw[Ql HF.o.up fH,o0.o]
 clear fH;subst tc;have K2:=K1.call k2;have e1:=k2.af e1;have c1:w2.cell? ⟨ob,oo+r0,none⟩=some (.int .i64 o):=K2.af jx.o;go_wp2;go_ret;exact⟨rfl,K2⟩
def cq (m:Int) (s:Int):Bool:=decide (0<=s)&&decide (s<6)&&decide (m/2 ^ s.toNat%2=1)
theorem qaJ:∀ x:Fin 64,bits .and .i64 ((x:Nat):Int) 1=(((x:Nat)%2:Nat):Int):=qck av
theorem qaK (x:Int) (h0:0<=x) (h:x<64):bits .and .i64 x 1=x%2:=by
 obtain⟨n,rfl⟩:=Int.eq_ofNat_of_zero_le h0;have:=qaJ ⟨n,ab⟩;rw[show((n:Int))=(((⟨n,ab⟩:Fin 64):Nat):Int)from rfl,this];simp
theorem JW (m s:Int) (w:World) (h0:0<=m) (h1:m<64):
  Calls Tryz.prog 54 #[.int .i64 m,.int .i64 s] w λe w'=>e= .returned (.bool (cq m s))/\ad w w':=by
 rcases Int.lt_or_le s 0 with g0|g0
 ·have hb:ag (cq m s=false):=by unfold ag cq;simp;omega
  have d1:decide ((0:Int)<=s)=false:=by simp;omega
  go_wp2;go_ret;exact⟨by rw[hb.o];rfl,al⟩
 ·have d1:decide ((0:Int)<=s)=true:=by simp;omega
  rcases Int.lt_or_le s 6 with g1|g1
  ·have d2:decide (s<(6:Int))=true:=by simp;omega
   have hb:ag (cq m s=decide (m/2 ^ s.toNat%2=1)):=by unfold ag cq;rw[d1,d2];rfl
   have ko:0<=m/2 ^ s.toNat:=Int.ediv_nonneg h0 (Int.le_of_lt (Int.pow_pos ab));have kp:m/2 ^ s.toNat<=m:=Int.ediv_le_self _ h0;have hq:=qaK (m/2 ^ s.toNat) ko ab;clear ko kp;have HQ:=aa hq;clear hq;go_wp2;go_ret;refine⟨?_,al⟩;rw[hb.o];refine yZ ?_;rw[HQ.o,Bool.eq_iff_iff];simp
  ·have hb:ag (cq m s=false):=by unfold ag cq;simp;omega
   have d2:decide (s<(6:Int))=false:=by simp;omega
   go_wp2;go_ret;exact⟨by rw[hb.o];rfl,al⟩
theorem wL {es:List Nat} {os:List Int} {n:Nat} (hf:Fit es os n) {i:Nat} (hi:i<=es.length):0<=oa os i/\oa os i<64:=by
 have:=hf.own i ab;have:=tb hf.cV;omega
theorem Qw (A B C:Option Addr) (n1 c1 n2 c2 n3 c3:Nat) (es:List Nat) (os ps:List Int) (s:Int) (k:ByteArray) (w:World) (hr:fY w A n1 c1 B n2 c2 C n3 c3 (bw es) os ps) (hf:Fit es os n3):
  Calls Tryz.prog 193 #[.agg #[.slice A n1 c1,.slice B n2 c2,.slice C n3 c3],.int .i64 s,.string k] w λe w'=>e= .returned (.bool (cq (oa os (bV es (hv k))) s))/\ad w w':=by
 have HR:=aa hr;have HF:=aa hf;have hb:=wL hf (nV es (hv k));clear hr hf;obtain⟨o,ho⟩:∃ o,oa os (bV es (hv k))=o:=⟨_,rfl⟩;rw[ho]at hb⊢;have HO:=aa ho;clear ho;go_in;go_wp2_with fail
 refine(JV A B C n1 c1 n2 c2 n3 c3 es os ps k _ (HR.o.keep al) HF.o).mono ?_;rintro e w1 ⟨rfl,k1⟩;rw[HO.o];go_wp2_with fail
 refine(JW o s _ hb.1 hb.2).mono ?_;rintro e w2 ⟨rfl,k2⟩;go_wp2;go_ret;exact⟨rfl,(ad.call al k1).call k2⟩
end Go.Proofs.YtehaoggjlciobaaGreat

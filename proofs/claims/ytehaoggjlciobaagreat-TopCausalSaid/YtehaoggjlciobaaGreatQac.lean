/- Part 2 of 40. -/
import Derived.Test.YtehaoggjlciobaaGreatQaa
import Derived.Laws.RangeAny
import Derived.Laws.RangeString
import Derived.WalkMore
import Derived.Outline
import Derived.Laws.MakeOwn
import Derived.Deep.Upon
import Derived.Handy
import Derived.ArgAppend
set_option linter.all false
set_option maxRecDepth 20000
set_option maxHeartbeats 16000000
namespace Go.Proofs.YtehaoggjlciobaaGreat
open Go.RowKit Go.Proofs.Tryz
variable {cs:Array Value} {ds:List ByteArray} {os ps:List Int} {S es:List Nat} {xs:List Value} {b base c c1 c2 c3 cap e i k lo n n1 n2 off p pos r s:Nat} {A B C:Option Addr} {G:Option Nat} {Q:Prop} {t:TypeId} {P:TypeId->Prop} {a v x y z:Value} {w w' w2:World}
theorem Qg {P:Program} {W:World} {s:ByteArray} (ty:TypeId) (hb:W.heap[b]? =some (.stringIter s pos)) (h:pos<s.size):
  (Instr.next (.pointer (some ⟨b,0,none⟩)) true ty).run P W= .ok (.tuple #[.bool true,.int .i64 pos,.int .i32 (Utf8.decode s pos).1]) {W with heap:=W.heap.setIfInBounds b (.stringIter s (pos+(Utf8.decode s pos).2))}:=by
 simp only[Instr.next,getObj,setObj,Sem.run_bind,Sem.run,hb,Result.andThen,h,if_true];simp[goInt]
theorem Qh {P:Program} {W:World} {s:ByteArray} (ty:TypeId) (hb:W.heap[b]? =some (.stringIter s pos)) (h:¬pos<s.size):
  (Instr.next (.pointer (some ⟨b,0,none⟩)) true ty).run P W= .ok (.tuple #[.bool false]) W:=by
 simp[Instr.next,getObj,Sem.run,hb,h]
theorem ad.iter {W:World} (h:ad w W) (hb:w.heap.size<=b) (qD:Obj):ad w {W with heap:=W.heap.setIfInBounds b qD}:=
 ⟨h.os,h.tape,h.output,by simpa using h.size,λk hk=>by
  show(W.heap.setIfInBounds b qD)[k]? =_
  rw[Array.getElem?_setIfInBounds_ne ab];exact h.block k hk⟩
theorem JQ (c:Nat):(ch c).size=1:=rfl
theorem Qi (hc:c<128):Utf8.decode (ch c) 0=(c,1):=by
 have e:((ch c)[0]'(by rw[JQ];omega)).toNat=c:=by
  show(UInt8.ofNat c).toNat=c
  simp;omega
 rw[decode_ascii (ch c) 0 (by rw[JQ];omega) (by rw[e];exact hc),e]
theorem qaC (c:Nat) (w:World) (h1:33<=c) (h2:c<128):
  Calls prog 219 #[.string (ch c)] w λe w'=>e= .returned (.int .i64 1)/\ad w w':=by
 have hd:=aa (Qi h2);obtain⟨s,hs⟩:=eqR (ch c);have bu:s.size=1:=by rw[hs];rfl
 rw[<- hs]at hd⊢;have HS:=aa bu;clear hs bu;go_wp2;go_loopw [3] (λnv wr=>∃ pos:Nat,pos<=1/\nv= .int .i64 pos/\ad w wr/\wr.heap[w.heap.size]? =some (.stringIter s pos)) (λnv _=>1-(intOf nv).toNat)
 case atStart=>exact⟨0,ab,rfl,(ad.refl w).alloc _,World.iter_heap _ _ _⟩
 case round=>
  obtain⟨pos,hp,rfl,kr,rS⟩:=hrel;by_cases h0:pos=0
  ·subst h0;have wG:=λty=>Qg (P:=prog) ty rS (by rw[HS.o];omega);rw[hd.o]at wG;have k1:ad w {wr with heap:=wr.heap.setIfInBounds w.heap.size (.stringIter s (0+1))}:=kr.iter (CP _) _
   have BY:({wr with heap:=wr.heap.setIfInBounds w.heap.size (.stringIter s (0+1))}:World).heap[w.heap.size]? =some (.stringIter s 1):=by
    show(wr.heap.setIfInBounds w.heap.size _)[w.heap.size]? =_
    rw[Array.getElem?_setIfInBounds_self_of_lt (aQ rS)]
   generalize ({wr with heap:=wr.heap.setIfInBounds w.heap.size (.stringIter s (0+1))}:World)=W1 at*;have dV:∀ ty,(Instr.next (.pointer (some ⟨w.heap.size,0,none⟩)) true ty).run prog wr= .ok (.tuple #[.bool true,.int .i64 0,.int .i32 (c:Int)]) W1:=wG;have qaD:(((c:Nat):Int)==65533)=false:=by simp;omega
   have rT:=aa BY;clear wG rS BY hd;go_wp2;refine bz (λwB=>ad w wB/\ad W1 wB) λwB SS=> ?_;repeat refine DW.dt ?_
   refine DW.nl SS ?_;rintro wd hI ⟨ae,ay⟩;go_wp2;go_roundw
   case rel=>exact⟨1,ab,aA,ae,ay.heap rT.o⟩
   case measure=>first|(simp[intOf];done)|(simp[intOf];omega)
  ·obtain rfl:pos=1:=ab;have dV:∀ ty,(Instr.next (.pointer (some ⟨w.heap.size,0,none⟩)) true ty).run prog wr= .ok (.tuple #[.bool false]) wr:=λty=>Qh ty rS (by rw[HS.o];omega);go_wp2;go_ret;exact⟨rfl,kr⟩
theorem FG (c:Nat) (w:World) (h1:33<=c) (h2:c<128):
  Calls prog 157 #[.string (ch c)] w λe w'=>e= .returned (.bool true)/\ad w w':=by
 have hd:=aa (Qi h2);obtain⟨s,hs⟩:=eqR (ch c);have bu:s.size=1:=by rw[hs];rfl
 rw[<- hs]at hd⊢;have HS:=aa bu;have uH:=aa hs;clear hs bu;go_wp2;go_step3
 go_wp2_with fail
 rw[uH.o];refine(qaC c _ h1 h2).mono ?_;rintro e w1 ⟨rfl,k1⟩;rw[<- uH.o];go_wp2;go_step3
 go_wp2;go_loopw [4] (λrv wr=>∃ pos:Nat,pos<=1/\rv= .bool true/\ad w1 wr/\wr.heap[w1.heap.size]? =some (.stringIter s pos)) (λ_ wr=>1-wr.iterPos w1.heap.size)
 case atStart=>exact⟨0,ab,rfl,(ad.refl w1).alloc _,World.iter_heap _ _ _⟩
 case round=>
  obtain⟨pos,hp,rfl,kr,rS⟩:=hrel;by_cases h0:pos=0
  ·subst h0;have wG:=λty=>Qg (P:=prog) ty rS (by rw[HS.o];omega);rw[hd.o]at wG;have k2:ad w1 {wr with heap:=wr.heap.setIfInBounds w1.heap.size (.stringIter s (0+1))}:=kr.iter (CP _) _
   have BY:({wr with heap:=wr.heap.setIfInBounds w1.heap.size (.stringIter s (0+1))}:World).heap[w1.heap.size]? =some (.stringIter s 1):=by
    show(wr.heap.setIfInBounds w1.heap.size _)[w1.heap.size]? =_
    rw[Array.getElem?_setIfInBounds_self_of_lt (aQ rS)]
   generalize ({wr with heap:=wr.heap.setIfInBounds w1.heap.size (.stringIter s (0+1))}:World)=W1 at*;have dV:∀ ty,(Instr.next (.pointer (some ⟨w1.heap.size,0,none⟩)) true ty).run prog wr= .ok (.tuple #[.bool true,.int .i64 0,.int .i32 (c:Int)]) W1:=wG;have qaD:decide ((33:Int)<=((c:Nat):Int))=true:=by simp;omega
   have ze:=aa rS;have rT:=aa BY;clear wG rS BY hd;go_wp2;go_roundw
   case rel=>exact⟨1,ab,rfl,k2,rT.o⟩
   case measure=>
    unfold World.iterPos;rw[ze.o,rT.o];simp
  ·obtain rfl:pos=1:=ab;have dV:∀ ty,(Instr.next (.pointer (some ⟨w1.heap.size,0,none⟩)) true ty).run prog wr= .ok (.tuple #[.bool false]) wr:=λty=>Qh ty rS (by rw[HS.o];omega);go_wp2
   (try rw[Exit.noGoto_ret])
   go_ret;exact⟨rfl,k1.call kr⟩
def Plain (s:ByteArray):Prop:=s=nil∨∃ c,s=ch c/\33<=c/\c<128
theorem Qj (s:ByteArray) (w:World) (h:Plain s):
  Calls prog 201 #[.string s] w λe w'=>e= .returned (.bool true)/\ad w w':=by
 rcases h with rfl|⟨c,rfl,h1,h2⟩
 ·have he:nil.toList.isEmpty=true:=by rw[nU];rfl
  generalize nil=s at*;go_wp2;go_ret;exact⟨rfl,al⟩
 ·have he:(ch c).toList.isEmpty=false:=by rw[oR];rfl
  have HC:=aa (λw=>FG c w h1 h2);generalize ch c=s at*;go_in;go_wp2_with fail
  refine(HC.o _).mono ?_;rintro e w1 ⟨rfl,k1⟩;go_wp2;go_ret;exact⟨rfl,k1⟩
theorem qaE (f t:ByteArray) (w:World) (hf:Plain f) (ht:Plain t) (h:t=nil∨Op.bytesLess f.toList t.toList=true):
  Calls prog 132 #[.agg #[.string f,.string t]] w λe w'=>e= .returned (.bool true)/\ad w w':=by
 have iS:∀ fn first cap w,(Instr.makeFunc fn first cap).run prog w= .ok (.func fn first cap) w:=λ_ _ _ _=>rfl
 have HF:=aa hf;have HT:=aa ht
 have hb:t.toList.isEmpty=true∨(t.toList.isEmpty=false/\Op.bytesLess f.toList t.toList=true):=by
  rcases h with rfl|h
  ·left;rw[nU];rfl
  ·cases he:t.toList.isEmpty
   ·exact .inr ⟨rfl,h⟩
   ·exact .inl rfl
 clear hf ht h;go_in;go_wp2_with fail
 refine(Qj f _ HF.o).mono ?_;rintro e w1 ⟨rfl,k1⟩;have K1:ad w w1:=ad.call al k1;have c0:w1.cell? ⟨w.heap.size,0,none⟩=some (.string f):=k1.af (by go_simp);have c1:w1.cell? ⟨w.heap.size,1,none⟩=some (.string t):=k1.af (by go_simp);go_wp2_with fail
 refine(Qj t _ HT.o).mono ?_;rintro e w2 ⟨rfl,k2⟩;have K2:=K1.call k2;have c0:=k2.af c0;have c1:=k2.af c1;rcases hb with hb|⟨bD,bG⟩
 ·go_wp2;go_ret;exact⟨rfl,K2⟩
 ·go_wp2;go_ret;exact⟨rfl,K2⟩
theorem Qk (f t k:ByteArray) (w:World):
  Calls prog 122 #[.agg #[.string f,.string t],.string k] w λe w'=>e= .returned (.bool (hasB f t k))/\ad w w':=by
 have hh:ag (hasB f t k=(!Op.bytesLess k.toList f.toList&&(t.toList.isEmpty||Op.bytesLess k.toList t.toList))):=rfl
 cases h1:Op.bytesLess k.toList f.toList <;>cases h2:t.toList.isEmpty <;>cases h3:Op.bytesLess k.toList t.toList
 all_goals
  (rw[h1,h2,h3]at hh
   go_wp2;go_ret;exact⟨by rw[hh.o];rfl,al⟩)
abbrev Rg:=ByteArray×ByteArray
def rg (rs:List Rg) (i:Nat):Rg:=rs[i]?.getD (nil,nil)
def dL (w:World) (A:Option Addr) (n c:Nat) (rs:List Rg):Prop:=
 rs.length=n/\n<=c/\c<=maxLen/\(A=none->n=0/\c=0)/\(0<n->∃ b off,A=some ⟨b,off,none⟩/\∀ i,i<n->w.cell? ⟨b,off+i*2,none⟩=some (.string (rg rs i).1)/\w.cell? ⟨b,off+i*2+1,none⟩=some (.string (rg rs i).2))
theorem dL.keep {rs:List Rg} (h:dL w A n c rs) (hk:ad w w2):dL w2 A n c rs:=by
 obtain⟨h1,h2,h3,h4,h5⟩:=h;refine⟨h1,h2,h3,h4,λh0=> ?_⟩;obtain⟨b,off,rfl,hc⟩:=h5 h0;exact⟨b,off,rfl,λi hi=>⟨hk.af (hc i hi).1,hk.af (hc i hi).2⟩⟩
def bw (es:List Nat):List Rg:=(List.range (es.length+1)).map λi=>(fr es i,to es i)
theorem ju (es:List Nat):(bw es).length=es.length+1:=by simp[bw]
theorem wH (hi:i<=es.length):rg (bw es) i=(fr es i,to es i):=by
 unfold rg bw;rw[List.getElem?_map,List.getElem?_range ab];rfl
def uI (rs:List Rg) (k:ByteArray) (r:Int):Prop:=(r= -1/\∀ i,i<rs.length->hasB (rg rs i).1 (rg rs i).2 k=false)∨∃ i:Nat,r=i/\i<rs.length/\hasB (rg rs i).1 (rg rs i).2 k=true/\∀ U,U<i->hasB (rg rs U).1 (rg rs U).2 k=false
theorem Ql (hu:Up es) {k:ByteArray} {r:Int} (h:uI (bw es) k r):r=bV es (hv k):=by
 have hle:=nV es (hv k);rcases h with ⟨_,h⟩|⟨i,rfl,hi,h,_⟩
 ·have:=h (bV es (hv k)) (by rw[ju];omega);rw[wH hle,BL hu hle,ql3 rfl]at this
  cases this
 ·rw[ju]at hi;rw[wH ab,BL hu ab]at h;have:=qck h;omega
theorem Qm (hu:Up es) (hi:i<=es.length):Plain (fr es i):=by
 unfold fr;split
 ·exact .inl rfl
 ·have:=hu.gN (i-1) ab;exact .inr ⟨_,rfl,ab,ab⟩
theorem Qn (hu:Up es) (hi:i<=es.length):Plain (to es i):=by
 unfold to;split
 ·have:=hu.gN i ab;exact .inr ⟨_,rfl,ab,ab⟩
 ·exact .inl rfl
theorem Qo (hu:Up es) (hi:i<=es.length):to es i=nil∨Op.bytesLess (fr es i).toList (to es i).toList=true:=by
 unfold to;split
 ·rename_i h
  have h1:=hu.gN i h;right
  rw[uB _ ab];unfold fr;split
  ·rw[Fm];simp;omega
  ·have h2:=hu.gN (i-1) ab;have h3:=hu.up (i-1) i ab h;rw[kg ab];simp;omega
 ·exact .inl rfl
theorem Qp (es:List Nat) (hi:i<es.length):fr es (i+1)=to es i:=by
 unfold fr to;rw[if_neg ab,if_pos hi];rfl
theorem JR (es:List Nat):to es es.length=nil:=by unfold to;rw[if_neg ab]
theorem Qq (es:List Nat):fr es 0=nil:=rfl
theorem Qr (hi:0<i):(fr es i).toList.isEmpty=false:=by
 unfold fr;rw[if_neg ab,oR];rfl
theorem Qs (A:Option Addr) (n c:Nat) (es:List Nat) (w:World) (hx:dL w A n c (bw es)) (hu:Up es):
  Calls prog 80 #[.slice A n c] w λe w'=>e= .returned (.bool true)/\ad w w':=by
 have hn:es.length+1=n:=by have:=hx.1;rwa [ju]at this
 have h6:=hu.cV;obtain⟨b,off,rfl,hc⟩:=hx.2.2.2.2 ab;have fE:n<=c/\c<=9223372036854775807:=by have h1:=hx.2.1;have h2:=hx.2.2.1;unfold maxLen at h2;omega
 have HU:=aa hu
 have HC:ag (∀ i,i<n->w.cell? ⟨b,off+i*2,none⟩=some (.string (fr es i))/\w.cell? ⟨b,off+i*2+1,none⟩=some (.string (to es i))):=λi hi=>by
  have:=hc i hi;rwa [wH ab]at this
 clear hx hc hu;have hz:=aa (Qq es);go_wp2;go_loopw [3,8] (λfF iv wr=>∃ i:Nat,i<=n/\fF= .string (if i<n then fr es i else nil)/\iv= .int .i64 i/\ad w wr) (λ_ iv _=>n-(intOf iv).toNat)
 case atStart=>exact⟨0,ab,by rw[if_pos ab,hz.o];rfl,rfl,al⟩
 case round=>
  obtain⟨i,hi,rfl,rfl,kr⟩:=hrel;by_cases an:i<n
  ·obtain⟨c1,c2⟩:=HC.o i an;have c1:=kr.af c1;have c2:=kr.af c2;rw[if_pos an];have hg:=aa (qaE (fr es i) (to es i) · (Qm HU.o ab) (Qn HU.o ab) (Qo HU.o ab))
   have dV:ag ((if i+1<n then fr es (i+1)else nil)=to es i):=by
    unfold ag;split
    ·exact Qp es ab
    ·rw[show i=es.length by omega,JR]
   rcases Nat.eq_zero_or_pos i with h0|h0
   ·have d0:decide ((0:Int)<(i:Int))=false:=by simp;omega
    have d1:decide (0<i)=false:=by simp;omega
    clear h0;generalize fr es i=f at*;generalize to es i=t at*;go_wp2_with fail
    refine(hg.o _).mono ?_;rintro e w2 ⟨rfl,k2⟩;have K2:ad w w2:=ad.call al k2;have c3:w2.cell? ⟨wr.heap.size,0,none⟩=some (.string f):=k2.af (by go_simp);have c4:w2.cell? ⟨wr.heap.size,1,none⟩=some (.string t):=k2.af (by go_simp);go_wp2;go_roundw
    case rel=>exact⟨i+1,ab,by rw[dV.o],aA,K2⟩
    case measure=>exact dY
   ·have lL:=Qr (es:=es) h0;have d0:decide ((0:Int)<(i:Int))=true:=by simp;omega
    have d1:decide (0<i)=true:=by simp;omega
    clear h0;generalize fr es i=f at*;generalize to es i=t at*;go_wp2_with fail
    refine(hg.o _).mono ?_;rintro e w2 ⟨rfl,k2⟩;have K2:ad w w2:=ad.call al k2;have c3:w2.cell? ⟨wr.heap.size,0,none⟩=some (.string f):=k2.af (by go_simp);have c4:w2.cell? ⟨wr.heap.size,1,none⟩=some (.string t):=k2.af (by go_simp);go_wp2;go_roundw
    case rel=>exact⟨i+1,ab,by rw[dV.o],aA,K2⟩
    case measure=>exact dY
  ·obtain rfl:i=n:=ab;rw[if_neg ab];have aN:nil.toList.isEmpty=true:=by rw[nU];rfl
   generalize nil=z at*;go_wp2;go_ret;exact⟨by first|rfl|exact yZ (by simp;omega),kr⟩
theorem qaF (f t k:ByteArray) (K:Nat) (w:World) (BZ:w.cell? ⟨K,0,none⟩=some (.string k)):
  Calls prog 140 #[.agg #[.string f,.string t],.pointer (some ⟨K,0,none⟩)] w λe w'=>e= .returned (.bool (hasB f t k))/\ad w w':=by
 have hK:K<w.heap.size:=Aa w _ BZ;go_in;go_wp2_with fail
 refine(Qk f t k _).mono ?_;rintro e w2 ⟨rfl,k2⟩;go_wp2;go_ret;exact⟨rfl,ad.call al k2⟩
theorem qaG (K:Nat) (B:Option Addr) (m d:Nat) (rs:List Rg) (k:ByteArray) (w:World) (BZ:w.cell? ⟨K,0,none⟩=some (.string k)) (hx:dL w B m d rs):
  Calls prog 139 #[.slice B m d,.func (.func 140) #[] #[.pointer (some ⟨K,0,none⟩)]] w λe w'=>∃ r:Int,e= .returned (.int .i64 r)/\uI rs k r/\ad w w':=by
 have hm:m<=d/\d<=9223372036854775807:=by have h1:=hx.2.1;have h2:=hx.2.2.1;unfold maxLen at h2;omega
 have HX:=aa hx;clear hx;go_wp2;go_loopw [8] (λiv wr=>∃ U:Nat,U<=m/\iv= .int .i64 U/\ad w wr/\ag (∀ i,i<U->hasB (rg rs i).1 (rg rs i).2 k=false)) (λiv _=>m-(intOf iv).toNat)
 case atStart=>exact⟨0,ab,rfl,al,λi hi=>ab⟩
 case round=>
  obtain⟨U,hj,rfl,kr,b8⟩:=hrel;by_cases an:U<m
  ·have iT:=an;obtain⟨b,off,rfl,hc⟩:=(HX.o.keep kr).2.2.2.2 ab;obtain⟨c1,c2⟩:=hc U an
   have qi:ag (hasB (rg rs U).1 (rg rs U).2 k=false->∀ i,i<U+1->hasB (rg rs i).1 (rg rs i).2 k=false):=λh i hi=>by
    rcases R6 i U with g|g
    ·exact b8.o i g
    ·obtain rfl:i=U:=ab;exact h
   have zg:ag (hasB (rg rs U).1 (rg rs U).2 k=true->uI rs k U):=λh=> .inr ⟨U,rfl,by rw[HX.o.1];exact an,h,b8.o⟩;clear hc;generalize (rg rs U).1=f at*;generalize (rg rs U).2=t at*;have cK2:=kr.af BZ;go_wp2_with fail
   refine(qaF f t k K wr cK2).mono ?_;rintro e w2 ⟨rfl,k2⟩;have K2:=kr.call k2
   cases hv:hasB f t k
   ·have hn:=qi.o hv;go_wp2;go_roundw
    case rel=>exact⟨U+1,ab,aA,K2,hn⟩
    case measure=>exact dY
   ·have hn:=aa (zg.o hv);go_wp2;go_ret;exact⟨U,rfl,hn.o,K2⟩
  ·obtain rfl:U=m:=ab;go_wp2;go_ret;exact⟨-1,rfl,.inl ⟨rfl,λi hi=>b8.o i (by rw[HX.o.1]at hi;exact hi)⟩,kr⟩
theorem wI (B:Option Addr) (m d:Nat) (rs:List Rg) (k:ByteArray) (w:World) (hx:dL w B m d rs):
  Calls prog 84 #[.slice B m d,.string k] w λe w'=>∃ r:Int,e= .returned (.int .i64 r)/\uI rs k r/\ad w w':=by
 have iS:∀ fn first cap w,(Instr.makeFunc fn first cap).run prog w= .ok (.func fn first cap) w:=λ_ _ _ _=>rfl
 have HX:=aa hx;clear hx;go_in;go_wp2_with fail
 refine(qaG w.heap.size B m d rs k _ (by go_simp) (HX.o.keep al)).mono ?_;rintro e w2 ⟨r,rfl,hr,k2⟩;have HR:=aa hr;clear hr;go_wp2;go_ret;exact⟨r,rfl,HR.o,ad.call al k2⟩
def bo (w:World) (A:Option Addr) (n c:Nat) (xs:List Int):Prop:=
 xs.length=n/\n<=c/\c<=maxLen/\(A=none->n=0/\c=0)/\(0<n->∃ b off,A=some ⟨b,off,none⟩/\∀ i,i<n->w.cell? ⟨b,off+i,none⟩=some (.int .i64 (xs[i]?.getD (-2))))
theorem bo.keep {xs:List Int} (h:bo w A n c xs) (hk:ad w w2):bo w2 A n c xs:=by
 obtain⟨h1,h2,h3,h4,h5⟩:=h;refine⟨h1,h2,h3,h4,λh0=> ?_⟩;obtain⟨b,off,rfl,hc⟩:=h5 h0;exact⟨b,off,rfl,λi hi=>hk.af (hc i hi)⟩
def uJ (Q:Prop) (w:World) (e:Ending) (w':World):Prop:=∃ B,e= .returned (.bool B)/\(B=true↔Q)/\ad w w'
theorem jw {e:Ending} (he:e= .returned (.bool false)) (h:¬Q) (k:ad w w'):uJ Q w e w':=⟨false,he,⟨λg=>Bool.noConfusion g,λg=>absurd g h⟩,k⟩
theorem JS {e:Ending} (he:e= .returned (.bool true)) (h:Q) (k:ad w w'):uJ Q w e w':=⟨true,he,⟨λ_=>h,λ_=>rfl⟩,k⟩
theorem oZ:(prog.info? 3).map (λi=>(i.zero,i.size,i.bytes))=some (some (.int .i64 0),1,8):=av
theorem ad.own (h:w.ownsRow base e k v n xs) (hk:ad w w2):w2.ownsRow base e k v n xs:=by
 refine h.kept (row:=none) ⟨hk.os,hk.tape,hk.output,hk.size,λk an _=>hk.block k an⟩ ?_;rcases hv:v.ownBlock with _|g
 ·exact .inl rfl
 ·exact .inr ao
theorem qaI (w:World) (a:Addr) (b v:Value) (t:TypeId):∀ (U:Nat) (u:Value),[v][U]? =some u->((w.setCell a b).alloc (.cells #[v] t)).cell? ((⟨w.heap.size,0,none⟩:Addr).add U)=some u:=by
 have h:=cell_one_new (w.setCell a b) v t;simpa only[World.size_setCell]using h
theorem JT (h:w.ownsRow base e k v n xs):∃ A c,v= .slice A n c:=by
 rcases h.2 with ⟨rfl,h0⟩|⟨g,cap,cur,rfl,_⟩
 ·exact⟨none,0,by rw[h0]⟩
 ·exact⟨_,cap,rfl⟩
theorem uK (h:w.ownsRow base e k v n xs) (h0:0<n):∃ g c,v= .slice (some ⟨g,0,none⟩) n c/\base<=g/\g<w.heap.size:=by
 rcases h.2 with ⟨rfl,h1⟩|⟨g,cap,cur,rfl,hb,hg,_⟩
 ·omega
 ·exact⟨g,cap,rfl,hb,(aQ hg)⟩
def oa (os:List Int) (i:Nat):Int:=os[i]?.getD (-2)
structure Fit (es:List Nat) (os:List Int) (n:Nat):Prop where
 up:Up es
 len:os.length=es.length+1
 own:∀ i,i<es.length+1->1<=oa os i/\oa os i<((2 ^ n:Nat):Int)
 one:1<=n
 cV:n<=6
theorem tb (h:n<=6):2 ^ n<=64:=Nat.pow_le_pow_right (n:=2) ab h
structure fY (w:World) (A:Option Addr) (n1 c1:Nat) (B:Option Addr) (n2 c2:Nat) (C:Option Addr) (n3 c3:Nat) (rs:List Rg) (os ps:List Int):Prop where
 rs:dL w A n1 c1 rs
 os:bo w B n2 c2 os
 ps:bo w C n3 c3 ps
theorem fY.keep {n3:Nat} {rs:List Rg} (h:fY w A n1 c1 B n2 c2 C n3 c3 rs os ps) (hk:ad w w2):fY w2 A n1 c1 B n2 c2 C n3 c3 rs os ps:=⟨h.rs.keep hk,h.os.keep hk,h.ps.keep hk⟩
theorem fY.nX {n3:Nat} {rs:List Rg} (h:fY w A n1 c1 B n2 c2 C n3 c3 rs os ps):n1<=9223372036854775807/\n2<=9223372036854775807/\n3<=9223372036854775807:=by
 have bj:=h.rs.2.1;have a2:=h.rs.2.2.1;have b1:=h.os.2.1;have b2:=h.os.2.2.1;have d1:=h.ps.2.1;have d2:=h.ps.2.2.1;unfold maxLen at a2 b2 d2;omega
theorem zh (X Y:Value) (C:Option Addr) (n3 c3:Nat) (w:World) (h:n3<=9223372036854775807) (hX:∃ A n1 c1,X= .slice A n1 c1) (hY:∃ B n2 c2,Y= .slice B n2 c2):
  Calls prog 23 #[.agg #[X,Y,.slice C n3 c3]] w λe w'=>e= .returned (.int .i64 n3)/\ad w w':=by
 obtain⟨A,n1,c1,rfl⟩:=hX;obtain⟨B,n2,c2,rfl⟩:=hY;go_wp2;go_ret;exact⟨rfl,al⟩
theorem JU (A B C:Option Addr) (n1 c1 n2 c2 n3 c3:Nat) (es:List Nat) (os ps:List Int) (w:World) (hr:fY w A n1 c1 B n2 c2 C n3 c3 (bw es) os ps) (hf:Fit es os n3):
  Calls prog 47 #[.agg #[.slice A n1 c1,.slice B n2 c2,.slice C n3 c3]] w λe w'=>e= .returned (.bool true)/\ad w w':=by
 have h1:n1=es.length+1:=by have:=hr.rs.1;rw[ju]at this;omega
 have h2:n2=es.length+1:=by have:=hr.os.1;have:=hf.len;omega
 have fG:=hf.up.cV;have mM:=hf.one;have lM:=hf.cV;obtain⟨ob,oo,rfl,gP⟩:=hr.os.2.2.2.2 ab;have HR:=aa hr;have HF:=aa hf;have jx:ag (∀ i,i<n2->w.cell? ⟨ob,oo+i,none⟩=some (.int .i64 (oa os i))):=gP;have cz:n2<=c2/\c2<=9223372036854775807:=by have a:=hr.os.2.1;have b:=hr.os.2.2.1;unfold maxLen at b;omega
 obtain⟨L,hL⟩:=eqQ es.length;have HL:=aa hL;rw[hL]at h1 h2 fG;clear hr hf gP hL;subst h1 h2;have d1:decide ((n3:Int)<1)=false:=by simp;omega
 have d2:decide ((6:Int)<(n3:Int))=false:=by simp;omega
 have d3:decide ((8:Int)<(L:Int)+1)=false:=by simp;omega
 go_in;go_wp2_with fail
 refine(zh _ _ C n3 c3 _ ab ⟨_,_,_,rfl⟩ ⟨_,_,_,rfl⟩).mono ?_;rintro e w1 ⟨rfl,k1⟩;have K1:ad w w1:=ad.call al k1;have e0:w1.cell? ⟨w.heap.size,0,none⟩=some (.slice A (L+1) c1):=k1.af (by go_simp);have e1:w1.cell? ⟨w.heap.size,1,none⟩=some (.slice (some ⟨ob,oo,none⟩) (L+1) c2):=k1.af (by go_simp);go_wp2_with fail
 refine(Qs A (L+1) c1 es _ (HR.o.rs.keep K1) HF.o.up).mono ?_;rintro e w2 ⟨rfl,k2⟩;have K2:=K1.call k2;have e1:=k2.af e1;go_wp2;go_loopw [38] (λiv wr=>∃ i:Nat,i<=L+1/\iv= .int .i64 i/\ad w wr) (λiv _=>L+1-(intOf iv).toNat)
 case atStart=>exact⟨0,ab,rfl,K2⟩
 case round=>
  obtain⟨i,hi,rfl,kr⟩:=hrel;by_cases an:i<L+1
  ·have c1:=kr.af (jx.o i an);obtain⟨o1,o2⟩:=HF.o.own i (by rw[HL.o];exact an);have Qv:((2 ^ n3:Nat):Int)=(2:Int) ^ n3:=ao;have wJ:oa os i/(2:Int) ^ n3=0:=by rw[<- Qv];exact Int.ediv_eq_zero_of_lt ab o2
   have h64:oa os i<64:=by have:=tb lM;omega
   have d5:decide (oa os i<1)=false:=by simp;omega
   clear o2 Qv;generalize oa os i=qD at*;go_wp2;go_roundw
   case rel=>exact⟨i+1,ab,aA,kr⟩
   case measure=>exact dY
  ·obtain rfl:i=L+1:=ab;go_wp2;go_ret;exact⟨rfl,kr⟩
theorem JV (A B C:Option Addr) (n1 c1 n2 c2 n3 c3:Nat) (es:List Nat) (os ps:List Int) (k:ByteArray) (w:World) (hr:fY w A n1 c1 B n2 c2 C n3 c3 (bw es) os ps) (hf:Fit es os n3):
  Calls prog 134 #[.agg #[.slice A n1 c1,.slice B n2 c2,.slice C n3 c3],.string k] w λe w'=>e= .returned (.int .i64 (oa os (bV es (hv k))))/\ad w w':=by
 have HR:=aa hr;have HF:=aa hf;have hle:=nV es (hv k);have h2:n2=es.length+1:=by have:=hr.os.1;have:=hf.len;omega
 obtain⟨ob,oo,rfl,gP⟩:=hr.os.2.2.2.2 ab;have jx:=aa (gP (bV es (hv k)) ab);have hb:=hr.nX;clear hr hf gP;obtain⟨r0,wK⟩:=eqQ (bV es (hv k));have o0:=aa wK;rw[wK]at hle jx⊢;obtain⟨qD,ho⟩:=eqQ (oa os r0);have jx:ag (w.cell? ⟨ob,oo+r0,none⟩=some (.int .i64 qD)):=by have:=jx.o;unfold oa at ho;rwa [ho]at this
 rw[ho];have an:r0<n2:=ab;have cz:n2<=c2:=HR.o.os.2.1;clear wK ho h2 hle;go_in;go_wp2_with fail
 refine(JU A _ C n1 c1 n2 c2 n3 c3 es os ps _ (HR.o.keep al) HF.o).mono ?_;rintro e w1 ⟨rfl,k1⟩;have K1:ad w w1:=ad.call al k1;have e0:w1.cell? ⟨w.heap.size,0,none⟩=some (.slice A n1 c1):=k1.af (by go_simp);have e1:w1.cell? ⟨w.heap.size,1,none⟩=some (.slice (some ⟨ob,oo,none⟩) n2 c2):=k1.af (by go_simp);go_wp2_with fail
 refine(wI A n1 c1 (bw es) k _ (HR.o.rs.keep K1)).mono ?_;rintro e w2 ⟨r,rfl,fH,k2⟩;have tc:r=(r0:Int):=by rw[Ql HF.o.up fH,o0.o]
 clear fH;subst tc;have K2:=K1.call k2;have e1:=k2.af e1;have c1:w2.cell? ⟨ob,oo+r0,none⟩=some (.int .i64 qD):=K2.af jx.o;go_wp2;go_ret;exact⟨rfl,K2⟩
def cq (m:Int) (s:Int):Bool:=decide (0<=s)&&decide (s<6)&&decide (m/2 ^ s.toNat%2=1)
theorem qaJ:∀ x:Fin 64,bits .and .i64 ((x:Nat):Int) 1=(((x:Nat)%2:Nat):Int):=qck av
theorem qaK (x:Int) (h0:0<=x) (h:x<64):bits .and .i64 x 1=x%2:=by
 obtain⟨n,rfl⟩:=Int.eq_ofNat_of_zero_le h0;have:=qaJ ⟨n,ab⟩;rw[show((n:Int))=(((⟨n,ab⟩:Fin 64):Nat):Int)from rfl,this];simp
theorem JW (m s:Int) (w:World) (h0:0<=m) (h1:m<64):
  Calls prog 54 #[.int .i64 m,.int .i64 s] w λe w'=>e= .returned (.bool (cq m s))/\ad w w':=by
 rcases Int.lt_or_le s 0 with g0|g0
 ·have hb:ag (cq m s=false):=by unfold ag cq;simp;omega
  have d1:decide ((0:Int)<=s)=false:=by simp;omega
  go_wp2;go_ret;exact⟨by rw[hb.o];rfl,al⟩
 ·have d1:decide ((0:Int)<=s)=true:=by simp;omega
  rcases Int.lt_or_le s 6 with g1|g1
  ·have d2:decide (s<(6:Int))=true:=by simp;omega
   have hb:ag (cq m s=decide (m/2 ^ s.toNat%2=1)):=by unfold ag cq;rw[d1,d2];rfl
   have ko:0<=m/2 ^ s.toNat:=Int.ediv_nonneg h0 (Int.le_of_lt (Int.pow_pos ab));have kp:m/2 ^ s.toNat<=m:=Int.ediv_le_self _ h0;have hq:=qaK (m/2 ^ s.toNat) ko ab;clear ko kp;have HQ:=aa hq;clear hq;go_wp2;go_ret;refine⟨?_,al⟩;rw[hb.o];refine yZ ?_;rw[HQ.o,Bool.eq_iff_iff];simp
  ·have hb:ag (cq m s=false):=by unfold ag cq;simp;omega
   have d2:decide (s<(6:Int))=false:=by simp;omega
   go_wp2;go_ret;exact⟨by rw[hb.o];rfl,al⟩
theorem wL (hf:Fit es os n) (hi:i<=es.length):0<=oa os i/\oa os i<64:=by
 have:=hf.own i ab;have:=tb hf.cV;omega
theorem Qw (A B C:Option Addr) (n1 c1 n2 c2 n3 c3:Nat) (es:List Nat) (os ps:List Int) (s:Int) (k:ByteArray) (w:World) (hr:fY w A n1 c1 B n2 c2 C n3 c3 (bw es) os ps) (hf:Fit es os n3):
  Calls prog 193 #[.agg #[.slice A n1 c1,.slice B n2 c2,.slice C n3 c3],.int .i64 s,.string k] w λe w'=>e= .returned (.bool (cq (oa os (bV es (hv k))) s))/\ad w w':=by
 have HR:=aa hr;have HF:=aa hf;have hb:=wL hf (nV es (hv k));clear hr hf;obtain⟨qD,ho⟩:=eqQ (oa os (bV es (hv k)));rw[ho]at hb⊢;have HO:=aa ho;clear ho;go_in;go_wp2_with fail
 refine(JV A B C n1 c1 n2 c2 n3 c3 es os ps k _ (HR.o.keep al) HF.o).mono ?_;rintro e w1 ⟨rfl,k1⟩;rw[HO.o];go_wp2_with fail
 refine(JW qD s _ hb.1 hb.2).mono ?_;rintro e w2 ⟨rfl,k2⟩;go_wp2;go_ret;exact⟨rfl,(ad.call al k1).call k2⟩
def hQ (rs:List Rg):List Value:=rs.flatMap λr=>[.string r.1,.string r.2]
theorem B0:∀ rs:List Rg,(hQ rs).length=rs.length*2
 |[]=>rfl
 |r::t=>by
  have:=B0 t;unfold hQ at this⊢;rw[List.flatMap_cons,zH,this];simp;omega
theorem JX (rs:List Rg) (r:Rg):hQ rs++[.string r.1,.string r.2]=hQ (rs++[r]):=by simp[hQ]
theorem Qx:∀ (rs:List Rg) (i:Nat),i<rs.length->(hQ rs)[i*2]? =some (.string (rg rs i).1)/\(hQ rs)[i*2+1]? =some (.string (rg rs i).2)
 |[],_,h=>by simp at h
 |r::t,0,_=>by simp[hQ,rg]
 |r::t,i+1,h=>by
  have:=Qx t i (by simpa using h);have e:hQ (r::t)= .string r.1:: .string r.2::hQ t:=by simp[hQ]
  rw[e,show(i+1)*2=i*2+1+1 by omega];simpa [rg]using this
theorem dL.bp {rs:List Rg} (h:w.ownsRow base e 2 v n (hQ rs)):∃ A c,v= .slice A n c/\dL w A n c rs:=by
 have hl:rs.length=n:=by have:=h.1;rw[B0]at this;omega
 rcases h.2 with ⟨rfl,h0⟩|⟨g,cap,cur,rfl,hb,hg,h1,h2,h3,h4⟩
 ·exact⟨none,0,by rw[h0],hl,ab,by unfold maxLen;omega,λ_=>⟨h0,rfl⟩,λh=>ab⟩
 ·refine⟨_,cap,rfl,hl,h1,h2,(λh=>by cases h),λh0=>⟨g,0,rfl,λi hi=> ?_⟩⟩;obtain⟨e1,e2⟩:=Qx rs i ab;rw[Nat.zero_add,h.cellAt (i*2) ab,h.cellAt (i*2+1) ab];exact⟨e1,e2⟩
theorem JY (w:World) (a b:Value) (t:TypeId):∀ (U:Nat) (u:Value),[a,b][U]? =some u->(w.alloc (.cells #[a,b] t)).cell? ((⟨w.heap.size,0,none⟩:Addr).add U)=some u:=by
 intro U u hu;have hg:(w.alloc (.cells #[a,b] t)).heap[w.heap.size]? =some (.cells #[a,b] t):=yY _ _;have e:((⟨w.heap.size,0,none⟩:Addr).add U)=⟨w.heap.size,U,none⟩:=by unfold Addr.add;split <;>simp_all
 rw[e,cell_of_row _ _ U _ _ (0,0) hg];rcases U with _|_|U <;>simp at hu⊢ <;>exact hu
theorem rU:(prog.info? 63).map (λi=>(i.zero,i.size,i.bytes))=some (some (.agg #[.string ⟨#[]⟩,.string ⟨#[]⟩]),2,32):=av
theorem aE {g:Nat} {fr:Nat×Nat} (h:w.heap[g]? =some (.cells cs t fr)) (i:Nat):w.cell? ⟨g,i,none⟩=cs[i]? :=cell_of_row w g i cs t fr h
theorem ap {g:Nat} {fr:Nat×Nat} (h:w.heap[g]? =some (.cells cs t fr)) (i:Nat) (hv:cs[i]? =some v:=by(simp only[List.getElem?_toArray,List.getElem?_cons_zero,List.getElem?_cons_succ];exact rfl)):w.cell? ⟨g,i,none⟩=some v:=by rw[cell_of_row w g i cs t fr h,hv]
theorem aI {g:Nat} (h:w.heap[g]? =some (.cells cs t (0,0))) (i:Nat):w.frozen? ⟨g,i,none⟩=false:=by simp[World.frozen?,h]
def Recv (w:World) (r:Nat) (n:Nat):Prop:=w.heap[r]? =some (.cells #[.int .i64 n] 145 (0,0))
theorem Recv.but (h:Recv w r n) (hb:ah S w w2) (hn:r∉S):Recv w2 r n:=hb.heap h hn
theorem Recv.kept (h:Recv w r n) (hb:ad w w2):Recv w2 r n:=hb.heap h
theorem Recv.lt (h:Recv w r n):r<w.heap.size:=(aQ h)
theorem Qy (w:World):
  Calls prog 52 #[] w λe w'=>e= .returned (.pointer (some ⟨w.heap.size,0,none⟩))/\ad w w'/\Recv w' w.heap.size 0:=by
 go_wp2;go_ret;exact⟨rfl,al,yY w _⟩
theorem qaL (b n:Nat) (w:World) (hc:w.cell? ⟨b,0,none⟩=some (.int .i64 n)):
  Calls prog 237 #[.pointer (some ⟨b,0,none⟩)] w λe w'=>e= .returned (.int .i64 n)/\ad w w':=by
 go_wp2;go_ret;exact⟨rfl,al⟩
theorem zi (r n:Nat) (w:World) (h:Recv w r n):
  Calls prog 174 #[.pointer (some ⟨r,0,none⟩)] w λe w'=>e= .returned (.int .i64 n)/\ad w w':=by
 have hc:=aE h 0;have HH:=aa h;clear h;go_in;go_wp2_with (first|(go_at_call 237;refine(qaL _ n _ (by first|assumption|go_simp)).mono ?_;rintro e w1 ⟨rfl,bD⟩))
 go_ret;exact⟨rfl,al⟩
theorem qaM (r n:Nat) (q:Int) (d:ByteArray) (w:World) (h:Recv w r n) (hn:¬q=n):
  Calls prog 175 #[.pointer (some ⟨r,0,none⟩),.agg #[.int .i64 q,.string d]] w λe w'=>e= .returned (.tuple #[.string ⟨#[]⟩,.bool false])/\ad w w':=by
 have hc:=aE h 0;have hr:=h.lt;have HH:=aa h;clear h;go_wp2;refine bz (λwB=>ad w wB/\wB.cell? ⟨r,0,none⟩=some (.int .i64 n)/\wB.cell? ⟨w.heap.size,0,none⟩=some (.int .i64 q)) λwB SS=> ?_;repeat refine DW.dt ?_
 refine DW.nl SS ?_;rintro wd hI ⟨ae,ai,aj⟩;go_wp2;go_ret2
 exact⟨rfl,al⟩
theorem qaN (r n:Nat) (d:ByteArray) (w:World) (h:Recv w r n) (hn:n<4611686018427387904):
  Calls prog 175 #[.pointer (some ⟨r,0,none⟩),.agg #[.int .i64 n,.string d]] w λe w'=>e= .returned (.tuple #[.string d,.bool true])/\ah [r] w w'/\Recv w' r (n+1):=by
 have hc:=aE h 0;have cG:=aI h 0;have hr:=h.lt;have HH:=aa h;clear h;go_wp2;refine bz (λwB=>ad w wB/\wB.cell? ⟨r,0,none⟩=some (.int .i64 n)/\wB.cell? ⟨w.heap.size,0,none⟩=some (.int .i64 n)/\wB.cell? ⟨w.heap.size,1,none⟩=some (.string d)) λwB SS=> ?_;repeat refine DW.dt ?_
 refine DW.nl SS ?_;rintro wd hI ⟨ae,ai,aj,aq⟩;have hR:=HH.o.kept ae;have FH:=aI hR 0;have B1:=aa hR;clear hR HH hc cG;go_wp2;go_ret2
 refine⟨rfl,(ah.ar ae).setCell ao _,?_⟩;have:=B1.o;unfold Recv at this⊢;simp[World.setCell,Array.getElem?_modify,this]
theorem uL:(prog.info? 238).map (λi=>(i.zero,i.size,i.bytes))=some (some (.agg #[.int .i64 0,.string ⟨#[]⟩]),2,24):=av
def pk:Nat->List ByteArray->List Value
 |_,[]=>[]
 |lo,d::r=> .int .i64 lo:: .string d::pk (lo+1) r
theorem Qz:∀ (lo:Nat) (ds:List ByteArray),(pk lo ds).length=ds.length*2
 |_,[]=>rfl
 |lo,d::r=>by simp only[pk,List.length_cons,Qz (lo+1) r];omega
theorem QA:∀ (lo:Nat) (ds:List ByteArray) (d:ByteArray),pk lo (ds++[d])=pk lo ds++[.int .i64 ((lo+ds.length:Nat):Int),.string d]
 |lo,[],d=>by simp[pk]
 |lo,a::r,d=>by simp only[List.cons_append,pk,QA (lo+1) r d,List.length_cons];rw[show lo+1+r.length=lo+(r.length+1)by omega]
theorem QB:∀ (lo:Nat) (ds:List ByteArray) (i:Nat),i<ds.length->(pk lo ds)[i*2]? =some (.int .i64 ((lo+i:Nat):Int))/\(pk lo ds)[i*2+1]? =some (.string (ds[i]?.getD ⟨#[]⟩))
 |lo,[],i,h=>by simp at h
 |lo,a::r,0,_=>by simp[pk]
 |lo,a::r,i+1,h=>by
  have:=QB (lo+1) r i (by simpa using h);rw[show(i+1)*2=i*2+1+1 by omega];simp only[pk,List.getElem?_cons_succ];rw[show lo+(i+1)=lo+1+i by omega];exact this
theorem QC:∀ (k lo:Nat) (ds:List ByteArray),k<=ds.length->(pk lo ds).drop (k*2)=pk (lo+k) (ds.drop k)
 |0,lo,ds,_=>ao
 |k+1,lo,[],h=>by simp at h
 |k+1,lo,a::r,h=>by
  rw[show(k+1)*2=k*2+1+1 by omega];simp only[pk,List.drop_succ_cons];rw[QC k (lo+1) r (by simpa using h),show lo+1+k=lo+(k+1)by omega]
theorem qaO (lo:Nat) (ds:List ByteArray):∀ u∈pk lo ds,u.oneCell'=true:=by
 induction ds generalizing lo with
 |nil=>intro u hu;cases hu
 |cons a r ih=>
  intro u hu;simp only[pk,KX]at hu;rcases hu with rfl|rfl|hu
  ·rfl
  ·rfl
  ·exact ih _ u hu
def td (w:World) (b:Nat):Prop:=∃ cur,w.heap[b]? =some (.cells cur 238 (0,0))
theorem td.but (h:td w b) (hb:ah S w w2) (hn:b∉S):td w2 b:=by
 obtain⟨cur,hc⟩:=h;exact⟨cur,hb.heap hc hn⟩
def jT (w:World) (G:Option Nat) (v:Value) (n:Nat) (xs:List Value):Prop:=
 (v= .slice none 0 0/\n=0/\G=none)∨∃ b off cap,v= .slice (some ⟨b,off,none⟩) n cap/\G=some b/\n<=cap/\cap<=maxLen/\xs.length=n*2/\
  (∀ U,U<cap*2->(w.cell? ⟨b,off+U,none⟩).isSome=true/\w.frozen? ⟨b,off+U,none⟩=false)/\(∀ U u,xs[U]? =some u->w.cell? ⟨b,off+U,none⟩=some u)/\td w b
theorem jT.but (h:jT w G v n xs) (hb:ah S w w2) (hn:∀ g,G=some g->g∉S):jT w2 G v n xs:=by
 rcases h with h|⟨b,off,cap,hv,hG,h1,h2,h3,h4,h5,h6⟩
 ·exact .inl h
 ·refine .inr ⟨b,off,cap,hv,hG,h1,h2,h3,λU hj=> ?_,λU u hu=>hb.af (h5 U u hu) (hn b hG),h6.but hb (hn b hG)⟩;obtain⟨e1,e2⟩:=h4 U hj;obtain⟨u,hu⟩:=Option.isSome_iff_exists.1 e1;exact⟨by rw[hb.af hu (hn b hG)];rfl,by rw[hb.frozen (Aa w _ hu) (hn b hG)];exact e2⟩
def fZ (w:World) (s:Nat) (G:Option Nat) (lo:Nat) (ds:List ByteArray):Prop:=
 ∃ v,w.heap[s]? =some (.cells #[.int .i64 ((lo+ds.length:Nat):Int),v] 143 (0,0))/\jT w G v ds.length (pk lo ds)/\G≠some s/\(∀ g,G=some g->g<w.heap.size)
theorem fZ.but (h:fZ w s G lo ds) (hb:ah S w w2) (h1:s∉S) (hn:∀ g,G=some g->g∉S):fZ w2 s G lo ds:=by
 obtain⟨v,h2,h3,h4,h5⟩:=h;exact⟨v,hb.heap h2 h1,h3.but hb hn,h4,λg hg=>R4 (h5 g hg) hb.size⟩
theorem fZ.kept (h:fZ w s G lo ds) (hb:ad w w2):fZ w2 s G lo ds:=h.but (.ar (S:=[]) hb) ao ao
theorem fZ.lt (h:fZ w s G lo ds):s<w.heap.size:=by
 obtain⟨v,h2,_⟩:=h;exact(aQ h2)
theorem QD (w:World):
  Calls prog 51 #[] w λe w'=>e= .returned (.pointer (some ⟨w.heap.size,0,none⟩))/\ad w w'/\fZ w' w.heap.size none 0 []:=by
 go_wp2;go_ret;exact⟨rfl,al,_,yY w _,.inl ⟨rfl,rfl,rfl⟩,ao,ao⟩
theorem fZ.form (h:fZ w s G lo ds):∃ a c,w.cell? ⟨s,1,none⟩=some (.slice a ds.length c):=by
 obtain⟨v,h2,h3,_⟩:=h;have hc:=aE h2 1;rcases h3 with ⟨rfl,h4,_⟩|⟨b,off,cap,rfl,_⟩
 ·exact⟨none,0,by rw[h4];exact hc⟩
 ·exact⟨_,_,hc⟩
theorem qaP (s:Nat) (G:Option Nat) (lo:Nat) (ds:List ByteArray) (d:ByteArray) (w:World) (h:fZ w s G lo ds) (hf:8<=ds.length):
  Calls prog 209 #[.pointer (some ⟨s,0,none⟩),.string d] w λe w'=>e= .returned (.tuple #[.agg #[.int .i64 0,.string ⟨#[]⟩],.int .i64 15])/\ad w w':=by
 obtain⟨a,c,hc⟩:=h.form;have hs:=h.lt;have HH:=aa h;clear h;generalize ds.length=n at hf hc;go_wp2;refine KV (v:= .tuple #[.agg #[.int .i64 0,.string ⟨#[]⟩],.int .i64 15]) (by simp[results,results209,go_sem]) rfl ⟨rfl,?_⟩;exact al
theorem td.setCells {b:Nat}:∀ (vs:List Value) (qD:Nat) (w:World),td w b->td (w.setCells b qD vs) b
 |[],_,_,h=>h
 |v::r,qD,w,⟨cur,h⟩=>td.setCells r (qD+1) _ ⟨_,Ok w b qD cur _ v h⟩
theorem jT.push (h:jT w (some b) (.slice (some ⟨b,off,none⟩) n cap) n xs) (x y:Value) (hc:n+1<=cap):
  jT (w.setCells b (off+n*2) [x,y]) (some b) (.slice (some ⟨b,off,none⟩) (n+1) cap) (n+1) (xs++[x,y]):=by
 rcases h with ⟨h,_⟩|⟨nY,qj,kP,hv,hG,h1,h2,h3,h4,h5,h6⟩
 ·cases h
 injection hv with ft cW wM;injection ft with ft;injection ft with e1 e2 _;subst e1 e2 wM
 have c7:∀ U,U < [x,y].length->(w.cell? ⟨b,off+n*2+U,none⟩).isSome=true:=λU hj=>by
  have:=(h4 (n*2+U) (by simp at hj;omega)).1;rwa [<- Nat.add_assoc]at this
 refine .inr ⟨b,off,cap,rfl,rfl,hc,h2,by simp[h3];omega,λU hj=> ?_,λU u hu=> ?_,h6.setCells _ _ _⟩
 ·rw[World.frozen?_setCells];exact⟨World.isSome_setCells b _ _ w _ (h4 U hj).1,(h4 U hj).2⟩
 ·rcases R6 U (n*2)with hj|hj
  ·rw[qlZ ab]at hu;rw[World.cell?_setCells_out b _ _ w _ (λ_ _=> .inl (by show off+U<off+n*2;omega))];exact h5 U u hu
  ·rw[List.getElem?_append_right ab,h3]at hu;obtain⟨an,wN⟩:=pi.1 hu;have:=World.cell?_setCells_in b [x,y] (off+n*2) w c7 (U-n*2) an;rw[show off+n*2+(U-n*2)=off+U by omega]at this;rw[this];exact congrArg some wN
theorem JZ {g:Nat} {b:Value} (h:w.heap[g]? =some (.cells #[a,b] t (0,0))):∀ (U:Nat) (u:Value),[a,b][U]? =some u->w.cell? ((⟨g,0,none⟩:Addr).add U)=some u:=by
 intro U u hu;have e:((⟨g,0,none⟩:Addr).add U)=⟨g,U,none⟩:=by simp[Addr.add];omega
 rw[e,aE h U,<- hu];exact List.getElem?_toArray
theorem J0 (a:Int) (d:ByteArray):∀ u∈[Value.int .i64 a,.string d],u.oneCell'=true:=by
 intro u hu;simp only[KX,List.not_mem_nil,or_false]at hu;rcases hu with rfl|rfl <;>rfl
theorem ah.setCells (b qD:Nat) (vs:List Value):ah [b] w (w.setCells b qD vs):=by
 have hk:=World.keptBut_setCells b (may:=λ_=>True) vs qD w (λ_ _=>trivial)
 have bu:∀ (vs:List Value) (qD:Nat) (w:World),(w.setCells b qD vs).heap.size=w.heap.size/\(w.setCells b qD vs).tape=w.tape:=by
  intro vs
  induction vs with
  |nil=>intro qD w;exact⟨rfl,rfl⟩
  |cons v r ih=>intro qD w;have:=ih (qD+1) (w.setCell ⟨b,qD,none⟩ v);exact⟨by rw[World.setCells,this.1];simp,by rw[World.setCells,this.2];rfl⟩
 exact⟨hk.1,(bu vs qD w).2,hk.2.1,by rw[(bu vs qD w).1];exact CP _,λk hk hn=>World.heap_setCells_other w b qD vs hk (by simpa using hn)⟩
theorem jT.bp (he:e=238) (h:w.ownsRow base e 2 v n xs):jT w v.ownBlock v n xs/\∀ g,v.ownBlock=some g->base<=g/\g<w.heap.size:=by
 refine⟨?_,h.lt⟩;rcases h.2 with ⟨rfl,rfl⟩|⟨g,cap,cur,rfl,hb,hg,h1,h2,h3,h4⟩
 ·exact .inl ⟨rfl,rfl,rfl⟩
 ·refine .inr ⟨g,0,cap,rfl,rfl,h1,h2,h.1,λU hj=>⟨?_,?_⟩,λU u hu=> ?_,⟨cur,by rw[hg,he]⟩⟩
  ·rw[aE hg,Nat.zero_add,Ht ab];rfl
  ·exact aI hg _
  ·have hj:U<n*2:=by have:=(bg hu);rw[h.1]at this;exact this
   rw[Nat.zero_add,h.cellAt U hj,hu]
theorem qaQ {P:Program} (w:World) {ops:Array Oper} {rest:List Oper} {qD:Oper} {a:Act} {Q:Exit->Act->World->Prop} (hg:qD.guard=none) (s x:Operand) (t:TypeId)
  (uM:qD.op=Op.call {callee:=Callee.builtin Builtin.append,args:= #[s,x],argTypes:= #[t,t]}) (e:TypeId) (i:TypeInfo) (z:Value) (bytes:Nat) (h1:P.underlying t=some (.slice e)) (h2:P.info? e=some i)
  (h3:i.zero=some z) (h4:i.size=2) (h5:i.bytes=bytes) (h6:z.cells.size=2) (G:Option Nat) (v:Value) (n:Nat) (olds:List Value) (hv:jT w G v n olds) (ho:olds.length=n*2) (hs:a.eval s=v)
  (gQ:Addr) (c:Nat) (news:List Value) (hx:a.eval x= .slice (some gQ) 1 c) (hn:news.length=2) (hc:∀ (U:Nat) u,news[U]? =some u->w.cell? (gQ.add U)=some u) (wO:∀ u∈news,u.oneCell'=true)
  (b1:n+1<=maxLen) (b2:(n+1)*bytes<=140737488355328)
  (he:e=238) (h:∀ v' w' G',ah G.toList w w'->jT w' G' v' (n+1) (olds++news)->(G'=G∨∃ g,G'=some g/\w.heap.size<=g/\g<w'.heap.size)->wpList P ops Q rest (a.put qD.dst v') w'):wpList P ops Q (qD::rest) a w:=by
 rcases hv with ⟨rfl,rfl,rfl⟩|⟨b,off,cap,rfl,rfl,p1,p2,p3,p4,p5,p6⟩
 ·have eK:olds=[]:=ql2 (by simpa using ho);subst eK;have bA:w.ownsRow w.heap.size e 2 (.slice none 0 0) 0 []:=⟨rfl,.inl ⟨rfl,rfl⟩⟩;refine wpList_append_own w hg s x t uM w.heap.size e i z 2 bytes h1 h2 h3 h4 h5 h6 ab _ 0 [] hs bA gQ 1 c news hx ab hc wO b1 b2 (CP _) λv' w' dk te _=> ?_;obtain⟨e1,e2⟩:=jT.bp he dk;refine h v' w' v'.ownBlock ((ah.refl _ _).grown te (by simp[Value.ownBlock])) e1 (.inr ?_);rcases dk.2 with ⟨_,h0⟩|⟨g,cap,cur,rfl,_⟩
  ·omega
  ·exact⟨g,rfl,e2 g rfl⟩
 ·have O:jT w (some b) (.slice (some ⟨b,off,none⟩) n cap) n olds:= .inr ⟨b,off,cap,rfl,rfl,p1,p2,p3,p4,p5,p6⟩
  refine wpList_append_arg w hg s x t uM e i z 2 bytes h1 h2 h3 h4 h5 h6 ab b off n cap olds hs ho p5 gQ 1 c news hx ab hc wO
   (λhr U hj=>by have:=p4 (n*2+U) ab;rwa [<- Nat.add_assoc]at this) b1 b2 (λhr=> ?_) (λ_ v' w' dk te=> ?_)
  ·obtain⟨x0,x1,rfl⟩:∃ x0 x1,news=[x0,x1]:=by
    match news,hn with
    |[x0,x1],_=>exact⟨x0,x1,rfl⟩
   exact h _ _ (some b) (ah.setCells b _ _) (O.push x0 x1 hr) (.inl rfl)
  ·obtain⟨e1,e2⟩:=jT.bp he dk;refine h v' w' v'.ownBlock ((ah.refl _ _).grown te ao) e1 (.inr ?_);rcases dk.2 with ⟨_,h0⟩|⟨g,cap,cur,rfl,_⟩
   ·omega
   ·exact⟨g,rfl,e2 g rfl⟩
theorem FI {g:Nat} {b:Value} (h:w.heap[g]? =some (.cells #[a,b] t (0,0))):w.cell? ⟨g,0,none⟩=some a/\w.cell? ⟨g,1,none⟩=some b/\w.frozen? ⟨g,0,none⟩=false/\w.frozen? ⟨g,1,none⟩=false:=
 ⟨aE h 0,aE h 1,aI h 0,aI h 1⟩
def cc (w:World) (G:Option Nat) (v:Value) (n k:Nat) (xs:List Value):Prop:=
 (v= .slice none 0 0/\n=0/\G=none)∨∃ b off cap,v= .slice (some ⟨b,off,none⟩) n cap/\G=some b/\n<=cap/\cap<=maxLen/\xs.length=n*k/\
  (∀ U,U<cap*k->(w.cell? ⟨b,off+U,none⟩).isSome=true/\w.frozen? ⟨b,off+U,none⟩=false)/\(∀ U u,xs[U]? =some u->w.cell? ⟨b,off+U,none⟩=some u)/\td w b
theorem cc.but (h:cc w G v n k xs) (hb:ah S w w2) (hn:∀ g,G=some g->g∉S):cc w2 G v n k xs:=by
 rcases h with h|⟨b,off,cap,hv,hG,h1,h2,h3,h4,h5,h6⟩
 ·exact .inl h
 ·refine .inr ⟨b,off,cap,hv,hG,h1,h2,h3,λU hj=> ?_,λU u hu=>hb.af (h5 U u hu) (hn b hG),h6.but hb (hn b hG)⟩;obtain⟨e1,e2⟩:=h4 U hj;obtain⟨u,hu⟩:=Option.isSome_iff_exists.1 e1;exact⟨by rw[hb.af hu (hn b hG)];rfl,by rw[hb.frozen (Aa w _ hu) (hn b hG)];exact e2⟩
theorem cc.kept (h:cc w G v n k xs) (hb:ad w w2):cc w2 G v n k xs:=h.but (.ar (S:=[]) hb) ao
theorem cc.nil (w:World) (k:Nat):cc w none (.slice none 0 0) 0 k []:= .inl ⟨rfl,rfl,rfl⟩
theorem cc.form (h:cc w G v n k xs):∃ A c,v= .slice A n c:=by
 rcases h with ⟨rfl,rfl,_⟩|⟨b,off,cap,rfl,_⟩
 ·exact⟨_,_,rfl⟩
 ·exact⟨_,_,rfl⟩
theorem cc.cells {B:Option Nat} (h:cc w B (.slice A n c) n k xs) (h0:0<n):∃ b off,A=some ⟨b,off,none⟩/\B=some b/\n<=c/\c<=maxLen/\∀ U u,xs[U]? =some u->w.cell? ⟨b,off+U,none⟩=some u:=by
 rcases h with ⟨h1,h2,_⟩|⟨b,off,cap,hv,hG,h1,h2,h3,h4,h5,_⟩
 ·omega
 ·injection hv with e1 e2 e3;subst e3;exact⟨b,off,e1,hG,h1,h2,h5⟩
theorem cc.push (h:cc w (some b) (.slice (some ⟨b,off,none⟩) n cap) n k xs) (news:List Value) (hn:news.length=k) (hc:n+1<=cap):
  cc (w.setCells b (off+n*k) news) (some b) (.slice (some ⟨b,off,none⟩) (n+1) cap) (n+1) k (xs++news):=by
 rcases h with ⟨h,_⟩|⟨nY,qj,kP,hv,hG,h1,h2,h3,h4,h5,h6⟩
 ·cases h
 injection hv with ft cW wM;injection ft with ft;injection ft with e1 e2 _;subst e1 e2 wM;have eu:n*k+k<=cap*k:=by have:=Nat.mul_le_mul_right k hc;rw[Nat.succ_mul]at this;exact this
 have c7:∀ U,U<news.length->(w.cell? ⟨b,off+n*k+U,none⟩).isSome=true:=λU hj=>by
  have:=(h4 (n*k+U) ab).1;rwa [<- Nat.add_assoc]at this
 refine .inr ⟨b,off,cap,rfl,rfl,hc,h2,by simp[h3,hn,Nat.succ_mul],λU hj=> ?_,λU u hu=> ?_,h6.setCells _ _ _⟩
 ·rw[World.frozen?_setCells];exact⟨World.isSome_setCells b _ _ w _ (h4 U hj).1,(h4 U hj).2⟩
 ·rcases R6 U (n*k)with hj|hj
  ·rw[qlZ ab]at hu;rw[World.cell?_setCells_out b _ _ w _ (λ_ _=> .inl (by show off+U<off+n*k;omega))];exact h5 U u hu
  ·rw[List.getElem?_append_right ab,h3]at hu;obtain⟨an,wN⟩:=pi.1 hu;have:=World.cell?_setCells_in b news (off+n*k) w c7 (U-n*k) an;rw[show off+n*k+(U-n*k)=off+U by omega]at this;rw[this];exact congrArg some wN
theorem cc.bp (he:e=238) (h:w.ownsRow base e k v n xs):cc w v.ownBlock v n k xs/\∀ g,v.ownBlock=some g->base<=g/\g<w.heap.size:=by
 refine⟨?_,h.lt⟩;rcases h.2 with ⟨rfl,rfl⟩|⟨g,cap,cur,rfl,hb,hg,h1,h2,h3,h4⟩
 ·exact .inl ⟨rfl,rfl,rfl⟩
 ·refine .inr ⟨g,0,cap,rfl,rfl,h1,h2,h.1,λU hj=>⟨?_,?_⟩,λU u hu=> ?_,⟨cur,by rw[hg,he]⟩⟩
  ·rw[aE hg,Nat.zero_add,Ht ab];rfl
  ·exact aI hg _
  ·have hj:U<n*k:=by have:=(bg hu);rw[h.1]at this;exact this
   rw[Nat.zero_add,h.cellAt U hj,hu]
structure Fr (P:TypeId->Prop) (w w2:World):Prop where
 os:w2.os=w.os
 tape:w2.tape=w.tape
 output:w2.output=w.output
 size:w.heap.size<=w2.heap.size
 block:∀ (b:Nat) (cur:Array Value) (e:TypeId),w.heap[b]? =some (.cells cur e (0,0))->P e->w2.heap[b]? =some (.cells cur e (0,0))
theorem Fr.ar (h:ad w w2):Fr P w w2:=⟨h.os,h.tape,h.output,h.size,λb cur e hb _=>h.heap hb⟩
theorem Fr.trans {a b c:World} (h:Fr P a b) (k:Fr P b c):Fr P a c:=
 ⟨k.os.trans h.os,k.tape.trans h.tape,k.output.trans h.output,qcg h.size k.size,λi cur e hi hp=>k.block i cur e (h.block i cur e hi hp) hp⟩
theorem Fr.gn (h:ah S w w2) (hS:∀ s∈S,∀ (cur:Array Value) (e:TypeId),w.heap[s]? =some (.cells cur e (0,0))->¬P e):Fr P w w2:=
 ⟨h.os,h.tape,h.output,h.size,λb cur e hb hp=>h.heap hb λhs=>hS b hs cur e hb hp⟩
theorem Fr.mono {Q:TypeId->Prop} (h:Fr P w w2) (o3:∀ e,Q e->P e):Fr Q w w2:=⟨h.os,h.tape,h.output,h.size,λb cur e hb hp=>h.block b cur e hb (o3 e hp)⟩
def Rw {α:Type} (w:World) (e:TypeId) (k:Nat) (f:α->List Value) (v:Value) (l:List α):Prop:=
 ∃ A c,v= .slice A l.length c/\l.length<=c/\c<=maxLen/\(A=none->l=[]/\c=0)/\
  (∀ p,A=some p->∃ b off cur,p=⟨b,off,none⟩/\w.heap[b]? =some (.cells cur e (0,0))/\∀ i a,l[i]? =some a->∀ U u,(f a)[U]? =some u->cur[off+i*k+U]? =some u)
section
variable {α:Type} {w w2:World} {e:TypeId} {k:Nat} {f:α->List Value} {v:Value} {l:List α}
theorem Rw.fr {P:TypeId->Prop} (h:Rw w e k f v l) (hf:Fr P w w2) (hp:P e):Rw w2 e k f v l:=by
 obtain⟨A,c,rfl,h1,h2,h3,h4⟩:=h;refine⟨A,c,rfl,h1,h2,h3,λp hl=> ?_⟩;obtain⟨b,off,cur,rfl,hb,hc⟩:=h4 p hl;exact⟨b,off,cur,rfl,hf.block b cur e hb hp,hc⟩
theorem Rw.kept (h:Rw w e k f v l) (hk:ad w w2):Rw w2 e k f v l:=h.fr (P:=λ_=>True) (.ar hk) trivial
theorem Rw.nil (w:World):Rw w e k f (.slice none 0 0) ([]:List α):=⟨none,0,rfl,ao,ak,λ_=>⟨rfl,rfl⟩,λp h=>by cases h⟩
theorem Rw.form (h:Rw w e k f v l):∃ A c,v= .slice A l.length c/\l.length<=c/\c<=9223372036854775807:=by
 obtain⟨A,c,rfl,h1,h2,h3,h4⟩:=h;exact⟨A,c,rfl,h1,by unfold maxLen at h2;exact h2⟩
theorem Rw.af {A:Option Addr} {n c:Nat} (h:Rw w e k f (.slice A n c) l) {i:Nat} {a:α} (hi:l[i]? =some a):
  ∃ b off,A=some ⟨b,off,none⟩/\b<w.heap.size/\∀ U u,(f a)[U]? =some u->w.cell? ⟨b,off+i*k+U,none⟩=some u:=by
 obtain⟨A',c',hv,h1,h2,h3,h4⟩:=h;injection hv with e1 e2 e3;subst e1
 cases A with
 |none=>rw[(h3 rfl).1]at hi;simp at hi
 |some p=>
 obtain⟨b,off,cur,rfl,hb,hc⟩:=h4 p rfl;exact⟨b,off,rfl,(aQ hb),λU u hu=>by rw[aE hb];exact hc i a hi U u hu⟩
theorem eF (hf:∀ a,(f a).length=k):∀ l:List α,(l.flatMap f).length=l.length*k
 |[]=>ao
 |a::t=>by rw[List.flatMap_cons,zH,hf,eF hf t,List.length_cons,Nat.succ_mul];omega
theorem rV (hf:∀ a,(f a).length=k):∀ (l:List α) (i:Nat) (a:α),l[i]? =some a->∀ U u,(f a)[U]? =some u->(l.flatMap f)[i*k+U]? =some u
 |[],i,a,h,_,_,_=>by simp at h
 |b::t,0,a,h,U,u,hu=>by
  simp only[List.getElem?_cons_zero,Option.some.injEq]at h;subst h;have hj:=(bg hu);rw[List.flatMap_cons,qlZ ab,Nat.zero_mul,Nat.zero_add,hu]
 |b::t,i+1,a,h,U,u,hu=>by
  have:=rV hf t i a (by simpa using h) U u hu;rw[List.flatMap_cons,List.getElem?_append_right (by rw[hf,Nat.succ_mul];omega),hf,<- this];congr 1
  rw[Nat.succ_mul];omega
theorem Rw.bp {base n:Nat} (h:w.ownsRow base e k v n (l.flatMap f)) (hf:∀ a,(f a).length=k) (hk:0<k):Rw w e k f v l:=by
 have hl:l.length=n:=by
  have:=h.1;rw[eF hf]at this;exact Nat.eq_of_mul_eq_mul_right hk this
 subst hl;rcases h.2 with ⟨rfl,h0⟩|⟨g,cap,cur,rfl,hb,hg,h1,h2,h3,h4⟩
 ·have:l=[]:=ql2 h0;subst this;exact Rw.nil w
 ·refine⟨_,cap,rfl,h1,h2,(λh=>by cases h),λp hp=>⟨g,0,cur,by injection hp with hp;exact hp.symm,hg,λi a hi U u hu=> ?_⟩⟩
  have hc:=h.cellAt (i*k+U) (by
   have h5:=rV hf l i a hi U u hu;have:=(bg h5);rwa [eF hf]at this)
  rw[rV hf l i a hi U u hu,aE hg]at hc;rw[Nat.zero_add];exact hc
theorem Rw.sub {A:Option Addr} {n c:Nat} (h:Rw w e k f (.slice A n c) l) (i m d:Nat) (kk:i+m<=n) (o4:m<=d) (hU:d<=maxLen) (hm:0<m):
  ∃ b off,A=some ⟨b,off,none⟩/\Rw w e k f (.slice (some ⟨b,off+i*k,none⟩) m d) ((l.drop i).take m):=by
 obtain⟨A',c',hv,h1,h2,h3,h4⟩:=h;injection hv with e1 e2 e3;subst e1
 cases A with
 |none=>have:=(h3 rfl).1;subst this;simp at e2;omega
 |some p=>
 obtain⟨b,off,cur,rfl,hb,hc⟩:=h4 p rfl;have hlen:((l.drop i).take m).length=m:=by rw[qcd,ql1];omega
 refine⟨b,off,rfl,some ⟨b,off+i*k,none⟩,d,by rw[hlen],ab,hU,(λh=>by cases h),λp hp=>⟨b,off+i*k,cur,by injection hp with hp;exact hp.symm,hb,λU a hj q u hu=> ?_⟩⟩;have s5:U<m:=by have:=(bg hj);omega
 rw[qlY s5,List.getElem?_drop]at hj;have:=hc (i+U) a hj q u hu;rw[Nat.add_mul]at this;rw[show off+i*k+U*k+q=off+(i*k+U*k)+q by omega];exact this
end
structure aD where
 key:ByteArray
 n:Int
 s:Int
def aS (d:aD):List Value:=[.string d.key,.int .i64 d.n,.int .i64 d.s]
structure ax where
 key:ByteArray
 val:ByteArray
 gone:Bool
 n:Int
 s:Int
 pa:Option Addr
 pn:Nat
 pc:Nat
 ds:List aD
def a8 (v:ax):List Value:=[.string v.key,.string v.val,.bool v.gone,.int .i64 v.n,.int .i64 v.s,.slice v.pa v.pn v.pc]
def cd (s:ByteArray):List Value:=[.string s]
def qk (p:Nat):List Value:=[.pointer (some ⟨p,0,none⟩)]
structure cf where
 id:Int
 uN:Option Addr
 gR:Nat
 dz:Nat
 ds:List aD
def gS (p:cf):List Value:=[.int .i64 p.id,.slice p.uN p.gR p.dz]
def bZ (r:Rg):List Value:=[.string r.1,.string r.2]
def cJ (x:Int):List Value:=[.int .i64 x]
theorem gT:∀ a,(aS a).length=3:=λ_=>rfl
theorem J1:∀ (l:List aD),∀ u∈l.flatMap aS,u.oneCell'=true:=λl u hu=>by
 obtain⟨a,_,ha⟩:=List.mem_flatMap.1 hu;simp only[aS,KX,List.not_mem_nil,or_false]at ha;rcases ha with rfl|rfl|rfl|rfl|rfl|rfl <;>rfl
theorem gp:∀ a,(a8 a).length=6:=λ_=>rfl
theorem uO:∀ (l:List ax),∀ u∈l.flatMap a8,u.oneCell'=true:=λl u hu=>by
 obtain⟨a,_,ha⟩:=List.mem_flatMap.1 hu;simp only[a8,KX,List.not_mem_nil,or_false]at ha;rcases ha with rfl|rfl|rfl|rfl|rfl|rfl <;>rfl
theorem jU:∀ a,(cd a).length=1:=λ_=>rfl
theorem qaR:∀ (l:List ByteArray),∀ u∈l.flatMap cd,u.oneCell'=true:=λl u hu=>by
 obtain⟨a,_,ha⟩:=List.mem_flatMap.1 hu;simp only[cd,KX,List.not_mem_nil,or_false]at ha;rcases ha with rfl|rfl|rfl|rfl|rfl|rfl <;>rfl
theorem FJ:∀ a,(gS a).length=2:=λ_=>rfl
theorem QE:∀ (l:List cf),∀ u∈l.flatMap gS,u.oneCell'=true:=λl u hu=>by
 obtain⟨a,_,ha⟩:=List.mem_flatMap.1 hu;simp only[gS,KX,List.not_mem_nil,or_false]at ha;rcases ha with rfl|rfl|rfl|rfl|rfl|rfl <;>rfl
theorem nZ:∀ a,(bZ a).length=2:=λ_=>rfl
theorem J2:∀ (l:List Rg),∀ u∈l.flatMap bZ,u.oneCell'=true:=λl u hu=>by
 obtain⟨a,_,ha⟩:=List.mem_flatMap.1 hu;simp only[bZ,KX,List.not_mem_nil,or_false]at ha;rcases ha with rfl|rfl|rfl|rfl|rfl|rfl <;>rfl
theorem J3:∀ a,(cJ a).length=1:=λ_=>rfl
theorem QF:∀ (l:List Int),∀ u∈l.flatMap cJ,u.oneCell'=true:=λl u hu=>by
 obtain⟨a,_,ha⟩:=List.mem_flatMap.1 hu;simp only[cJ,KX,List.not_mem_nil,or_false]at ha;rcases ha with rfl|rfl|rfl|rfl|rfl|rfl <;>rfl
theorem kQ (h:∀ U u,[x,y,z][U]? =some u->w.cell? ⟨b,p+U,none⟩=some u):
  w.cell? ⟨b,p,none⟩=some x/\w.cell? ⟨b,p+1,none⟩=some y/\w.cell? ⟨b,p+2,none⟩=some z:=⟨h 0 _ rfl,h 1 _ rfl,h 2 _ rfl⟩
theorem o5 {x2 y2 z2:Value} (h:∀ U u,[x,y,z,x2,y2,z2][U]? =some u->w.cell? ⟨b,p+U,none⟩=some u):
  w.cell? ⟨b,p,none⟩=some x/\w.cell? ⟨b,p+1,none⟩=some y/\w.cell? ⟨b,p+2,none⟩=some z/\w.cell? ⟨b,p+3,none⟩=some x2/\w.cell? ⟨b,p+4,none⟩=some y2/\w.cell? ⟨b,p+5,none⟩=some z2:=⟨h 0 _ rfl,h 1 _ rfl,h 2 _ rfl,h 3 _ rfl,h 4 _ rfl,h 5 _ rfl⟩
theorem iU (h:∀ U u,[x][U]? =some u->w.cell? ⟨b,p+U,none⟩=some u):w.cell? ⟨b,p,none⟩=some x:=h 0 _ rfl
def fI (S:List Nat) {α:Type} (w:World) (g:Nat) (cb:Array Value) (arg:α->Value) (l:List α) (Q:α->Bool->Prop):Prop:=
 (∀ args w,(callFunc g args).run prog w= .ok (.enter g args) w)/\∀ W,ah S w W->∀ a∈l,Calls prog g (#[arg a]++cb) W λe W'=>∃ b,e= .returned (.bool b)/\Q a b/\ad W W'
def wP {α:Type} (l:List α) (Q:α->Bool->Prop) (r:Int):Prop:=(r= -1/\∀ a∈l,Q a false)∨∃ (i:Nat) (a:α),r=i/\l[i]? =some a/\Q a true/\∀ U a,U<i->l[U]? =some a->Q a false
theorem FK {p:Prop} (h:p:=by
  obtain⟨A,c,rfl,bl,bQ⟩:=hv.form;obtain⟨n,hn⟩:=eqQ l.length;rw[hn]at hv bl⊢;have HV:=aa hv;obtain⟨lO,hq⟩:=hq;have HQ:=aa hq;have HN:=aa hn;clear hv hq hn;go_wp2;go_loopw [8] (λiv wr=>∃ U:Nat,U<=n/\iv= .int .i64 U/\ad w wr/\ag (∀ i a,i<U->l[i]? =some a->Q a false)) (λiv _=>n-(intOf iv).toNat)
  case atStart=>exact⟨0,ab,rfl,al,λi a hi=>ab⟩
  case round=>
   obtain⟨U,hj,rfl,kr,b8⟩:=hrel;by_cases an:U<n
   ·obtain⟨a,ha⟩:=exQ l U (by rw[HN.o];exact an);have HA:=aa ha;obtain⟨b,off,rfl,hb,hc⟩:=HV.o.af ha;have HT:=aa (HQ.o wr (.ar kr) a (zV ha))
    have HX:ag (∀ x,x=a->Q x false->∀ i a,i<U+1->l[i]? =some a->Q a false):=λx hx h i bI hi kR=>by
     rcases R6 i U with g|g
     ·exact b8.o i bI g kR
     ·obtain rfl:i=U:=ab;rw[HA.o]at kR;injection kR with kR;rw[<- kR,<- hx];exact h
    have HY:ag (Q a true->wP l Q U):=λh=> .inr ⟨U,a,rfl,HA.o,h,b8.o⟩;first|(obtain⟨x0,x1,x2⟩:=a;obtain⟨c0,c1,c2⟩:=kQ λU u hu=>kr.af (hc U u hu))|(obtain⟨x0,x1,x2,x3,x4,x5,x6,x7,x8⟩:=a;obtain⟨c0,c1,c2,c3,c4,c5⟩:=o5 λU u hu=>kr.af (hc U u hu))|(skip;obtain c0:=iU λU u hu=>kr.af (hc U u hu))|(skip;obtain c0:=iU λU u hu=>kr.af (hc U u hu))
    (try simp only[Nat.mul_one]at c0)
    clear hc ha HA b8;go_wp2_with fail
    refine HT.o.mono ?_;rintro e w2 ⟨b,rfl,mN,k2⟩;have mO:=aa mN;clear mN;have K2:=kr.call k2
    cases b
    ·go_wp2;go_roundw
     case rel=>exact⟨U+1,ab,aA,K2,HX.o _ rfl mO.o⟩
     case measure=>exact dY
    ·go_wp2;go_ret;exact⟨U,rfl,HY.o mO.o,K2⟩
   ·obtain rfl:U=n:=ab;go_wp2;go_ret
    exact⟨-1,rfl,.inl ⟨rfl,λa ha=>by
     obtain⟨i,hi⟩:=qcl.1 ha;exact b8.o i a (by have:=(bg hi);rw[HN.o]at this;exact this) hi⟩,kr⟩):p:=h
theorem J4 (v:Value) (l:List aD) (g:Nat) (cb:Array Value) (Q:aD->Bool->Prop) (w:World) (hv:Rw w 60 3 aS v l) (S:List Nat) (hq:fI S w g cb (λd=> .agg #[.string d.key,.int .i64 d.n,.int .i64 d.s]) l Q):
  Calls prog 165 #[v,.func (.func g) #[] cb] w λe w'=>∃ r:Int,e= .returned (.int .i64 r)/\wP l Q r/\ad w w':=FK
theorem FL (v:Value) (l:List ax) (g:Nat) (cb:Array Value) (Q:ax->Bool->Prop) (w:World) (hv:Rw w 48 6 a8 v l) (S:List Nat) (hq:fI S w g cb (λv=> .agg #[.string v.key,.string v.val,.bool v.gone,.int .i64 v.n,.int .i64 v.s,.slice v.pa v.pn v.pc]) l Q):
  Calls prog 167 #[v,.func (.func g) #[] cb] w λe w'=>∃ r:Int,e= .returned (.int .i64 r)/\wP l Q r/\ad w w':=FK
theorem QG (v:Value) (l:List ByteArray) (g:Nat) (cb:Array Value) (Q:ByteArray->Bool->Prop) (w:World) (hv:Rw w 9 1 cd v l) (S:List Nat) (hq:fI S w g cb (λs=> .string s) l Q):
  Calls prog 218 #[v,.func (.func g) #[] cb] w λe w'=>∃ r:Int,e= .returned (.int .i64 r)/\wP l Q r/\ad w w':=FK
theorem qaS (v:Value) (l:List Nat) (g:Nat) (cb:Array Value) (Q:Nat->Bool->Prop) (w:World) (hv:Rw w 83 1 qk v l) (S:List Nat) (hq:fI S w g cb (λp=> .pointer (some ⟨p,0,none⟩)) l Q):
  Calls prog 190 #[v,.func (.func g) #[] cb] w λe w'=>∃ r:Int,e= .returned (.int .i64 r)/\wP l Q r/\ad w w':=FK
theorem FM {p:Prop} (h:p:=by
  have HV:=aa hv;have HQ:=aa hq;clear hv hq;go_in;go_wp2_with fail
  (first|refine(J4 v l g cb Q _ HV.o S HQ.o).mono ?_|refine(FL v l g cb Q _ HV.o S HQ.o).mono ?_|refine(QG v l g cb Q _ HV.o S HQ.o).mono ?_|refine(qaS v l g cb Q _ HV.o S HQ.o).mono ?_)
  rintro e w2 ⟨r,rfl,hr,k2⟩;have HR:=aa hr;clear hr;have hb:∃ b:Bool,decide (0<=r)=b:=⟨_,rfl⟩;go_wp2;go_ret;refine⟨decide (0<=r),rfl,λh=> ?_,λh=> ?_,k2⟩
  ·rcases HR.o with ⟨rfl,_⟩|⟨i,a,rfl,hi,ha,_⟩
   ·simp at h
   ·exact⟨a,zV hi,ha⟩
  ·rcases HR.o with ⟨rfl,h2⟩|⟨i,a,rfl,hi,ha,_⟩
   ·exact h2
   ·simp at h):p:=h
theorem qaT (v:Value) (l:List aD) (g:Nat) (cb:Array Value) (Q:aD->Bool->Prop) (w:World) (hv:Rw w 60 3 aS v l) (S:List Nat) (hq:fI S w g cb (λd=> .agg #[.string d.key,.int .i64 d.n,.int .i64 d.s]) l Q):
  Calls prog 233 #[v,.func (.func g) #[] cb] w λe w'=>∃ b:Bool,e= .returned (.bool b)/\(b=true->∃ a∈l,Q a true)/\(b=false->∀ a∈l,Q a false)/\ad w w':=FM
theorem qaU (v:Value) (l:List ax) (g:Nat) (cb:Array Value) (Q:ax->Bool->Prop) (w:World) (hv:Rw w 48 6 a8 v l) (S:List Nat) (hq:fI S w g cb (λv=> .agg #[.string v.key,.string v.val,.bool v.gone,.int .i64 v.n,.int .i64 v.s,.slice v.pa v.pn v.pc]) l Q):
  Calls prog 241 #[v,.func (.func g) #[] cb] w λe w'=>∃ b:Bool,e= .returned (.bool b)/\(b=true->∃ a∈l,Q a true)/\(b=false->∀ a∈l,Q a false)/\ad w w':=FM
theorem qaV (v:Value) (l:List ByteArray) (g:Nat) (cb:Array Value) (Q:ByteArray->Bool->Prop) (w:World) (hv:Rw w 9 1 cd v l) (S:List Nat) (hq:fI S w g cb (λs=> .string s) l Q):
  Calls prog 155 #[v,.func (.func g) #[] cb] w λe w'=>∃ b:Bool,e= .returned (.bool b)/\(b=true->∃ a∈l,Q a true)/\(b=false->∀ a∈l,Q a false)/\ad w w':=FM
theorem qaW (v:Value) (l:List Nat) (g:Nat) (cb:Array Value) (Q:Nat->Bool->Prop) (w:World) (hv:Rw w 83 1 qk v l) (S:List Nat) (hq:fI S w g cb (λp=> .pointer (some ⟨p,0,none⟩)) l Q):
  Calls prog 118 #[v,.func (.func g) #[] cb] w λe w'=>∃ b:Bool,e= .returned (.bool b)/\(b=true->∃ a∈l,Q a true)/\(b=false->∀ a∈l,Q a false)/\ad w w':=FM
end Go.Proofs.YtehaoggjlciobaaGreat

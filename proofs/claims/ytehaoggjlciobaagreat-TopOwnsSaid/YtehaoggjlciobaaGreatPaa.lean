/- Part 1 of 53. -/
import Derived.Test.YtehaoggjlciobaaGreatRows
import Derived.WalkKit
import Derived.WalkSpells
import Derived.WalkLawsBesides
import Derived.Below
import Derived.Lib.Hide
import Derived.Laws.Strings
set_option linter.all false
set_option maxRecDepth 20000
set_option maxHeartbeats 16000000
namespace Go.Proofs.YtehaoggjlciobaaGreat
open Go.RowKit
def qci:=@Array.getElem?_eq_getElem
def qch:=@Array.getElem?_eq_some_iff
def R7:=@Exists.intro
def ql2:=@List.eq_nil_of_length_eq_zero
def qlZ:=@List.getElem?_append_left
def jc:=@List.getElem?_eq_getElem
def pi:=@List.getElem?_eq_some_iff
def qlY:=@List.getElem?_take_of_lt
def qC:=@List.length_append
def ql1:=@List.length_drop
def qcd:=@List.length_take
def Pv:=@List.mem_append
def KX:=@List.mem_cons
def qce:=@List.mem_cons_of_mem
def qcl:=@List.mem_iff_getElem?
def zV:=@List.mem_of_getElem?
def At:=@List.mem_singleton
def qcc:=@List.take_of_length_le
def QI:=@List.take_succ_eq_append_getElem
def CP:=@Nat.le_refl
def qcg:=@Nat.le_trans
def R4:=@Nat.lt_of_lt_of_le
def R6:=@Nat.lt_or_ge
def Aa:=@World.block_lt_of_cell?
def qcb:=@World.ownsRow_nil
def KV:=@bodyPost_ret
def ql4:=@decide_eq_false
def ql3:=@decide_eq_true
def l5:=@heap_alloc_new
def Ok:=@heap_setCell_same
def ql0:=@info_parts
def qck:=@of_decide_eq_true
def ad (w w2:World):Prop:=Below w.heap.size w w2
theorem ad.below {w w2:World} (h:ad w w2):Below w.heap.size w w2:=h
theorem ad.refl (w:World):ad w w:=Below.refl _ _
theorem ad.size {w w2:World} (h:ad w w2):w.heap.size<=w2.heap.size:=Below.size h
theorem ad.alloc {w w2:World} (h:ad w w2) (o:Obj):ad w (w2.alloc o):=Below.alloc h h.size o
theorem ad.setCell {w w2:World} (h:ad w w2) {p:Addr} (hp:w.heap.size<=p.block) (u:Value):ad w (w2.setCell p u):=Below.setCell h hp u
theorem ad.drew {w w2:World} (h:ad w w2):ad w w2.drew:=Below.drew h
theorem ad.drewN {w w2:World} (h:ad w w2) (n:Nat):ad w (w2.drewN n):=⟨h.os,h.tape,h.output,h.size,h.block⟩
theorem ad.call {w w1 w2:World} (h:ad w w1) (k:ad w1 w2):ad w w2:=Below.trans h (Below.mono k h.size)
theorem ad.cell {w w2:World} (h:ad w w2):∀ b o,b<w.heap.size->w2.cell? ⟨b,o,none⟩=w.cell? ⟨b,o,none⟩:=λb o hb=>Below.cell (p:=⟨b,o,none⟩) h hb
theorem ad.frozen {w w2:World} (h:ad w w2):∀ b o,b<w.heap.size->w2.frozen? ⟨b,o,none⟩=w.frozen? ⟨b,o,none⟩:=λb o hb=>Below.frozen (p:=⟨b,o,none⟩) h hb
theorem ad.af {w w2:World} (h:ad w w2) {p:Addr} {v:Value} (hc:w.cell? p=some v):w2.cell? p=some v:=by
 rw[Below.cell h (Aa w _ hc)];exact hc
theorem ad.grown {w W w3:World} {row:Option Nat} (h:ad w W) (hg:W.grownBy w3 row) (hr:∀ g,row=some g->w.heap.size<=g):ad w w3:=Below.grown h hg h.size hr
theorem BK (w:World) (e:TypeId) (aU:List Value) (n size:Nat) (h:aU.length=n*size) (hn:n<=maxLen):
  (w.alloc (.cells aU.toArray e)).ownsRow w.heap.size e size (.slice (some ⟨w.heap.size,0,none⟩) n n) n aU:=
 ⟨h,.inr ⟨w.heap.size,n,aU.toArray,rfl,CP _,l5 w _,CP _,hn,by simpa using h,by rw[<- h];simp⟩⟩
structure ah (S:List Nat) (w w2:World):Prop where
 os:w2.os=w.os
 tape:w2.tape=w.tape
 output:w2.output=w.output
 size:w.heap.size<=w2.heap.size
 block:∀ k,k<w.heap.size->k∉S->w2.heap[k]? =w.heap[k]?
theorem ah.refl (S:List Nat) (w:World):ah S w w:=⟨rfl,rfl,rfl,CP _,λ_ _ _=>rfl⟩
theorem ah.trans {S:List Nat} {a b c:World} (h:ah S a b) (k:ah S b c):ah S a c:=
 ⟨k.os.trans h.os,k.tape.trans h.tape,k.output.trans h.output,qcg h.size k.size,λi hi hn=>(k.block i (R4 hi h.size) hn).trans (h.block i hi hn)⟩
theorem ah.drew {S:List Nat} {a b:World} (h:ah S a b):ah S a b.drew:=⟨h.os,h.tape,h.output,h.size,h.block⟩
theorem ah.drewN {S:List Nat} {a b:World} (h:ah S a b) (n:Nat):ah S a (b.drewN n):=⟨h.os,h.tape,h.output,h.size,h.block⟩
theorem ah.ar {S:List Nat} {a b:World} (h:ad a b):ah S a b:=⟨h.os,h.tape,h.output,h.size,λk hk _=>h.block k hk⟩
theorem ah.mono {S T:List Nat} {a b:World} (h:ah S a b) (hS:∀ x∈S,x∈T):ah T a b:=⟨h.os,h.tape,h.output,h.size,λk hk hn=>h.block k hk λhx=>hn (hS k hx)⟩
theorem ah.alloc {S:List Nat} {a b:World} (h:ah S a b) (o:Obj):ah S a (b.alloc o):=h.trans (.ar ((ad.refl b).alloc o))
theorem ah.setCell {S:List Nat} {a b:World} (h:ah S a b) {p:Addr} (hp:p.block∈S∨a.heap.size<=p.block) (u:Value):ah S a (b.setCell p u):=
 ⟨h.os,h.tape,h.output,by simpa [World.setCell]using h.size,λk hk hn=>(Below.heap_setCell b p u k (by
  rintro rfl;rcases hp with hp|hp
  ·exact hn hp
  ·omega)).trans (h.block k hk hn)⟩
theorem ah.grown {S:List Nat} {a b c:World} {row:Option Nat} (h:ah S a b) (hg:b.grownBy c row) (hr:∀ g,row=some g->g∈S∨a.heap.size<=g):ah S a c:=
 ⟨hg.os.trans h.os,hg.tape.trans h.tape,hg.output.trans h.output,qcg h.size hg.size,λk hk hn=>(hg.block k (R4 hk h.size) (by
  rintro e;rcases hr k e.symm with h1|h1
  ·exact hn h1
  ·omega)).trans (h.block k hk hn)⟩
theorem ah.af {S:List Nat} {w w2:World} (h:ah S w w2) {p:Addr} {v:Value} (hc:w.cell? p=some v) (hn:p.block∉S):w2.cell? p=some v:=by
 rw[World.cell?_of_block (h.block p.block (Aa w _ hc) hn)];exact hc
theorem ah.frozen {S:List Nat} {w w2:World} (h:ah S w w2) {p:Addr} (hl:p.block<w.heap.size) (hn:p.block∉S):w2.frozen? p=w.frozen? p:=by
 unfold World.frozen?;rw[h.block p.block hl hn]
theorem ah.heap {S:List Nat} {w w2:World} (h:ah S w w2) {k:Nat} {o:Obj} (hc:w.heap[k]? =some o) (hn:k∉S):w2.heap[k]? =some o:=by
 rw[h.block k (qch.1 hc).1 hn];exact hc
theorem ad.heap {w w2:World} (h:ad w w2) {k:Nat} {o:Obj} (hc:w.heap[k]? =some o):w2.heap[k]? =some o:=by
 rw[h.block k (qch.1 hc).1];exact hc
theorem ad.but {S:List Nat} {a b c:World} (h:ad a b) (k:ah S b c) (hS:∀ x∈S,a.heap.size<=x):ad a c:=
 ⟨k.os.trans h.os,k.tape.trans h.tape,k.output.trans h.output,qcg h.size k.size,λi hi=>(k.block i (R4 hi h.size) (λhx=>by have:=hS i hx;omega)).trans (h.block i hi)⟩
theorem ah.kept {a b:World} (h:ah [] a b):ad a b:=⟨h.os,h.tape,h.output,h.size,λk hk=>h.block k hk (by simp)⟩
theorem yZ {a b:Bool} (h:a=b):Ending.returned (.bool a)= .returned (.bool b):=by rw[h]
theorem ww (a c:Int) (hc:0<c): -c<a.tmod c/\a.tmod c<c:=by
 have h1:=Int.tmod_lt_of_pos a hc;have h2:=Int.tmod_lt_of_pos (-a) hc;rw[Int.neg_tmod]at h2;omega
theorem qai (n c:Int) (h0:0<=c) (h1:c<9223372036854775808):0<=bits .and .i64 n c/\bits .and .i64 n c<=c:=by
 obtain⟨m,rfl⟩:=Int.eq_ofNat_of_zero_le h0;have hm:m<9223372036854775808:=by omega
 have h2:(BitVec.ofInt 64 (m:Int)).toNat=m:=by
  rw[BitVec.ofInt_natCast,BitVec.toNat_ofNat];exact Nat.mod_eq_of_lt (by omega)
 show 0<=IntKind.i64.wrap ((BitVec.ofInt 64 n &&& BitVec.ofInt 64 (m:Int)).toNat:Int)/\IntKind.i64.wrap ((BitVec.ofInt 64 n &&& BitVec.ofInt 64 (m:Int)).toNat:Int)<=(m:Int)
 rw[BitVec.toNat_and,h2,IntKind.wrap_i64];have h3:(BitVec.ofInt 64 n).toNat &&& m<=m:=Nat.and_le_right;omega
theorem al {w w2:World} (h:ad w w2:=by repeat(first|exact ad.refl _|assumption|(refine ad.alloc ?_ _)|(refine ad.setCell ?_ (by first|omega|(simp;omega)|simp) _)|refine ad.drew ?_|refine ad.drewN ?_ _|(apply ad.call;rotate_left;assumption))):ad w w2:=h
theorem hD {S:List Nat} {w w2:World} (h:ah S w w2:=by repeat(first|exact ah.refl _ _|assumption|(refine ah.alloc ?_ _)|(refine ah.setCell ?_ (by first|(right;omega)|(right;simp;omega)|(left;simp)) _)|refine ah.drew ?_|refine ah.drewN ?_ _|(apply ah.trans;rotate_left;assumption))):ah S w w2:=h
theorem ab {p:Prop} (h:p:=by omega):p:=h
theorem ak {p:Prop} (h:p:=by decide):p:=h
theorem ao {p:Prop} (h:p:=by simp):p:=h
theorem av {p:Prop} (h:p:=by kernel_rfl):p:=h
theorem bk {p:Prop} (h:p:=by assumption):p:=h
theorem aA {p:Prop} (h:p:=by go_num):p:=h
def ag (p:Prop):Prop:=p
theorem ag.o {p:Prop} (h:ag p):p:=h
theorem aa {p:Prop} (h:p):ag p:=h
theorem aQ {α:Type} {xs:Array α} {i:Nat} {a:α} (h:xs[i]? =some a):i<xs.size:=(qch.1 h).1
theorem bg {α:Type} {xs:List α} {i:Nat} {a:α} (h:xs[i]? =some a):i<xs.length:=(pi.1 h).1
def ch (c:Nat):ByteArray:=⟨#[UInt8.ofNat c]⟩
def nil:ByteArray:=⟨#[]⟩
def hv (s:ByteArray):Int:=match s.toList with
 |[]=> -1
 |x::_=>(x.toNat:Int)
theorem PN (a:Array UInt8):(⟨a⟩:ByteArray).toList=a.toList:=by
 have:∀ (s:ByteArray),s.toList=s.data.toList:=λs=>ByteArray.toList_eq s;rw[this]
theorem oR (c:Nat):(ch c).toList=[UInt8.ofNat c]:=by unfold ch;rw[PN]
theorem nU:nil.toList=[]:=by unfold nil;rw[PN]
theorem JA (s:ByteArray): -1<=hv s:=by
 unfold hv;split <;>omega
theorem JB (s:ByteArray):Op.bytesLess s.toList nil.toList=false:=by
 rw[nU]
 cases s.toList <;>rfl
theorem uB (s:ByteArray) {c:Nat} (hc:c<256):Op.bytesLess s.toList (ch c).toList=decide (hv s<c):=by
 rw[oR];unfold hv
 cases h:s.toList with
 |nil=>simp[Op.bytesLess];omega
 |cons x t=>
  have e:Op.bytesLess t []=false:=by cases t <;>rfl
  simp only[Op.bytesLess,e,Bool.and_false,Bool.or_false];have:(UInt8.ofNat c).toNat=c:=by simp;omega
  rw[Bool.eq_iff_iff,decide_eq_true_iff,decide_eq_true_iff,UInt8.lt_iff_toNat_lt,this];omega
theorem kg {c:Nat} (hc:c<256):hv (ch c)=c:=by
 unfold hv;rw[oR];simp;omega
theorem Fm:hv nil= -1:=by unfold hv;rw[nU]
def g (es:List Nat) (i:Nat):Nat:=es[i]?.getD 0
def fr (es:List Nat) (i:Nat):ByteArray:=if i=0 then nil else ch (g es (i-1))
def to (es:List Nat) (i:Nat):ByteArray:=if i<es.length then ch (g es i)else nil
structure Up (es:List Nat):Prop where
 cV:es.length<=6
 gN:∀ i,i<es.length->97<=g es i/\g es i<=122
 up:∀ i U,i<U->U<es.length->g es i<g es U
def hasB (f t k:ByteArray):Bool:= !Op.bytesLess k.toList f.toList&&(t.toList.isEmpty||Op.bytesLess k.toList t.toList)
def bV:List Nat->Int->Nat
 |[],_=>0
 |e::t,h=>if h<e then 0 else bV t h+1
theorem nV:∀ (es:List Nat) (h:Int),bV es h<=es.length
 |[],_=>CP _
 |e::t,h=>by
  unfold bV;split
  ·omega
  ·have:=nV t h;simp;omega
theorem PO (e:Nat) (t:List Nat) (i:Nat):g (e::t) (i+1)=g t i:=by simp[g]
theorem PQ:∀ (es:List Nat) (h:Int) (i:Nat),i<bV es h->(g es i:Int)<=h
 |[],_,_,hi=>by simp[bV]at hi
 |e::t,h,i,hi=>by
  unfold bV at hi;split at hi
  ·omega
  ·rename_i hn
   cases i with
   |zero=>simp[g];omega
   |succ i=>rw[PO];exact PQ t h i ab
theorem PR:∀ (es:List Nat) (h:Int),bV es h<es.length->h<g es (bV es h)
 |[],_,hi=>by simp at hi
 |e::t,h,hi=>by
  unfold bV at hi⊢;split
  ·simp[g];assumption
  ·rename_i hn
   rw[if_neg hn]at hi;rw[PO];exact PR t h (by simpa using hi)
theorem BL {es:List Nat} (hu:Up es) {i:Nat} (hi:i<=es.length) (k:ByteArray):hasB (fr es i) (to es i) k=decide (i=bV es (hv k)):=by
 have hk:=JA k;have h1:=nV es (hv k);have h2:=PQ es (hv k);have h3:=PR es (hv k)
 have Fo:(!Op.bytesLess k.toList (fr es i).toList)=true↔(i=0∨(g es (i-1):Int)<=hv k):=by
  unfold fr;split
  ·rw[JB];simp;left;assumption
  ·rename_i h0
   rw[uB k (by have:=hu.gN (i-1) ab;omega)];simp;omega
 have qaj:((to es i).toList.isEmpty||Op.bytesLess k.toList (to es i).toList)=true↔(i=es.length∨hv k<g es i):=by
  unfold to;split
  ·rename_i h0
   rw[uB k (by have:=hu.gN i h0;omega),oR];simp;omega
  ·rename_i h0
   rw[nU];simp;left;omega
 rw[Bool.eq_iff_iff,decide_eq_true_iff];unfold hasB;rw[Bool.and_eq_true,Fo,qaj];generalize bV es (hv k)=r at*;constructor
 ·rintro⟨a,b⟩;rcases Nat.lt_trichotomy i r with g1|g1|g1
  ·have:=h2 i g1;omega
  ·exact g1
  ·have h4:=h3 ab;rcases a with a|a
   ·omega
   ·have:g es r<=g es (i-1):=by
     rcases Nat.eq_or_lt_of_le (show r<=i-1 by omega)with e|e
     ·rw[e];exact CP _
     ·exact Nat.le_of_lt (hu.up r (i-1) e ab)
    omega
 ·rintro rfl;constructor
  ·rcases Nat.eq_zero_or_pos i with e|e
   ·exact .inl e
   ·exact .inr (h2 (i-1) ab)
  ·rcases R6 i es.length with e|e
   ·exact .inr (h3 e)
   ·exact .inl ab
end Go.Proofs.YtehaoggjlciobaaGreat

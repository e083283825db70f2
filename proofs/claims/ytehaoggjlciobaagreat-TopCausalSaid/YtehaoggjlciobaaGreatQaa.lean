/- Part 1 of 40. -/
import Derived.Test.YtehaoggjlciobaaGreatRows
import Derived.WalkKit
import Derived.WalkSpells
import Derived.WalkLawsBesides
import Derived.Below
import Derived.Lib.Hide
import Derived.Laws.Strings
import Derived.Deep.MidRow
import Derived.Orders
import Derived.Tactics
set_option linter.all false
set_option maxRecDepth 20000
set_option maxHeartbeats 16000000
namespace Go.Proofs.YtehaoggjlciobaaGreat
open Go.RowKit Go Go.Proofs.Tryz
variable {bc mL:Array Oper} {S σ:List Nat} {rest:List Oper} {i k:Nat} {r:Oper->Oper} {row:Option Nat} {p:Prop} {v:Value} {a b c w w2 wS:World}
def Ht:=@Array.getElem?_eq_getElem
def qch:=@Array.getElem?_eq_some_iff
def R7:=@Exists.intro
def ql2:=@List.eq_nil_of_length_eq_zero
def qlZ:=@List.getElem?_append_left
def vF:=@List.getElem?_eq_getElem
def pi:=@List.getElem?_eq_some_iff
def qlY:=@List.getElem?_take_of_lt
def zH:=@List.length_append
def ql1:=@List.length_drop
def qcd:=@List.length_take
def Pv:=@List.mem_append
def KX:=@List.mem_cons
def zM:=@List.mem_cons_of_mem
def qcl:=@List.mem_iff_getElem?
def zV:=@List.mem_of_getElem?
def At:=@List.mem_singleton
def qcc:=@List.take_of_length_le
def QI:=@List.take_succ_eq_append_getElem
def CP:=@Nat.le_refl
def qcg:=@Nat.le_trans
def R4:=@Nat.lt_of_lt_of_le
def R6:=@Nat.lt_or_ge
def Aa:=@World.block_lt_of_cell?
def qcb:=@World.ownsRow_nil
def KV:=@bodyPost_ret
def ql4:=@decide_eq_false
def ql3:=@decide_eq_true
def yY:=@heap_alloc_new
def Ok:=@heap_setCell_same
def ql0:=@info_parts
def qck:=@of_decide_eq_true
def ad (w w2:World):Prop:=Below w.heap.size w w2
theorem ad.below (h:ad w w2):Below w.heap.size w w2:=h
theorem ad.refl (w:World):ad w w:=Below.refl _ _
theorem ad.size (h:ad w w2):w.heap.size<=w2.heap.size:=Below.size h
theorem ad.alloc (h:ad w w2) (qD:Obj):ad w (w2.alloc qD):=Below.alloc h h.size qD
theorem ad.setCell (h:ad w w2) {p:Addr} (hp:w.heap.size<=p.block) (u:Value):ad w (w2.setCell p u):=Below.setCell h hp u
theorem ad.drew (h:ad w w2):ad w w2.drew:=Below.drew h
theorem ad.drewN (h:ad w w2) (n:Nat):ad w (w2.drewN n):=⟨h.os,h.tape,h.output,h.size,h.block⟩
theorem ad.call {w1:World} (h:ad w w1) (k:ad w1 w2):ad w w2:=Below.trans h (Below.mono k h.size)
theorem ad.cell (h:ad w w2):∀ b qD,b<w.heap.size->w2.cell? ⟨b,qD,none⟩=w.cell? ⟨b,qD,none⟩:=λb qD hb=>Below.cell (p:=⟨b,qD,none⟩) h hb
theorem ad.frozen (h:ad w w2):∀ b qD,b<w.heap.size->w2.frozen? ⟨b,qD,none⟩=w.frozen? ⟨b,qD,none⟩:=λb qD hb=>Below.frozen (p:=⟨b,qD,none⟩) h hb
theorem ad.af (h:ad w w2) {p:Addr} (hc:w.cell? p=some v):w2.cell? p=some v:=by
 rw[Below.cell h (Aa w _ hc)];exact hc
theorem ad.grown {W w3:World} (h:ad w W) (hg:W.grownBy w3 row) (hr:∀ g,row=some g->w.heap.size<=g):ad w w3:=Below.grown h hg h.size hr
theorem BK (w:World) (e:TypeId) (aU:List Value) (n size:Nat) (h:aU.length=n*size) (hn:n<=maxLen):
  (w.alloc (.cells aU.toArray e)).ownsRow w.heap.size e size (.slice (some ⟨w.heap.size,0,none⟩) n n) n aU:=
 ⟨h,.inr ⟨w.heap.size,n,aU.toArray,rfl,CP _,yY w _,CP _,hn,by simpa using h,by rw[<- h];simp⟩⟩
structure ah (S:List Nat) (w w2:World):Prop where
 os:w2.os=w.os
 tape:w2.tape=w.tape
 output:w2.output=w.output
 size:w.heap.size<=w2.heap.size
 block:∀ k,k<w.heap.size->k∉S->w2.heap[k]? =w.heap[k]?
theorem ah.refl (S:List Nat) (w:World):ah S w w:=⟨rfl,rfl,rfl,CP _,λ_ _ _=>rfl⟩
theorem ah.trans (h:ah S a b) (k:ah S b c):ah S a c:=
 ⟨k.os.trans h.os,k.tape.trans h.tape,k.output.trans h.output,qcg h.size k.size,λi hi hn=>(k.block i (R4 hi h.size) hn).trans (h.block i hi hn)⟩
theorem ah.drew (h:ah S a b):ah S a b.drew:=⟨h.os,h.tape,h.output,h.size,h.block⟩
theorem ah.drewN (h:ah S a b) (n:Nat):ah S a (b.drewN n):=⟨h.os,h.tape,h.output,h.size,h.block⟩
theorem ah.ar (h:ad a b):ah S a b:=⟨h.os,h.tape,h.output,h.size,λk hk _=>h.block k hk⟩
theorem ah.mono {T:List Nat} (h:ah S a b) (hS:∀ x∈S,x∈T):ah T a b:=⟨h.os,h.tape,h.output,h.size,λk hk hn=>h.block k hk λhx=>hn (hS k hx)⟩
theorem ah.alloc (h:ah S a b) (qD:Obj):ah S a (b.alloc qD):=h.trans (.ar ((ad.refl b).alloc qD))
theorem ah.setCell (h:ah S a b) {p:Addr} (hp:p.block∈S∨a.heap.size<=p.block) (u:Value):ah S a (b.setCell p u):=
 ⟨h.os,h.tape,h.output,by simpa [World.setCell]using h.size,λk hk hn=>(Below.heap_setCell b p u k (by
  rintro rfl;rcases hp with hp|hp
  ·exact hn hp
  ·omega)).trans (h.block k hk hn)⟩
theorem ah.grown (h:ah S a b) (hg:b.grownBy c row) (hr:∀ g,row=some g->g∈S∨a.heap.size<=g):ah S a c:=
 ⟨hg.os.trans h.os,hg.tape.trans h.tape,hg.output.trans h.output,qcg h.size hg.size,λk hk hn=>(hg.block k (R4 hk h.size) (by
  rintro e;rcases hr k e.symm with h1|h1
  ·exact hn h1
  ·omega)).trans (h.block k hk hn)⟩
theorem ah.af (h:ah S w w2) {p:Addr} (hc:w.cell? p=some v) (hn:p.block∉S):w2.cell? p=some v:=by
 rw[World.cell?_of_block (h.block p.block (Aa w _ hc) hn)];exact hc
theorem ah.frozen (h:ah S w w2) {p:Addr} (hl:p.block<w.heap.size) (hn:p.block∉S):w2.frozen? p=w.frozen? p:=by
 unfold World.frozen?;rw[h.block p.block hl hn]
theorem ah.heap (h:ah S w w2) {qD:Obj} (hc:w.heap[k]? =some qD) (hn:k∉S):w2.heap[k]? =some qD:=by
 rw[h.block k (qch.1 hc).1 hn];exact hc
theorem ad.heap (h:ad w w2) {qD:Obj} (hc:w.heap[k]? =some qD):w2.heap[k]? =some qD:=by
 rw[h.block k (qch.1 hc).1];exact hc
theorem ad.but (h:ad a b) (k:ah S b c) (hS:∀ x∈S,a.heap.size<=x):ad a c:=
 ⟨k.os.trans h.os,k.tape.trans h.tape,k.output.trans h.output,qcg h.size k.size,λi hi=>(k.block i (R4 hi h.size) (λhx=>by have:=hS i hx;omega)).trans (h.block i hi)⟩
theorem ah.kept (h:ah [] a b):ad a b:=⟨h.os,h.tape,h.output,h.size,λk hk=>h.block k hk (by simp)⟩
theorem yZ {a b:Bool} (h:a=b):Ending.returned (.bool a)= .returned (.bool b):=by rw[h]
theorem ww (a c:Int) (hc:0<c): -c<a.tmod c/\a.tmod c<c:=by
 have h1:=Int.tmod_lt_of_pos a hc;have h2:=Int.tmod_lt_of_pos (-a) hc;rw[Int.neg_tmod]at h2;omega
theorem qai (n c:Int) (h0:0<=c) (h1:c<9223372036854775808):0<=bits .and .i64 n c/\bits .and .i64 n c<=c:=by
 obtain⟨m,rfl⟩:=Int.eq_ofNat_of_zero_le h0;have hm:m<9223372036854775808:=by omega
 have h2:(BitVec.ofInt 64 (m:Int)).toNat=m:=by
  rw[BitVec.ofInt_natCast,BitVec.toNat_ofNat];exact Nat.mod_eq_of_lt (by omega)
 show 0<=IntKind.i64.wrap ((BitVec.ofInt 64 n &&& BitVec.ofInt 64 (m:Int)).toNat:Int)/\IntKind.i64.wrap ((BitVec.ofInt 64 n &&& BitVec.ofInt 64 (m:Int)).toNat:Int)<=(m:Int)
 rw[BitVec.toNat_and,h2,IntKind.wrap_i64];have h3:(BitVec.ofInt 64 n).toNat &&& m<=m:=Nat.and_le_right;omega
theorem al (h:ad w w2:=by repeat(first|exact ad.refl _|assumption|(refine ad.alloc ?_ _)|(refine ad.setCell ?_ (by first|omega|(simp;omega)|simp) _)|refine ad.drew ?_|refine ad.drewN ?_ _|(apply ad.call;rotate_left;assumption))):ad w w2:=h
theorem hD (h:ah S w w2:=by repeat(first|exact ah.refl _ _|assumption|(refine ah.alloc ?_ _)|(refine ah.setCell ?_ (by first|(right;omega)|(right;simp;omega)|(left;simp)) _)|refine ah.drew ?_|refine ah.drewN ?_ _|(apply ah.trans;rotate_left;assumption))):ah S w w2:=h
theorem ab (h:p:=by omega):p:=h
theorem ak (h:p:=by decide):p:=h
theorem ao (h:p:=by simp):p:=h
theorem av (h:p:=by kernel_rfl):p:=h
theorem bk (h:p:=by assumption):p:=h
theorem aA (h:p:=by go_num):p:=h
theorem dY (h:p:=by simp[intOf];omega):p:=h
theorem eqQ {α:Sort _} (a:α):∃ x,a=x:=⟨_,rfl⟩
theorem eqR {α:Sort _} (a:α):∃ x,x=a:=⟨_,rfl⟩
theorem exQ {α:Type} (l:List α) (i:Nat) (h:i<l.length):∃ a,l[i]? =some a:=⟨_,vF h⟩
def ag (p:Prop):Prop:=p
theorem ag.o (h:ag p):p:=h
theorem aa (h:p):ag p:=h
theorem aQ {α:Type} {xs:Array α} {a:α} (h:xs[i]? =some a):i<xs.size:=(qch.1 h).1
theorem bg {α:Type} {xs:List α} {a:α} (h:xs[i]? =some a):i<xs.length:=(pi.1 h).1
def ch (c:Nat):ByteArray:=⟨#[UInt8.ofNat c]⟩
def nil:ByteArray:=⟨#[]⟩
def hv (s:ByteArray):Int:=match s.toList with
 |[]=> -1
 |x::_=>(x.toNat:Int)
theorem PN (a:Array UInt8):(⟨a⟩:ByteArray).toList=a.toList:=by
 have:∀ (s:ByteArray),s.toList=s.data.toList:=λs=>ByteArray.toList_eq s;rw[this]
theorem oR (c:Nat):(ch c).toList=[UInt8.ofNat c]:=by unfold ch;rw[PN]
theorem nU:nil.toList=[]:=by unfold nil;rw[PN]
theorem JA (s:ByteArray): -1<=hv s:=by
 unfold hv;split <;>omega
theorem JB (s:ByteArray):Op.bytesLess s.toList nil.toList=false:=by
 rw[nU]
 cases s.toList <;>rfl
theorem uB (s:ByteArray) {c:Nat} (hc:c<256):Op.bytesLess s.toList (ch c).toList=decide (hv s<c):=by
 rw[oR];unfold hv
 cases h:s.toList with
 |nil=>simp[Op.bytesLess];omega
 |cons x t=>
  have e:Op.bytesLess t []=false:=by cases t <;>rfl
  simp only[Op.bytesLess,e,Bool.and_false,Bool.or_false];have:(UInt8.ofNat c).toNat=c:=by simp;omega
  rw[Bool.eq_iff_iff,decide_eq_true_iff,decide_eq_true_iff,UInt8.lt_iff_toNat_lt,this];omega
theorem kg {c:Nat} (hc:c<256):hv (ch c)=c:=by
 unfold hv;rw[oR];simp;omega
theorem Fm:hv nil= -1:=by unfold hv;rw[nU]
def g (es:List Nat) (i:Nat):Nat:=es[i]?.getD 0
def fr (es:List Nat) (i:Nat):ByteArray:=if i=0 then nil else ch (g es (i-1))
def to (es:List Nat) (i:Nat):ByteArray:=if i<es.length then ch (g es i)else nil
structure Up (es:List Nat):Prop where
 cV:es.length<=6
 gN:∀ i,i<es.length->97<=g es i/\g es i<=122
 up:∀ i U,i<U->U<es.length->g es i<g es U
def hasB (f t k:ByteArray):Bool:= !Op.bytesLess k.toList f.toList&&(t.toList.isEmpty||Op.bytesLess k.toList t.toList)
def bV:List Nat->Int->Nat
 |[],_=>0
 |e::t,h=>if h<e then 0 else bV t h+1
theorem nV:∀ (es:List Nat) (h:Int),bV es h<=es.length
 |[],_=>CP _
 |e::t,h=>by
  unfold bV;split
  ·omega
  ·have:=nV t h;simp;omega
theorem PO (e:Nat) (t:List Nat) (i:Nat):g (e::t) (i+1)=g t i:=by simp[g]
theorem PQ:∀ (es:List Nat) (h:Int) (i:Nat),i<bV es h->(g es i:Int)<=h
 |[],_,_,hi=>by simp[bV]at hi
 |e::t,h,i,hi=>by
  unfold bV at hi;split at hi
  ·omega
  ·rename_i hn
   cases i with
   |zero=>simp[g];omega
   |succ i=>rw[PO];exact PQ t h i ab
theorem PR:∀ (es:List Nat) (h:Int),bV es h<es.length->h<g es (bV es h)
 |[],_,hi=>by simp at hi
 |e::t,h,hi=>by
  unfold bV at hi⊢;split
  ·simp[g];assumption
  ·rename_i hn
   rw[if_neg hn]at hi;rw[PO];exact PR t h (by simpa using hi)
theorem BL {es:List Nat} (hu:Up es) (hi:i<=es.length) (k:ByteArray):hasB (fr es i) (to es i) k=decide (i=bV es (hv k)):=by
 have hk:=JA k;have h1:=nV es (hv k);have h2:=PQ es (hv k);have h3:=PR es (hv k)
 have Fo:(!Op.bytesLess k.toList (fr es i).toList)=true↔(i=0∨(g es (i-1):Int)<=hv k):=by
  unfold fr;split
  ·rw[JB];simp;left;assumption
  ·rename_i h0
   rw[uB k (by have:=hu.gN (i-1) ab;omega)];simp;omega
 have qaj:((to es i).toList.isEmpty||Op.bytesLess k.toList (to es i).toList)=true↔(i=es.length∨hv k<g es i):=by
  unfold to;split
  ·rename_i h0
   rw[uB k (by have:=hu.gN i h0;omega),oR];simp;omega
  ·rename_i h0
   rw[nU];simp;left;omega
 rw[Bool.eq_iff_iff,decide_eq_true_iff];unfold hasB;rw[Bool.and_eq_true,Fo,qaj];generalize bV es (hv k)=r at*;constructor
 ·rintro⟨a,b⟩;rcases Nat.lt_trichotomy i r with g1|g1|g1
  ·have:=h2 i g1;omega
  ·exact g1
  ·have h4:=h3 ab;rcases a with a|a
   ·omega
   ·have:g es r<=g es (i-1):=by
     rcases Nat.eq_or_lt_of_le (show r<=i-1 by omega)with e|e
     ·rw[e];exact CP _
     ·exact Nat.le_of_lt (hu.up r (i-1) e ab)
    omega
 ·rintro rfl;constructor
  ·rcases Nat.eq_zero_or_pos i with e|e
   ·exact .inl e
   ·exact .inr (h2 (i-1) ab)
  ·rcases R6 i es.length with e|e
   ·exact .inr (h3 e)
   ·exact .inl ab
structure JC (G:World->World->Prop):Prop where
 refl:∀ w,G w w
 trans:∀ {a b c},G a b->G b c->G a c
 drew:∀ w,G w w.drew
theorem Fp:JC ad:=⟨ad.refl,ad.call,λw=>(ad.refl w).drew⟩
structure BM (G H:World->World->Prop):Prop where
 g:JC G
 h:JC H
 sub:∀ {a b},H a b->G a b
theorem JD:BM ad ad:=⟨Fp,Fp,id⟩
theorem oS (S:List Nat):BM (ah S) ad:=⟨⟨ah.refl S,ah.trans,λw=>(ah.refl S w).drew⟩,Fp,ah.ar⟩
section
variable {P:Program} {ops:Array Oper} {Q:Exit->Act->World->Prop} {G H:World->World->Prop}
def bd (R:Value->World->Prop) (qD:Oper) (a:Act):Exit->Act->World->Prop:=λe bI w'=>e= .normal/\∃ u,bI=a.put qD.dst u/\R u w'
theorem bd.mk {R:Value->World->Prop} {qD:Oper} {a bI:Act} {w:World} (u:Value) (h:bI=a.put qD.dst u) (hR:R u w):bd R qD a .normal bI w:=⟨rfl,u,h,hR⟩
theorem bd.bt {R:World->World->Prop} {D:World->Act->Prop} {qD:Oper} {a bI:Act} {w w':World} (u:Value) (h:bI=a.put qD.dst u) (hk:R w w') (hd:R w w'->D w' (a.put qD.dst u)):
  bd (λu w'=>R w w'/\D w' (a.put qD.dst u)) qD a .normal bI w':=⟨rfl,u,h,hk,hd hk⟩
theorem BN {a b:Act} {d:Option Tmp} {u v:Value} (hs:b.tmps.size=a.tmps.size) (h:a.put d u=a.put d v):b.put d u=b.put d v:=by
 cases d with
 |none=>rfl
 |some d=>
  simp only[Act.put,Act.mk.injEq,and_true]at h⊢;rcases R6 d a.tmps.size with hd|hd
  ·have h1:=congrArg (λx:Array Value=>x[d]?) h;simp[hd]at h1;rw[h1]
  ·rw[Array.setIfInBounds_eq_of_size_le (by omega),Array.setIfInBounds_eq_of_size_le (by omega)]
theorem Fq {qD:Oper} {R:Value->World->Prop} {a b:Act} {i:Nat} (hi:ops[i]? =some qD) {w:World} (h:wpList P ops (bd R qD a) [qD] a w) (hs:b.tmps.size=a.tmps.size)
  (he:execOp b.eval qD=execOp a.eval qD) (hw:Region.wanted qD (yielded ops b.tmps)=Region.wanted qD (yielded ops a.tmps))
  {K:Act->World->Prop} (hK:∀ u w',R u w'->K (b.put qD.dst u) w'):wpOp P ops Q i K b w:=by
 unfold wpOp;simp only[hi,hw];unfold wpList at h;split
 ·rename_i fU
  simp only[fU,if_true]at h;rcases h with h|⟨_,_,_,h,_⟩
  case inr=>cases h
  refine .inl ?_;unfold Oper.wp at*;rw[he];generalize (execOp a.eval qD).run P w=r at*
  cases r with
  |ok n w'=>
   cases n <;>simp only[Oper.upon,wpList]at h⊢
   case value u=>obtain⟨_,u',h2,h3⟩:=h;rw[BN hs h2];exact hK _ _ h3
   case skip=>obtain⟨_,u',h2,h3⟩:=h;rw[BN hs h2];exact hK _ _ h3
   case defer d=>
    obtain⟨_,u',h2,h3⟩:=h;have h1:=congrArg (λx:Act=>x.defers.length) h2
    cases hd:qD.dst <;>simp[Act.put,hd]at h1
   case enter f args=>
    refine Calls.mono h λe JE he=> ?_
    cases e with
    |returned u=>obtain⟨_,u',h2,h3⟩:=he;show K _ _;rw[BN hs h2];exact hK _ _ h3
    |panicked c=>exact absurd he.1 (by simp)
    |outgrown=>obtain⟨_,_,h2,_⟩:=he;cases h2
   case row row args=>exact Rows.mono h λu JE he=>by obtain⟨_,u',h2,h3⟩:=he;rw[BN hs h2];exact hK _ _ h3
  |halt x w'=>
   cases x <;>simp only[Oper.upon]at h
   case panic u=>exact absurd h.1 (by simp)
 ·rename_i fU
  simp only[fU]at h;obtain⟨_,u',h2,h3⟩:=(show bd R qD a .normal (a.put qD.dst undef) w from h);rw[BN hs h2];exact hK _ _ h3
theorem qak {qD:Oper} (qal:∀ cs b,qD.op≠.select cs b) {a b:Act} (h:∀ t∈qD.looksAt ops,b.tmps[t]? =a.tmps[t]?):
  execOp b.eval qD=execOp a.eval qD/\Region.wanted qD (yielded ops b.tmps)=Region.wanted qD (yielded ops a.tmps):=by
 refine⟨execOp_congr qD qal λx hx=> ?_,?_⟩
 ·cases x with
  |tmp t=>
   have:=h t (List.mem_append_left _ (List.mem_filterMap.2 ⟨.tmp t,by simpa using hx,rfl⟩));simp[Act.eval,this]
  |_=>rfl
 ·unfold Region.wanted
  cases hg:qD.guard with
  |none=>rfl
  |some qam=>
   obtain⟨g,wt⟩:=qam;simp only
   have hy:yielded ops b.tmps g=yielded ops a.tmps g:=by
    unfold yielded
    cases hd:(ops[g]?).bind (·.dst)with
    |none=>simp
    |some t=>
     have:=h t (by unfold Oper.looksAt;simp[hg,hd]);simp[this]
   rw[hy]
def y' (x:Oper) (U:Nat):Bool:=x.after.any λe=>Region.binds .any e&&e.on==U
def JF (ops:Array Oper) (x:Oper) (t:Tmp):Bool:=(x.looksAt ops).contains t||x.dst==some t
def mJ (ops:Array Oper):Bool:=
 ((List.range ops.size).all λi=>match ops[i]? with
  |none=>true
  |some x=>(match x.op with| .select .. =>false|_=>true)&&(x.after.all λe=> !Region.binds .any e||decide (e.on<i))&&
   ((List.range ops.size).all λU=>i==U||match ops[U]? with
    |none=>true
    |some y=>(match y.dst with|none=>true|some t=> !JF ops x t)||y' x U||y' y i))
structure sW (ops:Array Oper):Prop where
 sel:∀ (i:Nat) (qD:Oper),ops[i]? =some qD->∀ cs b,qD.op≠.select cs b
 back:∀ (i:Nat) (qD:Oper),ops[i]? =some qD->∀ e∈qD.after,Region.binds .any e=true->e.on<i
 qan:∀ (i U:Nat) (x y:Oper) (t:Tmp),ops[i]? =some x->ops[U]? =some y->i≠U->y.dst=some t->(t∈x.looksAt ops∨x.dst=some t)->(∃ e∈x.after,Region.binds .any e=true/\e.on=U)∨(∃ e∈y.after,Region.binds .any e=true/\e.on=i)
theorem Fs {x:Oper} {U:Nat} (h:y' x U=true):∃ e∈x.after,Region.binds .any e=true/\e.on=U:=by
 unfold y' at h;rw[Array.any_eq_true]at h;obtain⟨k,hk,h⟩:=h;simp only[Bool.and_eq_true,beq_iff_eq]at h;exact⟨_,Array.getElem_mem hk,h.1,h.2⟩
theorem Ft (h:mJ ops=true):sW ops:=by
 unfold mJ at h;rw[List.all_eq_true]at h
 have h1:∀ (i:Nat) (qD:Oper),ops[i]? =some qD->_:=λi qD ho=>by
  have an:i<ops.size:=(qch.1 ho).1;have h2:=h i (List.mem_range.2 an);simp only[ho,Bool.and_eq_true,List.all_eq_true,List.mem_range,Array.all_eq_true_iff_forall_mem]at h2;exact h2
 refine⟨λi qD ho cs b hs=> ?_,λi qD ho e he hb=> ?_,λi U x y t hx hy fV hd ht=> ?_⟩
 ·have:=(h1 i qD ho).1.1;rw[hs]at this
  cases this
 ·have:=(h1 i qD ho).1.2 e he;simpa [hb]using this
 ·have an:U<ops.size:=(qch.1 hy).1;have h2:=(h1 i x hx).2 U an;simp only[hy,hd,Bool.or_eq_true,beq_iff_eq,fV,false_or,Bool.not_eq_true']at h2;rcases h2 with (h2|h2)|h2
  ·have h3:JF ops x t=true:=by
    unfold JF;rcases ht with ht|ht
    ·simp[ht]
    ·simp[ht]
   rw[h3]at h2
   cases h2
  ·exact .inl (Fs h2)
  ·exact .inr (Fs h2)
structure eg (ops:Array Oper) (aU:Nat->Value) (a0:Act) (L:Nat->Prop) (a:Act):Prop where
 defers:a.defers=a0.defers
 size:a.tmps.size=a0.tmps.size
 old:∀ (t:Nat),(∀ (U:Nat) (qD:Oper),L U->ops[U]? =some qD->qD.dst≠some t)->a.tmps[t]? =a0.tmps[t]?
 new:∀ (t U:Nat) (qD:Oper),t<a0.tmps.size->L U->ops[U]? =some qD->qD.dst=some t->(∀ (k:Nat) (o':Oper),L k->ops[k]? =some o'->o'.dst=some t->k<=U)->a.tmps[t]? =some (aU U)
theorem qao (p:Nat->Prop):∀ n,(∀ U,p U->U<n)->(∃ U,p U)->∃ U,p U/\∀ k,p k->k<=U:=by
 intro n
 induction n with
 |zero=>intro hb ⟨U,hj⟩;exact absurd (hb U hj) (by omega)
 |succ n ih=>
  intro hb hex;by_cases hn:p n
  ·exact⟨n,hn,λk hk=>by have:=hb k hk;omega⟩
  ·exact ih (λU hj=>by
    have:=hb U hj;have:U≠n:=λe=>hn (e▸hj);omega) hex
theorem eg.agree {aU:Nat->Value} {a0 a b:Act} {L M:Nat->Prop} (ha:eg ops aU a0 L a) (hb:eg ops aU a0 M b) (t:Nat)
  (h:∀ (U:Nat) (qD:Oper),ops[U]? =some qD->qD.dst=some t->(L U↔M U)):a.tmps[t]? =b.tmps[t]? :=by
 by_cases ht:t<a0.tmps.size
 ·by_cases hex:∃ U,L U/\∃ qD,ops[U]? =some qD/\qD.dst=some t
  ·obtain⟨U,⟨hj,qD,ho,hd⟩,qg⟩:=qao (λU=>L U/\∃ qD,ops[U]? =some qD/\qD.dst=some t) ops.size (λU ⟨_,qD,ho,_⟩=>(qch.1 ho).1) hex;rw[ha.new t U qD ht hj ho hd λk o' hk bh uC=>qg k ⟨hk,o',bh,uC⟩];rw[hb.new t U qD ht ((h U qD ho hd).1 hj) ho hd λk o' hk bh uC=>qg k ⟨(h k o' bh uC).2 hk,o',bh,uC⟩]
  ·rw[ha.old t λU qD hj ho hd=>hex ⟨U,hj,qD,ho,hd⟩,hb.old t λU qD hj ho hd=>hex ⟨U,(h U qD ho hd).2 hj,qD,ho,hd⟩]
 ·rw[Array.getElem?_eq_none (by rw[ha.size];exact Nat.le_of_not_lt ht),Array.getElem?_eq_none (by rw[hb.size];exact Nat.le_of_not_lt ht)]
theorem eg.Fu {aU:Nat->Value} {a0 a:Act} {L M:Nat->Prop} {i:Nat} {qD:Oper} (ha:eg ops aU a0 L a) (ho:ops[i]? =some qD)
  (hM:∀ U,M U↔L U∨U=i) (JG:∀ (k:Nat) (o':Oper) (t:Nat),L k->ops[k]? =some o'->qD.dst=some t->o'.dst=some t->k<=i):eg ops aU a0 M (a.put qD.dst (aU i)):=by
 cases hd:qD.dst with
 |none=>
  refine⟨ha.defers,ha.size,λt h=>ha.old t λU o' hj dK=>h U o' ((hM U).2 (.inl hj)) dK,λt U o' ht hj dK jR qg=> ?_⟩
  have JH:L U:=by
   rcases(hM U).1 hj with h|rfl
   ·exact h
   ·rw[ho]at dK;injection dK with dK;subst dK;rw[hd]at jR;cases jR
  exact ha.new t U o' ht JH dK jR λk JI hk=>qg k JI ((hM k).2 (.inl hk))
 |some d=>
  refine⟨ha.defers,by simp[Act.put,ha.size],λt h=> ?_,λt U o' ht hj dK jR qg=> ?_⟩
  ·have aN:d≠t:=λe=>h i qD ((hM i).2 (.inr rfl)) ho (by rw[hd,e]);simp only[Act.put,Array.getElem?_setIfInBounds_ne aN];exact ha.old t λU o' hj dK=>h U o' ((hM U).2 (.inl hj)) dK
  ·by_cases uD:d=t
   ·subst uD;have fV:i<=U:=qg i qD ((hM i).2 (.inr rfl)) ho hd
    have:U=i:=by
     rcases(hM U).1 hj with h|h
     ·have:=JG U o' d h dK hd jR;omega
     ·exact h
    subst this;simp[Act.put,ha.size,ht]
   ·have JH:L U:=by
     rcases(hM U).1 hj with h|rfl
     ·exact h
     ·rw[ho]at dK;injection dK with dK;subst dK;rw[hd]at jR;injection jR with jR;exact absurd jR uD
    simp only[Act.put,Array.getElem?_setIfInBounds_ne uD];exact ha.new t U o' ht JH dK jR λk JI hk=>qg k JI ((hM k).2 (.inl hk))
def fp:List Bool->Nat
 |[]=>0
 |b::r=>(if b then 1 else 0)+fp r
theorem PS:∀ (l:List Bool) (i:Nat),l[i]? =some false->fp (l.set i true)=fp l+1
 |[],i,h=>by simp at h
 |b::r,0,h=>by simp at h;subst h;simp[fp];omega
 |b::r,i+1,h=>by
  simp only[List.set_cons_succ,fp];rw[PS r i (by simpa using h)];omega
theorem PT:∀ l:List Bool,fp l<=l.length
 |[]=>by simp[fp]
 |b::r=>by have:=PT r;simp only[fp,List.length_cons];split <;>omega
theorem JJ:∀ (l:List Bool) (m:Nat),m<=l.length->(∀ U,U<l.length->(l[U]? =some true↔U<m))->fp l=m
 |[],m,hm,_=>by simp at hm;simp[fp,hm]
 |b::r,0,_,h=>by
  have hb:b=false:=by
   have:=h 0 (by simp)
   cases b with
   |false=>rfl
   |true=>simp at this
  have:=JJ r 0 (by omega) λU hj=>by have:=h (U+1) (by simp;omega);simpa using this
  simp[fp,hb,this]
 |b::r,m+1,hm,h=>by
  have hb:b=true:=by
   have:=h 0 (by simp)
   cases b <;>simp_all
  have:=JJ r m (by simp at hm;omega) λU hj=>by have:=h (U+1) (by simp;omega);simpa using this
  simp[fp,hb,this];omega
theorem PU:∀ (l:List Bool),fp l=l.length->∀ (i:Nat),i<l.length->l[i]? =some true
 |[],_,i,hi=>by simp at hi
 |b::r,h,i,hi=>by
  have h1:=PT r;simp only[fp,List.length_cons]at h;have hb:b=true:=by cases b <;>simp at h⊢;omega
  subst hb
  cases i with
  |zero=>rfl
  |succ i=>simpa using PU r (by simp at h;omega) i (by simpa using hi)
theorem oT {aO:Array Bool} {i:Nat} {b c:Bool} (h:aO[i]? =some b):aO.getD i c=b:=by
 obtain⟨an,he⟩:=qch.1 h;simp[an,he]
theorem wy {aO:Array Bool} {i:Nat} {b c:Bool} (an:i<aO.size) (h:aO.getD i c=b):aO[i]? =some b:=by
 rw[Ht an];simp only[Array.getD,an,dif_pos]at h;rw[<- h];rfl
theorem za {R R':Value->World->Prop} {qD:Oper} {a:Act} (h:∀ u w,R u w->R' u w):∀ e bI w',bd R qD a e bI w'->bd R' qD a e bI w':=
 λ_ _ _ ⟨he,u,ha,hR⟩=>⟨he,u,ha,h u _ hR⟩
theorem qh {R R':Value->World->Prop} {qD:Oper} {a:Act} {w:World} (h:∀ u w,R u w->R' u w) (hw:wpList P ops (bd R qD a) [qD] a w):wpList P ops (bd R' qD a) [qD] a w:=by
 unfold wpList at hw⊢;split
 ·rename_i fU
  simp only[fU,if_true]at hw;rcases hw with hw|⟨_,_,_,hw,_⟩
  case inr=>cases hw
  refine .inl ?_;unfold Oper.wp at*;generalize (execOp a.eval qD).run P w=r at*
  cases r with
  |ok n w'=>
   cases n <;>simp only[Oper.upon,wpList]at hw⊢
   case value u=>exact za h _ _ _ hw
   case skip=>exact za h _ _ _ hw
   case defer d=>exact za h _ _ _ hw
   case enter f args=>
    refine Calls.mono hw λe JE he=> ?_
    cases e with
    |returned u=>exact za h _ _ _ he
    |panicked c=>exact absurd he.1 (by simp)
    |outgrown=>obtain⟨_,_,h2,_⟩:=he;cases h2
   case row row args=>exact Rows.mono hw λu JE he=>za h _ _ _ he
  |halt x w'=>
   cases x <;>simp only[Oper.upon]at hw
   case panic u=>exact absurd hw.1 (by simp)
 ·rename_i fU
  simp only[fU]at hw;exact za h _ _ _ hw
def JK (ops:Array Oper) (k:Nat):Bool:=(List.range ops.size).all λU=>decide (U<=k)||match ops[U]? with|none=>true|some y=>y.after.any λe=>Region.binds .any e&&decide (k<=e.on)
theorem qap {k:Nat} (h:JK ops k=true) (U:Nat) (y:Oper) (hj:k<U) (hy:ops[U]? =some y):∃ e∈y.after,Region.binds .any e=true/\k<=e.on:=by
 unfold JK at h;rw[List.all_eq_true]at h;have an:U<ops.size:=(qch.1 hy).1;have h1:=h U (List.mem_range.2 an);simp only[hy,Bool.or_eq_true,decide_eq_true_eq]at h1;rcases h1 with h1|h1
 ·omega
 ·rw[Array.any_eq_true]at h1;obtain⟨m,hm,h1⟩:=h1;simp only[Bool.and_eq_true,decide_eq_true_eq]at h1;exact⟨_,Array.getElem_mem hm,h1.1,h1.2⟩
def waits (ops:Array Oper):Nat->Oper->Nat->Bool
 |0,y,i=>y' y i
 |n+1,y,i=>y' y i||y.after.any λe=>Region.binds .any e&&match ops[e.on]? with|none=>false|some z=>waits ops n z i
theorem JL {n:Nat} {y:Oper} {i:Nat} (h:waits ops n y i=true):
  (∃ e∈y.after,Region.binds .any e=true/\e.on=i)∨∃ m,m<n/\∃ e∈y.after,Region.binds .any e=true/\∃ z,ops[e.on]? =some z/\waits ops m z i=true:=by
 cases n with
 |zero=>exact .inl (Fs h)
 |succ n=>
  unfold waits at h;rw[Bool.or_eq_true]at h;rcases h with h|h
  ·exact .inl (Fs h)
  ·rw[Array.any_eq_true]at h;obtain⟨m,hm,h⟩:=h;rw[Bool.and_eq_true]at h;refine .inr ⟨n,Nat.lt_succ_self n,_,Array.getElem_mem hm,h.1,?_⟩
   cases hz:ops[(y.after[m]).on]? with
   |none=>rw[hz]at h;cases h.2
   |some z=>rw[hz]at h;exact⟨z,rfl,h.2⟩
theorem qaq (bh:sW ops):∀ (n:Nat) (q i:Nat) (y:Oper),ops[q]? =some y->waits ops n y i=true->i<q:=by
 intro n
 induction n using Nat.strongRecOn with
 |ind n ih=>
  intro q i y hq h;rcases JL h with ⟨e,he,hb,jS⟩|⟨m,hm,e,he,hb,z,hz,hr⟩
  ·rw[<- jS];exact bh.back q y hq e he hb
  ·have h1:=bh.back q y hq e he hb;have h2:=ih m hm e.on i z hz hr;omega
def nW (ops:Array Oper) (k:Nat):Bool:=(List.range ops.size).all λU=>decide (U<k)||match ops[U]? with|none=>true|some y=>(List.range U).all λi=>waits ops 14 y i
theorem JM {k:Nat} (h:nW ops k=true) (U i:Nat) (y:Oper) (hj:k<=U) (hi:i<U) (hy:ops[U]? =some y):waits ops 14 y i=true:=by
 unfold nW at h;rw[List.all_eq_true]at h;have an:U<ops.size:=(qch.1 hy).1;have h1:=h U (List.mem_range.2 an);simp only[hy,Bool.or_eq_true,decide_eq_true_eq,List.all_eq_true,List.mem_range]at h1;rcases h1 with h1|h1
 ·omega
 ·exact h1 i hi
theorem eg.aU {aU sX:Nat->Value} {a0 a:Act} {L:Nat->Prop} (h:eg ops aU a0 L a) (he:∀ U,L U->sX U=aU U):eg ops sX a0 L a:=
 ⟨h.defers,h.size,h.old,λt U qD ht hj ho hd qg=>by rw[he U hj];exact h.new t U qD ht hj ho hd qg⟩
theorem eg.oU {aU:Nat->Value} {a0 a:Act} {L M:Nat->Prop} (h:eg ops aU a0 L a) (he:∀ U,M U↔L U):eg ops aU a0 M a:=by
 have:M=L:=funext λU=>propext (he U);rw[this];exact h
theorem eg.eq {aU:Nat->Value} {a0 a b:Act} {L M:Nat->Prop} (ha:eg ops aU a0 L a) (hb:eg ops aU a0 M b) (h:∀ U,U<ops.size->(L U↔M U)):a=b:=by
 have e1:a.tmps=b.tmps:=Array.ext_getElem? λt=>ha.agree hb t λU qD ho _=>h U (qch.1 ho).1;have e2:a.defers=b.defers:=ha.defers.trans hb.defers.symm
 cases a;cases b;simp only at e1 e2;rw[e1,e2]
def kh (aU:Nat->Value) (m:Nat) (v:Value):Nat->Value:=λU=>if U=m then v else aU U
theorem zb (aU:Nat->Value) (m:Nat) (v:Value):kh aU m v m=v:=by simp[kh]
theorem sY {aU:Nat->Value} {m U:Nat} {v:Value} (h:U≠m):kh aU m v U=aU U:=by simp[kh,h]
theorem eg.next {aU:Nat->Value} {a0 a:Act} {m:Nat} {qD:Oper} (h:eg ops aU a0 (· <m) a) (ho:ops[m]? =some qD) (v:Value):eg ops (kh aU m v) a0 (· <m+1) (a.put qD.dst v):=by
 have:=(h.aU (sX:=kh aU m v) λU hj=>sY (Nat.ne_of_lt hj)).Fu (M:=(· <m+1)) ho (λU=>by omega) λk _ _ hk _ _ _=>by omega
 rwa [zb]at this
theorem BO {m:Nat} (an:m<ops.size):ops.toList.drop m=ops[m]::ops.toList.drop (m+1):=by rw[List.drop_eq_getElem_cons (by simpa using an)];simp
def Cl (ops:Array Oper) (aO:Array Bool):Prop:=∀ (U:Nat) (qD:Oper),aO[U]? =some true->ops[U]? =some qD->∀ e∈qD.after,Region.binds .any e=true->aO[e.on]? =some true
theorem qar {aO:Array Bool} (bL:Cl ops aO) (U:Nat):
  ∀ (n:Nat) (y:Oper),waits ops n y U=true->(∀ e∈y.after,Region.binds .any e=true->aO[e.on]? =some true)->aO[U]? =some true:=by
 intro n
 induction n using Nat.strongRecOn with
 |ind n ihn=>
  intro y hy ki;rcases JL hy with ⟨e,he,hb,jS⟩|⟨q,hq,e,he,hb,z,hz,hr⟩
  ·rw[<- jS];exact ki e he hb
  ·exact ihn q hq z hr (λrM he' Fv=>bL e.on z (ki e he hb) hz rM he' Fv)
theorem PV {aO:Array Bool} (bh:sW ops) (bu:aO.size=ops.size) (eK:Region.ready .any ops aO=[]):∀ U,U<ops.size->aO[U]? =some true:=by
 have b8:∀ m U,U<=m->U<ops.size->aO[U]? =some true:=by
  intro m
  induction m using Nat.strongRecOn with
  |ind m PW=>
   intro U hj an;rcases R6 U m with h|h
   ·exact PW U h U (CP _) an
   obtain rfl:U=m:=by omega
   by_cases h:aO[U]? =some true
   ·exact h
   ·exfalso
    have hz:U<aO.size:=by omega
    have ho:ops[U]? =some ops[U]:=Ht an
    have:U∈Region.ready .any ops aO:=mem_ready.2 ⟨by
     obtain⟨b,hb⟩:∃ b:Bool,aO.getD U true=b:=⟨_,rfl⟩
     cases b with
     |true=>exact absurd (wy hz hb) h
     |false=>exact hb,_,ho,λe he hb=>by
      have h1:=bh.back _ _ ho e he hb;exact oT (PW e.on h1 e.on (CP _) (by omega))⟩
    rw[eK]at this;cases this
 exact λU hj=>b8 U U (CP _) hj
theorem PX {aO:Array Bool} (h:∀ U,U<ops.size->aO[U]? =some true):Region.ready .any ops aO=[]:=by
 rw[List.eq_nil_iff_forall_not_mem];intro U hj;obtain⟨h0,qD,ho,_⟩:=mem_ready.1 hj;rw[oT (h U (qch.1 ho).1)]at h0;cases h0
theorem Fw {aO:Array Bool} (bu:aO.size=ops.size) (hc:fp aO.toList+0=ops.size):∀ U,U<ops.size->aO[U]? =some true:=λU hj=>by
 have:=PU aO.toList (by simp;omega) U (by simp;omega);simpa using this
structure qas (ops:Array Oper) (aO:Array Bool) (i:Nat) (qD:Oper) (a0 a:Act):Prop where
 lt:i<ops.size
 nl:¬aO[i]? =some true
 ne:∀ U,aO[U]? =some true->U≠i
 qat:∀ e∈qD.after,Region.binds .any e=true->aO[e.on]? =some true
 wt:∀ U,waits ops 14 qD U=true->aO[U]? =some true
 next:∀ U,(aO.setIfInBounds i true)[U]? =some true↔aO[U]? =some true∨U=i
 sz:(aO.setIfInBounds i true).size=ops.size
 cl:Cl ops (aO.setIfInBounds i true)
 ir:fp (aO.setIfInBounds i true).toList=fp aO.toList+1
 agree:∀ {vs:Nat->Value} {b:Act},eg ops vs a0 (· <i) b->eg ops vs a0 (λU=>aO[U]? =some true) a->a.tmps.size=b.tmps.size/\execOp a.eval qD=execOp b.eval qD/\Region.wanted qD (yielded ops a.tmps)=Region.wanted qD (yielded ops b.tmps)
 put:∀ {vs:Nat->Value},eg ops vs a0 (λU=>aO[U]? =some true) a->eg ops vs a0 (λU=>(aO.setIfInBounds i true)[U]? =some true) (a.put qD.dst (vs i))
theorem PY {aO:Array Bool} (bh:sW ops) (bu:aO.size=ops.size) (bL:Cl ops aO) {i:Nat} (hi:i∈Region.ready .any ops aO) (a0 a:Act):∃ qD,ops[i]? =some qD/\qas ops aO i qD a0 a:=by
 obtain⟨h0,qD,ho,uE⟩:=mem_ready.1 hi;have an:i<ops.size:=(qch.1 ho).1;have PZ:i<aO.size:=by omega
 have wA:aO[i]? =some false:=wy PZ h0
 have Fx:∀ e∈qD.after,Region.binds .any e=true->aO[e.on]? =some true:=λe he hb=>by
  have h1:=uE e he hb;have h2:=bh.back i qD ho e he hb;exact wy (by omega) h1
 have Fy:∀ U,aO[U]? =some true->U≠i:=λU hj e=>by subst e;rw[wA]at hj;cases hj
 have FB:∀ (t:Nat),(t∈qD.looksAt ops∨qD.dst=some t)->∀ (U:Nat) (y:Oper),ops[U]? =some y->y.dst=some t->U≠i->(aO[U]? =some true↔U<i):=by
  intro t ht U y hy hd fD;rcases bh.qan i U qD y t ho hy (Ne.symm fD) hd ht with ⟨e,he,hb,rfl⟩|⟨e,he,hb,jS⟩
  ·exact⟨λ_=>bh.back i qD ho e he hb,λ_=>Fx e he hb⟩
  ·have h1:=bh.back U y hy e he hb;refine⟨λhj=> ?_,λh=>by omega⟩;have:=bL U y hj hy e he hb;rw[jS]at this;exact absurd rfl (Fy i this)
 have oV:∀ U,(aO.setIfInBounds i true)[U]? =some true↔aO[U]? =some true∨U=i:=λU=>by
  by_cases fD:U=i
  ·subst fD;simp[PZ]
  ·rw[Array.getElem?_setIfInBounds_ne (Ne.symm fD)];simp[fD]
 refine⟨qD,ho,an,by rw[wA];simp,Fy,Fx,λU h=>qar bL U 14 qD h Fx,oV,by simpa using bu,λU y hj hy e he hb=> ?_,?_,λ{vs b} P0 zc=> ?_,λzc=>zc.Fu ho oV λk o' t hk qau hd sZ=> ?_⟩
 ·rw[oV]at hj⊢;rcases hj with hj|rfl
  ·exact .inl (bL U y hj hy e he hb)
  ·rw[ho]at hy;injection hy with hy;subst hy;exact .inl (Fx e he hb)
 ·rw[Array.toList_setIfInBounds,PS aO.toList i (by simpa using wA)]
 ·have:=qak (ops:=ops) (bh.sel i qD ho) (a:=b) (b:=a) λt ht=>zc.agree P0 t λU y hy hd=>by
   by_cases fD:U=i
   ·subst fD;exact⟨λh=>absurd rfl (Fy _ h),λh=>absurd h (by omega)⟩
   ·exact FB t (.inl ht) U y hy hd fD
  exact⟨zc.size.trans P0.size.symm,this.1,this.2⟩
 ·have:=(FB t (.inr hd) k o' qau sZ (Fy k hk)).1 hk;omega
def BP (ops:Array Oper) (k:Nat):Prop:=∀ (U:Nat) (y:Oper),k<U->ops[U]? =some y->(∃ e∈y.after,Region.binds .any e=true/\k<=e.on)∨waits ops 14 y k=true
def DG (K:World->World->Prop) (P:Program) (ops bc:Array Oper) (Q:Exit->Act->World->Prop):(World->Prop)->(World->Prop)->List Oper->Nat->Act->Prop
 |_,J,[],_,a=>∀ w,J w->Q .normal a w
 |I,J,qD::rest,k,a=>
  (∃ v,(∀ w,I w->wpList P ops (bd (λu w'=>u=v/\K w w') qD a) [qD] a w)/\DG K P ops bc Q I J rest (k+1) (a.put qD.dst v))∨
  (BP bc k/\∀ w,J w->wpList P ops (bd (λu w'=>∃ I' J':World->Prop,((∀ w,I' w->I w)/\(∀ w,J' w->I' w)/\(∀ w w',J' w->K w w'->J' w')/\J' w')/\DG K P ops bc Q I' J' rest (k+1) (a.put qD.dst u)) qD a) [qD] a w)∨
  (nW bc k=true/\∀ w,J w->wpList P ops Q (qD::rest) a w)
section
variable {K:World->World->Prop} {I J:World->Prop}
structure BQ (K:World->World->Prop) (P:Program) (ops:Array Oper) (Q:Exit->Act->World->Prop) (a0:Act) (L:Nat->Prop) (a:Act) (w:World) (m:Nat) (aU:Nat->Value) (I J:World->Prop) (am:Act):Prop where
 le:m<=ops.size
 sub:∀ U,L U->U<m
 rep:eg ops aU a0 L a
 kj:eg ops aU a0 (· <m) am
 oW:∀ U qD,U<m->¬L U->ops[U]? =some qD->∃ gO,eg ops aU a0 (· <U) gO/\∀ w,I w->wpList P ops (bd (λu w'=>u=aU U/\K w w') qD gO) [qD] gO w
 kept:J w
 st:∀ w w',J w->K w w'->J w'
 imp:∀ w,J w->I w
 rN:DG K P ops ops Q I J (ops.toList.drop m) m am
theorem BQ.settle {a0 a:Act} {L:Nat->Prop} {w:World}:∀ (n m:Nat) (aU:Nat->Value) (am:Act),ops.size-m=n->BQ K P ops Q a0 L a w m aU I J am->
  ∃ m' sX wC,BQ K P ops Q a0 L a w m' sX I J wC/\(m'<ops.size->(BP ops m'/\∃ qD,ops[m']? =some qD/\∀ w,J w->wpList P ops (bd (λu w'=>∃ I' J':World->Prop,((∀ w,I' w->I w)/\(∀ w,J' w->I' w)/\(∀ w w',J' w->K w w'->J' w')/\J' w')/\DG K P ops ops Q I' J' (ops.toList.drop (m'+1)) (m'+1) (wC.put qD.dst u)) qD wC) [qD] wC w)∨
   (nW ops m'=true/\∀ w,J w->wpList P ops Q (ops.toList.drop m') wC w)):=by
 intro n
 induction n with
 |zero=>intro m aU am hn h;exact⟨m,aU,am,h,λan=>by omega⟩
 |succ n ih=>
  intro m aU am hn h;have an:m<ops.size:=by omega
  have ho:ops[m]? =some ops[m]:=Ht an;have FC:=h.rN;rw[BO an]at FC;rcases FC with ⟨v,hd,hr⟩|⟨rO,hd⟩|⟨rO,hd⟩
  ·have hE:∀ U,U<m->kh aU m v U=aU U:=λU hj=>sY (Nat.ne_of_lt hj);refine ih (m+1) (kh aU m v) (am.put ops[m].dst v) (by omega) ⟨by omega,λU hj=>by have:=h.sub U hj;omega,h.rep.aU λU hj=>hE U (h.sub U hj),h.kj.next ho v,λU qD hj iP dK=> ?_,h.kept,h.st,h.imp,hr⟩;by_cases s5:U=m
   ·subst s5;rw[ho]at dK;injection dK with dK;subst dK;exact⟨am,h.kj.aU λk hk=>hE k hk,by rw[zb];exact hd⟩
   ·obtain⟨gO,wD,jR⟩:=h.oW U qD (by omega) iP dK;exact⟨gO,wD.aU λk hk=>hE k (by omega),by rw[sY s5];exact jR⟩
  ·exact⟨m,aU,am,h,λ_=> .inl ⟨rO,ops[m],ho,hd⟩⟩
  ·exact⟨m,aU,am,h,λ_=> .inr ⟨rO,by rw[BO an];exact hd⟩⟩
theorem qav (bh:sW ops) (k:Nat) (ht:nW ops k=true):∀ (et m:Nat) (aO:Array Bool) (a:Act) (w:World),k<=m->m+et=ops.size->aO.size=ops.size->
  (∀ U,U<ops.size->(aO[U]? =some true↔U<m))->wpList P ops Q (ops.toList.drop m) a w->wpAny P .any ops Q et aO a w:=by
 intro et
 induction et with
 |zero=>
  intro m aO a w BR hm bu hl h;have e:ops.toList.drop m=[]:=by rw[List.drop_eq_nil_iff];simp;omega
  rw[e]at h;refine⟨?_,h⟩;rw[List.eq_nil_iff_forall_not_mem];intro U hj;obtain⟨h0,qD,ho,_⟩:=mem_ready.1 hj;have an:U<ops.size:=(qch.1 ho).1;rw[oT ((hl U an).2 (by omega))]at h0;cases h0
 |succ et ih=>
  intro m aO a w BR hm bu hl h;have an:m<ops.size:=by omega
  have ho:ops[m]? =some ops[m]:=Ht an
  have wA:∀ U,U<ops.size->m<=U->aO[U]? =some false:=λU hj hmj=>by
   rw[Ht (by omega)]
   cases hb:aO[U]'(by omega)with
   |false=>rfl
   |true=>have:=(hl U hj).1 (by rw[Ht (by omega),hb]);omega
  have qaw:∀ i,i∈Region.ready .any ops aO->i=m:=by
   intro i hi;obtain⟨h0,qD,FD,uE⟩:=mem_ready.1 hi;have iQ:i<ops.size:=(qch.1 FD).1;rcases Nat.lt_trichotomy i m with h1|h1|h1
   ·rw[oT ((hl i iQ).2 h1)]at h0;cases h0
   ·exact h1
   ·rcases JL (JM ht i m qD (by omega) h1 FD)with ⟨e,he,hb,jS⟩|⟨q,_,e,he,hb,z,hz,hr⟩
    ·have:=uE e he hb;rw[jS,oT (wA m an (CP _))]at this;cases this
    ·have h2:=qaq bh q e.on m z hz hr;have h3:=(qch.1 hz).1;have h4:=uE e he hb;rw[oT (wA e.on h3 (by omega))]at h4;cases h4
  have rP:m∈Region.ready .any ops aO:=mem_ready.2 ⟨oT (wA m an (CP _)),_,ho,λe he hb=>oT ((hl e.on (by have:=bh.back m _ ho e he hb;omega)).2 (bh.back m _ ho e he hb))⟩;refine⟨λeK=>(by rw[eK]at rP;cases rP),λi hi=> ?_⟩;obtain rfl:=qaw i hi;have e:ops.toList.drop i=ops[i]::ops.toList.drop (i+1):=by rw[List.drop_eq_getElem_cons (by simpa using an)];simp
  rw[e]at h
  have hw:wpOp P ops Q i (wpList P ops Q (ops.toList.drop (i+1))) a w:=by
   unfold wpOp;simp only[ho];exact h
  refine wpOp_mono (λbI w' h'=> ?_) hw;refine ih (i+1) _ bI w' (by omega) (by omega) (by simpa using bu) (λU hj=> ?_) h';by_cases fD:U=i
  ·subst fD;simp[bu,hj]
  ·rw[Array.getElem?_setIfInBounds_ne (Ne.symm fD),hl U hj];omega
theorem JN (bh:sW ops) (a0:Act):∀ (et:Nat) (aO:Array Bool) (a:Act) (w:World) (m:Nat) (aU:Nat->Value) (I J:World->Prop) (am:Act),aO.size=ops.size->fp aO.toList+et=ops.size->Cl ops aO->
   BQ K P ops Q a0 (λU=>aO[U]? =some true) a w m aU I J am->wpAny P .any ops Q et aO a w:=by
 have s6:∀ (aO:Array Bool) (a:Act) (w:World) (m:Nat) (aU:Nat->Value) (I J:World->Prop) (am:Act),(∀ U,U<ops.size->aO[U]? =some true)->BQ K P ops Q a0 (λU=>aO[U]? =some true) a w m aU I J am->Q .normal a w:=by
  intro aO a w m aU I J am b8 h
  have hm:m=ops.size:=by
   have:=h.le;rcases R6 m ops.size with an|rQ
   ·have:=h.sub m (b8 m an);omega
   ·omega
  subst hm;rw[h.rep.eq h.kj λU hj=>⟨λ_=>hj,λ_=>b8 U hj⟩];have hd:=h.rN;rw[show ops.toList.drop ops.size=[]by rw[List.drop_eq_nil_iff];simp]at hd;exact hd w h.kept
 intro et
 induction et with
 |zero=>
  intro aO a w m aU I J am bu hc bL aV;exact⟨PX (Fw bu hc),s6 aO a w m aU I J am (Fw bu hc) aV⟩
 |succ et ih=>
  intro aO a w m0 P1 I J P2 bu hc bL s7;refine⟨λeK=>s6 aO a w m0 P1 I J P2 (PV bh bu eK) s7,λi hi=> ?_⟩;obtain⟨m,aU,am,aV,BS⟩:=s7.settle _ _ _ _ rfl;obtain⟨qD,ho,x⟩:=PY bh bu bL hi a0 a;have eW:fp (aO.setIfInBounds i true).toList+et=ops.size:=by rw[x.ir];omega
  rcases R6 i m with kk|kk
  ·
   obtain⟨gO,wD,jR⟩:=aV.oW i qD kk x.nl ho;obtain⟨hs,hex,fU⟩:=x.agree wD aV.rep;refine Fq ho (jR w (aV.imp _ aV.kept)) hs hex fU λu w' ⟨hu,hk⟩=> ?_;subst hu;refine ih _ _ w' m aU I J am x.sz eW x.cl ⟨aV.le,λU hj=> ?_,x.put aV.rep,aV.kj,λU y hj iP hy=>aV.oW U y hj (λh=>iP ((x.next U).2 (.inl h))) hy,aV.st _ _ aV.kept hk,aV.st,aV.imp,aV.rN⟩;rcases(x.next U).1 hj with h|rfl
   ·exact aV.sub U h
   ·exact kk
  ·
   rcases BS (Nat.lt_of_le_of_lt kk x.lt)with ⟨hl,oo,oX,hd⟩|⟨P3,hd⟩
   case inr=>
    have BU:∀ U,U<ops.size->(aO[U]? =some true↔U<m):=λU _=>⟨aV.sub U,λhj=>x.wt U (JM P3 i U qD kk (by omega) ho)⟩
    have iR:fp aO.toList=m:=JJ aO.toList m (by have:=aV.le;simpa [bu]using this) λU hj=>by
     have:=BU U (by simpa [bu]using hj);simpa using this
    exact(qav (P:=P) (Q:=Q) bh m P3 (et+1) m aO a w (CP _) (by omega) bu BU (by rw[aV.rep.eq aV.kj BU];exact hd w aV.kept)).2 i hi
   obtain rfl:i=m:=by
    rcases R6 m i with h|h
    ·rcases hl i qD h ho with ⟨e,he,hb,jS⟩|g
     ·have:=aV.sub _ (x.qat e he hb);omega
     ·have:=aV.sub _ (x.wt m g);omega
    ·omega
   rw[ho]at oX;injection oX with oX;subst oX;obtain⟨hs,hex,fU⟩:=x.agree aV.kj aV.rep;refine Fq ho (hd w aV.kept) hs hex fU λu w' ⟨I',J',⟨wE,eE,hi3,hk⟩,FC⟩=> ?_;have BV:=x.put (aV.rep.aU (sX:=kh aU i u) λU hj=>sY (x.ne U hj));rw[zb]at BV;refine ih _ _ w' (i+1) (kh aU i u) I' J' (am.put qD.dst u) x.sz eW x.cl ⟨x.lt,λU hj=> ?_,BV,aV.kj.next ho u,λU y hj iP hy=> ?_,hk,hi3,eE,FC⟩
   ·rcases(x.next U).1 hj with h|rfl
    ·have:=aV.sub U h;omega
    ·omega
   ·have fD:U≠i:=λe=>iP ((x.next U).2 (.inr e));obtain⟨gO,wD,jR⟩:=aV.oW U y (by omega) (λh=>iP ((x.next U).2 (.inl h))) hy;exact⟨gO,wD.aU λk hk=>sY (by omega),by rw[sY fD];exact λw hw=>jR w (wE w hw)⟩
theorem P4 (n:Nat):fp (List.replicate n false)=0:=by induction n with|zero=>rfl|succ n ih=>simp[List.replicate_succ,fp,ih]
theorem wF {n U:Nat} (h:(Array.replicate n false)[U]? =some true):False:=by simp[Array.getElem?_replicate]at h
theorem P5 (a:Act) (n:Nat):eg ops (λ_=>undef) a (λU=>(Array.replicate n false)[U]? =some true) a:=⟨rfl,rfl,λ_ _=>rfl,λt U qD _ hj=>(wF hj).elim⟩
theorem P6 (a:Act):eg ops (λ_=>undef) a (· <0) a:=⟨rfl,rfl,λ_ _=>rfl,λt U qD _ hj=>absurd hj (by omega)⟩
theorem P7 (bh:sW ops) (h2:∀ w w',J w->K w w'->J w') (h3:∀ w,J w->I w) {a:Act} {w:World} (hw:J w) (h:DG K P ops ops Q I J ops.toList 0 a):wpAny P .any ops Q ops.size (Array.replicate ops.size false) a w:=
 JN bh a _ _ _ _ 0 _ I J a (by simp) (by simp[P4]) (λU qD hj=>(wF hj).elim) ⟨Nat.zero_le _,λU hj=>(wF hj).elim,P5 a _,P6 a,λU qD hj=>absurd hj (by omega),hw,h2,h3,h⟩
end
def posOf (σ:List Nat) (U:Nat):Nat:=σ.idxOf U
def kO (σ:List Nat) (qD:Oper):Oper:={qD with after:=qD.after.map λe=>{e with on:=posOf σ e.on},guard:=qD.guard.map λg=>(posOf σ g.1,g.2)}
def eL (σ:List Nat) (ops:Array Oper):Array Oper:=(σ.map λU=>kO σ (ops.getD U default)).toArray
def FE:List Nat->Bool
 |[]=>true
 |a::r=> !r.contains a&&FE r
def s8 (σ:List Nat) (ops:Array Oper):Bool:=σ.length==ops.size&&(List.range ops.size).all (λU=>σ.contains U)&&σ.all (λU=>decide (U<ops.size))&&FE σ
structure BW (σ:List Nat) (ops:Array Oper):Prop where
 len:σ.length=ops.size
 mem:∀ U,U<ops.size->U∈σ
 lt:∀ U∈σ,U<ops.size
 nd:σ.Nodup
theorem P8:∀ l:List Nat,FE l=true->l.Nodup
 |[],_=>List.nodup_nil
 |a::r,h=>by
  simp only[FE,Bool.and_eq_true,Bool.not_eq_true']at h;refine List.nodup_cons.2 ⟨λhm=> ?_,P8 r h.2⟩;rw[List.contains_iff_mem.2 hm]at h
  cases h.1
theorem qax (h:s8 σ ops=true):BW σ ops:=by
 unfold s8 at h;simp only[Bool.and_eq_true,beq_iff_eq,List.all_eq_true,List.mem_range,List.contains_iff_mem,decide_eq_true_eq]at h;exact⟨h.1.1.1,h.1.1.2,h.1.2,P8 _ h.2⟩
theorem P9 (σ:List Nat) (qD:Oper) (a:Act) (w:World) (K:Act->World->Prop):(kO σ qD).wp P a w K Q↔qD.wp P a w K Q:=by
 obtain⟨dst,op,type,pos,after,guard⟩:=qD;exact Iff.rfl
theorem P' (σ:List Nat) (qD:Oper) (a:Act) (w:World):(kO σ qD).asks P a w↔qD.asks P a w:=by
 obtain⟨dst,op,type,pos,after,guard⟩:=qD;exact Iff.rfl
theorem zd (hp:BW σ ops) {U:Nat} {qD:Oper} (ho:ops[U]? =some qD):(eL σ ops)[posOf σ U]? =some (kO σ qD)/\posOf σ U<σ.length/\σ[posOf σ U]? =some U:=by
 have an:U<ops.size:=(qch.1 ho).1;have eM:posOf σ U<σ.length:=List.idxOf_lt_length_iff.2 (hp.mem U an);have fq:σ[posOf σ U]=U:=List.getElem_idxOf eM;have Qa:σ[posOf σ U]? =some U:=by rw[vF eM,fq]
 refine⟨?_,eM,Qa⟩;unfold eL;rw[List.getElem?_toArray,List.getElem?_map,Qa];simp[Array.getD_eq_getD_getElem?,ho]
theorem Qb (hp:BW σ ops) (qD:Oper) (tmps:Array Value) (hg:∀ g,qD.guard=some g->g.1<ops.size):
  Region.wanted (kO σ qD) (yielded (eL σ ops) tmps)=Region.wanted qD (yielded ops tmps):=by
 unfold Region.wanted kO
 cases h:qD.guard with
 |none=>rfl
 |some g=>
  obtain⟨U,b⟩:=g;simp only[Option.map_some];have an:U<ops.size:=hg _ h;have dK:ops[U]? =some ops[U]:=Ht an;have:=(zd hp dK).1;unfold yielded;rw[this,dK];rfl
theorem qay (hp:BW σ ops) (hg:∀ (U:Nat) (qD:Oper) g,ops[U]? =some qD->qD.guard=some g->g.1<ops.size):∀ (et:Nat) (aO hJ:Array Bool) (a:Act) (w:World),aO.size=ops.size->hJ.size=ops.size->
  (∀ (k U:Nat),σ[k]? =some U->hJ[k]? =aO[U]?)->wpAny P .any (eL σ ops) Q et hJ a w->wpAny P .any ops Q et aO a w:=by
 have bu:(eL σ ops).size=ops.size:=by simp[eL,hp.len]
 have mK:∀ (aO hJ:Array Bool),aO.size=ops.size->hJ.size=ops.size->(∀ (k U:Nat),σ[k]? =some U->hJ[k]? =aO[U]?)->
   ∀ i,i∈Region.ready .any ops aO->posOf σ i∈Region.ready .any (eL σ ops) hJ:=by
  intro aO hJ hs jt hl i hi;obtain⟨h0,qD,ho,uE⟩:=mem_ready.1 hi;have an:i<ops.size:=(qch.1 ho).1;obtain⟨h1,h2,h3⟩:=zd hp ho;refine mem_ready.2 ⟨oT (by rw[hl _ _ h3];exact wy (by omega) h0),_,h1,λe he hb=> ?_⟩;unfold kO at he;simp only[Array.mem_map]at he;obtain⟨e0,he0,rfl⟩:=he;have h4:=uE e0 he0 hb
  have h5:e0.on<ops.size:=by
   rcases R6 e0.on aO.size with h|h
   ·omega
   ·simp[Array.getD,show ¬e0.on<aO.size by omega]at h4
  have h6:=zd hp (Ht h5);exact oT (by rw[hl _ _ h6.2.2];exact wy (by omega) h4)
 have qaz:∀ (aO hJ:Array Bool),aO.size=ops.size->hJ.size=ops.size->(∀ (k U:Nat),σ[k]? =some U->hJ[k]? =aO[U]?)->
   ∀ k,k∈Region.ready .any (eL σ ops) hJ->∃ i,i∈Region.ready .any ops aO:=by
  intro aO hJ hs jt hl k hk;obtain⟨h0,o',Qc,uE⟩:=mem_ready.1 hk;have an:k<σ.length:=by have:=(qch.1 Qc).1;rw[bu]at this;rw[hp.len];exact this
  have hj:σ[k]? =some σ[k]:=vF an;have rR:σ[k]<ops.size:=hp.lt _ (List.getElem_mem an);have dK:ops[σ[k]]? =some ops[σ[k]]:=Ht rR;have s9:posOf σ σ[k]=k:=hp.nd.idxOf_getElem k an;have h1:=(zd hp dK).1;rw[s9,Qc]at h1;injection h1 with h1;subst h1;refine⟨σ[k],mem_ready.2 ⟨oT (by rw[<- hl _ _ hj];exact wy (by rw[jt];rw[<- hp.len];exact an) h0),_,dK,λe he hb=> ?_⟩⟩;have h2:=uE {e with on:=posOf σ e.on} (by unfold kO;exact Array.mem_map.2 ⟨e,he,rfl⟩) hb
  have h3:posOf σ e.on<hJ.size:=by
   rcases R6 (posOf σ e.on) hJ.size with h|h
   ·exact h
   ·simp[Array.getD,show ¬posOf σ e.on<hJ.size by omega]at h2
  have h4:e.on∈σ:=List.idxOf_lt_length_iff.1 (by rw[hp.len,<- jt];exact h3);have h5:=zd hp (Ht (hp.lt _ h4));exact oT (by rw[<- hl _ _ h5.2.2];exact wy h3 h2)
 intro et
 induction et with
 |zero=>
  intro aO hJ a w hs jt hl h;refine⟨?_,h.2⟩;rw[List.eq_nil_iff_forall_not_mem];intro i hi;have:=mK aO hJ hs jt hl i hi;rw[h.1]at this;cases this
 |succ et ih=>
  intro aO hJ a w hs jt hl h;refine⟨λeK=>h.1 ?_,λi hi=> ?_⟩
  ·rw[List.eq_nil_iff_forall_not_mem];intro k hk;obtain⟨i,hi⟩:=qaz aO hJ hs jt hl k hk;rw[eK]at hi;cases hi
  ·have h1:=h.2 _ (mK aO hJ hs jt hl i hi);obtain⟨_,qD,ho,_⟩:=mem_ready.1 hi;obtain⟨fq,eM,fW⟩:=zd hp ho
   have oV:∀ bI w',wpAny P .any (eL σ ops) Q et (hJ.setIfInBounds (posOf σ i) true) bI w'->wpAny P .any ops Q et (aO.setIfInBounds i true) bI w':=by
    intro bI w' h';refine ih _ _ bI w' (by simpa using hs) (by simpa using jt) (λk U fX=> ?_) h';have an:i<ops.size:=(qch.1 ho).1;by_cases hk:k=posOf σ i
    ·subst hk;rw[fW]at fX;injection fX with fX;subst fX;rw[hp.len]at eM;simp[hs,jt,an,eM]
    ·have fD:U≠i:=λe=>by
      subst e;obtain⟨eN,bb⟩:=pi.1 fX;have:=hp.nd.idxOf_getElem k eN;rw[bb]at this;exact hk this.symm
     rw[Array.getElem?_setIfInBounds_ne (Ne.symm hk),Array.getElem?_setIfInBounds_ne (Ne.symm fD)];exact hl k U fX
   unfold wpOp at h1⊢;simp only[fq,ho,Qb hp qD a.tmps (λg JO=>hg i qD g ho JO)]at h1⊢;split
   ·rename_i fU
    simp only[fU,if_true]at h1;rcases h1 with h1|⟨h1,h2⟩
    ·exact .inl (Oper.wp_mono oV ((P9 σ qD a w _).1 h1))
    ·exact .inr ⟨(P' σ qD a w).1 h1,h2⟩
   ·rename_i fU
    simp only[fU]at h1;exact oV _ _ h1
theorem qaA (hp:BW σ ops):∀ (l:List Oper),(∀ qD∈l,∀ g,qD.guard=some g->g.1<ops.size)->∀ {Q:Exit->Act->World->Prop} (a:Act) (w:World),wpList P ops Q l a w->wpList P (eL σ ops) Q (l.map (kO σ)) a w:=by
 intro l
 induction l with
 |nil=>intro _ Q a w h;exact h
 |cons qD r ih=>
  intro hg Q a w h;have BX:=λa w=>ih (λqD ho=>hg qD (zM _ ho)) (Q:=Q) a w;simp only[List.map_cons];unfold wpList at h⊢;rw[Qb hp qD a.tmps (hg qD (List.mem_cons_self ..))];split
  ·rename_i fU
   simp only[fU,if_true]at h;rcases h with h|⟨h1,h2⟩
   ·exact .inl ((P9 σ qD a w _).2 (Oper.wp_mono BX h))
   ·exact .inr ⟨(P' σ qD a w).2 h1,h2⟩
  ·rename_i fU
   simp only[fU]at h;exact BX _ _ h
def ta (ops:Array Oper):Bool:=ops.all λqD=>match qD.guard with|none=>true|some g=>decide (g.1<ops.size)
theorem Qd (h:ta ops=true):∀ (U:Nat) (qD:Oper) g,ops[U]? =some qD->qD.guard=some g->g.1<ops.size:=by
 intro U qD g ho hg;unfold ta at h;rw[Array.all_eq_true]at h;obtain⟨an,he⟩:=qch.1 ho;have:=h U an;rw[he,hg]at this;simpa using this
structure Cv (P:Program) (ops mL:Array Oper) (r:Oper->Oper) (S:Oper->Prop):Prop where
 dst:∀ qD,(r qD).dst=qD.dst
 wl:∀ (l:List Oper),(∀ qD∈l,S qD)->∀ {Q:Exit->Act->World->Prop} (a:Act) (w:World),wpList P ops Q l a w->wpList P mL Q (l.map r) a w
theorem Cv.one {S:Oper->Prop} (c:Cv P ops mL r S) {qD:Oper} (ho:S qD) {R R':Value->World->Prop} (hR:∀ u w,R u w->R' u w) {a:Act} (h:wpList P ops (bd R qD a) [qD] a w):wpList P mL (bd R' (r qD) a) [r qD] a w:=by
 have:=c.wl [qD] (λo' h'=>by rw[At]at h';rw[h'];exact ho) a w (qh hR h);unfold bd at*;rw[c.dst];exact this
theorem DG.conv {S:Oper->Prop} (c:Cv P ops mL r S) {K:World->World->Prop}:∀ (l:List Oper),(∀ qD∈l,S qD)->∀ (I J:World->Prop) (k:Nat) (a:Act),DG K P ops mL Q I J l k a->DG K P mL mL Q I J (l.map r) k a:=by
 intro l
 induction l with
 |nil=>exact λ_ _ _ _ _ h=>h
 |cons qD rest ih=>
  intro hg I J k a h;have BX:=λI J k a=>ih (λqD ho=>hg qD (zM _ ho)) I J k a;have ho:=hg qD (List.mem_cons_self ..);rcases h with ⟨v,hd,hr⟩|⟨hl,hd⟩|⟨hl,hd⟩
  ·exact .inl ⟨v,λw hw=>c.one ho (λ_ _ h=>h) (hd w hw),by rw[c.dst];exact BX _ _ _ _ hr⟩
  ·exact .inr (.inl ⟨hl,λw hw=>c.one ho (λu w' ⟨I',J',h1,h2⟩=>⟨I',J',h1,by rw[c.dst];exact BX _ _ _ _ h2⟩) (hd w hw)⟩)
  ·exact .inr (.inr ⟨hl,λw hw=>c.wl (qD::rest) hg a w (hd w hw)⟩)
def km (G H:World->World->Prop) (P:Program) (ops bc:Array Oper) (Q:Exit->Act->World->Prop) (l:List Oper) (k:Nat) (wS:World) (a:Act):Prop:=DG H P ops bc Q (G wS) (H wS) l k a
theorem DW.nil {a:Act} (h:∀ w,H wS w->Q .normal a w):km G H P ops bc Q [] k wS a:=h
theorem DW.ct {qD:Oper} {a:Act} (hd:∀ w,G wS w->wpList P ops (bd (λu w'=>u=v/\H w w') qD a) [qD] a w)
  (hr:km G H P ops bc Q rest (k+1) wS (a.put qD.dst v)):km G H P ops bc Q (qD::rest) k wS a:= .inl ⟨v,hd,hr⟩
theorem DW.bt {qD:Oper} {a:Act} (hl:JK bc k=true)
  (hd:∀ w,H wS w->wpList P ops (bd (λu w'=>G w w'/\km G H P ops bc Q rest (k+1) w' (a.put qD.dst u)) qD a) [qD] a w) (hG:BM G H:=by first|exact JD|exact oS _|assumption):km G H P ops bc Q (qD::rest) k wS a:=
 .inr (.inl ⟨λU y hj hy=> .inl (qap hl U y hj hy),λw hw=>qh (λu w' ⟨h1,h2⟩=>⟨G w',H w',⟨λx hx=>hG.g.trans (hG.g.trans (hG.sub hw) h1) hx,λx hx=>hG.sub hx,λx y hx hy=>hG.h.trans hx hy,hG.h.refl _⟩,h2⟩) (hd w hw)⟩)
theorem DW.tail {qD:Oper} {a:Act} (hl:nW bc k=true)
  (hd:∀ w,H wS w->wpList P ops Q (qD::rest) a w):km G H P ops bc Q (qD::rest) k wS a:= .inr (.inr ⟨hl,hd⟩)
theorem Qe (bh:(s8 σ ops&&ta ops)=true) (hm:P.follows .mixedOrders=true) {l:List Oper} (hl:σ.map (λU=>(ops.toList[U]?).getD default)=l):
  (∃ S:Oper->Prop,Cv P ops (eL σ ops) (kO σ) S/\∀ qD∈l,S qD)/\l.map (kO σ)=(eL σ ops).toList/\(eL σ ops).size=ops.size/\
  ∀ {id:Nat} {a:Act} {w:World},wpAny P .any (eL σ ops) Q (eL σ ops).size (Array.replicate (eL σ ops).size false) a w.drew->(Code.region id ops true).wp P Q a w:=by
 simp only[Bool.and_eq_true]at bh;obtain⟨FF,uF⟩:=bh;have hp:=qax FF;have bu:(eL σ ops).size=ops.size:=by simp[eL,hp.len]
 refine⟨⟨λqD=>∀ g,qD.guard=some g->g.1<ops.size,⟨λ_=>rfl,λl h {Q} a w h2=>qaA hp l h a w h2⟩,λqD ho g JO=> ?_⟩,?_,bu,λ{id a w} h=> ?_⟩
 ·rw[<- hl]at ho;obtain⟨U,hj,rfl⟩:=List.mem_map.1 ho;have an:=hp.lt U hj;exact Qd uF U _ g (by simp[an]) JO
 ·rw[<- hl];simp only[eL,List.map_map];refine List.map_congr_left λU _=> ?_;simp[Array.getD_eq_getD_getElem?]
 ·rw[bu]at h;refine wp_region_any hm (qay hp (Qd uF) ops.size _ (Array.replicate ops.size false) a _ (by simp) (by simp) (λk U fX=> ?_) h);obtain⟨hk,he⟩:=pi.1 fX;have h1:k<ops.size:=by rw[<- hp.len];exact hk
  have h2:U<ops.size:=hp.lt U (by rw[<- he];exact List.getElem_mem hk);simp[Array.getElem?_replicate,h1,h2]
theorem qaB (hG:BM G H) {id:Nat} {a:Act} (σ:List Nat) (C:World->Prop) (hC:C w) (hm:P.follows .mixedOrders=true) (bh:(s8 σ ops&&ta ops&&mJ (eL σ ops))=true)
  (l:List Oper) (hl:σ.map (λU=>(ops.toList[U]?).getD default)=l) (h:∀ wB,C wB->km G H P ops (eL σ ops) Q l 0 wB a):(Code.region id ops true).wp P Q a w:=by
 rw[Bool.and_eq_true]at bh;obtain⟨⟨S,hc,hS⟩,JP,_,aV⟩:=Qe (Q:=Q) bh.1 hm hl;exact aV (P7 (K:=H) (I:=G w) (J:=H w) (Ft bh.2) (λ_ _ hx hy=>hG.h.trans hx hy) (λ_ hx=>hG.sub hx) (hG.h.drew w) (JP▸DG.conv hc l hS _ _ _ _ (h w hC)))
theorem oY (hG:BM G H) {id:Nat} {a:Act} (C:World->Prop) (hC:C w) (hm:P.follows .mixedOrders=true) (bh:mJ ops=true)
  (l:List Oper) (hl:ops.toList=l) (h:∀ wB,C wB->km G H P ops ops Q l 0 wB a):(Code.region id ops true).wp P Q a w:=by
 subst hl;exact wp_region_any hm (P7 (K:=H) (I:=G w) (J:=H w) (Ft bh) (λ_ _ hx hy=>hG.h.trans hx hy) (λ_ hx=>hG.sub hx) (hG.h.drew w) (h w hC))
end
abbrev uG (C:World->Prop) (wB:World):Prop:=ag (∀ wd,ad wB wd->C wd)
section
variable {P:Program} {ops:Array Oper} {Q:Exit->Act->World->Prop} {G:World->World->Prop} {bc:Array Oper} {qD:Oper} {rest:List Oper} {a bI:Act} {k:Nat} {wS:World} {v:Value}
theorem bz {id:Nat} {w:World} (C:World->Prop) {l:List Oper} (h:∀ wB,uG C wB->km ad ad P ops ops Q l 0 wB a) (hC:C w:=by(repeat' apply And.intro) <;>first|assumption|exact al|go_simp) (hs:∀ a b,C a->ad a b->C b:=by(intro wa wb hc hk;(repeat(have hx:=And.left hc;replace hc:=And.right hc));(repeat' apply And.intro) <;>first|exact ad.call (by assumption) hk|exact hk.af (by assumption))) (hm:P.follows .mixedOrders=true:=by kernel_rfl) (bh:mJ ops=true:=by kernel_rfl) (hl:ops.toList=l:=by(try simp only[List.append_eq,List.cons_append,List.nil_append,List.toList_toArray]);exact rfl):(Code.region id ops true).wp P Q a w:=
 oY JD C hC hm bh l hl λwB hB=>h wB λwd hd=>hs wB wd hB hd
theorem Qf {id:Nat} {w:World} (σ:List Nat) (C:World->Prop) {l:List Oper} (h:∀ wB,uG C wB->km ad ad P ops (eL σ ops) Q l 0 wB a) (hC:C w:=by(repeat' apply And.intro) <;>first|assumption|exact al|go_simp) (hs:∀ a b,C a->ad a b->C b:=by(intro wa wb hc hk;(repeat(have hx:=And.left hc;replace hc:=And.right hc));(repeat' apply And.intro) <;>first|exact ad.call (by assumption) hk|exact hk.af (by assumption))) (hm:P.follows .mixedOrders=true:=by kernel_rfl) (bh:(s8 σ ops&&ta ops&&mJ (eL σ ops))=true:=by kernel_rfl) (hl:σ.map (λU=>(ops.toList[U]?).getD default)=l:=by(try simp only[List.append_eq,List.cons_append,List.nil_append,List.toList_toArray,List.map_cons,List.map_nil,List.getElem?_cons_zero,List.getElem?_cons_succ,Option.getD_some]);exact rfl):(Code.region id ops true).wp P Q a w:=
 qaB JD σ C hC hm bh l hl λwB hB=>h wB λwd hd=>hs wB wd hB hd
theorem DW.dt (hr:km G ad P ops bc Q rest (k+1) wS bI) (hd:∀ w,G wS w->wpList P ops (bd (λu w'=>u=v/\ad w w') qD a) [qD] a w:=by(intro wd hI;(try(have hC:=SS.o wd hI;repeat(have hx:=And.left hC;replace hC:=And.right hC)));go_wp2_with (fail);refine bd.mk _ rfl ⟨rfl,?_⟩;exact al)) (ha:a.put qD.dst v=bI:=by(simp only[Act.put,List.setIfInBounds_toArray,List.set_cons_succ,List.set_cons_zero];exact rfl)):km G ad P ops bc Q (qD::rest) k wS a:= .inl ⟨v,hd,ha▸hr⟩
theorem DW.np (h:km G ad P ops bc Q rest k wS bI) (ha:a=bI:=by(simp only[Act.put,List.setIfInBounds_toArray,List.set_cons_succ,List.set_cons_zero];exact rfl)):km G ad P ops bc Q rest k wS a:=ha▸h
theorem DW.nl {C:World->Prop} (SS:uG C wS) (h:∀ wd,ad wS wd->C wd->Q .normal a wd):km ad ad P ops bc Q [] k wS a:=DW.nil λwd hI=>h wd hI (SS.o wd hI)
theorem aP {w w':World} (h:bI=a.put qD.dst v:=by exact rfl) (hk:ad w w':=by exact al):bd (λu w'=>u=v/\ad w w') qD a .normal bI w':=⟨rfl,v,h,rfl,hk⟩
theorem bn {R:Value->World->Prop} {w w':World} {u:Value} (h:bI=a.put qD.dst u) (hR:R u w') (hk:ad w w':=by exact al):bd (λu w'=>R u w'/\ad w w') qD a .normal bI w':=⟨rfl,u,h,hR,hk⟩
theorem cu {C:World->Prop} {w w':World} {u:Value} {a2:Act} (hI:ad wS w) (SS:uG C wS) (hc:ad wS w'->uG C w'->km ad ad P ops bc Q rest (k+1) w' a2) (h:bI=a.put qD.dst u:=by exact rfl) (hk:ad w w':=by exact al) (ha:a.put qD.dst u=a2:=by(simp only[Act.put,List.setIfInBounds_toArray,List.set_cons_succ,List.set_cons_zero];exact rfl)):bd (λu w'=>ad w w'/\km ad ad P ops bc Q rest (k+1) w' (a.put qD.dst u)) qD a .normal bI w':=
 ⟨rfl,u,h,hk,ha▸hc (hI.call hk) λwd hd=>SS.o wd (hI.call (hk.call hd))⟩
end
end Go.Proofs.YtehaoggjlciobaaGreat

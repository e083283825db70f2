/- Part 6 of 40. -/
import Derived.Test.YtehaoggjlciobaaGreatQaf
import Derived.Test.YtehaoggjlciobaaGreatQag
import Derived.Shelf.SlSorted.Search
set_option linter.all false
set_option maxRecDepth 20000
set_option maxHeartbeats 16000000
namespace Go.Proofs.YtehaoggjlciobaaGreat
open Go.RowKit Go.Proofs.Tryz
variable {k:ByteArray} {p:List Int} {l:List aD} {U b h i x y:Nat} {a:aD}
def c8 (n s m t:Int):Bool:=decide (n<m∨(n=m/\s<t))
def fu (n s:Int):Bool:=decide (1<=n/\n<=1099511627776/\0<=s/\s<6)
theorem qw (n s m t:Int) (w:World):
  Calls prog 114 #[.agg #[.int .i64 n,.int .i64 s],.agg #[.int .i64 m,.int .i64 t]] w λe w'=>e= .returned (.bool (c8 n s m t))/\ad w w':=by
 go_wp2
 all_goals
  go_ret;refine⟨yZ (by unfold c8;rw[Bool.eq_iff_iff];simp;omega),?_⟩;exact al
theorem F5 (n s:Int) (w:World):
  Calls prog 206 #[.agg #[.int .i64 n,.int .i64 s]] w λe w'=>e= .returned (.bool (fu n s))/\ad w w':=by
 go_wp2
 all_goals
  go_ret;refine⟨yZ (by unfold fu;rw[Bool.eq_iff_iff];simp;omega),?_⟩;exact al
theorem Q' (n s:Int) (w:World) (h:1<=n/\n<=1099511627776/\0<=s/\s<6):
  Calls prog 206 #[.agg #[.int .i64 n,.int .i64 s]] w λe w'=>e= .returned (.bool true)/\ad w w':=
 (F5 n s w).mono λ_ _ ⟨he,hw⟩=>⟨by rw[he];exact yZ (ql3 h),hw⟩
theorem qbo (n s:Int) (w:World) (h:¬(1<=n/\n<=1099511627776/\0<=s/\s<6)):
  Calls prog 206 #[.agg #[.int .i64 n,.int .i64 s]] w λe w'=>e= .returned (.bool false)/\ad w w':=
 (F5 n s w).mono λ_ _ ⟨he,hw⟩=>⟨by rw[he];exact yZ (ql4 h),hw⟩
theorem qbp (n s k r:Int) (w:World) (h1:0<=k) (h2:k<6) (h:n<1099511627776) (hr:r=max n 0+1):
  Calls prog 147 #[.agg #[.int .i64 n,.int .i64 s],.int .i64 k] w λe w'=>e= .returned (.tuple #[.agg #[.int .i64 r,.int .i64 k],.int .i64 0])/\ad w w':=by
 have HR:=aa hr;clear hr;go_wp2
 all_goals
  have hr:=HR.o;refine KV (v:= .tuple #[.agg #[.int .i64 r,.int .i64 k],.int .i64 0]) (by simp[results,results147,go_sem];omega) rfl ⟨rfl,?_⟩;exact al
def zz (m x:Int×Int):Int×Int:=if c8 m.1 m.2 x.1 x.2=true then x else m
def maxOf (l:List (Int×Int)):Int×Int:=l.foldl zz (0,0)
def Kk (w:World) (A:Option Addr) (n:Nat) (xs:List (Int×Int)):Prop:=
 xs.length=n/\n<=maxLen/\(0<n->∃ b off,A=some ⟨b,off,none⟩/\∀ i,i<n->w.cell? ⟨b,off+i*2,none⟩=some (.int .i64 (xs[i]?.getD (0,0)).1)/\w.cell? ⟨b,off+i*2+1,none⟩=some (.int .i64 (xs[i]?.getD (0,0)).2))
theorem qbq (xs:List (Int×Int)) (k:Nat) (hk:k<xs.length):maxOf (xs.take (k+1))=zz (maxOf (xs.take k)) (xs[k]?.getD (0,0)):=by
 unfold maxOf;rw[QI hk,List.foldl_append];simp[vF hk]
theorem qbr (b off n c:Nat) (xs:List (Int×Int)) (w:World) (h0:0<n) (hn:n<=maxLen) (hl:xs.length=n)
  (du:∀ i,i<n->w.cell? ⟨b,off+i*2,none⟩=some (.int .i64 (xs[i]?.getD (0,0)).1)/\w.cell? ⟨b,off+i*2+1,none⟩=some (.int .i64 (xs[i]?.getD (0,0)).2)):
  Calls prog 146 #[.slice (some ⟨b,off,none⟩) n c] w λe w'=>e= .returned (.agg #[.int .i64 (maxOf xs).1,.int .i64 (maxOf xs).2])/\ad w w':=by
 unfold maxLen at hn;have hb:b<w.heap.size:=Aa w _ (du 0 h0).1;have HL:=aa hl;have HC:=aa du;clear hl du;go_wp2
 go_loopw [8] (λi wr=>∃ k:Nat,k<=n/\i= .int .i64 k/\ad w wr/\w.heap.size+1<wr.heap.size/\
   wr.cell? ⟨w.heap.size+1,0,none⟩=some (.int .i64 (maxOf (xs.take k)).1)/\wr.cell? ⟨w.heap.size+1,1,none⟩=some (.int .i64 (maxOf (xs.take k)).2)/\
   wr.frozen? ⟨w.heap.size+1,0,none⟩=false/\wr.frozen? ⟨w.heap.size+1,1,none⟩=false/\
   wr.cell? ⟨w.heap.size,0,none⟩=some (.int .i64 0)/\wr.cell? ⟨w.heap.size,1,none⟩=some (.int .i64 0)/\
   wr.frozen? ⟨w.heap.size,0,none⟩=false/\wr.frozen? ⟨w.heap.size,1,none⟩=false) (λi _=>n-(intOf i).toNat)
 case atStart=>
  refine⟨0,ab,rfl,al,ao,?_,?_,?_,?_,?_,?_,?_,?_⟩;all_goals (simp[maxOf,go_sem];try rfl)
 case round=>
  obtain⟨k,hk,rfl,qbs,bu,q0,q1,f0,f1,r0,r1,g0,g1⟩:=hrel;by_cases an:k<n
  ·obtain⟨x0,x1⟩:=HC.o k an;rw[<- qbs.cell _ _ hb]at x0 x1;go_wp2_with (first|(go_at_call 114;refine(qw _ _ _ _ _).mono ?_;rintro e w4 ⟨rfl,ga⟩;have bO:=ga.cell;have Ra:=ga.frozen;have Cs:=ga.size;(try simp only[World.size_alloc,World.size_setCell,World.size_drew]at Cs bO Ra);have qku:b<w4.heap.size:=ab;have qkv:=λqD=>ga.cell (b) qD (by first|omega|(simp only[World.size_alloc,World.size_setCell,World.size_drew];done)|(simp only[World.size_alloc,World.size_setCell,World.size_drew];omega));have qkw:=λqD=>ga.frozen (b) qD (by first|omega|(simp only[World.size_alloc,World.size_setCell,World.size_drew];done)|(simp only[World.size_alloc,World.size_setCell,World.size_drew];omega));have qkx:w.heap.size<w4.heap.size:=ab;have qky:=λqD=>ga.cell (w.heap.size) qD (by first|omega|(simp only[World.size_alloc,World.size_setCell,World.size_drew];done)|(simp only[World.size_alloc,World.size_setCell,World.size_drew];omega));have qkz:=λqD=>ga.frozen (w.heap.size) qD (by first|omega|(simp only[World.size_alloc,World.size_setCell,World.size_drew];done)|(simp only[World.size_alloc,World.size_setCell,World.size_drew];omega));have qkA:w.heap.size+1<w4.heap.size:=ab;have qkB:=λqD=>ga.cell (w.heap.size+1) qD (by first|omega|(simp only[World.size_alloc,World.size_setCell,World.size_drew];done)|(simp only[World.size_alloc,World.size_setCell,World.size_drew];omega));have qkC:=λqD=>ga.frozen (w.heap.size+1) qD (by first|omega|(simp only[World.size_alloc,World.size_setCell,World.size_drew];done)|(simp only[World.size_alloc,World.size_setCell,World.size_drew];omega));have qkD:wr.heap.size<w4.heap.size:=ab;have qkE:=λqD=>ga.cell (wr.heap.size) qD (by first|omega|(simp only[World.size_alloc,World.size_setCell,World.size_drew];done)|(simp only[World.size_alloc,World.size_setCell,World.size_drew];omega));have qkF:=λqD=>ga.frozen (wr.heap.size) qD (by first|omega|(simp only[World.size_alloc,World.size_setCell,World.size_drew];done)|(simp only[World.size_alloc,World.size_setCell,World.size_drew];omega));clear bO Ra))
   all_goals
    have HT:=aa (qbq xs k (by have:=HL.o;omega));first|(have HB:ag (c8 (maxOf (xs.take k)).1 (maxOf (xs.take k)).2 (xs[k]?.getD (0,0)).1 (xs[k]?.getD (0,0)).2=true):=bk)|(have HB:ag (c8 (maxOf (xs.take k)).1 (maxOf (xs.take k)).2 (xs[k]?.getD (0,0)).1 (xs[k]?.getD (0,0)).2=false):=bk)
    have FB:w.heap.size<wr.heap.size:=ab;have hw:w.heap.size<w4.heap.size:=ab;go_roundw
    case rel=>
     refine⟨k+1,ab,aA,al,by(try simp only[World.size_setCell]);omega,?_,?_,?_,?_,?_,?_,?_,?_⟩
     all_goals
      (try(rw[HT.o];unfold zz;rw[HB.o]))
      go_simp
      try rfl
    case measure=>exact dY
  ·obtain rfl:k=n:=ab;have HT:ag (xs.take k=xs):=qcc (by have:=HL.o;omega);go_wp2;refine KV (v:= .agg #[.int .i64 (maxOf xs).1,.int .i64 (maxOf xs).2]) (by simp[results,results146,go_sem,HT.o, *]) rfl ⟨rfl,?_⟩;exact al
theorem qbt (A:Option Addr) (c:Nat) (w:World):
  Calls prog 146 #[.slice A 0 c] w λe w'=>e= .returned (.agg #[.int .i64 0,.int .i64 0])/\ad w w':=by
 go_wp2;go_rounds 1
 refine KV (v:= .agg #[.int .i64 0,.int .i64 0]) (by simp[results,results146,go_sem]) rfl ⟨rfl,?_⟩;exact al
theorem zA (A:Option Addr) (n c:Nat) (xs:List (Int×Int)) (w:World) (h:Kk w A n xs):
  Calls prog 146 #[.slice A n c] w λe w'=>e= .returned (.agg #[.int .i64 (maxOf xs).1,.int .i64 (maxOf xs).2])/\ad w w':=by
 obtain⟨hl,hn,hc⟩:=h;rcases Nat.eq_zero_or_pos n with rfl|h0
 ·obtain rfl:xs=[]:=ql2 hl;exact qbt A c w
 ·obtain⟨b,off,rfl,du⟩:=hc h0;exact qbr b off n c xs w h0 hn hl du
theorem zB (a:ByteArray) (w:World):Calls prog 287 #[.string a] w λe w'=>e= .returned (.bool false)/\ad w w':=by
 have he:(a.toList==a.toList)=true:=ao;go_wp2;go_ret;exact⟨ao,al⟩
def Let (k:ByteArray):Prop:=∃ c,97<=c/\c<105/\k=ch c
theorem Let.hv (h:Let k):97<=hv k/\hv k<105:=by
 obtain⟨c,h1,h2,rfl⟩:=h;rw[kg ab];omega
theorem Let.ext {a b:ByteArray} (ha:Let a) (hb:Let b) (h:Go.Proofs.YtehaoggjlciobaaGreat.hv a=Go.Proofs.YtehaoggjlciobaaGreat.hv b):a=b:=by
 obtain⟨c,h1,h2,rfl⟩:=ha;obtain⟨d,h3,h4,rfl⟩:=hb;rw[kg ab,kg ab]at h;rw[show c=d by omega]
theorem Let.less {a b:ByteArray} (hb:Let b):Op.bytesLess a.toList b.toList=decide (Go.Proofs.YtehaoggjlciobaaGreat.hv a<Go.Proofs.YtehaoggjlciobaaGreat.hv b):=by
 obtain⟨d,h3,h4,rfl⟩:=hb;rw[uB _ ab,kg ab]
structure b9 (l:List aD):Prop where
 ok:∀ d∈l,Let d.key/\fu d.n d.s=true
 pb:l.Pairwise λa b=>hv a.key<hv b.key
theorem b9.nil:b9 []:=⟨λd hd=>(by cases hd),.nil⟩
theorem b9.sub {m:List aD} (h:b9 l) (hs:m.Sublist l):b9 m:=⟨λd hd=>h.ok d (hs.subset hd),h.pb.sublist hs⟩
theorem Rb:∀ (l:List aD) (m:Int),(l.Pairwise λa b=>hv a.key<hv b.key)->(∀ d∈l,m<=hv d.key/\hv d.key<105)->(l.length:Int)<=max 0 (105-m)
 |[],m,_,_=>by simp;omega
 |a::t,m,h,hx=>by
  obtain⟨h1,h2⟩:=List.pairwise_cons.1 h;have ha:=hx a ao;have:=Rb t (hv a.key+1) h2 λd hd=>⟨by have:=h1 d hd;omega,(hx d (zM _ hd)).2⟩;rw[List.length_cons];omega
theorem b9.len (h:b9 l):l.length<=8:=by
 have:=Rb l 97 h.pb λd hd=>(h.ok d hd).1.hv;omega
def gt:List aD->ByteArray->Int×Int
 |[],_=>(0,0)
 |d::t,k=>if d.key=k then(d.n,d.s)else gt t k
theorem xg:∀ {l:List aD} {k:ByteArray},(∀ d∈l,d.key≠k)->gt l k=(0,0)
 |[],_,_=>rfl
 |d::t,k,h=>by
  unfold gt;rw[if_neg (h d (List.mem_cons_self ..))];exact xg λx hx=>h x (zM _ hx)
theorem Ct:∀ {l:List aD},(l.Pairwise λa b=>hv a.key<hv b.key)->∀ {d:aD},d∈l->gt l d.key=(d.n,d.s)
 |[],_,d,hd=>by cases hd
 |a::t,h,d,hd=>by
  obtain⟨h1,h2⟩:=List.pairwise_cons.1 h;unfold gt;rcases KX.1 hd with rfl|hd
  ·rw[if_pos rfl]
  ·rw[if_neg]
   ·exact Ct h2 hd
   ·intro e;have:=h1 d hd;rw[e]at this;omega
theorem Rc (h:b9 l) (k:ByteArray):(∃ d∈l,d.key=k/\gt l k=(d.n,d.s))∨((∀ d∈l,d.key≠k)/\gt l k=(0,0)):=by
 by_cases e:∃ d∈l,d.key=k
 ·obtain⟨d,hd,rfl⟩:=e;exact .inl ⟨d,hd,rfl,Ct h.pb hd⟩
 ·have e2:∀ d∈l,d.key≠k:=λd hd h=>e ⟨d,hd,h⟩;exact .inr ⟨e2,xg e2⟩
theorem qbu (a b:ByteArray) (ha:Let a) (hb:Let b) (w:World):Calls prog 266 #[.string a,.string b] w λe w'=>∃ r:Int,e= .returned (.int .i64 r)/\(r<0↔hv a<hv b)/\(r=0↔hv a=hv b)/\ad w w':=by
 have e1:=hb.less (a:=a);have e2:=ha.less (a:=b)
 have e3:(a.toList==b.toList)=decide (hv a=hv b):=by
  rw[Bool.eq_iff_iff,decide_eq_true_iff,beq_iff_eq];exact⟨λh=>by unfold hv;rw[h],λh=>by rw[ha.ext hb h]⟩
 rcases Int.lt_trichotomy (hv a) (hv b)with g|g|g
 ·rw[ql3 g]at e1;rw[ql4 ab]at e2 e3;have G:=aa g;clear g;go_in;go_wp2_with fail
  refine(zB a _).mono ?_;rintro e w1 ⟨rfl,k1⟩;go_wp2_with fail
  refine(zB b _).mono ?_;rintro e w2 ⟨rfl,k2⟩;go_wp2;go_ret;have g:=G.o;exact⟨-1,rfl,ab,ab,k1.call k2⟩
 ·rw[ql4 ab]at e1 e2;rw[ql3 g]at e3;have G:=aa g;clear g;go_in;go_wp2_with fail
  refine(zB a _).mono ?_;rintro e w1 ⟨rfl,k1⟩;go_wp2_with fail
  refine(zB b _).mono ?_;rintro e w2 ⟨rfl,k2⟩;go_wp2;go_ret;have g:=G.o;exact⟨0,rfl,ab,ab,k1.call k2⟩
 ·rw[ql4 ab]at e1 e3;rw[ql3 g]at e2;have G:=aa g;clear g;go_in;go_wp2_with fail
  refine(zB a _).mono ?_;rintro e w1 ⟨rfl,k1⟩;go_wp2_with fail
  refine(zB b _).mono ?_;rintro e w2 ⟨rfl,k2⟩;go_wp2;go_ret;have g:=G.o;exact⟨1,rfl,ab,ab,k1.call k2⟩
theorem Re (d:aD) (k:ByteArray) (hd:Let d.key) (hk:Let k) (w:World):Calls prog 265 #[.agg #[.string d.key,.int .i64 d.n,.int .i64 d.s],.string k] w λe w'=>∃ r:Int,e= .returned (.int .i64 r)/\(r<0↔hv d.key<hv k)/\(r=0↔hv d.key=hv k)/\ad w w':=by
 go_in;go_wp2_with fail
 refine(qbu d.key k hd hk _).mono ?_;rintro e w2 ⟨r,rfl,h1,h2,k2⟩;go_wp2;go_ret;exact⟨r,rfl,h1,h2,ad.call al k2⟩
theorem Rf (i U:Nat) (h:i+U<9223372036854775808):IntKind.i64.wrap (IntKind.u64.wrap (IntKind.i64.wrap ((i:Int)+(U:Int)))/2)=(((i+U)/2:Nat):Int):=by
 rw[IntKind.wrap_i64,IntKind.wrap_u64,IntKind.wrap_i64];omega
structure Pos (l:List aD) (k:ByteArray) (i:Nat) (b:Bool):Prop where
 le:i<=l.length
 low:∀ t a,t<i->l[t]? =some a->hv a.key<hv k
 high:∀ t a,i<=t->l[t]? =some a->hv k<=hv a.key
 is:b=true↔∃ a,l[i]? =some a/\a.key=k
theorem Pos.lt {b:Bool} (h:Pos l k i b) (hb:b=true):i<l.length:=by
 obtain⟨a,ha,_⟩:=h.is.1 hb;exact(bg ha)
structure kx (l:List aD) (k:ByteArray) (i U:Nat):Prop where
 low:∀ t a,t<i->l[t]? =some a->hv a.key<hv k
 high:∀ t a,U<=t->l[t]? =some a->hv k<=hv a.key
theorem Rh (h:l.Pairwise λa b=>hv a.key<hv b.key) {b:aD} (fV:i<=U) (ha:l[i]? =some a) (hb:l[U]? =some b):hv a.key<=hv b.key:=by
 rcases Nat.eq_or_lt_of_le fV with rfl|an
 ·rw[ha]at hb;injection hb with hb;rw[hb];exact Int.le_refl _
 ·obtain⟨h1,rfl⟩:=pi.1 ha;obtain⟨h2,rfl⟩:=pi.1 hb;exact Int.le_of_lt (List.pairwise_iff_getElem.1 h i U h1 h2 an)
theorem kx.right (s:kx l k i U) (hp:b9 l) (ha:l[h]? =some a) (hl:hv a.key<hv k):kx l k (h+1) U:=
 ⟨λt b ht hb=>by have:=Rh hp.pb (show t<=h by omega) hb ha;omega,s.high⟩
theorem kx.left (s:kx l k i U) (hp:b9 l) (ha:l[h]? =some a) (hl:¬hv a.key<hv k):kx l k i h:=
 ⟨s.low,λt b ht hb=>by have:=Rh hp.pb ht ha hb;omega⟩
theorem kx.start (l:List aD) (k:ByteArray):kx l k 0 l.length:=⟨λt a h=>ab,λt a h ha=>by have:=(bg ha);omega⟩
theorem kx.pos {b:Bool} (s:kx l k i i) (hp:b9 l) (hk:Let k) (ha:l[i]? =some a) (hb:b=true↔hv a.key=hv k):Pos l k i b:=
 ⟨Nat.le_of_lt (bg ha),s.low,s.high,hb.trans ⟨λh=>⟨a,ha,(hp.ok a (zV ha)).1.ext hk h⟩,λ⟨x,hx,he⟩=>by rw[ha]at hx;injection hx with hx;rw[hx,he]⟩⟩
theorem kx.none (s:kx l k l.length l.length):Pos l k l.length false:=
 ⟨CP _,s.low,s.high,ao⟩
theorem bsd (v:Value) (l:List aD) (k:ByteArray) (w:World) (bH:Rw w 60 3 aS v l) (hp:b9 l) (hk:Let k):
  Calls prog 264 #[v,.string k,.func (.func 265) #[] #[]] w λe w'=>∃ (i:Nat) (b:Bool),e= .returned (.tuple #[.int .i64 i,.bool b])/\Pos l k i b/\ad w w':=by
 obtain⟨A,c,rfl,bl,bQ⟩:=bH.form;have hl:=hp.len;have uH:ag (kx l k 0 l.length):=kx.start l k;obtain⟨n,hn⟩:=eqQ l.length;rw[hn]at bH bl hl uH⊢;have HV:=aa bH;have HN:=aa hn;have HP:=aa hp;have HK:=aa hk;clear bH hn hp hk;go_wp2;go_loopw [9,10] (λiv jv wr=>∃ i U:Nat,i<=U/\U<=n/\iv= .int .i64 i/\jv= .int .i64 U/\ad w wr/\ag (kx l k i U)) (λiv jv _=>(intOf jv).toNat-(intOf iv).toNat)
 case atStart=>exact⟨0,n,ab,ab,rfl,rfl,al,uH⟩
 case round=>
  obtain⟨i,U,fV,hj,rfl,rfl,kr,hs⟩:=hrel;by_cases an:i<U
  ·obtain⟨h,hh⟩:=eqQ ((i+U)/2);have F6:i<=h/\h<U:=ab;have Kl:=Rf i U ab;rw[hh]at Kl;obtain⟨a,ha⟩:=exQ l h (by rw[HN.o];omega);obtain⟨b,off,rfl,hb,hc⟩:=HV.o.af ha;have zC:=aa (HP.o.ok a (zV ha)).1;have HR:ag (hv a.key<hv k->kx l k (h+1) U):=λg=>hs.o.right HP.o ha g;have HL:ag (hv k<=hv a.key->kx l k i h):=λg=>hs.o.left HP.o ha ab;clear ha;obtain⟨x0,x1,x2⟩:=a;obtain⟨c0,c1,c2⟩:=kQ λU u hu=>kr.af (hc U u hu);clear hc;go_wp2_with fail
   refine(Re ⟨x0,x1,x2⟩ k zC.o HK.o wr).mono ?_;rintro e w2 ⟨r,rfl,iy,_,k2⟩;have K2:=kr.call k2;have dv:=aa iy;clear iy;by_cases hr:r<0
   ·have xh:=aa (HR.o (dv.o.1 hr));go_wp2;go_roundw
    case rel=>exact⟨h+1,U,ab,ab,congrArg (Value.int .i64) ab,rfl,K2,xh⟩
    case measure=>exact dY
   ·have xh:=aa (HL.o (by have:=dv.o;simp only at this;omega));go_wp2;go_roundw
    case rel=>exact⟨i,h,ab,ab,rfl,congrArg (Value.int .i64) ab,K2,xh⟩
    case measure=>exact dY
  ·obtain rfl:i=U:=ab;by_cases c7:i<n
   ·obtain⟨a,ha⟩:=exQ l i (by rw[HN.o];omega);obtain⟨b,off,rfl,hb,hc⟩:=HV.o.af ha;have zC:=aa (HP.o.ok a (zV ha)).1;have Km:ag (∀ b:Bool,(b=true↔hv a.key=hv k)->Pos l k i b):=λb g=>hs.o.pos HP.o HK.o ha g;clear ha;obtain⟨x0,x1,x2⟩:=a;obtain⟨c0,c1,c2⟩:=kQ λU u hu=>kr.af (hc U u hu);clear hc;go_wp2_with fail
    refine(Re ⟨x0,x1,x2⟩ k zC.o HK.o wr).mono ?_;rintro e w2 ⟨r,rfl,_,b3,k2⟩;have di:=aa b3;clear b3;go_wp2;go_ret2
    exact⟨i,_,rfl,Km.o _ (by simpa using di.o),kr.call k2⟩
   ·obtain rfl:i=n:=ab;go_wp2;go_ret2
    exact⟨i,false,rfl,by have h:=HN.o;have g:=hs.o;rw[<- h]at g⊢;exact g.none,kr⟩
theorem Ri (v:Value) (l:List aD) (k:ByteArray) (w:World) (bH:Rw w 60 3 aS v l) (hp:b9 l) (hk:Let k):
  Calls prog 215 #[v,.string k] w λe w'=>∃ (i:Nat) (b:Bool),e= .returned (.tuple #[.int .i64 i,.bool b])/\Pos l k i b/\ad w w':=by
 have HV:=aa bH;have HP:=aa hp;have HK:=aa hk;clear bH hp hk;go_in;go_wp2_with fail
 refine(bsd v l k w HV.o HP.o HK.o).mono ?_;rintro e w1 ⟨i,b,rfl,h1,k1⟩;have H1:=aa h1;clear h1;go_wp2;go_ret2
 exact⟨i,b,rfl,H1.o,k1⟩
theorem Pos.gt (h:Pos l k i true) (hp:b9 l) (ha:l[i]? =some a):gt l k=(a.n,a.s):=by
 obtain⟨x,hx,rfl⟩:=h.is.1 rfl;rw[ha]at hx;injection hx with hx;subst hx;exact Ct hp.pb (zV ha)
theorem Pos.no (h:Pos l k i false) (hp:b9 l):∀ d∈l,d.key≠k:=by
 rintro d hd rfl;obtain⟨t,ht⟩:=qcl.1 hd;rcases R6 t i with g|g
 ·have:=h.low t d g ht;omega
 ·rcases Nat.eq_or_lt_of_le g with rfl|g
  ·have:=h.is.2 ⟨d,ht,rfl⟩;cases this
  ·have hi:i<l.length:=by have:=(bg ht);omega
   have h1:=h.high i l[i] (CP _) (vF hi);obtain⟨h2,rfl⟩:=pi.1 ht;have:=List.pairwise_iff_getElem.1 hp.pb i t hi h2 g;omega
theorem zD (v:Value) (l:List aD) (k:ByteArray) (w:World) (bH:Rw w 60 3 aS v l) (hp:b9 l) (hk:Let k):
  Calls prog 232 #[v,.string k] w λe w'=>∃ n s:Int,e= .returned (.agg #[.int .i64 n,.int .i64 s])/\gt l k=(n,s)/\ad w w':=by
 obtain⟨A,c,rfl,bl,bQ⟩:=bH.form;have HV:=aa bH;have HP:=aa hp;have HK:=aa hk;have hl:=hp.len;clear bH hp hk;go_in;go_wp2_with fail
 refine(Ri _ l k _ (HV.o.kept al) HP.o HK.o).mono ?_;rintro e wr ⟨i,b,rfl,eM,k1⟩;have h1:=eM.le;have h2:=eM.lt;have z0:wr.cell? ⟨w.heap.size,0,none⟩=some (.int .i64 0):=k1.af (by go_simp);have z1:wr.cell? ⟨w.heap.size,1,none⟩=some (.int .i64 0):=k1.af (by go_simp);have kr:ad w wr:=ad.call al k1;have hf:∀ qD,wr.frozen? ⟨w.heap.size,qD,none⟩=false:=λqD=>by rw[k1.frozen w.heap.size qD ao];go_simp
 have f0:=hf 0;have f1:=hf 1;have mY:=aa eM;clear k1 hf eM
 cases b
 ·go_wp2;refine KV (v:= .agg #[.int .i64 0,.int .i64 0]) (by simp[results,results232,go_sem,z0,z1]) rfl ?_;exact⟨0,0,rfl,xg (mY.o.no HP.o),al⟩
 ·have hi:=h2 rfl;obtain⟨a,ha⟩:=exQ l i hi;have HG:=aa (mY.o.gt HP.o ha);obtain⟨b,off,rfl,hb,hc⟩:=HV.o.af ha;obtain⟨n,hn⟩:=eqQ l.length;rw[hn]at hi bl h1 hl⊢;clear ha h2 hn;obtain⟨x0,x1,x2⟩:=a;obtain⟨c0,c1,c2⟩:=kQ λU u hu=>kr.af (hc U u hu);clear hc;go_wp2_with fail
  refine KV (v:= .agg #[.int .i64 x1,.int .i64 x2]) (by simp[results,results232,go_sem,z0,z1]) rfl ?_;exact⟨x1,x2,rfl,HG.o,al⟩
theorem xi (d:aD) (hk:Let d.key) (w:World):Calls prog 216 #[.agg #[.string d.key,.int .i64 d.n,.int .i64 d.s]] w λe w'=>e= .returned (.bool (fu d.n d.s))/\ad w w':=by
 obtain⟨c,h1,h2,hc⟩:=hk;go_in;go_wp2_with fail
 rw[hc];refine(FG c _ ab ab).mono ?_;rintro e w1 ⟨rfl,k1⟩;have e1:w1.cell? ⟨w.heap.size,1,none⟩=some (.int .i64 d.n):=k1.af (by go_simp);have e2:w1.cell? ⟨w.heap.size,2,none⟩=some (.int .i64 d.s):=k1.af (by go_simp);have K1:ad w w1:=ad.call al k1;clear k1;go_wp2_with fail
 refine(F5 d.n d.s _).mono ?_;rintro e w2 ⟨rfl,k2⟩;go_wp2;go_ret;exact⟨by cases fu d.n d.s <;>rfl,K1.call k2⟩
def pa (p:List Int) (x:Nat):Int:=p[x]?.getD (-2)
def Nr (p:List Int) (x y:Nat):Prop:=pa p x=y∨pa p y=x
theorem Nr.symm (h:Nr p x y):Nr p y x:=h.elim .inr .inl
structure T (p:List Int) (R:Nat->Nat):Prop where
 one:1<=p.length
 cV:p.length<=6
 gN:∀ x,x<p.length-> -1<=pa p x/\pa p x<p.length
 root:∃ r,r<p.length/\∀ x,x<p.length->(pa p x= -1↔x=r)
 rk:∀ x,x<p.length->∀ y:Nat,pa p x=y->R y<R x
 r7:∀ x,x<p.length->R x<7
def cH (p:List Int):Prop:=∃ R,T p R
structure W (p:List Int) (l:List Nat):Prop where
 lt:∀ (i:Nat) (x:Nat),l[i]? =some x->x<p.length
 n':∀ (i x y:Nat),l[i]? =some x->l[i+1]? =some y->Nr p x y
 nb:∀ (i x z:Nat),l[i]? =some x->l[i+2]? =some z->x≠z
theorem W.sub {l m:List Nat} (s t:List Nat) (h:W p l) (e:l=s++(m++t)):W p m:=by
 have key:∀ i x,m[i]? =some x->l[s.length+i]? =some x:=by
  intro i x hi
  have an:i<m.length:=by
   rcases R6 i m.length with g|g
   ·exact g
   ·rw[List.getElem?_eq_none g]at hi;cases hi
  rw[e,List.getElem?_append_right ab,Nat.add_sub_cancel_left,qlZ an];exact hi
 exact⟨λi x hi=>h.lt _ x (key i x hi),λi x y hx hy=>h.n' (s.length+i) x y (key _ _ hx) (by have:=key _ _ hy;rwa [<- Nat.add_assoc]at this),
  λi x z hx hz=>h.nb (s.length+i) x z (key _ _ hx) (by have:=key _ _ hz;rwa [<- Nat.add_assoc]at this)⟩
theorem W.rev {l:List Nat} (h:W p l):W p l.reverse:=by
 have key:∀ i x,l.reverse[i]? =some x->i<l.length/\l[l.length-1-i]? =some x:=by
  intro i x hi
  have an:i<l.length:=by
   rcases R6 i l.length with g|g
   ·exact g
   ·rw[List.getElem?_eq_none (by simpa using g)]at hi;cases hi
  rw[List.getElem?_reverse an]at hi;exact⟨an,hi⟩
 refine⟨λi x hi=>h.lt _ x (key i x hi).2,λi x y hx hy=> ?_,λi x z hx hz=> ?_⟩
 ·obtain⟨bj,a2⟩:=key _ _ hx;obtain⟨b1,b2⟩:=key _ _ hy;exact(h.n' (l.length-1-(i+1)) y x b2 (by rwa [show l.length-1-(i+1)+1=l.length-1-i by omega])).symm
 ·obtain⟨bj,a2⟩:=key _ _ hx;obtain⟨b1,b2⟩:=key _ _ hz;exact λe=>h.nb (l.length-1-(i+2)) z x b2 (by rwa [show l.length-1-(i+2)+2=l.length-1-i by omega]) e.symm
theorem W.tail {l:List Nat} (h:W p (x::l)):W p l:=h.sub [x] [] ao
variable {p:List Int} {R:Nat->Nat}
theorem F7 (hT:T p R):∀ (t:List Nat) (x y:Nat),W p (x::y::t)->pa p y=x->∀ z∈y::t,R x<R z
 |[],x,y,h,hd,z,hz=>by
  obtain rfl:z=y:=by simpa using hz
  exact hT.rk z (h.lt 1 z rfl) x hd
 |u::t,x,y,h,hd,z,hz=>by
  have h1:R x<R y:=hT.rk y (h.lt 1 y rfl) x hd
  have h2:pa p u=y:=by
   rcases h.n' 1 y u rfl rfl with g|g
   ·exact absurd (by rw[hd]at g;exact_mod_cast g) (h.nb 0 x u rfl rfl)
   ·exact g
  rcases KX.1 hz with rfl|hz
  ·exact h1
  ·exact Nat.lt_trans h1 (F7 hT t y u h.tail h2 z hz)
theorem Rj (hT:T p R) {l:List Nat} (h:W p (l++[x,y])) (hu:pa p x=y):∀ z∈l++[x],R y<R z:=by
 have h2:W p (y::x::l.reverse):=by have:=h.rev;simpa using this
 intro z hz;exact F7 hT _ y x h2 hu z (by simp at hz⊢;exact hz.symm)
theorem Rk (hT:T p R) {a:Nat} (ha:a<p.length):¬Nr p a a:=by
 intro h;have:pa p a=a:=h.elim id id;exact Nat.lt_irrefl _ (hT.rk a ha a this)
theorem Kn (hT:T p R):∀ (k:Nat) (a:Nat) (m:List Nat),m.length<=k->¬W p (a::(m++[a]))
 |k,a,[],_,h=>Rk hT (h.lt 0 a rfl) (h.n' 0 a a rfl rfl)
 |k,a,[y],_,h=>h.nb 0 a a rfl rfl rfl
 |0,a,y::u::m,hk,h=>by simp at hk
 |k+1,a,y::u::m,hk,h=>by
  have h1:pa p a=y:=by
   rcases h.n' 0 a y rfl rfl with g|g
   ·exact g
   ·exact absurd (F7 hT (u::m++[a]) a y h g a ao) (Nat.lt_irrefl _)
  obtain⟨m',x,hm⟩:∃ m' x,u::m=m'++[x]:=⟨(u::m).dropLast,(u::m).getLast ao,(List.dropLast_concat_getLast ao).symm⟩;rw[hm]at h;have h':W p ((a::y::m')++[x,a]):=by simpa using h
  have h2:pa p a=x:=by
   rcases h'.n' (m'.length+2) x a ao ao with g|g
   ·exact absurd (Rj hT h' g a ao) (Nat.lt_irrefl _)
   ·exact g
  have hxy:x=y:=by rw[h1]at h2;exact_mod_cast h2.symm
  subst hxy;have hl:m'.length<=k:=by have:=congrArg List.length hm;simp at this hk;omega
  exact Kn hT k x m' hl (h'.sub [a] [a] ao)
theorem F8 {l:List Nat} (h:l.getLast?=some b):∃ s,l=s++[b]:=by
 refine⟨l.dropLast,?_⟩;have aN:l≠[]:=by rintro rfl;simp at h
 rw[List.getLast?_eq_some_getLast aN]at h;have:=List.dropLast_concat_getLast aN;rw[Option.some.inj h]at this;exact this.symm
theorem qbv (hT:T p R):∀ (k:Nat) (a b:Nat) (l l':List Nat),l.length<=k->W p l->W p l'->l.head?=some a->l.getLast?=some b->l'.head?=some a->l'.getLast?=some b->l=l':=by
 intro k
 induction k with
 |zero=>intro a b l l' hk _ _ h1;simp at hk;subst hk;simp at h1
 |succ k ih=>
  intro a b l l' hk hw xj h1 h2 Rl Rm;by_cases ib:a=b
  ·subst ib
   have one:∀ l:List Nat,W p l->l.head?=some a->l.getLast?=some a->l=[a]:=by
    intro l hw h1 h2
    match l,h1 with
    |[x],h1=>simpa using h1
    |x::y::t,h1=>
     obtain rfl:x=a:=by simpa using h1
     obtain⟨s,hs⟩:=F8 (l:=y::t) (b:=x) (by simpa [List.getLast?_cons_cons]using h2);rw[hs]at hw;exact absurd hw (Kn hT s.length x s (CP _))
   rw[one l hw h1 h2,one l' xj Rl Rm]
  ·have shape:∀ l:List Nat,l.head?=some a->l.getLast?=some b->∃ m,l=a::(m++[b]):=by
    intro l h1 h2;obtain⟨s,rfl⟩:=F8 h2
    match s,h1 with
    |[],h1=>exact absurd (by simpa using h1.symm) ib
    |x::s,h1=>
     obtain rfl:x=a:=by simpa using h1
     exact⟨s,rfl⟩
   obtain⟨m,rfl⟩:=shape l h1 h2;obtain⟨m',rfl⟩:=shape l' Rl Rm;rcases R6 (R a) (R b)with hr|hr
   ·have last:∀ m:List Nat,W p (a::(m++[b]))->∃ c:Nat,pa p b=c/\(a::m).getLast?=some c:=by
     intro m hw;obtain⟨s,c,hs⟩:∃ s c,a::m=s++[c]:=⟨(a::m).dropLast,(a::m).getLast ao,(List.dropLast_concat_getLast ao).symm⟩
     have fM:W p (s++[c,b]):=by
      have:a::(m++[b])=s++[c,b]:=by rw[<- List.cons_append,hs];simp
      rwa [this]at hw
     refine⟨c,?_,by rw[hs];simp⟩;rcases fM.n' s.length c b ao ao with g|g
     ·have:=Rj hT fM g a (by rw[<- hs];simp);omega
     ·exact g
    obtain⟨c,hc,hl⟩:=last m hw;obtain⟨c',eW,rO⟩:=last m' xj;obtain rfl:c=c':=by rw[hc]at eW;exact_mod_cast eW
    have:=ih a c (a::m) (a::m') (by simp at hk⊢;omega) (hw.sub [] [b] ao) (xj.sub [] [b] ao) rfl hl rfl rO;simp only[List.cons.injEq,true_and]at this;rw[this]
   ·have first:∀ m:List Nat,W p (a::(m++[b]))->∃ c:Nat,pa p a=c/\(m++[b]).head?=some c:=by
     intro m hw;obtain⟨c,s,hs⟩:∃ c s,m++[b]=c::s:=List.exists_cons_of_ne_nil ao;have hb:b∈c::s:=by rw[<- hs];simp
     rw[hs]at hw;refine⟨c,?_,by rw[hs];rfl⟩;rcases hw.n' 0 a c rfl rfl with g|g
     ·exact g
     ·have:=F7 hT s a c hw g b hb;omega
    obtain⟨c,hc,hl⟩:=first m hw
    obtain⟨c',eW,rO⟩:=first m' xj
    obtain rfl:c=c':=by rw[hc]at eW;exact_mod_cast eW
    have:=ih c b (m++[b]) (m'++[b]) (by simp at hk⊢;omega) hw.tail xj.tail hl ao rO ao;rw[this]
theorem W.nodup (hT:T p R):∀ {l:List Nat},W p l->l.Nodup
 |[],_=>List.nodup_nil
 |x::l,h=>by
  refine List.nodup_cons.2 ⟨λhx=> ?_,W.nodup hT h.tail⟩;obtain⟨s,t,rfl⟩:=List.append_of_mem hx;exact Kn hT s.length x s (CP _) (h.sub [] t ao)
theorem Cu:∀ (n:Nat) (l:List Nat),l.Nodup->(∀ x∈l,x<n)->l.length<=n
 |0,l,_,h=>by
  cases l with
  |nil=>simp
  |cons x l=>exact absurd (h x ao) (Nat.not_lt_zero x)
 |n+1,l,hn,h=>by
  have h1:=Cu n (l.erase n) (hn.erase n) (λx hx=>by
   have lV:=(hn.mem_erase_iff).1 hx;have:=h x lV.2;omega)
  by_cases hm:n∈l
  ·rw[List.length_erase_of_mem hm]at h1;omega
  ·rw[List.erase_of_not_mem hm]at h1;omega
theorem W.len (hT:T p R) {l:List Nat} (h:W p l):l.length<=p.length:=
 Cu _ l (h.nodup hT) (λx hx=>by obtain⟨i,hi⟩:=List.getElem?_of_mem hx;exact h.lt i x hi)
theorem W.one (h:x<p.length):W p [x]:=by
 refine⟨λi y hi=> ?_,λi y z hy hz=> ?_,λi y z hy hz=> ?_⟩
 ·cases i with
  |zero=>simp at hi;omega
  |succ i=>simp at hi
 ·simp at hz
 ·simp at hz
theorem W.cons {a:Nat} {t:List Nat} (h:W p (y::t)) (ha:a<p.length) (hn:Nr p a y) (hb:t.head?≠some a):W p (a::y::t):=by
 refine⟨λi x hi=> ?_,λi x z hx hz=> ?_,λi x z hx hz=> ?_⟩
 ·cases i with
  |zero=>simp at hi;omega
  |succ i=>exact h.lt i x (by simpa using hi)
 ·cases i with
  |zero=>simp at hx hz;subst hx hz;exact hn
  |succ i=>exact h.n' i x z (by simpa using hx) (by simpa using hz)
 ·cases i with
  |zero=>
   simp at hx;subst hx;rintro rfl
   cases t with
   |nil=>simp at hz
   |cons u t=>simp at hz;subst hz;exact hb rfl
  |succ i=>exact h.nb i x z (by simpa using hx) (by simpa using hz)
theorem Ko (hT:T p R) {r:Nat} (hr:r<p.length) (iz:∀ x,x<p.length->(pa p x= -1↔x=r)):∀ (k x:Nat),R x<=k->x<p.length->x=r∨R r<R x:=by
 intro k
 induction k with
 |zero=>
  intro x hk hx;by_cases e:x=r
  ·exact .inl e
  ·have h1:=hT.gN x hx;have h2:pa p x≠ -1:=λh=>e ((iz x hx).1 h);have:=hT.rk x hx (pa p x).toNat ab;omega
 |succ k ih=>
  intro x hk hx;by_cases e:x=r
  ·exact .inl e
  ·have h1:=hT.gN x hx;have h2:pa p x≠ -1:=λh=>e ((iz x hx).1 h);have h3:=hT.rk x hx (pa p x).toNat ab;rcases ih (pa p x).toNat ab ab with h4|h4
   ·rw[h4]at h3;exact .inr h3
   ·right;omega
def Ends (l:List Nat) (a b:Nat):Prop:=l.head?=some a/\l.getLast?=some b
theorem qbw (hT:T p R):∀ (k a b:Nat),R a+R b<=k->a<p.length->b<p.length->∃ l,W p l/\Ends l a b:=by
 obtain⟨r,hr,iz⟩:=hT.root
 have main:∀ (k:Nat),(∀ a b,R a+R b<=k->a<p.length->b<p.length->∃ l,W p l/\Ends l a b)->∀ a b,R a+R b<=k+1->R b<=R a->a<p.length->b<p.length->∃ l,W p l/\Ends l a b:=by
  intro k ih a b hk ib ha hb;by_cases e:a=b
  ·subst e;exact⟨[a],W.one ha,rfl,rfl⟩
  ·have aN:pa p a≠ -1:=by
    intro h;have h1:=(iz a ha).1 h;subst h1;rcases Ko hT hr iz _ b (CP _) hb with h|h
    ·exact e h.symm
    ·omega
   have h1:=hT.gN a ha;obtain⟨y,hy⟩:∃ y:Nat,pa p a=y:=⟨(pa p a).toNat,ab⟩;have an:=hT.rk a ha y hy;obtain⟨l,hw,h2,h3⟩:=ih y b ab ab hb
   match l,h2 with
   |u::t,h2=>
    obtain rfl:u=y:=by simpa using h2
    by_cases ht:t.head?=some a
    ·refine⟨t,hw.tail,ht,?_⟩
     cases t with
     |nil=>simp at ht
     |cons v t=>rwa [List.getLast?_cons_cons]at h3
    ·exact⟨a::u::t,hw.cons ha (.inl hy) ht,rfl,by rwa [List.getLast?_cons_cons]⟩
 intro k
 induction k with
 |zero=>
  intro a b hk ha hb;have h1:a=r:=by rcases Ko hT hr iz _ a (CP _) ha with h|h;exact h;omega
  have h2:b=r:=by rcases Ko hT hr iz _ b (CP _) hb with h|h;exact h;omega
  subst h1;subst h2;exact⟨[b],W.one ha,rfl,rfl⟩
 |succ k ih=>
  intro a b hk ha hb;rcases Nat.le_total (R b) (R a)with h|h
  ·exact main k ih a b hk h ha hb
  ·obtain⟨l,hw,h1,h2⟩:=main k ih b a ab h hb ha;exact⟨l.reverse,hw.rev,by rw[List.head?_reverse];exact h2,by rw[List.getLast?_reverse];exact h1⟩
open Classical in
noncomputable def wk (p:List Int) (a b:Nat):List Nat:=if h:∃ l,W p l/\Ends l a b then h.choose else []
theorem Kq (hp:cH p) {a:Nat} (ha:a<p.length) (hb:b<p.length):W p (wk p a b)/\Ends (wk p a b) a b:=by
 obtain⟨R,hT⟩:=hp;have h:=qbw hT _ a b (CP _) ha hb;unfold wk;rw[dif_pos h];exact h.choose_spec
theorem F9 (hp:cH p) {a:Nat} {l:List Nat} (h:W p l) (he:Ends l a b):wk p a b=l:=by
 have hx:∃ l,W p l/\Ends l a b:=⟨l,h,he⟩;have h2:W p (wk p a b)/\Ends (wk p a b) a b:=by unfold wk;rw[dif_pos hx];exact hx.choose_spec
 obtain⟨R,hT⟩:=hp;exact qbv hT _ a b _ _ (CP _) h2.1 h h2.2.1 h2.2.2 he.1 he.2
end Go.Proofs.YtehaoggjlciobaaGreat

/- Part 7 of 40. -/
import Derived.Test.YtehaoggjlciobaaGreatQah
set_option linter.all false
set_option maxRecDepth 20000
set_option maxHeartbeats 16000000
namespace Go.Proofs.YtehaoggjlciobaaGreat
open Go.RowKit Go.Proofs.Tryz
variable {p:List Int} {l out:List Nat} {U a base n x:Nat} {w:World}
def eQ (p:List Int):Nat->Nat
 |0=>0
 |i+1=>eQ p i+if pa p i= -1 then 1 else 0
theorem Kr (p:List Int):∀ n,eQ p n=0↔∀ x,x<n->pa p x≠ -1
 |0=>by simp[eQ]
 |n+1=>by
  have ih:=Kr p n;unfold eQ;constructor
  ·intro h x hx;by_cases e:pa p n= -1
   ·rw[if_pos e]at h;omega
   ·rw[if_neg e]at h;rcases R6 x n with g|g
    ·exact ih.1 ab x g
    ·obtain rfl:x=n:=ab;exact e
  ·intro h;rw[if_neg (h n ab),ih.2 (λx hx=>h x ab)]
theorem Ga (p:List Int):∀ n,eQ p n=1↔∃ r,r<n/\∀ x,x<n->(pa p x= -1↔x=r)
 |0=>by simp[eQ]
 |n+1=>by
  have ih:=Ga p n;unfold eQ;by_cases e:pa p n= -1
  ·rw[if_pos e];constructor
   ·intro h;have h0:=(Kr p n).1 ab;refine⟨n,ab,λx hx=>⟨λg=> ?_,λg=>by rw[g];exact e⟩⟩;rcases R6 x n with g2|g2
    ·exact absurd g (h0 x g2)
    ·omega
   ·rintro⟨r,hr,h⟩;have hrn:=(h n ab).1 e;have:eQ p n=0:=(Kr p n).2 (λx hx g=>by have:=(h x ab).1 g;omega);omega
  ·rw[if_neg e,Nat.add_zero,ih];constructor
   ·rintro⟨r,hr,h⟩;refine⟨r,ab,λx hx=> ?_⟩;rcases R6 x n with g2|g2
    ·exact h x g2
    ·obtain rfl:x=n:=ab;exact⟨λg=>absurd g e,λg=>ab⟩
   ·rintro⟨r,hr,h⟩;have hrn:r≠n:=λg=>e ((h n ab).2 g.symm);exact⟨r,ab,λx hx=>h x ab⟩
def it (p:List Int):Nat->Int->Int
 |0,x=>x
 |k+1,x=>if x<0 then x else it p k (pa p x.toNat)
theorem Ks (p:List Int) (k:Nat) (x:Int) (h:x<0):it p k x=x:=by
 cases k with
 |zero=>rfl
 |succ k=>unfold it;rw[if_pos h]
def dep (p:List Int):Nat->Int->Nat
 |0,_=>0
 |k+1,x=>if x<0 then 0 else dep p k (pa p x.toNat)+1
theorem Ro (p:List Int):∀ (k:Nat) (x:Int),dep p k x<=k
 |0,x=>CP _
 |k+1,x=>by unfold dep;split;omega;have:=Ro p k (pa p x.toNat);omega
theorem qby (p:List Int) (k:Nat) (x:Int) (h:it p k x= -1):dep p (k+1) x=dep p k x:=by
 induction k generalizing x with
 |zero=>have h:x= -1:=h;subst h;rfl
 |succ k ih=>
  by_cases hx:x<0
  ·unfold dep;rw[if_pos hx,if_pos hx]
  ·have e1:it p (k+1) x=it p k (pa p x.toNat):=by rw[it,if_neg hx]
   rw[e1]at h;have:=ih _ h;rw[dep,if_neg hx,this];conv=>rhs;rw[dep,if_neg hx]
theorem Rq (h1:1<=p.length) (h6:p.length<=6) (hr:∀ x,x<p.length-> -1<=pa p x/\pa p x<p.length) (h:eQ p p.length=1) (hi:∀ x:Nat,x<p.length->it p 7 x= -1):cH p:=by
 refine⟨λx=>dep p 7 x-1,h1,h6,hr,(Ga p _).1 h,λx hx y hy=> ?_,λx hx=> ?_⟩
 ·have e:it p 7 (x:Int)=it p 6 y:=by rw[it,if_neg ab,Int.toNat_natCast,hy]
  have e2:it p 6 (y:Int)= -1:=by rw[<- e];exact hi x hx
  have e3:dep p 7 (x:Int)=dep p 6 y+1:=by rw[dep,if_neg ab,Int.toNat_natCast,hy]
  have e4:dep p 7 (y:Int)=dep p 6 y:=qby p 6 y e2;have e5:dep p 7 (y:Int)=dep p 6 (pa p y)+1:=by rw[dep,if_neg ab,Int.toNat_natCast]
  show dep p 7 (y:Int)-1<dep p 7 (x:Int)-1
  omega
 ·have:=Ro p 7 x;show dep p 7 (x:Int)-1<7
  omega
theorem Rr {p:List Int} {R:Nat->Nat} (hT:T p R):∀ (k x:Nat),x<p.length->R x<k->it p k x= -1
 |0,x,_,h=>absurd h (Nat.not_lt_zero _)
 |k+1,x,hx,h=>by
  have h1:=hT.gN x hx;rw[it,if_neg ab,Int.toNat_natCast];by_cases e:pa p x= -1
  ·rw[e];exact Ks p k _ ab
  ·obtain⟨y,hy⟩:∃ y:Nat,pa p x=y:=⟨(pa p x).toNat,ab⟩;rw[hy];exact Rr hT k y ab (by have:=hT.rk x hx y hy;omega)
theorem mZ (p:List Int):cH p↔(1<=p.length/\p.length<=6/\(∀ x,x<p.length-> -1<=pa p x/\pa p x<p.length)/\eQ p p.length=1/\∀ x:Nat,x<p.length->it p 7 x= -1):=
 ⟨λ⟨R,hT⟩=>⟨hT.one,hT.cV,hT.gN,(Ga p _).2 hT.root,λx hx=>Rr hT 7 x hx (hT.r7 x hx)⟩,λ⟨h1,h2,h3,h4,h5⟩=>Rq h1 h2 h3 h4 h5⟩
theorem zE (p:List Int):∀ U,eQ p U<=U
 |0=>CP _
 |U+1=>by have:=zE p U;unfold eQ;split <;>omega
theorem Rt {p:Prop} (h:p:=by
  go_wp2;go_loopw [5,6] (λaf st Kt=>∃ k:Nat,k<=7/\af= .int .i64 (it p k U)/\st= .int .i64 k/\ad w Kt/\ -1<=it p k U/\it p k U<n) (λ_ st _=>7-(intOf st).toNat)
  case atStart=>exact⟨0,ab,rfl,rfl,al,by show -1<=(U:Int);omega,by show(U:Int)<n;omega⟩
  case round=>
   obtain⟨k,hk,rfl,rfl,Gb,i1,i2⟩:=hrel;by_cases uF:k<7/\0<=it p k U
   ·obtain⟨uZ,gr⟩:=uF;have oV:=Rn p k U gr;obtain⟨y,hy⟩:∃ y:Nat,it p k U=y:=⟨(it p k U).toNat,ab⟩;rw[hy,Int.toNat_natCast]at oV;have kW:y<n:=ab;have c2:wr.cell? ⟨b,off+y,none⟩=some (.int .i64 (pa p y)):=Gb.af (HC.o y kW);have HN:=aa oV;have HY:=aa hy;rw[hy];clear oV;by_cases Ku: -1<=pa p y/\pa p y<n
    ·obtain⟨g3,g4⟩:=Ku;clear hy;generalize pa p y=z at*;go_wp2;go_roundw
     case rel=>exact⟨k+1,ab,by rw[HN.o],aA,al,by rw[HN.o];exact g3,by rw[HN.o];exact g4⟩
     case measure=>exact dY
    ·have bW:ag (¬cH p):=λh=>Ku (by have:=((mZ p).1 h).2.2.1 y (by rw[b6.o];exact kW);rwa [b6.o]at this);clear hy;generalize pa p y=z at*;rcases Int.lt_or_le z (-1)with g3|g3
     ·go_wp2;go_ret;exact jw rfl bW.o al
     ·have g4:(n:Int)<=z:=ab;clear Ku;go_wp2;go_ret;exact jw rfl bW.o al
   ·by_cases hz:it p k U= -1
    ·have h7:ag (∀ x,x<U+1->(-1<=pa p x/\pa p x<n)/\it p 7 x= -1):=λx hx=>by
      rcases R6 x U with g|g
      ·exact b8 x g
      ·obtain rfl:x=U:=ab;exact⟨zF.o,Rs p x k 7 hk hz⟩
     rw[hz];have Cw:(k:Int)<=7:=ab;clear uF i1 i2 hz;by_cases uZ:k<7
     ·go_wp2;go_roundw
      case rel=>exact⟨U+1,ab,by rw[HR.o];(first|go_num|rfl),aA,al,h7⟩
      case measure=>exact dY
     ·go_wp2;go_roundw
      case rel=>exact⟨U+1,ab,by rw[HR.o];(first|go_num|rfl),aA,al,h7⟩
      case measure=>exact dY
    ·obtain rfl:k=7:=ab;have bW:ag (¬cH p):=λh=>hz (((mZ p).1 h).2.2.2.2 U (by rw[b6.o];exact an));have aW:(it p 7 U != -1)=true:=by simpa using hz
     clear uF hz;generalize it p 7 U=z at*;go_wp2;go_ret;exact jw rfl bW.o al):p:=h
def ints (l:List Nat):List Int:=l.map Int.ofNat
def cS (l:List Nat):List Value:=l.map λx=> .int .i64 (x:Nat)
theorem zG (l:List Nat) (n:Nat):cS l++[.int .i64 (n:Nat)]=cS (l++[n]):=by simp[cS]
theorem qz (l:List Nat):(cS l).length=l.length:=by simp[cS]
theorem bo.bp {e:Nat} {v:Value} {xs:List Nat} (h:w.ownsRow base e 1 v n (cS xs)):∃ A c,v= .slice A n c/\bo w A n c (ints xs):=by
 have hl:xs.length=n:=by have:=h.1;rw[qz]at this;omega
 rcases h.2 with ⟨rfl,h0⟩|⟨g,cap,cur,rfl,hb,hg,h1,h2,h3,h4⟩
 ·exact⟨none,0,by rw[h0],by simp[ints,hl],ab,by unfold maxLen;omega,λ_=>⟨h0,rfl⟩,λh=>ab⟩
 ·refine⟨_,cap,rfl,by simp[ints,hl],h1,h2,(λh=>by cases h),λh0=>⟨g,0,rfl,λi hi=> ?_⟩⟩;rw[Nat.zero_add,h.cellAt i ab];simp[cS,ints,vF (show i<xs.length by omega)]
def xk (l:List Nat) (w:World) (e:Ending) (w':World):Prop:=∃ A c,e= .returned (.slice A l.length c)/\bo w' A l.length c (ints l)/\ad w w'
def ky (p:List Int) (a i:Nat):Bool:=decide (pa p a=i)||decide (pa p i=a)
def fc (p:List Int) (a U:Nat):List Nat:=(List.range U).filter (ky p a)
theorem Kx (h:ky p a U=true):fc p a (U+1)=fc p a U++[U]:=by
 simp[fc,List.range_succ,h]
theorem Rv (h:ky p a U=false):fc p a (U+1)=fc p a U:=by
 simp[fc,List.range_succ,h]
theorem Ky (p:List Int) (a U:Nat):(fc p a U).length<=U:=by
 have:=List.length_filter_le (ky p a) (List.range U);simpa [fc]using this
open Classical in
noncomputable def fe (p:List Int) (a:Int):List Nat:=if cH p/\0<=a/\a<p.length then fc p a.toNat p.length else []
open Classical in
noncomputable def pathOf (p:List Int) (a b:Int):List Nat:=if cH p/\(0<=a/\a<p.length)/\(0<=b/\b<p.length)then wk p a.toNat b.toNat else []
variable {p:List Int} {R:Nat->Nat}
theorem CC {a b:Int} (h:¬(cH p/\(0<=a/\a<p.length)/\(0<=b/\b<p.length))):pathOf p a b=[]:=by unfold pathOf;rw[if_neg h]
theorem Rz (l:List Nat):∀ u∈cS l,u.oneCell'=true:=by
 intro u hu;simp only[cS,List.mem_map]at hu;obtain⟨x,_,rfl⟩:=hu;rfl
theorem CD {i m:Nat} (h:l[i]? =some m):(ints l)[i]?.getD (-2)=(m:Int):=by simp[ints,h]
theorem bo.news {b off c:Nat} (h:bo w (some ⟨b,off,none⟩) n c (ints l)) (k:Nat):∀ U u,(cS (l.take k))[U]? =some u->w.cell? ((⟨b,off,none⟩:Addr).add U)=some u:=by
 intro U u hu;obtain⟨h1,_,_,_,h5⟩:=h;have hl:l.length=n:=by simpa [ints]using h1
 have ht:l[U]? =(l.take k)[U]?/\U<l.length:=by
  simp only[cS,List.getElem?_map]at hu;rcases hx:(l.take k)[U]? with _|x
  ·rw[hx]at hu;simp at hu
  ·have h2:=pi.1 hx;obtain⟨h3,h4⟩:=h2;have:U<l.length:=by have:=h3;simp at this;omega
   refine⟨?_,this⟩;rw[List.getElem?_take]at hx;split at hx
   ·exact hx
   ·cases hx
 obtain⟨nY,qj,he,hc⟩:=h5 ab
 cases he
 have xm:((⟨b,off,none⟩:Addr).add U)=⟨b,off+U,none⟩:=by simp[Addr.add]
 rw[xm,hc U ab]
 have pd:(cS l)[U]? =some u:=by
  simp only[cS,List.getElem?_map]at hu⊢;rw[ht.1];exact hu
 simp only[cS,List.getElem?_map,vF ht.2,Option.map_some]at pd;rw[<- pd];simp[ints,vF ht.2]
noncomputable def Uuc (p:List Int) (a b:Int) (i:Nat):Bool:=((pathOf p a (i:Int))[1]? :Option Nat).any λx=>decide ((x:Int)=b)
noncomputable def c9 (p:List Int) (a b:Int):Nat->Nat
 |0=>0
 |U+1=>c9 p a b U+if Uuc p a b U then 2 ^ U else 0
theorem Gl (p:List Int) (a b:Int):∀ U,c9 p a b U<2 ^ U
 |0=>by simp[c9]
 |U+1=>by
  have:=Gl p a b U;unfold c9;rw[Nat.pow_succ];split <;>omega
theorem KH {p:List Int} (h:¬cH p) (a b:Int):∀ U,c9 p a b U=0
 |0=>rfl
 |U+1=>by
  have e:Uuc p a b U=false:=by unfold Uuc;rw[CC (λg=>h g.1)];rfl
  unfold c9;rw[KH h a b U,e];rfl
theorem Gm (A:Option Addr) (n c:Nat) (p:List Int) (x y:Nat) (w:World) (hx:bo w A n c p) (h1:x<n) (h2:y<n):
  Calls prog 205 #[.slice A n c,.int .i64 x,.int .i64 y] w λe w'=>e= .returned (.bool (ky p x y))/\ad w w':=by
 obtain⟨b,off,rfl,hc⟩:=hx.2.2.2.2 ab;have c1:w.cell? ⟨b,off+x,none⟩=some (.int .i64 (pa p x)):=hc x h1;have c2:w.cell? ⟨b,off+y,none⟩=some (.int .i64 (pa p y)):=hc y h2;have hm:=hx.2.2.1;have kU:=hx.2.1;unfold maxLen at hm;clear hc hx;have hv:ag (ky p x y=(decide (pa p x=y)||decide (pa p y=x))):=rfl;generalize pa p x=u at*;generalize pa p y=v at*;by_cases e1:u=y
 ·have d1:(u==(y:Int))=true:=by simpa using e1
  have cW:ag (ky p x y=true):=by unfold ag;rw[hv.o];simp[e1]
  clear e1;go_wp2;go_ret;exact⟨by rw[cW.o];rfl,al⟩
 ·have d1:(u==(y:Int))=false:=by simpa using e1
  by_cases e2:v=x
  ·have d2:(v==(x:Int))=true:=by simpa using e2
   have cW:ag (ky p x y=true):=by unfold ag;rw[hv.o];simp[e2]
   clear e1 e2;go_wp2;go_ret;exact⟨by rw[cW.o];rfl,al⟩
  ·have d2:(v==(x:Int))=false:=by simpa using e2
   have cW:ag (ky p x y=false):=by unfold ag;rw[hv.o];simp[e1,e2]
   clear e1 e2;go_wp2;go_ret;exact⟨by rw[cW.o];rfl,al⟩
theorem W.snoc {y:Nat} (h:W p (l++[a])) (hy:y<p.length) (hn:Nr p a y) (hb:l.getLast?≠some y):W p (l++[a]++[y]):=by
 have h2:=h.rev;rw[List.reverse_append]at h2;have h3:W p (y::a::l.reverse):=W.cons (y:=a) (t:=l.reverse) (by simpa using h2) hy hn.symm (by rw[List.head?_reverse];exact hb);have:=h3.rev;simpa using this
def qbH (p:List Int) (pre:List Nat) (x:Nat) (b:Int) (w:World) (e:Ending) (w':World):Prop:=
 ∃ (A:Option Addr) (c:Nat) (l:List Nat),e= .returned (.slice A l.length c)/\bo w' A l.length c (ints l)/\ad w w'/\(l=[]->A=none)/\
  ((l=[]/\∀ (m:List Nat) (z:Nat),W p (pre++(x::m))->(x::m).getLast?=some z->(z:Int)≠b)∨(W p (pre++l)/\l.head?=some x/\∃ z:Nat,l.getLast?=some z/\(z:Int)=b))
def qbI (pre:List Nat) (fr:Int):Prop:=(pre=[]/\fr= -1)∨∃ u:Nat,pre.getLast?=some u/\fr=u
theorem qbJ (A:Option Addr) (n c:Nat) (p:List Int) (R:Nat->Nat) (hT:T p R) (P B K:Nat) (b:Int) (f:Value) (hf:f= .func (.func 257) #[] #[.pointer (some ⟨B,0,none⟩),.pointer (some ⟨P,0,none⟩),.pointer (some ⟨K,0,none⟩)]):∀ (k:Nat) (pre:List Nat) (x:Nat) (fr:Int) (w:World),pre.length+k=n->W p (pre++[x])->qbI pre fr->bo w A n c p->w.cell? ⟨P,0,none⟩=some (.slice A n c)->w.cell? ⟨B,0,none⟩=some (.int .i64 b)->w.cell? ⟨K,0,none⟩=some f->
  Calls prog 257 #[.int .i64 x,.int .i64 fr,.pointer (some ⟨B,0,none⟩),.pointer (some ⟨P,0,none⟩),.pointer (some ⟨K,0,none⟩)] w (qbH p pre x b w):=by
 obtain⟨i0,hi,a7,aY,aW⟩:=ql0 oZ;have HI:=aa hi;have HT:=aa hT;clear hi hT;subst hf;intro k
 induction k with
 |zero=>
  intro pre x fr w hk hw _ hx;have:=hw.len HT.o;have h1:=hx.1;simp at this;omega
 |succ k ih=>
  intro pre x fr w hk hw cG hx ff KI BZ;have dN:=hw.lt pre.length x ao;have Uud:p.length=n:=hx.1;have h6:n<=6:=by rw[<- Uud];exact HT.o.cV
  have HX:=aa hx;have HW:=aa hw;have Uue:=aa cG;have KK:=aa ih;have qbK:n<=c:=hx.2.1;have qkJ:c<=9223372036854775807:=by have:=hx.2.2.1;unfold maxLen at this;omega
  clear hx hw cG ih;by_cases Gn:(x:Int)=b
  ·subst Gn;go_wp2;go_ret;have og:=yY w (.cells #[.int .i64 (x:Int)] 3);refine⟨_,1,[x],rfl,⟨rfl,CP _,by unfold maxLen;omega,(λh=>by cases h),λ_=>⟨_,0,rfl,λi hi=> ?_⟩⟩,al,(λh=>by cases h),.inr ⟨HW.o,rfl,x,rfl,rfl⟩⟩;obtain rfl:i=0:=by simp at hi;exact hi
   exact cell_one_new _ _ _ 0 _ rfl
  ·have qkK:((x:Int)==b)=false:=by simpa using Gn
   have zP:=aa Gn;clear Gn;go_wp2;go_loopw [17] (λiv wr=>∃ U:Nat,U<=n/\iv= .int .i64 U/\ad w wr/\ag (∀ (i:Nat) (m:List Nat) (z:Nat),i<U->W p (pre++(x::i::m))->(x::i::m).getLast?=some z->(z:Int)≠b)) (λiv _=>n-(intOf iv).toNat)
   case atStart=>exact⟨0,ab,rfl,al,λi m z h=>ab⟩
   case round=>
    obtain⟨U,hj,rfl,kr,bW⟩:=hrel;by_cases an:U<n
    ·have next:ag ((∀ (m:List Nat) (z:Nat),W p (pre++(x::U::m))->(x::U::m).getLast?=some z->(z:Int)≠b)->∀ (i:Nat) (m:List Nat) (z:Nat),i<U+1->W p (pre++(x::i::m))->(x::i::m).getLast?=some z->(z:Int)≠b):=λh i m z hi=>by
      rcases R6 i U with g|g
      ·exact bW i m z g
      ·obtain rfl:i=U:=ab;exact h m z
     have e1:=kr.af ff;have e2:=kr.af KI;have e3:=kr.af BZ;by_cases zQ:(U:Int)=fr
     ·have cp:ag (∀ (i:Nat) (m:List Nat) (z:Nat),i<U+1->W p (pre++(x::i::m))->(x::i::m).getLast?=some z->(z:Int)≠b):=next (λm z hw=>by
       exfalso
       rcases Uue.o with ⟨_,h⟩|⟨u,h1,h2⟩
       ·omega
       ·obtain⟨s,rfl⟩:=F8 h1;exact hw.nb s.length u U ao ao ab)
      clear next;subst zQ;go_wp2;go_roundw
      case rel=>exact⟨U+1,ab,aA,kr,cp⟩
      case measure=>exact dY
     ·have d1:((U:Int)==fr)=false:=by simpa using zQ
      by_cases CH:U=x
      ·have cp:ag (∀ (i:Nat) (m:List Nat) (z:Nat),i<U+1->W p (pre++(x::i::m))->(x::i::m).getLast?=some z->(z:Int)≠b):=next (λm z hw=>by
        exfalso
        subst CH;exact Rk HT.o dN (hw.n' pre.length U U ao ao))
       clear zQ next;subst CH;go_wp2;go_roundw
       case rel=>exact⟨U+1,ab,aA,kr,cp⟩
       case measure=>exact dY
      ·have d2:((U:Int)==(x:Int))=false:=by simp;omega
       cases kZ:ky p x U
       ·have cp:ag (∀ (i:Nat) (m:List Nat) (z:Nat),i<U+1->W p (pre++(x::i::m))->(x::i::m).getLast?=some z->(z:Int)≠b):=next (λm z hw=>by
         exfalso
         have h1:=hw.n' pre.length x U ao ao;have h2:ky p x U=true:=by unfold ky;rcases h1 with h|h <;>simp[h]
         rw[h2]at kZ;cases kZ)
        have xp:=aa kZ;clear zQ CH next kZ;go_wp2_with fail
        refine(Gm A n c p x U _ (HX.o.keep kr) ab an).mono ?_;rintro e w2 ⟨rfl,k2⟩;have K2:=kr.call k2;rw[xp.o];go_wp2;go_roundw
        case rel=>exact⟨U+1,ab,aA,K2,cp⟩
        case measure=>exact dY
       ·have xp:=aa kZ
        have hNr:ag (Nr p x U):=by
         unfold ky at kZ;simp at kZ;exact kZ
        have HJX:=aa CH;have HJF:=aa zQ;have KL:=aa next;clear zQ CH next kZ;go_wp2_with fail
        refine(Gm A n c p x U _ (HX.o.keep kr) ab an).mono ?_;rintro e w2 ⟨rfl,k2⟩;have K2:=kr.call k2;have e1:=k2.af e1;have e2:=k2.af e2;have e3:=k2.af e3;rw[xp.o]
        have fw:W p (pre++[x]++[U]):=HW.o.snoc ab hNr.o (λh=>by
         rcases Uue.o with ⟨h1,_⟩|⟨u,h1,h2⟩
         ·rw[h1]at h;cases h
         ·rw[h1]at h;cases h;exact HJF.o h2.symm)
        go_wp2_with fail
        refine(KK.o (pre++[x]) U x w2 (by simp;omega) fw (.inr ⟨x,ao,rfl⟩) (HX.o.keep K2) e1 e2 e3).mono ?_;rintro e w3 ⟨A3,c3,l,rfl,cT,k3,eK,xq⟩;rcases l with _|⟨Uuf,ls⟩
        ·obtain rfl:A3=none:=eK rfl
         have cp:ag (∀ (i:Nat) (m:List Nat) (z:Nat),i<U+1->W p (pre++(x::i::m))->(x::i::m).getLast?=some z->(z:Int)≠b):=KL.o (λm z hw hz=>by
          rcases xq with ⟨_,h⟩|⟨_,h,_⟩
          ·exact h m z (by simpa using hw) (by rwa [List.getLast?_cons_cons]at hz)
          ·cases h)
         have K3:=K2.call k3;clear xq cT eK;go_wp2;go_roundw
         case rel=>exact⟨U+1,ab,aA,K3,cp⟩
         case measure=>exact dY
        ·have RI:ag (W p (pre++[x]++(Uuf::ls))/\∃ z:Nat,(Uuf::ls).getLast?=some z/\(z:Int)=b):=by
          rcases xq with ⟨h,_⟩|⟨h1,_,h2⟩
          ·cases h
          ·exact⟨h1,h2⟩
         have fL:(Uuf::ls).length<=6:=by have:=RI.o.1.len HT.o;simp at this⊢;omega
         obtain⟨rb,ro,rfl,_⟩:=cT.2.2.2.2 ao;have iA:=aa cT;have K3:=K2.call k3;clear xq cT eK;have hlz:ag (0<(Uuf::ls).length):=by unfold ag;simp
         generalize Uuf::ls=l at*;have bA:=BK w3 3 [.int .i64 (x:Int)] 1 1 rfl ak;have HN:ag (∀ i u,(cS (l.take l.length))[i]? =some u->(w3.alloc (.cells #[.int .i64 (x:Int)] 3)).cell? ((⟨rb,ro,none⟩:Addr).add i)=some u):=(iA.o.keep ((ad.refl w3).alloc _)).news l.length;have CE:ag ((cS (l.take l.length)).length=l.length*1):=by unfold ag;rw[qz,List.take_length,Nat.mul_one]
         go_wp2_with (at_builtin;refine wpList_append_own _ rfl _ _ 22 rfl w3.heap.size 3 i0 (.int .i64 0) 1 8 underlying22 HI.o a7 aY aW rfl ak _ 1 [.int .i64 (x:Int)] rfl bA ⟨rb,ro,none⟩ l.length c3 (cS (l.take l.length)) rfl CE.o HN.o (Rz _) (by unfold maxLen;omega) ab (by first|omega|(simp;omega)|simp) ?_;intro v5 w5 Uub zN _;have K5:ad w3 w5:=ad.grown ((ad.refl w3).alloc _) zN (by intro g hg;have h9:some w3.heap.size=some g:=hg;injection h9 with h9;exact Nat.le_of_eq h9))
         go_ret
         have iY:w5.ownsRow w3.heap.size 3 1 v5 (x::l).length (cS (x::l)):=by
          have e:cS (x::l)=[.int .i64 (x:Int)]++cS (l.take l.length):=by rw[List.take_length];rfl
          rw[e,List.length_cons,Nat.add_comm];exact Uub
         obtain⟨A6,gu,rfl,h6⟩:=bo.bp iY;obtain⟨r1,z,r2,r3⟩:=RI.o;refine⟨A6,gu,x::l,rfl,h6,K3.call K5,(λh=>by cases h),.inr ⟨by simpa using r1,rfl,z,?_,r3⟩⟩
         cases l with
         |nil=>cases r2
         |cons Uuf ls=>rwa [List.getLast?_cons_cons]
    ·obtain rfl:U=n:=ab;go_wp2;go_ret;refine⟨none,0,[],rfl,⟨rfl,CP _,by unfold maxLen;omega,λ_=>⟨rfl,rfl⟩,λh=>absurd h (Nat.lt_irrefl _)⟩,kr,λ_=>rfl,.inl ⟨rfl,λm z hw hz=> ?_⟩⟩
     cases m with
     |nil=>
      simp at hz;rw[<- hz];exact zP.o
     |cons i m=>exact bW i m z (by have:=hw.lt (pre.length+1) i ao;omega) hw hz
def Grow (p:List Int) (l:List Nat):Prop:=∀ (k y:Nat),l[k]? =some y->pa p y= -1∨∃ (U z:Nat),U<k/\l[U]? =some z/\pa p y=z
structure oi (p:List Int) (l:List Nat):Prop where
 nd:l.Nodup
 lt:∀ x∈l,x<p.length
 RJ:Grow p l
theorem oi.snoc (h:oi p l) (hx:x<p.length) (hn:x∉l) (hp:pa p x= -1∨∃ z:Nat,z∈l/\pa p x=z):oi p (l++[x]):=by
 refine⟨List.nodup_append.2 ⟨h.nd,ao,λa ha b hb=>by
  obtain rfl:b=x:=by simpa using hb
  exact λe=>hn (e▸ha)⟩,λy hy=> ?_,λk y hk=> ?_⟩
 ·rcases Pv.1 hy with hy|hy
  ·exact h.lt y hy
  ·obtain rfl:y=x:=by simpa using hy
   exact hx
 ·rcases R6 k l.length with g|g
  ·rw[qlZ g]at hk;rcases h.RJ k y hk with h1|⟨U,z,h1,h2,h3⟩
   ·exact .inl h1
   ·exact .inr ⟨U,z,h1,by rw[qlZ ab];exact h2,h3⟩
  ·rw[List.getElem?_append_right g]at hk
   have Cw:k-l.length=0:=by
    rcases Nat.eq_zero_or_pos (k-l.length)with h|h
    ·exact h
    ·rw[List.getElem?_eq_none (by simp;omega)]at hk;cases hk
   rw[Cw]at hk;obtain rfl:x=y:=by simpa using hk
   rcases hp with h1|⟨z,hz,h1⟩
   ·exact .inl h1
   ·obtain⟨U,hj⟩:=List.getElem?_of_mem hz
    have:U<l.length:=by
     rcases R6 U l.length with g|g
     ·exact g
     ·rw[List.getElem?_eq_none g]at hj;cases hj
    exact .inr ⟨U,z,ab,by rw[qlZ this];exact hj,h1⟩
theorem oi.len (h:oi p l):l.length<=p.length:=Cu _ l h.nd h.lt
def Has (p:List Int) (m:List Nat) (y:Nat):Prop:=∀ i,i<p.length->pa p i=y->i∈m
structure rY (p:List Int) (out:List Nat) (x:Nat) (qD:List Nat) (U:Nat):Prop where
 be:oi p qD
 pre:(out++[x]) <+: qD
 old:∀ y∈qD,y∉out->y≠x->Has p qD y
 now:∀ i,i<U->pa p i=x->i∈qD
theorem rY.same {qD:List Nat} (h:rY p out x qD U) (hj:pa p U=x->U∈qD):ag (rY p out x qD (U+1)):=
 ⟨h.be,h.pre,h.old,λi hi hp=>by
  rcases R6 i U with g|g
  ·exact h.now i g hp
  ·obtain rfl:i=U:=ab;exact hj hp⟩
theorem rY.call {qD o2:List Nat} (h:rY p out x qD U) (be:oi p o2) (pre:(qD++[U]) <+: o2) (has:∀ y∈o2,y∉qD->Has p o2 y):rY p out x o2 (U+1):=by
 have lU:∀ y∈qD,y∈o2:=λy hy=>pre.subset (by simp[hy]);refine⟨be,h.pre.trans ((List.prefix_append qD [U]).trans pre),λy hy h1 h2=> ?_,λi hi hp=> ?_⟩
 ·by_cases e:y∈qD
  ·exact λi hi hp=>lU i (h.old y e h1 h2 i hi hp)
  ·exact has y hy e
 ·rcases R6 i U with g|g
  ·exact lU i (h.now i g hp)
  ·obtain rfl:i=U:=ab;exact pre.subset ao
theorem rY.done {qD:List Nat} (h:rY p out x qD n) (hn:p.length=n):∀ y∈qD,y∉out->Has p qD y:=λy hy h1=>by
 by_cases e:y=x
 ·subst e;exact λi hi hp=>h.now i ab hp
 ·exact h.old y hy h1 e
structure xr (w0:World) (base P S Q O I:Nat) (A:Option Addr) (n c:Nat) (f:Value) (w:World) (out:List Nat):Prop where
 kept:ad w0 w
 bas:base<=w.heap.size
 ff:w.cell? ⟨P,0,none⟩=some (.slice A n c)
 qA:w.cell? ⟨S,0,none⟩=some (.slice (some ⟨Q,0,none⟩) n n)
 KM:w.cell? ⟨I,0,none⟩=some f
 seen:∀ i,i<n->w.cell? ⟨Q,i,none⟩=some (.bool (decide (i∈out)))
 qbL:∀ i,w.frozen? ⟨Q,i,none⟩=false
 qbM:w.frozen? ⟨O,0,none⟩=false
 o:∃ v,w.cell? ⟨O,0,none⟩=some v/\w.ownsRow base 3 1 v out.length (cS out)
theorem xr.grown {w0:World} {P S Q O I:Nat} (hb:w0.heap.size<=P/\w0.heap.size<=S/\w0.heap.size<=Q/\w0.heap.size<=O/\w0.heap.size<=I/\P<base/\S<base/\Q<base/\O<base/\I<base/\O≠P/\O≠S/\O≠Q/\O≠I/\Q≠P/\Q≠S/\Q≠I)
  {A:Option Addr} {n c:Nat} {f:Value} {w:World} {out:List Nat} (h:xr w0 base P S Q O I A n c f w out) {x:Nat} (hx:x<n) {v v3:Value} {qD:Obj} {w3:World} (hv:w.cell? ⟨O,0,none⟩=some v) (an:∀ g,v.ownBlock=some g->base<=g)
  (hg:((w.setCell ⟨Q,x,none⟩ (.bool true)).alloc qD).grownBy w3 v.ownBlock) (ho:w3.ownsRow base 3 1 v3 (out.length+1) (cS out++[.int .i64 (x:Nat)])):
  xr w0 base P S Q O I A n c f (w3.setCell ⟨O,0,none⟩ v3) (out++[x])/\w3.cell? ⟨O,0,none⟩=some v:=by
 obtain⟨b1,b2,ck,iV,dB,Uug,qB,Gp,xt,RK,b11,b12,b13,b14,b15,b16,b17⟩:=hb
 have Gq:∀ k i u,k<base->k≠Q->w.cell? ⟨k,i,none⟩=some u->w3.cell? ⟨k,i,none⟩=some u:=λk i u hk hq hc=>by
  refine hg.cell ?_ (λe=>by have:=an k e.symm;omega);have bb:k<w.heap.size:=Aa w _ hc;rw[Below.cell (B:=w.heap.size) (((Below.refl _ _).alloc (by simp[World.setCell]) qD)) (by simpa using bb)];rw[World.cell?_setCell_other _ _ _ _ (by intro e;cases e;omega)];exact hc
 have c3:=Gq O 0 v ab ab hv
 have other:∀ k i u,k≠O->w3.cell? ⟨k,i,none⟩=some u->(w3.setCell ⟨O,0,none⟩ v3).cell? ⟨k,i,none⟩=some u:=λk i u hk hc=>by
  rw[World.cell?_setCell_other _ _ _ _ (by intro e;cases e;omega)];exact hc
 have fP:∀ k i u,k<base->w.cell? ⟨k,0,none⟩=some u->w3.frozen? ⟨k,i,none⟩=w.frozen? ⟨k,i,none⟩:=λk i u hk hc=>by
  have bb:k<w.heap.size:=Aa w _ hc;rw[World.frozen?_of_block (w:=(w.setCell ⟨Q,x,none⟩ (.bool true)).alloc qD) (hg.block k (by first|(simp[World.setCell];done)|(simp[World.setCell];omega)) (λe=>by have:=an k e.symm;omega)),World.frozen?_alloc_old _ _ _ (by first|(simp;done)|(simp;omega)),World.frozen?_setCell]
 refine⟨⟨?_,?_,?_,?_,?_,?_,?_,?_,?_⟩,c3⟩
 ·refine(ad.grown ((h.kept.setCell (by simpa using ck) _).alloc qD) hg (λg e=> ?_)).setCell (by simpa using iV) _;have:=an g e;have:=h.kept.size;omega
 ·have h1:=hg.size;have h2:=h.bas;simp[World.setCell]at h1⊢;omega
 ·exact other _ _ _ ab (Gq _ _ _ Uug ab h.ff)
 ·exact other _ _ _ ab (Gq _ _ _ qB ab h.qA)
 ·exact other _ _ _ ab (Gq _ _ _ RK ab h.KM)
 ·intro i hi;have hc:=h.seen i hi;have bb:Q<w.heap.size:=Aa w _ hc;refine other _ _ _ ab (hg.cell ?_ (λe=>by have:=an Q e.symm;omega));rw[Below.cell (B:=w.heap.size) (((Below.refl _ _).alloc (by simp[World.setCell]) qD)) (by simpa using bb)];by_cases e:i=x
  ·subst e;rw[World.cell?_setCell_same _ _ _ hc];simp
  ·rw[World.cell?_setCell_other _ _ _ _ (by intro e;cases e;omega),hc];simp[e]
 ·intro i;rw[World.frozen?_setCell,fP Q i _ Gp (h.seen 0 ab)];exact h.qbL i
 ·rw[World.frozen?_setCell,fP O 0 _ xt hv];exact h.qbM
 ·refine⟨v3,World.cell?_setCell_same _ _ _ c3,?_⟩;rw[zH,<- zG];exact ownsRow_setCell_below ho (by simpa using xt) _
theorem qbN (w0:World) (base P S Q O I:Nat) (hb:w0.heap.size<=P/\w0.heap.size<=S/\w0.heap.size<=Q/\w0.heap.size<=O/\w0.heap.size<=I/\P<base/\S<base/\Q<base/\O<base/\I<base/\O≠P/\O≠S/\O≠Q/\O≠I/\Q≠P/\Q≠S/\Q≠I)
  (A:Option Addr) (n c:Nat) (p:List Int) (h6:n<=6) (hx:bo w0 A n c p) (f:Value) (hf:f= .func (.func 133) #[] #[.pointer (some ⟨S,0,none⟩),.pointer (some ⟨O,0,none⟩),.pointer (some ⟨P,0,none⟩),.pointer (some ⟨I,0,none⟩)]):
  ∀ (k:Nat) (out:List Nat) (x:Nat) (w:World),n<=out.length+k->x<n->x∉out->oi p out->(pa p x= -1∨∃ z:Nat,z∈out/\pa p x=z)->xr w0 base P S Q O I A n c f w out->
  Calls prog 133 #[.int .i64 x,.pointer (some ⟨S,0,none⟩),.pointer (some ⟨O,0,none⟩),.pointer (some ⟨P,0,none⟩),.pointer (some ⟨I,0,none⟩)] w λe w'=>
   e= .returned (.tuple #[])/\∃ CI,xr w0 base P S Q O I A n c f w' CI/\oi p CI/\(out++[x]) <+: CI/\∀ y∈CI,y∉out->Has p CI y:=by
 obtain⟨i0,hi,a7,aY,aW⟩:=ql0 oZ;have HI:=aa hi;clear hi;subst hf;intro k
 induction k with
 |zero=>
  intro out x w hk pf KN CJ pg aV;have:=(CJ.snoc (by rw[hx.1];exact pf) KN pg).len;rw[hx.1]at this;simp at this;omega
 |succ k ih=>
  intro out x w hk pf KN CJ pg aV;have lY:out.length<=n:=by have:=CJ.len;rw[hx.1]at this;exact this
  have bG:=CJ.snoc (by rw[hx.1];exact pf) KN pg;have HB:=aa hb;have HX:=aa hx;have KK:=aa ih;have iZ:=aa bG;have hV:=aa aV;obtain⟨kw,qkL,ff,qA,KM,RL,hfQ,hfO,v,xu,ho⟩:=aV;have fQx:=hfQ x;have hOw:O<w.heap.size:=Aa w _ xu;have qkM:=RL x pf;have HO:=aa ho;have qkN:ag ((cS out).length=out.length*1):=by unfold ag;rw[qz,Nat.mul_one]
  obtain⟨b1,b2,ck,iV,dB,Uug,qB,Gp,xt,RK,b11,b12,b13,b14,b15,b16,b17⟩:=hb;clear bG CJ pg ih hx ho RL;have k0:ag (out.length=out.length):=rfl;generalize hl:out.length=l at*;replace k0:ag (out.length=l):=hl
  clear hl;have qbK:(n:Nat)<=9223372036854775807:=ab;go_in;go_wp2_with (at_builtin;refine wpList_append_own _ rfl _ _ 22 rfl base 3 i0 (.int .i64 0) 1 8 underlying22 HI.o a7 aY aW rfl ak _ l _ rfl ((ownsRow_setCell_below HO.o (by first|assumption|(simp;omega)) _).alloc _) ⟨w.heap.size,0,none⟩ 1 1 [.int .i64 (x:Nat)] rfl rfl (qaI _ _ _ _ _) (by simp[Value.oneCell']) (by unfold maxLen;omega) ab (by simp;omega) ?_;intro v3 w3 bE cD _;obtain⟨A3,c3,rfl⟩:=JT bE;have kY:=HO.o.lt;have fO3:w3.frozen? ⟨O,0,none⟩=false:=(by rw[World.frozen?_of_block (w:=(w.setCell ⟨Q,x,none⟩ (.bool true)).alloc (.cells #[.int .i64 (x:Int)] 3)) (cD.block O (by first|(simp[World.setCell];done)|(simp[World.setCell];omega)) (λe=>by have:=(kY O e.symm).1;omega)),World.frozen?_alloc_old _ _ _ (by first|(simp;done)|(simp;omega)),World.frozen?_setCell];exact hfO);obtain⟨KO,cO3⟩:=hV.o.grown HB.o pf xu (λg hg=>(kY g hg).1) cD (by first|exact bE|(rw[k0.o];exact bE));have l4:=aa KO;have cP4:=KO.ff;clear KO bE cD)
  go_loopw [17] (λiv wr=>∃ (U:Nat) (qD:List Nat),U<=n/\iv= .int .i64 U/\xr w0 base P S Q O I A n c (.func (.func 133) #[] #[.pointer (some ⟨S,0,none⟩),.pointer (some ⟨O,0,none⟩),.pointer (some ⟨P,0,none⟩),.pointer (some ⟨I,0,none⟩)]) wr qD/\ag (rY p out x qD U)) (λiv _=>n-(intOf iv).toNat)
  case atStart=>exact⟨0,_,ab,rfl,l4.o,⟨iZ.o,List.prefix_refl _,λy hy h1 h2=>absurd (Pv.1 hy) (by simp;exact⟨h1,h2⟩),λi hi=>ab⟩⟩
  case round=>
   obtain⟨U,qD,hj,rfl,st,c7⟩:=hrel;have HS:=aa st;by_cases an:U<n
   ·obtain⟨b,off,rfl,hc⟩:=(HX.o.keep st.kept).2.2.2.2 ab;have c1:wr.cell? ⟨b,off+U,none⟩=some (.int .i64 (pa p U)):=hc U an;have c2:=st.seen U an;have c3:=st.qA;have c4:=st.KM;clear hc st;by_cases e1:pa p U=x
    ·rw[e1]at c1;by_cases e2:U∈qD
     ·rw[ql3 e2]at c2;have hn:=c7.o.same (λ_=>e2);clear e1 e2;go_wp2;go_roundw
      case rel=>exact⟨U+1,qD,ab,aA,HS.o,hn⟩
      case measure=>exact dY
     ·rw[ql4 e2]at c2;have qbO:=aa e1;have qbP:=aa e2;clear e1 e2;go_wp2_with fail
      refine(KK.o qD U wr (by have h1:=c7.o.pre.length_le;have h2:=k0.o;rw[zH,h2]at h1;simp at h1;omega) an qbP.o c7.o.be (.inr ⟨x,c7.o.pre.subset ao,qbO.o⟩) HS.o).mono ?_;rintro e w5 ⟨rfl,o2,RM,RN,RO,RP⟩;have ST2:=aa RM;have hn:ag (rY p out x o2 (U+1)):=c7.o.call RN RO RP;clear RM RN RO RP;go_wp2;go_roundw
      case rel=>exact⟨U+1,o2,ab,aA,ST2.o,hn⟩
      case measure=>exact dY
    ·have d1:(pa p U==(x:Int))=false:=by simpa using e1
     have hn:=c7.o.same (λh=>absurd h e1);clear e1;generalize pa p U=q at*;go_wp2;go_roundw
     case rel=>exact⟨U+1,qD,ab,aA,HS.o,hn⟩
     case measure=>exact dY
   ·obtain rfl:U=n:=ab;go_wp2;go_end0
    exact⟨rfl,qD,HS.o,c7.o.be,c7.o.pre,c7.o.done HX.o.1⟩
theorem qbQ:(prog.info? 4).map (λi=>(i.zero,i.size,i.bytes))=some (some (.bool false),1,1):=av
theorem qbR (n i:Nat) (hi:i<n):(madeCells (Value.bool false).cells n)[i]? =some (.bool false):=by
 unfold madeCells;simp[Value.cells,hi,Nat.mod_one]
theorem qbS (w:World) (A:Option Addr) (n c:Nat) (f:Value) (h1:f.oneCell'=true):xr w (w.heap.size+1+1+1+1+1) w.heap.size (w.heap.size+1+1) (w.heap.size+1) (w.heap.size+1+1+1) (w.heap.size+1+1+1+1) A n c f
  (((((w.alloc (.cells #[.slice A n c] 22)).alloc (.cells (madeCells (Value.bool false).cells n) 4)).alloc (.cells #[.slice (some ⟨w.heap.size+1,0,none⟩) n n] 204)).alloc (.cells #[.slice none 0 0] 22)).alloc (.cells #[f] 208)) []:=by
 have hq:(((((w.alloc (.cells #[.slice A n c] 22)).alloc (.cells (madeCells (Value.bool false).cells n) 4)).alloc (.cells #[.slice (some ⟨w.heap.size+1,0,none⟩) n n] 204)).alloc (.cells #[.slice none 0 0] 22)).alloc (.cells #[f] 208)).heap[w.heap.size+1]? =some (.cells (madeCells (Value.bool false).cells n) 4):=by
  rw[Below.heap_alloc _ _ _ ao,Below.heap_alloc _ _ _ ao,Below.heap_alloc _ _ _ ao];have:=yY (w.alloc (.cells #[.slice A n c] 22)) (.cells (madeCells (Value.bool false).cells n) 4);simpa using this
 refine⟨?_,?_,?_,?_,?_,λi hi=> ?_,λi=> ?_,?_,⟨.slice none 0 0,?_,qcb _ _ _ _⟩⟩
 ·exact al
 ·simp
 ·go_simp
 ·go_simp
 ·go_simp
 ·rw[cell_of_row _ _ i _ _ (0,0) hq,qbR n i hi];rfl
 ·unfold World.frozen?;rw[hq];simp
 ·go_simp
 ·go_simp
theorem qbT (A:Option Addr) (n c:Nat) (p:List Int) (x:Nat) (w:World) (h6:n<=6) (hx:bo w A n c p) (pf:x<n) (pg:pa p x= -1):
  Calls prog 81 #[.slice A n c,.int .i64 x] w λe w'=>∃ l,xk l w e w'/\oi p l/\x∈l/\∀ y∈l,Has p l y:=by
 obtain⟨i0,hi,a7,aY,aW⟩:=ql0 qbQ;have iS:∀ fn first cap w,(Instr.makeFunc fn first cap).run prog w= .ok (.func fn first cap) w:=λ_ _ _ _=>rfl
 have lT:∀ (w:World),(Instr.makeSlice 204 (.int .i64 (n:Int)) (.int .i64 (n:Int))).run prog w= .ok (.slice (some ⟨w.heap.size,0,none⟩) n n) (w.alloc (.cells (madeCells (Value.bool false).cells n) 4)):=λw=>by
  have h:=run_makeSlice (P:=prog) w 204 4 i0 (.bool false) underlying204 hi a7 .i64 .i64 n n ab ab (by rw[aY];simp;omega) (by rw[aW];omega) ab;rw[aY]at h;simpa using h
 have hsf:∀ fn first cap a w,(store a (.func fn first cap)).run prog w=stored prog w a (.func fn first cap) .plain:=λ_ _ _ _ _=>run_store _ _ _ _ _ rfl
 have hn:(n:Nat)<=9223372036854775807:=ab;have HX:=aa hx;have HP:=aa pg;clear hi hx pg;go_in;go_wp2_with fail
 refine(qbN w (w.heap.size+1+1+1+1+1) w.heap.size (w.heap.size+1+1) (w.heap.size+1) (w.heap.size+1+1+1) (w.heap.size+1+1+1+1) ab A n c p h6 HX.o _ rfl n [] x _ ao pf ao ⟨List.nodup_nil,(λx h=>by cases h),(λk y h=>by simp at h)⟩ (.inl HP.o) (qbS w A n c _ rfl)).mono ?_;rintro e w2 ⟨rfl,l,st,be,pre,has⟩;obtain⟨v,xu,ho⟩:=st.o;obtain⟨A3,c3,rfl,cT⟩:=bo.bp ho;have iA:=aa cT;have HK:=aa st.kept;have HAS:ag (oi p l/\x∈l/\∀ y∈l,Has p l y):=⟨be,pre.subset ao,λy hy=>has y hy ao⟩;clear st be pre has ho cT;go_wp2;go_ret;exact⟨l,⟨A3,c3,rfl,iA.o,HK.o⟩,HAS.o⟩
def CK:List Nat->Nat->Nat
 |[],_=>0
 |y::t,x=>if y=x then 0 else CK t x+1
theorem Gr:∀ {l:List Nat} {k x:Nat},l.Nodup->l[k]? =some x->CK l x=k
 |[],k,x,_,h=>by simp at h
 |y::t,0,x,_,h=>by
  obtain rfl:y=x:=by simpa using h
  simp[CK]
 |y::t,k+1,x,hn,h=>by
  rw[List.getElem?_cons_succ]at h;have hx:x∈t:=zV h;have aN:y≠x:=λe=>(List.nodup_cons.1 hn).1 (e▸hx);rw[CK,if_neg aN,Gr (List.nodup_cons.1 hn).2 h]
theorem RQ:∀ (l m:List Nat),l.Nodup->(∀ x∈l,x∈m)->l.length<=m.length
 |[],m,_,_=>ao
 |y::t,m,hn,h=>by
  have hy:=h y ao;have:=RQ t (m.erase y) (List.nodup_cons.1 hn).2 (λx hx=>(List.mem_erase_of_ne (λe:x=y=>(List.nodup_cons.1 hn).1 (e▸hx))).2 (h x (by simp[hx])));rw[List.length_erase_of_mem hy]at this;have:0<m.length:=List.length_pos_of_mem hy;simp;omega
theorem qbU {r:Nat} (h1:1<=p.length) (h6:p.length<=6) (hr:∀ x,x<p.length-> -1<=pa p x/\pa p x<p.length) (qy:r<p.length) (iz:∀ x,x<p.length->(pa p x= -1↔x=r)) (be:oi p l) (hm:r∈l) (has:∀ y∈l,Has p l y):
  l.length=p.length↔cH p:=by
 constructor
 ·intro he
  have all:∀ x,x<p.length->x∈l:=λx hx=>by
   refine Classical.byContradiction λhn=> ?_
   have:=Cu p.length (x::l) (List.nodup_cons.2 ⟨hn,be.nd⟩) (λy hy=>by
    rcases KX.1 hy with rfl|hy
    ·exact hx
    ·exact be.lt y hy)
   simp at this;omega
  refine⟨CK l,h1,h6,hr,⟨r,qy,iz⟩,λx hx y hy=> ?_,λx hx=> ?_⟩
  ·obtain⟨k,hk⟩:=List.getElem?_of_mem (all x hx);rw[Gr be.nd hk];rcases be.RJ k x hk with g|⟨U,z,g1,g2,g3⟩
   ·omega
   ·obtain rfl:z=y:=ab;rw[Gr be.nd g2];exact g1
  ·obtain⟨k,hk⟩:=List.getElem?_of_mem (all x hx);rw[Gr be.nd hk]
   have:k<l.length:=by
    rcases R6 k l.length with g|g
    ·exact g
    ·rw[List.getElem?_eq_none g]at hk;cases hk
   omega
 ·rintro⟨R,hT⟩
  have all:∀ (k x:Nat),R x<=k->x<p.length->x∈l:=by
   have step:∀ x,x<p.length->(∀ y:Nat,pa p x=y->y∈l)->x∈l:=λx hx h=>by
    by_cases e:pa p x= -1
    ·rw[(iz x hx).1 e];exact hm
    ·have h2:=hr x hx;have h3:(((pa p x).toNat:Nat):Int)=pa p x:=ab;exact has _ (h _ h3.symm) x hx h3.symm
   intro k
   induction k with
   |zero=>
    intro x hk hx;refine step x hx (λy hy=> ?_);have:=hT.rk x hx y hy;omega
   |succ k ih=>
    intro x hk hx;refine step x hx (λy hy=>ih y ?_ ?_)
    ·have:=hT.rk x hx y hy;omega
    ·have:=hr x hx;omega
  have a:=RQ (List.range p.length) l List.nodup_range (λx hx=>all _ x (CP _) (List.mem_range.1 hx));have b:=be.len;rw[List.length_range]at a;omega
theorem qbV (A:Option Addr) (n c:Nat) (p:List Int) (v:Int) (r:Nat) (w:World) (hx:bo w A n c p) (hr:r<n) (hv:pa p r=v) (hf:∀ x,x<r->pa p x≠v):
  Calls prog 82 #[.slice A n c,.int .i64 v] w λe w'=>e= .returned (.int .i64 r)/\ad w w':=by
 obtain⟨b,off,rfl,hc⟩:=hx.2.2.2.2 ab;have HC:=aa hc;have HF:=aa hf;have HV:=aa hv;have hn:n<=9223372036854775807:=by have h1:=hx.2.1;have h2:=hx.2.2.1;unfold maxLen at h2;omega
 clear hc hf hv hx;go_wp2;go_loopw [8] (λiv wr=>∃ U:Nat,U<=r/\iv= .int .i64 U/\ad w wr) (λiv _=>n-(intOf iv).toNat)
 case atStart=>exact⟨0,ab,rfl,al⟩
 case round=>
  obtain⟨U,hj,rfl,kr⟩:=hrel;have an:U<n:=ab;have c1:wr.cell? ⟨b,off+U,none⟩=some (.int .i64 (pa p U)):=kr.af (HC.o U an);by_cases e:U=r
  ·subst e;rw[HV.o]at c1;go_wp2;go_ret;exact⟨rfl,al⟩
  ·have d1:(v==pa p U)=false:=by simpa using λh=>HF.o U ab h.symm
   generalize pa p U=q at*;go_wp2;go_roundw
   case rel=>exact⟨U+1,ab,aA,kr⟩
   case measure=>exact dY
theorem RR (A:Option Addr) (n c:Nat) (p:List Int) (w:World) (hx:bo w A n c p):
  Calls prog 48 #[.slice A n c] w (uJ (cH p) w):=by
 have HX:=aa hx;obtain⟨x1,x2,x3,x4,x5⟩:=hx;unfold maxLen at x3;have fb:=aa x5;have b6:=aa x1;clear x4 x5 x1;rcases R6 n 1 with h1|h1
 ·have hn:ag (¬cH p):=λh=>by have:=((mZ p).1 h).1;have:=b6.o;omega
  have d1:decide ((n:Int)<1)=true:=by simp;omega
  go_wp2;go_ret;exact jw rfl hn.o al
 rcases R6 6 n with h6|h6
 ·have hn:ag (¬cH p):=λh=>by have:=((mZ p).1 h).2.1;have:=b6.o;omega
  have d1:decide ((n:Int)<1)=false:=by simp;omega
  have d6:decide ((6:Int)<(n:Int))=true:=by simp;omega
  go_wp2;go_ret;exact jw rfl hn.o al
 have d1:decide ((n:Int)<1)=false:=by simp;omega
 have d6:decide ((6:Int)<(n:Int))=false:=by simp;omega
 go_wp2;go_loopw [3,16] (λr i wr=>∃ U:Nat,U<=n/\r= .int .i64 (eQ p U:Nat)/\i= .int .i64 U/\ad w wr/\ag (∀ x,x<U->(-1<=pa p x/\pa p x<n))) (λ_ i _=>n-(intOf i).toNat)
 case atStart=>exact⟨0,ab,rfl,rfl,al,λi hi=>ab⟩
 case round=>
  obtain⟨U,hj,rfl,rfl,kr,b8⟩:=hrel;obtain⟨b,off,rfl,hc⟩:=fb.o ab;by_cases an:U<n
  ·have c1:wr.cell? ⟨b,off+U,none⟩=some (.int .i64 (pa p U)):=kr.af (hc U an);have HC:=aa hc;clear hc;by_cases lW: -1<=pa p U/\pa p U<n
   ·have xv:ag (∀ x,x<U+1->(-1<=pa p x/\pa p x<n)):=λx hx=>by
     rcases R6 x U with g|g
     ·exact b8.o x g
     ·obtain rfl:x=U:=ab;exact lW
    obtain⟨g1,g2⟩:=lW;have qx:ag (eQ p (U+1)=eQ p U+if pa p U= -1 then 1 else 0):=rfl;have qy:=zE p U;by_cases hv:pa p U= -1
    ·rw[hv]at c1 g2;have HR:ag (eQ p (U+1)=eQ p U+1):=by unfold ag;rw[qx.o,if_pos hv]
     clear qx hv g1;generalize eQ p U=r at*;go_wp2;go_roundw
     case rel=>exact⟨U+1,ab,by rw[HR.o];go_num,aA,kr,xv⟩
     case measure=>exact dY
    ·have HR:ag (eQ p (U+1)=eQ p U):=by unfold ag;rw[qx.o,if_neg hv];rfl
     have cW:(pa p U== -1)=false:=by simpa using hv
     clear qx hv;generalize eQ p U=r at*;generalize pa p U=q at*;go_wp2;go_roundw
     case rel=>exact⟨U+1,ab,by rw[HR.o],aA,kr,xv⟩
     case measure=>exact dY
   ·have bW:ag (¬cH p):=λh=>lW (by have:=((mZ p).1 h).2.2.1 U (by rw[b6.o];exact an);rwa [b6.o]at this);rcases Int.lt_or_le (pa p U) (-1)with g3|g3
    ·clear lW;generalize pa p U=v at*;go_wp2;go_ret;exact jw rfl bW.o al
    ·have g4:(n:Int)<=pa p U:=ab;clear lW;generalize pa p U=v at*;go_wp2;go_ret;exact jw rfl bW.o al
  ·obtain rfl:U=n:=ab;have qy:=zE p U;by_cases gV:eQ p U=1
   ·obtain⟨r,hr,iz⟩:=(Ga p U).1 gV
    have hT:ag (∀ l:List Nat,oi p l->r∈l->(∀ y∈l,Has p l y)->(l.length=U↔cH p)):=λl be hm has=>by
     have e:=b6.o;have:=qbU (p:=p) ab ab (λx hx=>by rw[e]at hx⊢;exact b8.o x hx) ab (λx hx=>iz x ab) be hm has;rwa [e]at this
    have iy:=(iz r hr).2 rfl;have b3:ag (∀ x,x<r->pa p x≠ -1):=λx hx h=>by have:=(iz x ab).1 h;omega
    rw[gV];have dv:=aa iy;clear hc iz iy gV qy b8;go_wp2_with fail
    refine(qbV (some ⟨b,off,none⟩) U c p (-1) r _ (HX.o.keep kr) hr dv.o b3.o).mono ?_;rintro e w2 ⟨rfl,k2⟩;have K2:=kr.call k2;go_wp2_with fail
    refine(qbT (some ⟨b,off,none⟩) U c p r _ h6 (HX.o.keep K2) hr dv.o).mono ?_;rintro e w3 ⟨l,⟨A3,c3,rfl,cT,k3⟩,be,hm,has⟩;have K3:=K2.call k3;have hl:ag (l.length=U↔cH p):=hT.o l be hm has;have hlen:l.length<=6:=by have:=be.len;rw[b6.o]at this;omega
    clear cT be hm has;generalize l.length=m at*;go_wp2;go_ret;refine⟨_,rfl,?_,K3⟩;rw[<- hl.o];simp;omega
   ·have bW:ag (¬cH p):=λh=>gV (by have:=((mZ p).1 h).2.2.2.1;rwa [b6.o]at this);have d:((eQ p U:Int)==1)=false:=by simp;omega
    clear gV hc;generalize eQ p U=r at*;go_wp2;go_ret;exact jw rfl bW.o al
def oj (n:Nat) (a:Int):Bool:=decide (0<=a)&&decide (a<n)
theorem zR (n:Nat) (a:Int):oj n a=true↔0<=a/\a<n:=by simp[oj]
theorem RS (A:Option Addr) (n c:Nat) (a:Int) (P:Nat) (w:World) (hn:n<=9223372036854775807) (ff:w.cell? ⟨P,0,none⟩=some (.slice A n c)):
  Calls prog 258 #[.int .i64 a,.pointer (some ⟨P,0,none⟩)] w λe w'=>e= .returned (.bool (!oj n a))/\ad w w':=by
 rcases Int.lt_or_le a 0 with h0|h0
 ·have hb:ag (oj n a=false):=by unfold ag oj;simp;omega
  go_wp2;go_ret;exact⟨by rw[hb.o];rfl,al⟩
 ·rcases Int.lt_or_le a n with h1|h1
  ·have hb:ag (oj n a=true):=by unfold ag oj;simp;omega
   have d0:decide (a<0)=false:=by simp;omega
   have d:decide ((n:Int)<=a)=false:=by simp;omega
   go_wp2;go_ret;exact⟨by rw[hb.o];rfl,al⟩
  ·have hb:ag (oj n a=false):=by unfold ag oj;simp;omega
   have d:decide ((n:Int)<=a)=true:=by simp;omega
   go_wp2;go_ret;exact⟨by rw[hb.o];rfl,al⟩
def CL (n:Nat) (xs:List Int):Prop:=∀ i,i<xs.length->oj n (pa xs i)=true
theorem qbW (A:Option Addr) (n c:Nat) (P:Nat) (B:Option Addr) (m d:Nat) (xs:List Int) (w:World) (hn:n<=9223372036854775807) (ff:w.cell? ⟨P,0,none⟩=some (.slice A n c)) (hx:bo w B m d xs):
  Calls prog 203 #[.slice B m d,.func (.func 258) #[] #[.pointer (some ⟨P,0,none⟩)]] w λe w'=>∃ r:Int,e= .returned (.int .i64 r)/\ -1<=r/\r<=m/\(r<0↔CL n xs)/\ad w w':=by
 have hm:m<=9223372036854775807:=by have h1:=hx.2.1;have h2:=hx.2.2.1;unfold maxLen at h2;omega
 have HX:=aa hx;clear hx;go_wp2;go_loopw [8] (λiv wr=>∃ U:Nat,U<=m/\iv= .int .i64 U/\ad w wr/\ag (∀ i,i<U->oj n (pa xs i)=true)) (λiv _=>m-(intOf iv).toNat)
 case atStart=>exact⟨0,ab,rfl,al,λi hi=>ab⟩
 case round=>
  obtain⟨U,hj,rfl,kr,b8⟩:=hrel;by_cases an:U<m
  ·obtain⟨b,off,rfl,hc⟩:=HX.o.2.2.2.2 ab;have c1:wr.cell? ⟨b,off+U,none⟩=some (.int .i64 (pa xs U)):=kr.af (hc U an);have HV:ag (∃ v,v=pa xs U):=⟨_,rfl⟩;clear hc
   cases hv:oj n (pa xs U)
   ·have HB:=aa hv;clear hv;go_wp2_with fail
    refine(RS A n c (pa xs U) P wr hn (kr.af ff)).mono ?_;rintro e w2 ⟨rfl,k2⟩;have K2:=kr.call k2;rw[HB.o];go_wp2;go_ret;refine⟨_,rfl,ab,ab,⟨λh=>absurd h ab,λh=> ?_⟩,K2⟩;have:=h U (by rw[HX.o.1];exact an);rw[HB.o]at this
    cases this
   ·have xv:ag (∀ i,i<U+1->oj n (pa xs i)=true):=λi hi=>by
     rcases R6 i U with g|g
     ·exact b8.o i g
     ·obtain rfl:i=U:=ab;exact hv
    have HB:=aa hv;clear hv;go_wp2_with fail
    refine(RS A n c (pa xs U) P wr hn (kr.af ff)).mono ?_;rintro e w2 ⟨rfl,k2⟩;have K2:=kr.call k2;rw[HB.o];go_wp2;go_roundw
    case rel=>exact⟨U+1,ab,aA,K2,xv⟩
    case measure=>exact dY
  ·obtain rfl:U=m:=ab;go_wp2;go_ret;exact⟨-1,rfl,ab,ab,⟨λ_ i hi=>b8.o i (by rw[HX.o.1]at hi;exact hi),λ_=>ab⟩,kr⟩
theorem qbX (A:Option Addr) (n c:Nat) (P:Nat) (B:Option Addr) (m d:Nat) (xs:List Int) (w:World) (hn:n<=9223372036854775807) (ff:w.cell? ⟨P,0,none⟩=some (.slice A n c)) (hx:bo w B m d xs):
  Calls prog 142 #[.slice B m d,.func (.func 258) #[] #[.pointer (some ⟨P,0,none⟩)]] w (uJ (¬CL n xs) w):=by
 have HX:=aa hx;clear hx;go_in;go_wp2_with fail
 refine(qbW A n c P B m d xs w hn ff HX.o).mono ?_;rintro e w2 ⟨r,rfl,h1,h2,h3,k2⟩;have H3:=aa h3;clear h3;go_wp2;go_ret;refine⟨_,rfl,?_,k2⟩;rw[<- H3.o];simp
theorem RT (A:Option Addr) (n c:Nat) (p:List Int) (B:Option Addr) (m d:Nat) (xs:List Int) (w:World) (hp:bo w A n c p) (hx:bo w B m d xs):
  Calls prog 204 #[.slice A n c,.slice B m d] w (uJ (cH p/\CL n xs) w):=by
 have hn:n<=9223372036854775807:=by have h1:=hp.2.1;have h2:=hp.2.2.1;unfold maxLen at h2;omega
 have iS:∀ fn first cap w,(Instr.makeFunc fn first cap).run prog w= .ok (.func fn first cap) w:=λ_ _ _ _=>rfl
 have HX:=aa hx;have HP:=aa hp;clear hx hp;go_in;go_wp2_with fail
 refine(RR A n c p _ (HP.o.keep al)).mono ?_;rintro e w2 ⟨C,rfl,hC,k2⟩;have HC:=aa hC;have ff:w2.cell? ⟨w.heap.size,0,none⟩=some (.slice A n c):=k2.af (by go_simp);have K2:ad w w2:=ad.call al k2;clear hC
 cases C
 ·go_wp2;go_ret;exact jw rfl (λh=>by have:=HC.o.2 h.1;cases this) K2
 ·have ht:ag (cH p):=HC.o.1 rfl;go_wp2_with fail
  refine(qbX A n c w.heap.size B m d xs _ hn ff (HX.o.keep K2)).mono ?_;rintro e w3 ⟨D,rfl,ja,k3⟩;have K3:=K2.call k3;have HD:=aa ja;clear ja
  cases D
  ·go_wp2;go_ret;exact JS rfl ⟨ht.o,Classical.byContradiction λh=>by have:=HD.o.2 h;cases this⟩ K3
  ·go_wp2;go_ret;exact jw rfl (λh=>(HD.o.1 ao) h.2) K3
theorem qbY (w:World) (x:Int) (b:Nat) (h:w.cell? ⟨b,0,none⟩=some (.int .i64 x)):bo w (some ⟨b,0,none⟩) 1 1 [x]:=
 ⟨rfl,CP _,by unfold maxLen;omega,(λh=>by cases h),λ_=>⟨_,0,rfl,λi hi=>by
  obtain rfl:i=0:=ab;exact h⟩⟩
theorem qbZ (w:World) (x y:Int) (b:Nat) (h:w.cell? ⟨b,0,none⟩=some (.int .i64 x)) (h2:w.cell? ⟨b,1,none⟩=some (.int .i64 y)):bo w (some ⟨b,0,none⟩) 2 2 [x,y]:=
 ⟨rfl,CP _,by unfold maxLen;omega,(λh=>by cases h),λ_=>⟨_,0,rfl,λi hi=>by
  rcases i with _|_|i
  ·exact h
  ·exact h2
  ·omega⟩⟩
theorem RU (n:Nat) (x:Int):CL n [x]↔0<=x/\x<n:=by
 constructor
 ·intro h;exact(zR n x).1 (h 0 ao)
 ·intro h i hi;obtain rfl:i=0:=by simp at hi;exact hi
  exact(zR n x).2 h
theorem RW (n:Nat) (x y:Int):CL n [x,y]↔(0<=x/\x<n)/\(0<=y/\y<n):=by
 constructor
 ·intro h;exact⟨(zR n x).1 (h 0 ao),(zR n y).1 (h 1 ao)⟩
 ·rintro⟨h1,h2⟩ i hi;rcases i with _|_|i
  ·exact(zR n x).2 h1
  ·exact(zR n y).2 h2
  ·simp at hi;omega
def qb0 (l:List Nat) (w:World) (e:Ending) (w':World):Prop:=∃ v,e= .returned v/\w'.ownsRow w.heap.size 3 1 v l.length (cS l)/\ad w w'
theorem qb1 (A:Option Addr) (n c:Nat) (p:List Int) (a:Int) (w:World) (hx:bo w A n c p):
  Calls prog 138 #[.slice A n c,.int .i64 a] w (qb0 (fe p a) w):=by
 obtain⟨i0,hi,a7,aY,aW⟩:=ql0 oZ;have HI:=aa hi;clear hi;have HX:=aa hx;have hnn:n<=9223372036854775807:=by have h1:=hx.2.1;have h2:=hx.2.2.1;unfold maxLen at h2;omega
 clear hx;go_wp2;go_step3
 go_wp2_with fail
 refine(RT A n c p _ 1 1 [a] _ (HX.o.keep al) (qbY _ a w.heap.size (by go_simp))).mono ?_;rintro e w1 ⟨B,rfl,hB,k1⟩;have K1:ad w w1:=ad.call al k1;have HB:=aa hB;clear hB
 cases B
 ·have bW:ag (fe p a=[]):=by
   unfold ag fe;rw[if_neg (λh=>by have:=HB.o.2 ⟨h.1,(RU n a).2 (by rw[<- HX.o.1];exact h.2)⟩;cases this)]
  go_wp2
  (try rw[Exit.noGoto_ret])
  go_ret;exact⟨.slice none 0 0,rfl,by rw[bW.o];exact qcb _ _ _ _,K1⟩
 ·obtain⟨ht,c7⟩:=HB.o.1 ao;obtain⟨h0,h1⟩:=(RU n a).1 c7;obtain⟨y,rfl⟩:=Int.eq_ofNat_of_zero_le h0;have kW:y<n:=ab;have n6:n<=6:=by have:=((mZ p).1 ht).2.1;rw[HX.o.1]at this;exact this
  have lZ:ag (fe p (y:Int)=fc p y n):=by
   unfold ag fe;rw[if_pos ⟨ht,ab,by rw[HX.o.1];omega⟩,Int.toNat_natCast,HX.o.1]
  clear ht h0 h1 c7;go_wp2;go_step3
  go_wp2;go_loopw [5,14] (λov iv wr=>∃ (U l:Nat) (v:Value),ov=v/\U<=n/\iv= .int .i64 U/\(fc p y U).length=l/\wr.ownsRow w.heap.size 3 1 v l (cS (fc p y U))/\ad w wr) (λ_ iv _=>n-(intOf iv).toNat)
  case atStart=>exact⟨0,0,_,rfl,ab,rfl,rfl,qcb _ _ _ _,K1⟩
  case round=>
   obtain⟨U,l,v,rfl,hj,rfl,hl,ho,kr⟩:=hrel;have fG:l<=U:=by rw[<- hl];exact Ky p y U
   have HL:=aa hl;have HO:=aa ho;clear hl ho;by_cases an:U<n
   ·cases kZ:ky p y U
    ·have xp:=aa kZ;have gB:ag (fc p y (U+1)=fc p y U):=Rv kZ;clear kZ;go_wp2_with fail
     refine(Gm A n c p y U _ (HX.o.keep kr) kW an).mono ?_;rintro e w2 ⟨rfl,k2⟩;have K2:=kr.call k2;have dC:=aa (ad.own HO.o k2);rw[xp.o];go_wp2;go_roundw
     case rel=>exact⟨U+1,l,_,rfl,ab,aA,by rw[gB.o];exact HL.o,by rw[gB.o];exact dC.o,K2⟩
     case measure=>exact dY
    ·have xp:=aa kZ;have na:ag (fc p y (U+1)=fc p y U++[U]):=Kx kZ;clear kZ;go_wp2_with fail
     refine(Gm A n c p y U _ (HX.o.keep kr) kW an).mono ?_;rintro e w2 ⟨rfl,k2⟩;have K2:=kr.call k2;have dC:=aa (ad.own HO.o k2);rw[xp.o];have lY:ag ((cS (fc p y U)).length=l*1):=by unfold ag;rw[qz,HL.o,Nat.mul_one]
     have hz:w.heap.size<=w2.heap.size:=K2.size;go_wp2_with (at_builtin;refine wpList_append_own _ rfl _ _ 22 rfl w.heap.size 3 i0 (.int .i64 0) 1 8 underlying22 HI.o a7 aY aW rfl ak _ l _ rfl (dC.o.alloc _) ⟨w2.heap.size,0,none⟩ 1 1 [.int .i64 (U:Nat)] rfl rfl (cell_one_new _ _ _) (by simp[Value.oneCell']) (by unfold maxLen;omega) ab (by simp;omega) ?_;intro v3 w3 bE cD _;have kY:=dC.o.lt;have K3:ad w w3:=(K2.alloc _).grown cD (λg hg=>(kY g hg).1);rw[zG]at bE;have eR:=aa bE;clear bE)
     go_roundw
     case rel=>exact⟨U+1,l+1,_,rfl,ab,aA,by rw[na.o,zH,HL.o];rfl,by rw[na.o];exact eR.o,K3⟩
     case measure=>exact dY
   ·obtain rfl:U=n:=ab;obtain⟨A2,c2,rfl⟩:=JT HO.o;go_wp2
    (try rw[Exit.noGoto_ret])
    go_ret;refine⟨_,rfl,?_,kr⟩;rw[lZ.o,HL.o];exact HO.o
theorem RX (A:Option Addr) (n c:Nat) (p:List Int) (a b:Int) (w:World) (hx:bo w A n c p):
  Calls prog 202 #[.slice A n c,.int .i64 a,.int .i64 b] w (xk (pathOf p a b) w):=by
 have iS:∀ fn first cap w,(Instr.makeFunc fn first cap).run prog w= .ok (.func fn first cap) w:=λ_ _ _ _=>rfl
 have hsf:∀ fn first cap a w,(store a (.func fn first cap)).run prog w=stored prog w a (.func fn first cap) .plain:=λ_ _ _ _ _=>run_store _ _ _ _ _ rfl
 have HX:=aa hx;clear hx;go_in;go_wp2_with fail
 refine(RT A n c p _ 2 2 [a,b] _ (HX.o.keep al) (qbZ _ a b (w.heap.size+1+1) (by go_simp) (by go_simp))).mono ?_;rintro e w1 ⟨B,rfl,hB,k1⟩;have K1:ad w w1:=ad.call al k1;have ff:w1.cell? ⟨w.heap.size,0,none⟩=some (.slice A n c):=k1.af (by go_simp);have KI:w1.cell? ⟨w.heap.size+1,0,none⟩=some (.int .i64 b):=k1.af (by go_simp);have HB:=aa hB;clear hB k1
 cases B
 ·have bW:ag (pathOf p a b=[]):=CC (λh=>by have:=HB.o.2 ⟨h.1,(RW n a b).2 (by rw[<- HX.o.1];exact h.2)⟩;cases this);go_wp2;go_ret;exact⟨none,0,by rw[bW.o];rfl,by rw[bW.o];exact⟨rfl,CP _,by unfold maxLen;omega,λ_=>⟨rfl,rfl⟩,λh=>absurd h (Nat.lt_irrefl _)⟩,K1⟩
 ·obtain⟨ht,c7⟩:=HB.o.1 ao;obtain⟨⟨h0,h1⟩,h2,h3⟩:=(RW n a b).1 c7;obtain⟨x,rfl⟩:=Int.eq_ofNat_of_zero_le h0;obtain⟨y,rfl⟩:=Int.eq_ofNat_of_zero_le h2;have pf:x<n:=ab;have kW:y<n:=ab
  have lZ:ag (pathOf p (x:Int) (y:Int)=wk p x y):=by
   unfold ag pathOf;rw[if_pos ⟨ht,⟨ab,by rw[HX.o.1];omega⟩,ab,by rw[HX.o.1];omega⟩,Int.toNat_natCast,Int.toNat_natCast]
  have HT:=aa ht;obtain⟨R,hT⟩:=ht;have HR:=aa hT;clear h0 h1 c7 h2 h3 hT;go_wp2_with fail
  refine(qbJ A n c p R HR.o w.heap.size (w.heap.size+1) w1.heap.size y _ rfl n [] x (-1) _ ao (W.one (by rw[HX.o.1];exact pf)) (.inl ⟨rfl,rfl⟩) (HX.o.keep al) (((ad.refl w1).alloc _).af ff) (((ad.refl w1).alloc _).af KI) (by go_simp)).mono ?_;rintro e w2 ⟨A3,c3,l,rfl,cT,k2,_,xq⟩;have K2:ad w w2:=ad.call al k2
  have hl:ag (wk p x y=l):=by
   have hs:=Kq HT.o (a:=x) (b:=y) (by rw[HX.o.1];exact pf) (by rw[HX.o.1];exact kW);rcases xq with ⟨_,bW⟩|⟨hw,hh,z,hz,rX⟩
   ·exfalso
    obtain⟨hw,hh,hz⟩:=hs
    cases KP:wk p x y with
    |nil=>rw[KP]at hh;cases hh
    |cons u m=>
     rw[KP]at hw hh hz;obtain rfl:u=x:=by simpa using hh
     exact bW m y (by simpa using hw) hz rfl
   ·obtain rfl:z=y:=ab;exact F9 HT.o hw ⟨hh,hz⟩
  have iA:=aa cT;clear cT xq k2;go_wp2;go_ret;exact⟨A3,c3,by rw[lZ.o,hl.o];rfl,by rw[lZ.o,hl.o];exact iA.o,K2⟩
theorem qb2:∀ U:Fin 6,∀ r:Fin 32,(r:Nat)<2 ^ (U:Nat)->bits .or .i64 ((r:Nat):Int) (wrap64 (2 ^ (U:Nat)))=(((r:Nat)+2 ^ (U:Nat):Nat):Int):=qck av
theorem qb3 (U r:Nat) (hj:U<6) (hr:r<2 ^ U):bits .or .i64 (r:Int) (wrap64 (2 ^ U))=((r+2 ^ U:Nat):Int):=by
 have h:2 ^ U<=2 ^ 5:=Nat.pow_le_pow_right ab ab;exact qb2 ⟨U,hj⟩ ⟨r,ab⟩ hr
theorem zS (A:Option Addr) (n c:Nat) (p:List Int) (a b:Int) (w:World) (hx:bo w A n c p):
  Calls prog 136 #[.slice A n c,.int .i64 a,.int .i64 b] w λe w'=>e= .returned (.int .i64 (c9 p a b n:Nat))/\ad w w':=by
 by_cases ht:cH p
 ·have n6:n<=6:=by have:=((mZ p).1 ht).2.1;rw[hx.1]at this;exact this
  have HX:=aa hx;clear hx ht;go_wp2;go_loopw [7,12] (λnv iv wr=>∃ U:Nat,U<=n/\nv= .int .i64 (c9 p a b U:Nat)/\iv= .int .i64 U/\ad w wr) (λ_ iv _=>n-(intOf iv).toNat)
  case atStart=>exact⟨0,ab,rfl,rfl,al⟩
  case round=>
   obtain⟨U,hj,rfl,rfl,kr⟩:=hrel;by_cases an:U<n
   ·have l0:=Gl p a b U;have fN:2 ^ U<=2 ^ 6:=Nat.pow_le_pow_right ab ab;have jV:=aa l0;have dV:ag (c9 p a b (U+1)=c9 p a b U+if Uuc p a b U then 2 ^ U else 0):=rfl;have fH:ag (Uuc p a b U=((pathOf p a (U:Int))[1]? :Option Nat).any λx=>decide ((x:Int)=b)):=rfl;go_wp2_with fail
    refine(RX A n c p a U _ (HX.o.keep kr)).mono ?_;rintro e w2 ⟨B,tj,rfl,hB,k2⟩;have K2:=kr.call k2;have pe:=aa hB;have b1:=hB.2.1;have b2:=hB.2.2.1;unfold maxLen at b2;clear hB;rcases hl:pathOf p a (U:Int)with _|⟨z0,_|⟨z1,rest⟩⟩
    ·have hf:ag (c9 p a b (U+1)=c9 p a b U):=by unfold ag;rw[dV.o,fH.o,hl];rfl
     generalize c9 p a b U=r at*;go_wp2;go_roundw
     case rel=>exact⟨U+1,ab,by rw[hf.o],aA,K2⟩
     case measure=>exact dY
    ·have hf:ag (c9 p a b (U+1)=c9 p a b U):=by unfold ag;rw[dV.o,fH.o,hl];rfl
     generalize c9 p a b U=r at*;go_wp2;go_roundw
     case rel=>exact⟨U+1,ab,by rw[hf.o],aA,K2⟩
     case measure=>exact dY
    ·rw[hl]at b1;simp only[List.length_cons]at b1;have hlen:ag ((z0::z1::rest).length=rest.length+2):=rfl;obtain⟨jA,fO,rfl,CG⟩:=pe.o.2.2.2.2 (by rw[hl];simp);have c1:w2.cell? ⟨jA,fO+1,none⟩=some (.int .i64 z1):=by rw[CG 1 (by rw[hl];simp),hl];rfl
     clear CG;by_cases hb:(z1:Int)=b
     ·have hf:ag (c9 p a b (U+1)=c9 p a b U+2 ^ U):=by unfold ag;rw[dV.o,fH.o,hl];simp[hb]
      have d:((z1:Int)==b)=true:=by simpa using hb
      clear hb;go_wp2;have RY:=qb3 U (c9 p a b U) ab jV.o;go_roundw
      case rel=>exact⟨U+1,ab,by rw[hf.o,RY],aA,K2⟩
      case measure=>exact dY
     ·have hf:ag (c9 p a b (U+1)=c9 p a b U):=by unfold ag;rw[dV.o,fH.o,hl];simp[hb]
      have d:((z1:Int)==b)=false:=by simpa using hb
      clear hb;generalize c9 p a b U=r at*;go_wp2;go_roundw
      case rel=>exact⟨U+1,ab,by rw[hf.o],aA,K2⟩
      case measure=>exact dY
   ·obtain rfl:U=n:=ab;go_wp2;go_ret;exact⟨rfl,kr⟩
 ·have hn:n<=9223372036854775807:=by have h1:=hx.2.1;have h2:=hx.2.2.1;unfold maxLen at h2;omega
  have HX:=aa hx;have HS:ag (∀ U,c9 p a b U=0):=KH ht a b;have HE:ag (∀ x:Int,pathOf p a x=[]):=λx=>CC (λh=>ht h.1);clear hx ht;go_wp2;go_loopw [7,12] (λnv iv wr=>∃ U:Nat,U<=n/\nv= .int .i64 0/\iv= .int .i64 U/\ad w wr) (λ_ iv _=>n-(intOf iv).toNat)
  case atStart=>exact⟨0,ab,rfl,rfl,al⟩
  case round=>
   obtain⟨U,hj,rfl,rfl,kr⟩:=hrel;by_cases an:U<n
   ·go_wp2_with fail
    refine(RX A n c p a U _ (HX.o.keep kr)).mono ?_;rintro e w2 ⟨B,tj,rfl,_,k2⟩;have K2:=kr.call k2;rw[HE.o];go_wp2;go_roundw
    case rel=>exact⟨U+1,ab,rfl,aA,K2⟩
    case measure=>exact dY
   ·obtain rfl:U=n:=ab;go_wp2;go_ret;exact⟨by rw[HS.o];rfl,kr⟩
structure eA (es:List Nat) (os ps:List Int) (n:Nat):Prop where
 fit:Fit es os n
 tree:cH ps
theorem zT (A B C:Option Addr) (n1 c1 n2 c2 n3 c3:Nat) (es:List Nat) (os ps:List Int) (w:World) (hr:fY w A n1 c1 B n2 c2 C n3 c3 (bw es) os ps) (hf:eA es os ps n3):
  Calls prog 22 #[.agg #[.slice A n1 c1,.slice B n2 c2,.slice C n3 c3]] w λe w'=>e= .returned (.bool true)/\ad w w':=by
 have HR:=aa hr;have HF:=aa hf;clear hr hf;go_in;go_wp2_with fail
 refine(JU A B C n1 c1 n2 c2 n3 c3 es os ps _ (HR.o.keep al) HF.o.fit).mono ?_;rintro e w1 ⟨rfl,k1⟩;have K1:ad w w1:=ad.call al k1;have x2:w1.cell? ⟨w.heap.size,2,none⟩=some (.slice C n3 c3):=k1.af (by go_simp);go_wp2_with fail
 refine(RR C n3 c3 ps _ (HR.o.ps.keep K1)).mono ?_;rintro e w2 ⟨D,rfl,hB,k2⟩;obtain rfl:D=true:=hB.2 HF.o.tree;clear hB;go_wp2;go_ret;exact⟨rfl,K1.call k2⟩
noncomputable def nh (ps:List Int) (n:Nat) (a f qD:Int) (s:Nat):Bool:=(((s:Nat):Int)==f)||(bits .and .i64 (c9 ps a s n:Nat) qD==0)
structure rZ (w:World) (F C AT OW:Nat) (Cv:Option Addr) (n3 c3:Nat) (a f qD:Int) (ps:List Int):Prop where
 KQ:w.cell? ⟨F,0,none⟩=some (.int .i64 f)
 KR:w.cell? ⟨C,2,none⟩=some (.slice Cv n3 c3)
 KS:w.cell? ⟨AT,0,none⟩=some (.int .i64 a)
 xu:w.cell? ⟨OW,0,none⟩=some (.int .i64 qD)
 ps:bo w Cv n3 c3 ps
theorem rZ.keep {w2:World} {F C AT OW:Nat} {Cv:Option Addr} {n3 c3:Nat} {a f qD:Int} {ps:List Int} (h:rZ w F C AT OW Cv n3 c3 a f qD ps) (hk:ad w w2):rZ w2 F C AT OW Cv n3 c3 a f qD ps:=
 ⟨hk.af h.KQ,hk.af h.KR,hk.af h.KS,hk.af h.xu,h.ps.keep hk⟩
theorem RZ (F C AT OW:Nat) (Cv:Option Addr) (n3 c3:Nat) (a f qD:Int) (ps:List Int) (s:Nat) (w:World) (hc:rZ w F C AT OW Cv n3 c3 a f qD ps):
  Calls prog 135 #[.int .i64 s,.pointer (some ⟨F,0,none⟩),.pointer (some ⟨C,0,none⟩),.pointer (some ⟨AT,0,none⟩),.pointer (some ⟨OW,0,none⟩)] w λe w'=>e= .returned (.bool (nh ps n3 a f qD s))/\ad w w':=by
 have HC:=aa hc;obtain⟨KQ,KR,KS,xu,b'⟩:=hc;have bX:=aa b';clear b';have hd:ag (nh ps n3 a f qD s=((((s:Nat):Int)==f)||(bits .and .i64 (c9 ps a s n3:Nat) qD==0))):=rfl
 cases h1:(((s:Nat):Int)==f)
 ·rw[h1]at hd
  cases h2:(bits .and .i64 (c9 ps a s n3:Nat) qD==0)
  ·rw[h2]at hd;go_wp2;refine bz (λwB=>ad w wB/\wB.cell? ⟨F,0,none⟩=some (.int .i64 f)/\wB.cell? ⟨C,2,none⟩=some (.slice Cv n3 c3)/\wB.cell? ⟨AT,0,none⟩=some (.int .i64 a)/\wB.cell? ⟨OW,0,none⟩=some (.int .i64 qD)) λwB SS=> ?_;obtain⟨au,aB,aC,aF,aX⟩:=SS.o _ (ad.refl _);repeat(apply DW.ct;(focus (intro wd hI;obtain⟨ae,ai,aj,aq,az⟩:=SS.o wd hI;go_wp2_with (first|(go_at_call 136;refine(zS Cv n3 c3 ps a s _ (bX.o.keep (au.call hI))).mono ?_;rintro e w6 ⟨rfl,cL⟩));exact aP));refine DW.np ?_)
   refine DW.nl SS ?_;rintro wd hI ⟨ae,ai,aj,aq,az⟩;go_wp2;go_ret;exact⟨by rw[hd.o];rfl,ae⟩
  ·rw[h2]at hd;go_wp2;refine bz (λwB=>ad w wB/\wB.cell? ⟨F,0,none⟩=some (.int .i64 f)/\wB.cell? ⟨C,2,none⟩=some (.slice Cv n3 c3)/\wB.cell? ⟨AT,0,none⟩=some (.int .i64 a)/\wB.cell? ⟨OW,0,none⟩=some (.int .i64 qD)) λwB SS=> ?_;obtain⟨au,aB,aC,aF,aX⟩:=SS.o _ (ad.refl _);repeat(apply DW.ct;(focus (intro wd hI;obtain⟨ae,ai,aj,aq,az⟩:=SS.o wd hI;go_wp2_with (first|(go_at_call 136;refine(zS Cv n3 c3 ps a s _ (bX.o.keep (au.call hI))).mono ?_;rintro e w6 ⟨rfl,cL⟩));exact aP));refine DW.np ?_)
   refine DW.nl SS ?_;rintro wd hI ⟨ae,ai,aj,aq,az⟩;go_wp2;go_ret;exact⟨by rw[hd.o];rfl,ae⟩
 ·rw[h1]at hd;go_wp2;refine bz (λwB=>ad w wB/\wB.cell? ⟨F,0,none⟩=some (.int .i64 f)/\wB.cell? ⟨C,2,none⟩=some (.slice Cv n3 c3)/\wB.cell? ⟨AT,0,none⟩=some (.int .i64 a)/\wB.cell? ⟨OW,0,none⟩=some (.int .i64 qD)) λwB SS=> ?_;obtain⟨au,aB,aC,aF,aX⟩:=SS.o _ (ad.refl _);repeat(apply DW.ct;(focus (intro wd hI;obtain⟨ae,ai,aj,aq,az⟩:=SS.o wd hI;go_wp2_with (first|(go_at_call 136;refine(zS Cv n3 c3 ps a s _ (bX.o.keep (au.call hI))).mono ?_;rintro e w6 ⟨rfl,cL⟩));exact aP));refine DW.np ?_)
  refine DW.nl SS ?_;rintro wd hI ⟨ae,ai,aj,aq,az⟩;go_wp2;go_ret;exact⟨by rw[hd.o];rfl,ae⟩
def qb4 (D:Nat->Bool) (l:List Nat) (r:Int):Prop:=(r= -1/\∀ i x:Nat,l[i]? =some x->D x=false)∨∃ i x:Nat,r=i/\l[i]? =some x/\D x=true/\∀ U y:Nat,U<i->l[U]? =some y->D y=false
theorem qb5 (F C AT OW:Nat) (Cv:Option Addr) (n3 c3:Nat) (a f qD:Int) (ps:List Int) (B:Option Addr) (m d:Nat) (l:List Nat) (w:World) (hc:rZ w F C AT OW Cv n3 c3 a f qD ps) (hx:bo w B m d (ints l)):
  Calls prog 203 #[.slice B m d,.func (.func 135) #[] #[.pointer (some ⟨F,0,none⟩),.pointer (some ⟨C,0,none⟩),.pointer (some ⟨AT,0,none⟩),.pointer (some ⟨OW,0,none⟩)]] w λe w'=>∃ r:Int,e= .returned (.int .i64 r)/\qb4 (nh ps n3 a f qD) l r/\ad w w':=by
 have hm:m<=d/\d<=9223372036854775807:=by have h1:=hx.2.1;have h2:=hx.2.2.1;unfold maxLen at h2;omega
 have hl:l.length=m:=by have:=hx.1;simpa [ints]using this
 have HL:=aa hl;have HX:=aa hx;have HC:=aa hc;clear hx hc hl;go_wp2;go_loopw [8] (λiv wr=>∃ U:Nat,U<=m/\iv= .int .i64 U/\ad w wr/\ag (∀ i x,i<U->l[i]? =some x->nh ps n3 a f qD x=false)) (λiv _=>m-(intOf iv).toNat)
 case atStart=>exact⟨0,ab,rfl,al,λi x hi=>ab⟩
 case round=>
  obtain⟨U,hj,rfl,kr,b8⟩:=hrel;by_cases an:U<m
  ·obtain⟨x,hx⟩:=exQ l U (by rw[HL.o];exact an);obtain⟨b,off,rfl,fE⟩:=HX.o.2.2.2.2 ab;have c1:wr.cell? ⟨b,off+U,none⟩=some (.int .i64 (x:Nat)):=by rw[kr.af (fE U an),CD hx]
   have CM:=aa hx;clear fE hx;go_wp2_with fail
   refine(RZ F C AT OW Cv n3 c3 a f qD ps x wr (HC.o.keep kr)).mono ?_;rintro e w2 ⟨rfl,k2⟩;have K2:=kr.call k2
   cases hv:nh ps n3 a f qD x
   ·have hn:ag (∀ i x,i<U+1->l[i]? =some x->nh ps n3 a f qD x=false):=λi y hi hy=>by
     rcases R6 i U with g|g
     ·exact b8.o i y g hy
     ·obtain rfl:i=U:=ab;rw[CM.o]at hy;obtain rfl:=Option.some.inj hy;exact hv
    clear hv;go_wp2;go_roundw
    case rel=>exact⟨U+1,ab,aA,K2,hn⟩
    case measure=>exact dY
   ·have HV:=aa hv;clear hv;go_wp2;go_ret;exact⟨U,rfl,.inr ⟨U,x,rfl,CM.o,HV.o,b8.o⟩,K2⟩
  ·obtain rfl:U=m:=ab;go_wp2;go_ret;exact⟨-1,rfl,.inl ⟨rfl,λi x hx=>b8.o i x (by have:=(bg hx);have:=HL.o;omega) hx⟩,kr⟩
end Go.Proofs.YtehaoggjlciobaaGreat

/- Part 10 of 53. -/
import Derived.Test.YtehaoggjlciobaaGreatPai
set_option linter.all false
set_option maxRecDepth 20000
set_option maxHeartbeats 16000000
namespace Go.Proofs.YtehaoggjlciobaaGreat
open Go.RowKit
def eQ (p:List Int):Nat->Nat
 |0=>0
 |i+1=>eQ p i+if pa p i= -1 then 1 else 0
theorem Kr (p:List Int):∀ n,eQ p n=0↔∀ x,x<n->pa p x≠ -1
 |0=>by simp[eQ]
 |n+1=>by
  have ih:=Kr p n;unfold eQ;constructor
  ·intro h x hx;by_cases e:pa p n= -1
   ·rw[if_pos e]at h;omega
   ·rw[if_neg e]at h;rcases R6 x n with g|g
    ·exact ih.1 ab x g
    ·obtain rfl:x=n:=ab;exact e
  ·intro h;rw[if_neg (h n ab),ih.2 (λx hx=>h x ab)]
theorem Ga (p:List Int):∀ n,eQ p n=1↔∃ r,r<n/\∀ x,x<n->(pa p x= -1↔x=r)
 |0=>by simp[eQ]
 |n+1=>by
  have ih:=Ga p n;unfold eQ;by_cases e:pa p n= -1
  ·rw[if_pos e];constructor
   ·intro h;have h0:=(Kr p n).1 ab;refine⟨n,ab,λx hx=>⟨λg=> ?_,λg=>by rw[g];exact e⟩⟩;rcases R6 x n with g2|g2
    ·exact absurd g (h0 x g2)
    ·omega
   ·rintro⟨r,hr,h⟩;have hrn:=(h n ab).1 e;have:eQ p n=0:=(Kr p n).2 (λx hx g=>by have:=(h x ab).1 g;omega);omega
  ·rw[if_neg e,Nat.add_zero,ih];constructor
   ·rintro⟨r,hr,h⟩;refine⟨r,ab,λx hx=> ?_⟩;rcases R6 x n with g2|g2
    ·exact h x g2
    ·obtain rfl:x=n:=ab;exact⟨λg=>absurd g e,λg=>ab⟩
   ·rintro⟨r,hr,h⟩;have hrn:r≠n:=λg=>e ((h n ab).2 g.symm);exact⟨r,ab,λx hx=>h x ab⟩
def it (p:List Int):Nat->Int->Int
 |0,x=>x
 |k+1,x=>if x<0 then x else it p k (pa p x.toNat)
theorem Ks (p:List Int) (k:Nat) (x:Int) (h:x<0):it p k x=x:=by
 cases k with
 |zero=>rfl
 |succ k=>unfold it;rw[if_pos h]
theorem Rn (p:List Int):∀ (k:Nat) (x:Int),0<=it p k x->it p (k+1) x=pa p (it p k x).toNat
 |0,x,h=>by have h:0<=x:=h;unfold it;rw[if_neg ab];rfl
 |k+1,x,h=>by
  by_cases hx:x<0
  ·rw[Ks p _ x hx]at h;omega
  ·have e1:∀ U,it p (U+1) x=it p U (pa p x.toNat):=λU=>by rw[it,if_neg hx]
   rw[e1 k]at h⊢;rw[e1 (k+1)];exact Rn p k _ h
theorem qbx (p:List Int) (k:Nat) (x:Int) (h:it p k x= -1):it p (k+1) x= -1:=by
 induction k generalizing x with
 |zero=>have h:x= -1:=h;subst h;rfl
 |succ k ih=>
  by_cases hx:x<0
  ·rw[Ks p _ x hx]at h⊢;exact h
  ·have e1:∀ U,it p (U+1) x=it p U (pa p x.toNat):=λU=>by rw[it,if_neg hx]
   rw[e1]at h⊢;exact ih _ h
def dep (p:List Int):Nat->Int->Nat
 |0,_=>0
 |k+1,x=>if x<0 then 0 else dep p k (pa p x.toNat)+1
theorem Ro (p:List Int):∀ (k:Nat) (x:Int),dep p k x<=k
 |0,x=>CP _
 |k+1,x=>by unfold dep;split;omega;have:=Ro p k (pa p x.toNat);omega
theorem qby (p:List Int) (k:Nat) (x:Int) (h:it p k x= -1):dep p (k+1) x=dep p k x:=by
 induction k generalizing x with
 |zero=>have h:x= -1:=h;subst h;rfl
 |succ k ih=>
  by_cases hx:x<0
  ·unfold dep;rw[if_pos hx,if_pos hx]
  ·have e1:it p (k+1) x=it p k (pa p x.toNat):=by rw[it,if_neg hx]
   rw[e1]at h;have:=ih _ h;rw[dep,if_neg hx,this];conv=>rhs;rw[dep,if_neg hx]
theorem Rq {p:List Int} (h1:1<=p.length) (h6:p.length<=6) (hr:∀ x,x<p.length-> -1<=pa p x/\pa p x<p.length) (h:eQ p p.length=1) (hi:∀ x:Nat,x<p.length->it p 7 x= -1):cH p:=by
 refine⟨λx=>dep p 7 x-1,h1,h6,hr,(Ga p _).1 h,λx hx y hy=> ?_,λx hx=> ?_⟩
 ·have e:it p 7 (x:Int)=it p 6 y:=by rw[it,if_neg ab,Int.toNat_natCast,hy]
  have e2:it p 6 (y:Int)= -1:=by rw[<- e];exact hi x hx
  have e3:dep p 7 (x:Int)=dep p 6 y+1:=by rw[dep,if_neg ab,Int.toNat_natCast,hy]
  have e4:dep p 7 (y:Int)=dep p 6 y:=qby p 6 y e2;have e5:dep p 7 (y:Int)=dep p 6 (pa p y)+1:=by rw[dep,if_neg ab,Int.toNat_natCast]
  show dep p 7 (y:Int)-1<dep p 7 (x:Int)-1
  omega
 ·have:=Ro p 7 x;show dep p 7 (x:Int)-1<7
  omega
theorem Rr {p:List Int} {R:Nat->Nat} (hT:T p R):∀ (k x:Nat),x<p.length->R x<k->it p k x= -1
 |0,x,_,h=>absurd h (Nat.not_lt_zero _)
 |k+1,x,hx,h=>by
  have h1:=hT.gN x hx;rw[it,if_neg ab,Int.toNat_natCast];by_cases e:pa p x= -1
  ·rw[e];exact Ks p k _ ab
  ·obtain⟨y,hy⟩:∃ y:Nat,pa p x=y:=⟨(pa p x).toNat,ab⟩;rw[hy];exact Rr hT k y ab (by have:=hT.rk x hx y hy;omega)
theorem mZ (p:List Int):cH p↔(1<=p.length/\p.length<=6/\(∀ x,x<p.length-> -1<=pa p x/\pa p x<p.length)/\eQ p p.length=1/\∀ x:Nat,x<p.length->it p 7 x= -1):=
 ⟨λ⟨R,hT⟩=>⟨hT.one,hT.cV,hT.gN,(Ga p _).2 hT.root,λx hx=>Rr hT 7 x hx (hT.r7 x hx)⟩,λ⟨h1,h2,h3,h4,h5⟩=>Rq h1 h2 h3 h4 h5⟩
theorem Rs (p:List Int) (x:Int) (k:Nat):∀ m,k<=m->it p k x= -1->it p m x= -1
 |0,h,g=>by
  obtain rfl:k=0:=ab;exact g
 |m+1,h,g=>by
  rcases R6 k (m+1)with h2|h2
  ·exact qbx p m x (Rs p x k m ab g)
  ·obtain rfl:k=m+1:=ab;exact g
theorem zE (p:List Int):∀ U,eQ p U<=U
 |0=>CP _
 |U+1=>by have:=zE p U;unfold eQ;split <;>omega
theorem Rt {p:Prop} (h:p:=by
  go_wp2;go_loopw [5,6] (λaf st Kt=>∃ k:Nat,k<=7/\af= .int .i64 (it p k U)/\st= .int .i64 k/\ad w Kt/\ -1<=it p k U/\it p k U<n) (λ_ st _=>7-(intOf st).toNat)
  case atStart=>exact⟨0,ab,rfl,rfl,al,by show -1<=(U:Int);omega,by show(U:Int)<n;omega⟩
  case round=>
   obtain⟨k,hk,rfl,rfl,Gb,i1,i2⟩:=hrel;by_cases uF:k<7/\0<=it p k U
   ·obtain⟨uZ,gr⟩:=uF;have oV:=Rn p k U gr;obtain⟨y,hy⟩:∃ y:Nat,it p k U=y:=⟨(it p k U).toNat,ab⟩;rw[hy,Int.toNat_natCast]at oV;have kW:y<n:=ab;have c2:wr.cell? ⟨b,off+y,none⟩=some (.int .i64 (pa p y)):=Gb.af (HC.o y kW);have HN:=aa oV;have HY:=aa hy;rw[hy];clear oV;by_cases Ku: -1<=pa p y/\pa p y<n
    ·obtain⟨g3,g4⟩:=Ku;clear hy;generalize pa p y=z at*;go_wp2;go_roundw
     case rel=>exact⟨k+1,ab,by rw[HN.o],aA,al,by rw[HN.o];exact g3,by rw[HN.o];exact g4⟩
     case measure=>simp[intOf];omega
    ·have bW:ag (¬cH p):=λh=>Ku (by have:=((mZ p).1 h).2.2.1 y (by rw[b6.o];exact kW);rwa [b6.o]at this);clear hy;generalize pa p y=z at*;rcases Int.lt_or_le z (-1)with g3|g3
     ·go_wp2;go_ret;exact jw rfl bW.o al
     ·have g4:(n:Int)<=z:=ab;clear Ku;go_wp2;go_ret;exact jw rfl bW.o al
   ·by_cases hz:it p k U= -1
    ·have h7:ag (∀ x,x<U+1->(-1<=pa p x/\pa p x<n)/\it p 7 x= -1):=λx hx=>by
      rcases R6 x U with g|g
      ·exact b8 x g
      ·obtain rfl:x=U:=ab;exact⟨zF.o,Rs p x k 7 hk hz⟩
     rw[hz];have Cw:(k:Int)<=7:=ab;clear uF i1 i2 hz;by_cases uZ:k<7
     ·go_wp2;go_roundw
      case rel=>exact⟨U+1,ab,by rw[HR.o];(first|go_num|rfl),aA,al,h7⟩
      case measure=>simp[intOf];omega
     ·go_wp2;go_roundw
      case rel=>exact⟨U+1,ab,by rw[HR.o];(first|go_num|rfl),aA,al,h7⟩
      case measure=>simp[intOf];omega
    ·obtain rfl:k=7:=ab;have bW:ag (¬cH p):=λh=>hz (((mZ p).1 h).2.2.2.2 U (by rw[b6.o];exact an));have aW:(it p 7 U != -1)=true:=by simpa using hz
     clear uF hz;generalize it p 7 U=z at*;go_wp2;go_ret;exact jw rfl bW.o al):p:=h
theorem Kv (A:Option Addr) (n c:Nat) (p:List Int) (w:World) (hx:bo w A n c p):
  Calls Tryz.prog 42 #[.slice A n c] w (uJ (cH p) w):=by
 obtain⟨x1,x2,x3,x4,x5⟩:=hx;unfold maxLen at x3;have fb:=aa x5;have b6:=aa x1;clear x4 x5 x1;rcases R6 n 1 with h1|h1
 ·have hn:ag (¬cH p):=λh=>by have:=((mZ p).1 h).1;have:=b6.o;omega
  have d1:decide ((n:Int)<1)=true:=by simp;omega
  go_wp2;go_ret;exact jw rfl hn.o al
 rcases R6 6 n with h6|h6
 ·have hn:ag (¬cH p):=λh=>by have:=((mZ p).1 h).2.1;have:=b6.o;omega
  have d1:decide ((n:Int)<1)=false:=by simp;omega
  have d6:decide ((6:Int)<(n:Int))=true:=by simp;omega
  go_wp2;go_ret;exact jw rfl hn.o al
 have d1:decide ((n:Int)<1)=false:=by simp;omega
 have d6:decide ((6:Int)<(n:Int))=false:=by simp;omega
 go_wp2;go_loopw [3,4] (λr i wr=>∃ U:Nat,U<=n/\r= .int .i64 (eQ p U:Nat)/\i= .int .i64 U/\ad w wr/\ag (∀ x,x<U->(-1<=pa p x/\pa p x<n)/\it p 7 x= -1)) (λ_ i _=>n-(intOf i).toNat)
 case atStart=>exact⟨0,ab,rfl,rfl,al,λi hi=>ab⟩
 case round=>
  obtain⟨U,hj,rfl,rfl,kr,b8⟩:=hrel;obtain⟨b,off,rfl,hc⟩:=fb.o ab;by_cases an:U<n
  ·have c1:wr.cell? ⟨b,off+U,none⟩=some (.int .i64 (pa p U)):=kr.af (hc U an);have HC:=aa hc;clear hc;by_cases lW: -1<=pa p U/\pa p U<n
   ·obtain⟨g1,g2⟩:=lW;have qx:eQ p (U+1)=eQ p U+if pa p U= -1 then 1 else 0:=rfl;by_cases hv:pa p U= -1
    ·rw[if_pos hv]at qx;rw[hv]at c1;have qy:=zE p U;have HR:=aa qx;have zF:ag (-1<=pa p U/\pa p U<n):=⟨g1,g2⟩;clear qx hv;generalize eQ p U=r at*;exact Rt
    ·rw[if_neg hv,Nat.add_zero]at qx;have cW:(pa p U== -1)=false:=by simpa using hv
     have qy:=zE p U;have HR:=aa qx;have zF:ag (-1<=pa p U/\pa p U<n):=⟨g1,g2⟩;clear qx hv;generalize eQ p U=r at*;exact Rt
   ·have bW:ag (¬cH p):=λh=>lW (by have:=((mZ p).1 h).2.2.1 U (by rw[b6.o];exact an);rwa [b6.o]at this);rcases Int.lt_or_le (pa p U) (-1)with g3|g3
    ·clear lW;generalize pa p U=v at*;go_wp2;go_ret;exact jw rfl bW.o al
    ·have g4:(n:Int)<=pa p U:=ab;clear lW;generalize pa p U=v at*;go_wp2;go_ret;exact jw rfl bW.o al
  ·obtain rfl:U=n:=ab
   have BU:ag (eQ p U=1↔cH p):=by
    refine(Iff.trans ⟨λh=> ?_,λh=> ?_⟩ (mZ p).symm)
    ·have e:=b6.o;exact⟨ab,ab,λx hx=>by rw[e]at hx⊢;exact(b8 x hx).1,by rw[e];exact h,λx hx=>by rw[e]at hx;exact(b8 x hx).2⟩
    ·have:=h.2.2.2.1;rwa [b6.o]at this
   have qy:=zE p U;generalize eQ p U=r at*;go_wp2;go_ret;refine⟨_,rfl,?_,al⟩;rw[<- BU.o];simp;omega
def ints (l:List Nat):List Int:=l.map Int.ofNat
def cS (l:List Nat):List Value:=l.map λx=> .int .i64 (x:Nat)
theorem zG (l:List Nat) (n:Nat):cS l++[.int .i64 (n:Nat)]=cS (l++[n]):=by simp[cS]
theorem qz (l:List Nat):(cS l).length=l.length:=by simp[cS]
theorem bo.bp {w:World} {base e:Nat} {v:Value} {n:Nat} {xs:List Nat} (h:w.ownsRow base e 1 v n (cS xs)):∃ A c,v= .slice A n c/\bo w A n c (ints xs):=by
 have hl:xs.length=n:=by have:=h.1;rw[qz]at this;omega
 rcases h.2 with ⟨rfl,h0⟩|⟨g,cap,cur,rfl,hb,hg,h1,h2,h3,h4⟩
 ·exact⟨none,0,by rw[h0],by simp[ints,hl],ab,by unfold maxLen;omega,λ_=>⟨h0,rfl⟩,λh=>ab⟩
 ·refine⟨_,cap,rfl,by simp[ints,hl],h1,h2,(λh=>by cases h),λh0=>⟨g,0,rfl,λi hi=> ?_⟩⟩;rw[Nat.zero_add,h.cellAt i ab];simp[cS,ints,jc (show i<xs.length by omega)]
def xk (l:List Nat) (w:World) (e:Ending) (w':World):Prop:=∃ A c,e= .returned (.slice A l.length c)/\bo w' A l.length c (ints l)/\ad w w'
theorem Kw (A:Option Addr) (n c:Nat) (p:List Int) (a:Int) (w:World) (hx:bo w A n c p):
  Calls Tryz.prog 74 #[.slice A n c,.int .i64 a] w (uJ (cH p/\0<=a/\a<n) w):=by
 have HX:=aa hx;clear hx;go_in;go_wp2_with fail
 refine(Kv A n c p w HX.o).mono ?_;rintro e w1 ⟨B,rfl,hB,k1⟩;have HB:=aa hB;clear hB
 cases B
 ·go_wp2;go_ret;exact jw rfl (λh=>by have:=HB.o.2 h.1;cases this) k1
 ·have ht:ag (cH p):=HB.o.1 rfl;rcases Int.lt_or_le a 0 with h0|h0
  ·go_wp2;go_ret;exact jw rfl (λh=>ab) k1
  ·rcases Int.lt_or_le a n with h1|h1
   ·have d:decide (a<(n:Int))=true:=by simp;omega
    go_wp2;go_ret;exact JS rfl ⟨ht.o,h0,h1⟩ k1
   ·have d:decide (a<(n:Int))=false:=by simp;omega
    go_wp2;go_ret;exact jw rfl (λh=>ab) k1
def dY (p:List Int):Nat->Nat->List Nat
 |0,_=>[]
 |k+1,x=>x::if pa p x<0 then []else dY p k (pa p x).toNat
def Cy (p:List Int) (R:Nat->Nat) (a:Nat) (pre:List Nat) (cur:Int):Prop:=
 ∃ k,pre.length+k=7/\((cur= -1/\dY p 7 a=pre)∨∃ y:Nat,cur=y/\y<p.length/\R y<k/\dY p 7 a=pre++dY p k y)
theorem Cy.next {p:List Int} {R:Nat->Nat} (hT:T p R) {a:Nat} {pre:List Nat} {y:Nat} (h:Cy p R a pre y):y<p.length/\pre.length<7/\Cy p R a (pre++[y]) (pa p y):=by
 obtain⟨k,hk,⟨h1,_⟩|⟨z,h1,h2,h3,h4⟩⟩:=h
 ·omega
 ·obtain rfl:z=y:=ab;obtain⟨zH,rfl⟩:∃ zH,k=zH+1:=⟨k-1,ab⟩;refine⟨h2,ab,zH,by simp;omega,?_⟩;have hr:=hT.gN z h2;by_cases e:pa p z= -1
  ·refine .inl ⟨e,?_⟩;rw[h4,dY,if_pos ab]
  ·refine .inr ⟨(pa p z).toNat,ab,ab,?_,?_⟩
   ·have:=hT.rk z h2 (pa p z).toNat ab;omega
   ·rw[h4,dY,if_neg ab];simp
theorem Ru (A:Option Addr) (n c:Nat) (p:List Int) (R:Nat->Nat) (a:Nat) (w:World) (hx:bo w A n c p) (hT:T p R) (ha:a<n):
  Calls Tryz.prog 128 #[.slice A n c,.int .i64 a] w (xk (dY p 7 a) w):=by
 obtain⟨i0,hi,a7,aY,aW⟩:=ql0 oZ;have HI:=aa hi;clear hi;obtain⟨x1,x2,x3,x4,x5⟩:=hx;unfold maxLen at x3;have fb:=aa x5;have b6:=aa x1;clear x4 x5 x1;have HT:=aa hT;have hs:ag (Cy p R a [] a):=⟨7,rfl,.inr ⟨a,rfl,by rw[b6.o];exact ha,hT.r7 a (by rw[b6.o];exact ha),rfl⟩⟩;clear hT;go_wp2;go_loopw [1,5] (λfF ov wr=>∃ (pre:List Nat) (l:Nat) (cur:Int) (v:Value),ov=v/\pre.length=l/\l<=7/\fF= .int .i64 cur/\Cy p R a pre cur/\wr.ownsRow w.heap.size 3 1 v l (cS pre)/\ad w wr) (λ_ ov _=>7-lenOf ov)
 case atStart=>exact⟨[],0,a,_,rfl,rfl,ab,rfl,hs.o,qcb _ _ _ _,ad.refl w⟩
 case round=>
  obtain⟨pre,l,cur,v,rfl,hl,hl7,rfl,hu,ho,kr⟩:=hrel;have HL:=aa hl;have HU:=aa hu;have HO:=aa ho;clear ho;by_cases od:cur= -1
  ·subst od;obtain⟨k,_,⟨_,h2⟩|⟨y,h1,_⟩⟩:=hu
   ·obtain⟨A2,c2,rfl,cT⟩:=bo.bp HO.o;have iA:=aa cT;have H2:=aa h2;clear cT hl h2;go_wp2;go_ret;refine⟨A2,c2,by rw[H2.o,HL.o];rfl,?_,kr⟩;rw[H2.o,HL.o];exact iA.o
   ·omega
  ·obtain⟨y,rfl⟩:∃ y:Nat,cur=y:=by
    obtain⟨k,_,⟨h1,_⟩|⟨y,h1,_⟩⟩:=hu
    ·exact absurd h1 od
    ·exact⟨y,h1⟩
   obtain⟨hy,jy,pd⟩:=hu.next HT.o;have kW:y<n:=by rw[b6.o]at hy;exact hy
   have fG:l<7:=ab;obtain⟨b,off,rfl,hc⟩:=fb.o ab;have c1:wr.cell? ⟨b,off+y,none⟩=some (.int .i64 (pa p y)):=kr.af (hc y kW);have kX:b<wr.heap.size:=Aa wr _ c1;have qkG:b<w.heap.size:=Aa w _ (hc y kW);have hz:w.heap.size<=wr.heap.size:=kr.size;have hm:=Qu HO.o;have HCy:ag (w.cell? ⟨b,off+y,none⟩=some (.int .i64 (pa p y))):=hc y kW;have HC:=aa hc;have zI:=aa pd;have lY:ag ((cS pre).length=l*1):=by unfold ag;rw[qz,HL.o,Nat.mul_one]
   clear hc hu pd hl od hy jy;generalize pa p y=z at*;go_wp2_with (at_builtin;refine wpList_append_own _ rfl _ _ 22 rfl w.heap.size 3 i0 (.int .i64 0) 1 8 Tryz.underlying22 HI.o a7 aY aW rfl ak _ l _ rfl (HO.o.alloc _) ⟨wr.heap.size,0,none⟩ 1 1 [.int .i64 (y:Nat)] rfl rfl (cell_one_new _ _ _) (by simp[Value.oneCell']) (by unfold maxLen;omega) ab (by simp;omega) ?_;intro v3 w3 bE cD _;have kY:=HO.o.lt;have K3:ad w w3:=(kr.alloc _).grown cD (λg hg=>(kY g hg).1);rw[zG]at bE;have eR:=aa bE;clear bE;have c3:=K3.af HCy.o)
   go_roundw
   case rel=>exact⟨pre++[y],l+1,z,_,rfl,by rw[qC,HL.o];rfl,ab,aA,zI.o,eR.o,K3⟩
   case measure=>rw[Qu eR.o,hm];omega
def ky (p:List Int) (a i:Nat):Bool:=decide (pa p a=i)||decide (pa p i=a)
def fc (p:List Int) (a U:Nat):List Nat:=(List.range U).filter (ky p a)
theorem Kx {p:List Int} {a U:Nat} (h:ky p a U=true):fc p a (U+1)=fc p a U++[U]:=by
 simp[fc,List.range_succ,h]
theorem Rv {p:List Int} {a U:Nat} (h:ky p a U=false):fc p a (U+1)=fc p a U:=by
 simp[fc,List.range_succ,h]
theorem Ky (p:List Int) (a U:Nat):(fc p a U).length<=U:=by
 have:=List.length_filter_le (ky p a) (List.range U);simpa [fc]using this
open Classical in
noncomputable def fe (p:List Int) (a:Int):List Nat:=if cH p/\0<=a/\a<p.length then fc p a.toNat p.length else []
theorem qbz (A:Option Addr) (n c:Nat) (p:List Int) (a:Int) (w:World) (hx:bo w A n c p):
  Calls Tryz.prog 37 #[.slice A n c,.int .i64 a] w (xk (fe p a) w):=by
 obtain⟨i0,hi,a7,aY,aW⟩:=ql0 oZ;have HI:=aa hi;clear hi;have HX:=aa hx;have hnn:n<=9223372036854775807:=by have h1:=hx.2.1;have h2:=hx.2.2.1;unfold maxLen at h2;omega
 clear hx;go_in;go_wp2_with fail
 refine(Kw A n c p a w HX.o).mono ?_;rintro e w1 ⟨B,rfl,hB,k1⟩;have HB:=aa hB;clear hB
 cases B
 ·have bW:ag (fe p a=[]):=by
   unfold ag fe;rw[if_neg (λh=>by have:=HB.o.2 (by rw[<- HX.o.1];exact h);cases this)]
  go_wp2;go_loopw [5,7] (λov iv wr=>ov= .slice none 0 0/\iv= .int .i64 0/\ad w wr) (λ_ _ _=>0)
  case atStart=>exact⟨rfl,rfl,k1⟩
  case round=>
   obtain⟨rfl,rfl,kr⟩:=hrel;go_wp2;all_goals go_ret
   all_goals exact⟨none,0,by rw[bW.o];rfl,by rw[bW.o];exact⟨rfl,CP _,by unfold maxLen;omega,λ_=>⟨rfl,rfl⟩,λh=>absurd h (Nat.lt_irrefl _)⟩,kr⟩
 ·obtain⟨ht,h0,h1⟩:=HB.o.1 rfl;obtain⟨y,rfl⟩:=Int.eq_ofNat_of_zero_le h0;have kW:y<n:=ab;have n6:n<=6:=by have:=((mZ p).1 ht).2.1;rw[HX.o.1]at this;exact this
  have lZ:ag (fe p (y:Int)=fc p y n):=by
   unfold ag fe;rw[if_pos ⟨ht,ab,by rw[HX.o.1];omega⟩,Int.toNat_natCast,HX.o.1]
  have fb:=aa HX.o.2.2.2.2;clear ht h0 h1;go_wp2;go_loopw [5,7] (λov iv wr=>∃ (U l:Nat) (v:Value),ov=v/\U<=n/\iv= .int .i64 U/\(fc p y U).length=l/\wr.ownsRow w.heap.size 3 1 v l (cS (fc p y U))/\ad w wr) (λ_ iv _=>n-(intOf iv).toNat)
  case atStart=>exact⟨0,0,_,rfl,ab,rfl,rfl,qcb _ _ _ _,k1⟩
  case round=>
   obtain⟨U,l,v,rfl,hj,rfl,hl,ho,kr⟩:=hrel;have fG:l<=U:=by rw[<- hl];exact Ky p y U
   have HL:=aa hl;have HO:=aa ho;clear hl ho;by_cases an:U<n
   ·obtain⟨b,off,rfl,hc⟩:=fb.o ab;have c1:wr.cell? ⟨b,off+y,none⟩=some (.int .i64 (pa p y)):=kr.af (hc y kW);have c2:wr.cell? ⟨b,off+U,none⟩=some (.int .i64 (pa p U)):=kr.af (hc U an);have lY:ag ((cS (fc p y U)).length=l*1):=by unfold ag;rw[qz,HL.o,Nat.mul_one]
    have hz:w.heap.size<=wr.heap.size:=kr.size;clear hc;by_cases e1:pa p y=U
    ·have na:ag (fc p y (U+1)=fc p y U++[U]):=Kx (by simp[ky,e1]);have d1:(pa p y==(U:Int))=true:=by simp[e1]
     clear e1;go_wp2_with (at_builtin;refine wpList_append_own _ rfl _ _ 22 rfl w.heap.size 3 i0 (.int .i64 0) 1 8 Tryz.underlying22 HI.o a7 aY aW rfl ak _ l _ rfl (HO.o.alloc _) ⟨wr.heap.size,0,none⟩ 1 1 [.int .i64 (U:Nat)] rfl rfl (cell_one_new _ _ _) (by simp[Value.oneCell']) (by unfold maxLen;omega) ab (by simp;omega) ?_;intro v3 w3 bE cD _;have kY:=HO.o.lt;have K3:ad w w3:=(kr.alloc _).grown cD (λg hg=>(kY g hg).1);rw[zG]at bE;have eR:=aa bE;clear bE)
     go_roundw
     case rel=>exact⟨U+1,l+1,_,rfl,ab,aA,by rw[na.o,qC,HL.o];rfl,by rw[na.o];exact eR.o,K3⟩
     case measure=>simp[intOf];omega
    ·have d1:(pa p y==(U:Int))=false:=by simp[e1]
     by_cases e2:pa p U=y
     ·have na:ag (fc p y (U+1)=fc p y U++[U]):=Kx (by simp[ky,e2]);have d2:(pa p U==(y:Int))=true:=by simp[e2]
      clear e1 e2;go_wp2_with (at_builtin;refine wpList_append_own _ rfl _ _ 22 rfl w.heap.size 3 i0 (.int .i64 0) 1 8 Tryz.underlying22 HI.o a7 aY aW rfl ak _ l _ rfl (HO.o.alloc _) ⟨wr.heap.size,0,none⟩ 1 1 [.int .i64 (U:Nat)] rfl rfl (cell_one_new _ _ _) (by simp[Value.oneCell']) (by unfold maxLen;omega) ab (by simp;omega) ?_;intro v3 w3 bE cD _;have kY:=HO.o.lt;have K3:ad w w3:=(kr.alloc _).grown cD (λg hg=>(kY g hg).1);rw[zG]at bE;have eR:=aa bE;clear bE)
      go_roundw
      case rel=>exact⟨U+1,l+1,_,rfl,ab,aA,by rw[na.o,qC,HL.o];rfl,by rw[na.o];exact eR.o,K3⟩
      case measure=>simp[intOf];omega
     ·have gB:ag (fc p y (U+1)=fc p y U):=Rv (by simp[ky,e1,e2]);have d2:(pa p U==(y:Int))=false:=by simp[e2]
      clear e1 e2;go_wp2;go_roundw
      case rel=>exact⟨U+1,l,_,rfl,ab,aA,by rw[gB.o];exact HL.o,by rw[gB.o];exact HO.o,kr⟩
      case measure=>simp[intOf];omega
   ·obtain rfl:U=n:=ab;obtain⟨A2,c2,rfl,cT⟩:=bo.bp HO.o;have iA:=aa cT;clear cT;go_wp2;go_ret;refine⟨A2,c2,by rw[lZ.o,HL.o];rfl,?_,kr⟩;rw[lZ.o,HL.o];exact iA.o
open Classical in
noncomputable def pathOf (p:List Int) (a b:Int):List Nat:=if cH p/\(0<=a/\a<p.length)/\(0<=b/\b<p.length)then wk p a.toNat b.toNat else []
variable {p:List Int} {R:Nat->Nat}
theorem Rx (p:List Int) (k x:Nat):(dY p (k+1) x).head?=some x:=by unfold dY;rfl
theorem Kz (hT:T p R):∀ (k x:Nat),x<p.length->R x<k->W p (dY p k x)/\(∀ z∈dY p k x,R z<=R x)
 |0,x,_,h=>absurd h (Nat.not_lt_zero _)
 |k+1,x,hx,h=>by
  have h1:=hT.gN x hx;unfold dY;by_cases e:pa p x<0
  ·rw[if_pos e];exact⟨W.one hx,λz hz=>by simp at hz;rw[hz];exact CP _⟩
  ·rw[if_neg e];obtain⟨y,hy⟩:∃ y:Nat,pa p x=y:=⟨(pa p x).toNat,ab⟩;rw[hy,Int.toNat_natCast];have an:=hT.rk x hx y hy;obtain⟨w1,w2⟩:=Kz hT k y ab ab;obtain⟨zH,rfl⟩:∃ zH,k=zH+1:=⟨k-1,ab⟩;refine⟨?_,λz hz=> ?_⟩
   ·rw[dY]at w1 w2⊢;refine w1.cons hx (.inl hy) ?_;intro hh;have Cz:=List.mem_of_head? hh;have:=w2 x (qce _ Cz);omega
   ·rcases KX.1 hz with rfl|hz
    ·exact CP _
    ·have:=w2 z hz;omega
theorem KC (hT:T p R) {r:Nat} (iz:∀ x,x<p.length->(pa p x= -1↔x=r)):∀ (k x:Nat),x<p.length->R x<k->r∈dY p k x
 |0,x,_,h=>absurd h (Nat.not_lt_zero _)
 |k+1,x,hx,h=>by
  have h1:=hT.gN x hx;unfold dY;by_cases e:pa p x<0
  ·have:x=r:=(iz x hx).1 ab;rw[this];simp
  ·rw[if_neg e];obtain⟨y,hy⟩:∃ y:Nat,pa p x=y:=⟨(pa p x).toNat,ab⟩;rw[hy,Int.toNat_natCast];have an:=hT.rk x hx y hy;exact qce _ (KC hT iz k y ab ab)
theorem W.glue {m:Nat} {Y:List Nat} (hY:W p (m::Y)):∀ (X:List Nat),W p (X++[m])->(∀ u v,X.getLast?=some u->Y.head?=some v->u≠v)->W p (X++(m::Y))
 |[],_,_=>hY
 |[u],hX,aN=>by
  refine W.cons hY (hX.lt 0 u rfl) (hX.n' 0 u m rfl rfl) ?_;intro h;exact aN u u rfl h rfl
 |u::v::X,hX,aN=>by
  have ih:=W.glue hY (v::X) hX.tail (λa b h1 h2=>aN a b (by rwa [List.getLast?_cons_cons]) h2);refine W.cons (y:=v) (t:=X++(m::Y)) ih (hX.lt 0 u rfl) (hX.n' 0 u v rfl rfl) ?_;intro h
  have:(X++[m])[0]? =some u:=by
   cases X with
   |nil=>simpa using h
   |cons z X=>simpa using h
  exact hX.nb 0 u u rfl (by simpa using this) rfl
theorem qbA (hT:T p R) {a b i k:Nat} {m:Nat} (ha:a<p.length) (hb:b<p.length) (hF:(dY p 7 a)[i]? =some m) (hG:(dY p 7 b)[k]? =some m) (bW:∀ i' u,i'<i->(dY p 7 a)[i']? =some u->u∉dY p 7 b):
  pathOf p (a:Int) (b:Int)=(dY p 7 a).take (i+1)++((dY p 7 b).take k).reverse:=by
 have hp:cH p:=⟨R,hT⟩;unfold pathOf;rw[if_pos ⟨hp,ab,ab⟩,Int.toNat_natCast,Int.toNat_natCast];have qbB:=(Kz hT 7 a ha (hT.r7 a ha)).1;have qbC:=(Kz hT 7 b hb (hT.r7 b hb)).1;have Gc:=Rx p 6 a;have CB:=Rx p 6 b;generalize dY p 7 a=F at*;generalize dY p 7 b=G at*;obtain⟨iQ,Ry⟩:=pi.1 hF;obtain⟨gC,Gd⟩:=pi.1 hG;have Fo:F.take (i+1)=F.take i++[m]:=by rw[QI iQ,Ry]
 have nf:G.take (k+1)=G.take k++[m]:=by rw[QI gC,Gd]
 have w1:W p (F.take i++[m]):=by rw[<- Fo];exact qbB.sub [] (F.drop (i+1)) ao
 have w2:W p (m::(G.take k).reverse):=by
  have:W p (G.take (k+1)):=qbC.sub [] (G.drop (k+1)) ao;rw[nf]at this;have:=this.rev;simpa using this
 rw[Fo,List.append_assoc];refine F9 hp (w2.glue (F.take i) w1 ?_) ⟨?_,?_⟩
 ·intro u v hu hv huv;subst huv;obtain⟨s,hs⟩:=F8 hu
  have gr:i=s.length+1:=by
   have:=congrArg List.length hs;simp at this;omega
  have:F[i-1]? =some u:=by
   have e:(F.take i)[i-1]? =some u:=by rw[hs,gr];simp
   rwa [List.getElem?_take,if_pos ab]at e
  refine bW (i-1) u ab this ?_;have:=List.mem_of_head? hv;rw[List.mem_reverse]at this;exact List.mem_of_mem_take this
 ·cases i with
  |zero=>
   cases F with
   |nil=>simp at Gc
   |cons x F=>simp at Gc Ry⊢;omega
  |succ i=>
   cases F with
   |nil=>simp at Gc
   |cons x F=>simpa using Gc
 ·cases k with
  |zero=>
   cases G with
   |nil=>simp at CB
   |cons x G=>simp at CB Gd⊢;omega
  |succ k=>
   cases G with
   |nil=>simp at CB
   |cons x G=>
    simp only[List.head?_cons,Option.some.injEq]at CB;simp[CB,List.getLast?_append];rw[show m::((List.take k G).reverse++[b])=(m::(List.take k G).reverse)++[b]from rfl,List.getLast?_append];rfl
theorem CC {a b:Int} (h:¬(cH p/\(0<=a/\a<p.length)/\(0<=b/\b<p.length))):pathOf p a b=[]:=by unfold pathOf;rw[if_neg h]
end Go.Proofs.YtehaoggjlciobaaGreat

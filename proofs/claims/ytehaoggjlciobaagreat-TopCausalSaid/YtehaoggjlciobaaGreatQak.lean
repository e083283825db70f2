/- Part 8 of 40. -/
import Derived.Test.YtehaoggjlciobaaGreatQai
import Derived.Maps.AppendAt
import Derived.ChangeKeysEq
import Derived.Laws.BytesArg
import Derived.ProofKit
import Derived.OpenShut
import Derived.Deep.SlicePairs
import Derived.Lib.SmallJoins
import Derived.OneCell
set_option linter.all false
set_option maxRecDepth 20000
set_option maxHeartbeats 16000000
namespace Go.Proofs.YtehaoggjlciobaaGreat
open Go.RowKit Go.ChangeShapes Go.Deep Go.Joins Go.WideShapes Go.Proofs.Tryz
variable {held:Bool} {K:IntKind} {p ps:List Int} {S cur es l:List Nat} {rs:List Rg} {B U a b c i k m n off t x:Nat} {D spare:Nat->Bool} {A:Option Addr} {P:Program} {e:TypeId} {w w2:World}
theorem rZ.below {F C AT OW:Nat} {Cv:Option Addr} {n3 c3:Nat} {a f qD:Int} (h:rZ w F C AT OW Cv n3 c3 a f qD ps) (hk:Below B w w2) (h1:F<B/\C<B/\AT<B/\OW<B) (h2:∀ b off,Cv=some ⟨b,off,none⟩->b<B):rZ w2 F C AT OW Cv n3 c3 a f qD ps:=by
 refine⟨by rw[hk.cell (p:=⟨F,0,none⟩) h1.1];exact h.KQ,by rw[hk.cell (p:=⟨C,2,none⟩) h1.2.1];exact h.KR,by rw[hk.cell (p:=⟨AT,0,none⟩) h1.2.2.1];exact h.KS,by rw[hk.cell (p:=⟨OW,0,none⟩) h1.2.2.2];exact h.xu,?_⟩;obtain⟨p1,p2,p3,p4,p5⟩:=h.ps;refine⟨p1,p2,p3,p4,λh0=> ?_⟩;obtain⟨b,off,e,hc⟩:=p5 h0;exact⟨b,off,e,λi hi=>by rw[hk.cell (p:=⟨b,off+i,none⟩) (h2 b off e)];exact hc i hi⟩
def k7 (D:Nat->Bool) (l:List Nat):List Nat:=l.filter λx=> !D x
theorem below_setCells {B g:Nat} {w:World} (hg:B<=g):∀ (vs:List Value) (qD:Nat) (w':World),Below B w w'->Below B w (w'.setCells g qD vs)
 |[],_,_,h=>h
 |v::r,qD,w',h=>below_setCells hg r (qD+1) _ (h.setCell hg v)
theorem ad.qb6 {w1:World} (h:ad w w1) (k:Below B w1 w2) (hB:w.heap.size<=B):ad w w2:=Below.trans h (Below.mono k hB)
structure DS (D:Nat->Bool) (l:List Nat) (U i:Nat) (cur:List Nat):Prop where
 len:cur.length=l.length
 lt:i<U
 le:U<=l.length
 done:cur.take i=k7 D (l.take U)
 rest:∀ t,U<=t->cur[t]? =l[t]?
theorem DS.start (hx:l[i]? =some x) (hd:D x=true) (hn:∀ U y:Nat,U<i->l[U]? =some y->D y=false):DS D l (i+1) i l:=by
 have an:=(bg hx);refine⟨rfl,ab,an,?_,λ_ _=>rfl⟩;rw[QI an,(pi.1 hx).2];unfold k7;rw[List.filter_append];simp only[List.filter_cons,hd,Bool.not_true,Bool.false_eq_true,if_false,List.filter_nil,List.append_nil];refine(List.filter_eq_self.2 λy hy=> ?_).symm;obtain⟨U,hj⟩:=List.getElem?_of_mem hy
 have fD:U<i:=by
  have:=(bg hj);rw[qcd]at this;omega
 rw[qlY fD]at hj;rw[hn U y fD hj];rfl
theorem DS.skip (h:DS D l U i cur) (hx:l[U]? =some x) (hd:D x=true):DS D l (U+1) i cur:=by
 have an:=(bg hx);refine⟨h.len,by have:=h.lt;omega,an,?_,λt ht=>h.rest t ab⟩;rw[QI an,(pi.1 hx).2,h.done];unfold k7;simp[hd]
theorem DS.put (h:DS D l U i cur) (hx:l[U]? =some x) (hd:D x=false):DS D l (U+1) (i+1) (cur.set i x):=by
 have an:=(bg hx);have hl:=h.len;have h1:=h.lt;refine⟨by simp[hl],ab,an,?_,λt ht=>by rw[List.getElem?_set_ne ab];exact h.rest t ab⟩;have hi:i<(cur.set i x).length:=by simp;omega
 rw[QI hi,QI an,(pi.1 hx).2];simp only[List.getElem_set_self];rw[List.take_set_of_le (CP i),h.done];unfold k7;simp[hd]
theorem qb7 (l:List Nat) (i x:Nat):cS (l.set i x)=(cS l).set i (.int .i64 (x:Nat)):=by simp[cS,List.map_set]
def tk (w:World) (A:Option Addr):Prop:=∀ p,A=some p->∃ b off cur,p=⟨b,off,none⟩/\w.heap[b]? =some (.cells cur 3 (0,0))
theorem tk.kept (h:tk w A) (k:ad w w2):tk w2 A:=λp hp=>by
 obtain⟨b,off,cur,e,hb⟩:=h p hp;exact⟨b,off,cur,e,k.heap hb⟩
theorem tk.own {base:Nat} {xs:List Value} (h:w.ownsRow base 3 k (.slice A m c) n xs):tk w A:=λp hp=>by
 subst hp;rcases h.2 with ⟨e,_⟩|⟨g',cap,cur,e,_,hh,_⟩
 ·cases e
 ·cases e;exact⟨g',0,cur,rfl,hh⟩
theorem R1 {g:Nat} {e:TypeId}:∀ (vs:List Value) (qD:Nat) (w:World) (cur:Array Value),w.heap[g]? =some (.cells cur e (0,0))->∃ eX:Array Value,(w.setCells g qD vs).heap[g]? =some (.cells eX e (0,0))
 |[],_,_,cur,h=>⟨cur,h⟩
 |v::r,qD,w,cur,h=>R1 r (qD+1) (w.setCell ⟨g,qD,none⟩ v) (cur.setIfInBounds qD v) (Ok w g qD cur e v h)
theorem qb8 (F C AT OW:Nat) (Cv:Option Addr) (n3 c3:Nat) (a f qD:Int) (ps:List Int) (base:Nat) (v:Value) (m:Nat) (l:List Nat) (w:World) (hc:rZ w F C AT OW Cv n3 c3 a f qD ps) (h1:F<base/\C<base/\AT<base/\OW<base) (h2:∀ b off,Cv=some ⟨b,off,none⟩->b<base) (hb:base<=w.heap.size) (ho:w.ownsRow base 3 1 v m (cS l)):
  Calls prog 137 #[v,.func (.func 135) #[] #[.pointer (some ⟨F,0,none⟩),.pointer (some ⟨C,0,none⟩),.pointer (some ⟨AT,0,none⟩),.pointer (some ⟨OW,0,none⟩)]] w λe w'=>∃ A2 c2,e= .returned (.slice A2 (k7 (nh ps n3 a f qD) l).length c2)/\bo w' A2 (k7 (nh ps n3 a f qD) l).length c2 (ints (k7 (nh ps n3 a f qD) l))/\Below base w w'/\(∀ b off,A2=some ⟨b,off,none⟩->base<=b)/\tk w' A2:=by
 obtain⟨A,c,rfl,cT⟩:=bo.bp ho;have Cd:l.length=m:=by have:=ho.1;rw[qz]at this;omega
 have Uue:ag (∀ b off,A=some ⟨b,off,none⟩->base<=b):=λb off e=>(ho.lt b (by rw[e];rfl)).1;have HL:=aa Cd;have HC:=aa hc;have HO:=aa ho;have iA:=aa cT;have H2:=aa h2;have hmc:m<=c/\c<=9223372036854775807:=by have h1:=cT.2.1;have h2:=cT.2.2.1;unfold maxLen at h2;omega
 generalize ja:nh ps n3 a f qD=D at*;have HD:=aa ja;clear hc ho cT h2 Cd ja;go_in;go_wp2_with fail
 refine(qb5 F C AT OW Cv n3 c3 a f qD ps A m c l _ (HC.o.keep al) (iA.o.keep al)).mono ?_;rintro e w1 ⟨r,rfl,hr,k1⟩;rw[HD.o]at hr;have K1:ad w w1:=ad.call al k1;rcases hr with ⟨rfl,hr⟩|⟨i0,x0,rfl,iu,kq,hr⟩
 ·have b8:ag (k7 D l=l):=by
   unfold ag k7;refine List.filter_eq_self.2 λx hx=> ?_;obtain⟨i,hi⟩:=List.getElem?_of_mem hx;rw[hr i x hi];try rfl
  clear hr;go_wp2;go_ret;exact⟨A,c,by rw[b8.o,HL.o];rfl,by rw[b8.o,HL.o];exact iA.o.keep K1,Below.mono K1 hb,Uue.o,(tk.own HO.o).kept K1⟩
 ·have Cc:i0<m:=by have:=(bg iu);have:=HL.o;omega
  obtain⟨g,lQ,fJ,o7,dm⟩:=uK HO.o ab
  cases fJ
  have uR:((i0:Int)== -1)=false:=by first|(simp;done)|(simp;omega)
  go_wp2;have dM:ag (DS D l (i0+1) i0 l):=DS.start iu kq hr;clear hr iu kq;go_loopw [5,6] (λiv jv wr=>∃ (U i:Nat) (cur:List Nat),U<=m/\i<U/\iv= .int .i64 i/\jv= .int .i64 U/\ag (DS D l U i cur)/\ag (wr.ownsRow base 3 1 (.slice (some ⟨g,0,none⟩) m c) m (cS cur))/\Below base w wr/\g<wr.heap.size/\base<=wr.heap.size) (λ_ jv _=>m-(intOf jv).toNat)
  case atStart=>exact⟨i0+1,i0,l,ab,ab,rfl,aA,dM,ad.own HO.o K1,Below.mono K1 hb,by have:=K1.size;omega,by have:=K1.size;omega⟩
  case round=>
   obtain⟨U,i,cur,hj,fV,rfl,rfl,dM,ho,kb,hZ,dZ⟩:=hrel;by_cases an:U<m
   ·obtain⟨x,hx⟩:=exQ l U (by rw[HL.o];exact an);have zU:cur[U]? =some x:=by rw[dM.o.rest U (CP _)];exact hx
    have bl:cur.length=m:=by rw[dM.o.len,HL.o]
    have c1:wr.cell? ⟨g,U,none⟩=some (.int .i64 (x:Nat)):=by
     rw[ho.o.cellAt U ab];simp[cS,zU]
    obtain⟨u,hu⟩:∃ u,wr.cell? ⟨g,i,none⟩=some u:=⟨_,(ho.o.cellAt i ab).trans (vF (by rw[qz];omega))⟩;have hf:=ho.o.frozenAt i;have CM:=aa hx;have wQ:=aa (HC.o.below kb h1 H2.o);clear hx zU bl;go_wp2_with fail
    refine(RZ F C AT OW Cv n3 c3 a f qD ps x wr wQ.o).mono ?_;rintro e w2 ⟨rfl,k2⟩;rw[HD.o];have mP:Below base w w2:=kb.trans (Below.mono k2 dZ);have hu:=k2.af hu;have c1:=k2.af c1;have eG:w2.frozen? ⟨g,i,none⟩=false:=by rw[k2.frozen g i hZ];exact hf
    have dA:=aa (ad.own ho.o k2);have aW:=k2.size
    cases hv:D x
    ·have tl:=aa (dM.o.put CM.o hv)
     have rW:ag ((w2.setCell ⟨g,i,none⟩ (.int .i64 (x:Nat))).ownsRow base 3 1 (.slice (some ⟨g,0,none⟩) m c) m (cS (cur.set i x))):=by
      rw[qb7];exact(dA.o.stored i (.int .i64 (x:Nat))).1
     clear hv;go_wp2;go_roundw
     case rel=>exact⟨U+1,i+1,cur.set i x,ab,ab,aA,aA,tl,rW,mP.setCell (by simp;omega) _,by simp[World.setCell];omega,by simp[World.setCell];omega⟩
     case measure=>exact dY
    ·have tl:=aa (dM.o.skip CM.o hv);clear hv;go_wp2;go_roundw
     case rel=>exact⟨U+1,i,cur,ab,ab,rfl,aA,tl,dA,mP,ab,ab⟩
     case measure=>exact dY
   ·obtain rfl:U=m:=ab;have bl:cur.length=U:=by rw[dM.o.len,HL.o]
    have bL:∀ (w':World),w'=wr->∀ ty,(Builtin.clear_ #[22] ty #[.slice (some ⟨g,i,none⟩) (U-i) (c-i)]).run prog w'= .ok (.tuple #[]) (w'.setCells g i (List.replicate (U-i) (.int .i64 0))):=λw' xj ty=>by
     subst xj;refine Lib.run_clear_slice w' 22 3 ty (.int .i64 0) underlying22 (λw=>av) rfl rfl g i (U-i) (c-i) ab (λt ht=> ?_) (λt ht=>ho.o.frozenAt (i+t));rw[ho.o.cellAt (i+t) ab,vF (by rw[qz];omega)];rfl
    have zp:=bL wr rfl;clear bL;go_wp2
    have iQ:(k7 D l).length=i:=by
     have h:=congrArg List.length dM.o.done;rw[qcd,qcc (by rw[HL.o];exact CP _)]at h;omega
    have Gd:cur.take i=k7 D l:=by rw[dM.o.done,qcc (by rw[HL.o];exact CP _)]
    go_ret;refine⟨some ⟨g,0,none⟩,c,by rw[iQ];rfl,?_,below_setCells o7 _ _ _ kb,λb off e=>by cases e;exact o7,λp hp=> ?_⟩;rotate_left
    ·rcases ho.o.2 with ⟨e,_⟩|⟨g',cap,qb9,e,_,hh,_⟩
     ·cases e
     ·cases e
      obtain⟨jb,h2⟩:=R1 (List.replicate (U-i) (.int .i64 0)) i wr qb9 hh;exact⟨g,0,jb,by cases hp;rfl,h2⟩
    rw[iQ];refine⟨by simp[ints,iQ],ab,by have:=iA.o.2.2.1;exact this,(λh=>by cases h),λ_=>⟨g,0,rfl,λt ht=> ?_⟩⟩;rw[Nat.zero_add,World.cell?_setCells_out g _ i _ _ (λ_ _=> .inl ht),ho.o.cellAt t ab];have CN:cur[t]? =some (cur[t]'(by omega)):=vF ab;have hkt:(k7 D l)[t]? =some (cur[t]'(by omega)):=by rw[<- Gd,qlY ht];exact CN
    simp[cS,ints,CN,hkt]
def KT (l:List Nat) (w:World) (e:Ending) (w':World):Prop:=∃ A c,e= .returned (.slice A l.length c)/\bo w' A l.length c (ints l)/\(∀ b off,A=some ⟨b,off,none⟩->w.heap.size<=b)/\ad w w'
theorem KT.is {w':World} {e:Ending} (h:KT l w e w'):xk l w e w':=by
 obtain⟨A,c,h1,h2,_,h4⟩:=h;exact⟨A,c,h1,h2,h4⟩
theorem qb' (A B C:Option Addr) (n1 c1 n2 c2 n3 c3:Nat) (es:List Nat) (os ps:List Int) (a f:Int) (k:ByteArray) (w:World) (hr:fY w A n1 c1 B n2 c2 C n3 c3 (bw es) os ps) (hf:eA es os ps n3):
  Calls prog 83 #[.agg #[.slice A n1 c1,.slice B n2 c2,.slice C n3 c3],.int .i64 a,.int .i64 f,.string k] w (λe w'=>KT (k7 (nh ps n3 a f (oa os (bV es (hv k)))) (fe ps a)) w e w'/\∀ A2 n c,e= .returned (.slice A2 n c)->tk w' A2):=by
 have iS:∀ fn first cap w,(Instr.makeFunc fn first cap).run prog w= .ok (.func fn first cap) w:=λ_ _ _ _=>rfl
 have HR:=aa hr;have HF:=aa hf
 have CO:ag (∀ b off,C=some ⟨b,off,none⟩->b<w.heap.size):=λb off e=>by
  have h1:=hf.fit.one;obtain⟨b2,gA,e2,hc⟩:=hr.ps.2.2.2.2 ab;rw[e]at e2
  cases e2
  exact Aa w _ (hc 0 ab)
 obtain⟨qD,ho⟩:=eqQ (oa os (bV es (hv k)));have HOO:=aa ho;rw[ho];clear hr hf ho;go_in;go_wp2_with fail
 refine(zT A B C n1 c1 n2 c2 n3 c3 es os ps _ (HR.o.keep al) HF.o).mono ?_;rintro e w1 ⟨rfl,k1⟩;have K1:ad w w1:=ad.call al k1;have x0:w1.cell? ⟨w.heap.size,0,none⟩=some (.slice A n1 c1):=k1.af (by go_simp);have x1:w1.cell? ⟨w.heap.size,1,none⟩=some (.slice B n2 c2):=k1.af (by go_simp);have x2:w1.cell? ⟨w.heap.size,2,none⟩=some (.slice C n3 c3):=k1.af (by go_simp);have xa:w1.cell? ⟨w.heap.size+1,0,none⟩=some (.int .i64 a):=k1.af (by go_simp);have Gs:w1.cell? ⟨w.heap.size+1+1,0,none⟩=some (.int .i64 f):=k1.af (by go_simp);go_wp2_with fail
 refine(JV A B C n1 c1 n2 c2 n3 c3 es os ps k _ (HR.o.keep K1) HF.o.fit).mono ?_;rintro e w2 ⟨rfl,k2⟩;rw[HOO.o];have K2:=K1.call k2;have x2:=k2.af x2;have xa:=k2.af xa;have Gs:=k2.af Gs;have an:w.heap.size+1+1<w2.heap.size:=Aa w2 _ Gs;have ng:w.heap.size<w2.heap.size:=ab;have Cq:w.heap.size+1<w2.heap.size:=ab;go_wp2_with fail
 refine(qb1 C n3 c3 ps a _ (HR.o.ps.keep al)).mono ?_;rintro e w3 ⟨v,rfl,cE,k3⟩;have K3:ad w w3:=ad.call al k3;have R2:w3.cell? ⟨w2.heap.size,0,none⟩=some (.int .i64 qD):=k3.af (by go_simp);have KU:ad w2 w3:=ad.call al k3;have HV:=aa cE;have mS:=k3.size;simp only[World.size_alloc]at mS;have qca:ag (rZ w3 (w.heap.size+1+1) w.heap.size (w.heap.size+1) w2.heap.size C n3 c3 a f qD ps):=⟨KU.af Gs,KU.af x2,KU.af xa,R2,HR.o.ps.keep K3⟩;obtain⟨A9,lQ,rfl⟩:=JT cE;clear cE;go_wp2_with fail
 refine(qb8 (w.heap.size+1+1) w.heap.size (w.heap.size+1) w2.heap.size C n3 c3 a f qD ps (w2.heap.size+1) _ _ (fe ps a) _ qca.o ⟨ab,ab,ab,ab⟩ (λb off e=>by have:=CO.o b off e;omega) ab (by have:=HV.o;simp only[World.size_alloc]at this;exact this)).mono ?_;rintro e w4 ⟨A2,c4,rfl,cT,kb,cG,R3⟩;have HTY:=aa R3;have iA:=aa cT;have Uue:ag (∀ b off,A2=some ⟨b,off,none⟩->w.heap.size<=b):=λb off e=>by have:=cG b off e;omega
 clear cG R3;have K4:ad w w4:=K3.qb6 kb ab;clear cT;go_wp2;go_ret;exact⟨⟨A2,c4,rfl,iA.o,Uue.o,K4⟩,λA3 n3 c3 e=>by cases e;exact HTY.o⟩
noncomputable def nxt (ps:List Int) (n:Nat) (qD:Int) (c a:Int):List Nat:=k7 (nh ps n a c qD) (fe ps a)
abbrev Pr:=Int×Int
def qs (N:Int->Int->List Nat) (f:Int):Nat->List Pr
 |0=>[(-1,f)]
 |i+1=>qs N f i++match (qs N f i)[i]? with
  |none=>[]
  |some x=>(N x.1 x.2).map λs=>(x.2,((s:Nat):Int))
def Small (N:Int->Int->List Nat) (f:Int):Prop:=∀ i,(qs N f i).length<=7
theorem qce (hp:cH p) (ha:a<p.length) (hb:b<p.length):∃ t,wk p a b=a::t:=by
 obtain⟨_,h2,_⟩:=Kq hp ha hb
 cases h:wk p a b with
 |nil=>rw[h]at h2;cases h2
 |cons u t=>
  rw[h]at h2;obtain rfl:u=a:=by simpa using h2
  exact⟨t,rfl⟩
theorem qlc:b∈fc p a n↔b<n/\Nr p a b:=by
 simp[fc,ky,Nr]
theorem qcj:∀ x:Fin 64,∀ y:Fin 64,(bits .and .i64 ((x:Nat):Int) ((y:Nat):Int)==0)= !((List.range 6).any λk=>(decide ((x:Nat)/2 ^ k%2=1)&&decide ((y:Nat)/2 ^ k%2=1))):=qck av
theorem side_bit (p:List Int) (a b:Int):∀ (n k:Nat),c9 p a b n/2 ^ k%2=1↔k<n/\Uuc p a b k=true
 |0,k=>by simp[c9]
 |n+1,k=>by
  have an:=Gl p a b n;have ih:=side_bit p a b n k;unfold c9
  cases hf:Uuc p a b n with
  |false=>
   simp only[Bool.false_eq_true,if_false,Nat.add_zero];rw[ih];refine⟨λh=>⟨ab,h.2⟩,λh=>⟨?_,h.2⟩⟩;rcases R6 k n with g|g
   ·exact g
   ·have:k=n:=ab;subst this;rw[hf]at h
    cases h.2
  |true=>
   simp only[if_true];rcases Nat.lt_trichotomy k n with g|g|g
   ·obtain⟨d,rfl⟩:∃ d,n=k+1+d:=⟨n-k-1,ab⟩;rw[show c9 p a b (k+1+d)+2 ^ (k+1+d)=c9 p a b (k+1+d)+2 ^ k*(2*2 ^ d)by rw[Nat.pow_add,Nat.pow_succ,Nat.mul_assoc],Nat.add_mul_div_left _ _ (Nat.pow_pos ab),Nat.add_mul_mod_self_left,ih];exact⟨λh=>⟨ab,h.2⟩,λh=>⟨ab,h.2⟩⟩
   ·subst g
    have e:(c9 p a b k+2 ^ k)/2 ^ k=1:=by
     rw[Nat.add_div_right _ (Nat.pow_pos ab),Nat.div_eq_of_lt an]
    rw[e];simp[hf]
   ·have hp:2 ^ (n+1)<=2 ^ k:=Nat.pow_le_pow_right ab g;have e:(c9 p a b n+2 ^ n)/2 ^ k=0:=Nat.div_eq_of_lt (by rw[Nat.pow_succ]at hp;omega);rw[e];exact⟨λh=>ab,λh=>ab⟩
def qkO (ps:List Int) (qD:Int) (a:Int) (s:Nat):Prop:=∃ k:Nat,k<ps.length/\cq qD k=true/\Uuc ps a s k=true
theorem R8 {qD:Int} (h0:0<=qD) (k:Nat) (hk:k<6):cq qD k=decide (qD.toNat/2 ^ k%2=1):=by
 obtain⟨m,rfl⟩:=Int.eq_ofNat_of_zero_le h0;unfold cq;rw[Int.toNat_natCast,Int.toNat_natCast]
 have e:((m:Int)/2 ^ k%2=1)↔(m/2 ^ k%2=1):=by
  rw[show((2:Int) ^ k)=((2 ^ k:Nat):Int)by simp,<- Int.natCast_ediv];omega
 have h1:decide ((0:Int)<=(k:Nat))=true:=ao;have h2:decide (((k:Nat):Int)<6)=true:=by simp;omega
 rw[h1,h2];simp[e]
theorem meet_iff (hp:cH ps) {qD:Int} (h0:0<=qD) (h1:qD<64) (a:Int) (s:Nat):(bits .and .i64 (c9 ps a s ps.length:Nat) qD==0)=false↔qkO ps qD a s:=by
 have h6:ps.length<=6:=hp.choose_spec.cV;have hs:=Gl ps a s ps.length;have qjC:c9 ps a s ps.length<64:=R4 hs (tb h6);obtain⟨m,rfl⟩:=Int.eq_ofNat_of_zero_le h0;have e:=qcj ⟨c9 ps a s ps.length,qjC⟩ ⟨m,ab⟩;simp only at e;rw[e,Bool.not_eq_false',List.any_eq_true];constructor
 ·rintro⟨k,hk,hb⟩;have xy:=List.mem_range.1 hk;rw[Bool.and_eq_true,decide_eq_true_eq,decide_eq_true_eq]at hb;obtain⟨g1,g2⟩:=(side_bit ps a s _ k).1 hb.1;refine⟨k,g1,?_,g2⟩;rw[R8 ab k xy];simpa using hb.2
 ·rintro⟨k,g1,g2,g3⟩;refine⟨k,List.mem_range.2 ab,?_⟩;rw[R8 ab k ab]at g2;rw[Bool.and_eq_true,decide_eq_true_eq];exact⟨(side_bit ps a s _ k).2 ⟨g1,g3⟩,by simpa using g2⟩
theorem nxt_mem (hp:cH ps) {qD:Int} (h0:0<=qD) (h1:qD<64) (c a:Int) (s:Nat):s∈nxt ps ps.length qD c a↔∃ x:Nat,a=x/\x<ps.length/\s<ps.length/\Nr ps x s/\(s:Int)≠c/\qkO ps qD a s:=by
 unfold nxt k7;rw[List.mem_filter];unfold nh;rw[Bool.not_eq_true',Bool.or_eq_false_iff,meet_iff hp h0 h1];unfold fe;constructor
 ·rintro⟨g1,g2,g3⟩;split at g1
  ·rename_i g
   obtain⟨n1,n2⟩:=qlc.1 g1;exact⟨a.toNat,ab,ab,n1,n2,by simpa using g2,g3⟩
  ·cases g1
 ·rintro⟨x,rfl,g1,g2,g3,g4,g5⟩;rw[if_pos ⟨hp,ab,ab⟩];exact⟨qlc.2 ⟨g2,by simpa using g3⟩,by simpa using g4,g5⟩
theorem wk_drop (hp:cH ps) {f:Nat} (hf:f<ps.length) (hk:k<ps.length) (hx:(wk ps f k)[i]? =some x):wk ps x k=(wk ps f k).drop i:=by
 obtain⟨h1,_,h3⟩:=Kq hp hf hk;have an:=(bg hx);refine F9 hp (h1.sub ((wk ps f k).take i) [] ao) ⟨?_,?_⟩
 ·rw[List.head?_drop];exact hx
 ·rw[List.getLast?_drop,if_neg ab];exact h3
def p3:List Int:=[-1,0,1]
theorem t3:cH p3:=Rq ak ak ak ak ak
theorem n3 (a:Nat) (ha:a<3):fe p3 a=fc p3 a 3:=by
 unfold fe;rw[if_pos ⟨t3,ab,by simp[p3];omega⟩,Int.toNat_natCast];rfl
theorem qcm (c:Nat) (w:World) (h2:c<128):
  Calls prog 197 #[.int .u8 (c:Nat)] w λe w'=>e= .returned (.int .i64 1)/\ad w w':=by
 have d:decide (((c:Nat):Int)<128)=true:=by simp;omega
 go_wp2;go_ret;exact⟨rfl,al⟩
theorem qcn (c:Nat) (w:World) (h1:33<=c) (h2:c<128):
  Calls prog 125 #[.string (ch c)] w λe w'=>e= .returned (.int .i64 1)/\ad w w':=by
 obtain⟨s,hs⟩:=eqR (ch c);have bu:s.size=1:=by rw[hs];rfl
 rw[<- hs];have HS:=aa bu
 have KY:∀ w,(Instr.index 9 (.string s) (.int .i64 0)).run prog w= .ok (.int .u8 (c:Int)) w:=λw=>by
  rw[run_index_string w 9 s .i64 0 underlying9,dif_pos ⟨ab,ab⟩];congr 3
  subst hs;show((UInt8.ofNat c).toNat)=c
  simp;omega
 clear hs;have d1:((c:Int)==224)=false:=by simp;omega
 have d2:((c:Int)==237)=false:=by simp;omega
 have d3:((c:Int)==240)=false:=by simp;omega
 have d4:((c:Int)==244)=false:=by simp;omega
 go_wp2;go_loopw [3,4] (λnv pv wr=>∃ pos:Nat,pos<=1/\nv= .int .i64 pos/\pv= .int .i64 pos/\ad w wr) (λnv _ _=>1-(intOf nv).toNat)
 case atStart=>exact⟨0,ab,rfl,rfl,ad.refl w⟩
 case round=>
  obtain⟨pos,hp,rfl,rfl,kr⟩:=hrel;by_cases h0:pos=0
  ·subst h0;have lR:∀ w,(Instr.index 9 (.string s) (.int .i64 ((0:Nat):Int))).run prog w= .ok (.int .u8 (c:Int)) w:=λw=>KY w;go_wp2_with fail
   refine(qcm c _ h2).mono ?_;rintro e w1 ⟨rfl,k1⟩;go_wp2;go_loopw [6] (λiv Kt=>iv= .int .i64 1/\ad w1 Kt) (λ_ _=>0)
   case atStart=>exact⟨rfl,ad.refl _⟩
   case round=>
    obtain⟨rfl,Gb⟩:=hrel;go_wp2;go_roundw
    case rel=>exact⟨1,ab,aA,aA,(kr.call k1).call Gb⟩
    case measure=>first|(simp[intOf];done)|(simp[intOf];omega)
  ·obtain rfl:pos=1:=ab;go_wp2;go_ret;exact⟨rfl,kr⟩
theorem qco (c:Nat) (w:World) (h1:33<=c) (h2:c<128):
  Calls prog 67 #[.string (ch c)] w λe w'=>e= .returned (.bool true)/\ad w w':=by
 have HR:=aa (λw=>qcn c w h1 h2);obtain⟨s,hs⟩:=eqR (ch c);have bu:s.size=1:=by rw[hs];rfl
 rw[<- hs]at HR⊢;have HS:=aa bu
 have KY:∀ w,(Instr.index 9 (.string s) (.int .i64 0)).run prog w= .ok (.int .u8 (c:Int)) w:=λw=>by
  rw[run_index_string w 9 s .i64 0 underlying9,dif_pos ⟨ab,ab⟩];congr 3
  subst hs;show((UInt8.ofNat c).toNat)=c
  simp;omega
 have lR:∀ w,(Instr.index 9 (.string s) (.int .i64 ((0:Nat):Int))).run prog w= .ok (.int .u8 (c:Int)) w:=λw=>KY w;clear hs;have d1:decide ((c:Int)<33)=false:=by simp;omega
 go_in;go_wp2_with fail
 refine(HR.o _).mono ?_;rintro e w1 ⟨rfl,k1⟩;go_wp2;go_loopw [4] (λpv wr=>∃ pos:Nat,pos<=1/\pv= .int .i64 pos/\ad w wr) (λpv _=>1-(intOf pv).toNat)
 case atStart=>exact⟨0,ab,rfl,k1⟩
 case round=>
  obtain⟨pos,hp,rfl,kr⟩:=hrel;by_cases h0:pos=0
  ·subst h0;go_wp2;go_roundw
   case rel=>exact⟨1,ab,aA,kr⟩
   case measure=>first|(simp[intOf];done)|(simp[intOf];omega)
  ·obtain rfl:pos=1:=ab;go_wp2;go_ret;exact⟨rfl,kr⟩
def pre (es:List Nat):List Rg:=(List.range es.length).map λi=>(fr es i,to es i)
theorem Sb (es:List Nat):(pre es).length=es.length:=by simp[pre]
theorem zY (es:List Nat) (e:Nat) (hi:i<es.length):g (es++[e]) i=g es i:=by unfold g;rw[qlZ hi]
theorem Gt (es:List Nat) (e:Nat):g (es++[e]) es.length=e:=by simp[g]
theorem Sc (es:List Nat) (e:Nat) (hi:i<=es.length):fr (es++[e]) i=fr es i:=by
 unfold fr;split
 ·rfl
 ·rw[zY es e ab]
theorem qcx (es:List Nat) (e:Nat):pre (es++[e])=pre es++[(fr es es.length,ch e)]:=by
 unfold pre;rw[zH,List.length_singleton,List.range_succ,List.map_append];congr 1
 ·refine List.map_congr_left λi hi=> ?_;have hi:=List.mem_range.1 hi;unfold to;rw[Sc es e ab,zH,if_pos hi,if_pos (by simp;omega),zY es e hi]
 ·unfold to;simp[Sc,Gt]
theorem qcy (es:List Nat):bw es=pre es++[(fr es es.length,nil)]:=by
 unfold bw pre;rw[List.range_succ,List.map_append];simp[JR]
theorem qcz (es:List Nat) (e:Nat):fr (es++[e]) (es++[e]).length=ch e:=by
 unfold fr;rw[if_neg ao,zH,List.length_singleton,Nat.add_sub_cancel,Gt]
theorem Up.snoc (h:Up es) {e:Nat} (h6:es.length<6) (h1:97<=e) (h2:e<=122) (hl:hv (fr es es.length)<e):Up (es++[e]):=by
 refine⟨by simp;omega,λi hi=> ?_,λi U fV hj=> ?_⟩
 ·rcases R6 i es.length with g1|g1
  ·rw[zY es e g1];exact h.gN i g1
  ·obtain rfl:i=es.length:=by simp at hi;omega
   rw[Gt];omega
 ·rcases R6 U es.length with g1|g1
  ·rw[zY es e g1,zY es e ab];exact h.up i U fV g1
  ·obtain rfl:U=es.length:=by simp at hj;omega
   rw[Gt,zY es e fV];have hr:=h.gN (es.length-1) ab;unfold fr at hl;rw[if_neg ab,kg ab]at hl;rcases R6 i (es.length-1)with g2|g2
   ·have:=h.up i (es.length-1) g2 ab;omega
   ·rw[show i=es.length-1 by omega];omega
theorem qcA (hu:Up es) (hc:c<128) (h:hv (fr es es.length)<c):Op.bytesLess (ch c).toList (fr es es.length).toList=false/\((ch c).toList==(fr es es.length).toList)=false:=by
 unfold fr at h⊢;split
 ·rw[JB,oR,nU];exact⟨rfl,rfl⟩
 ·rename_i h0
  rw[if_neg h0]at h;have hr:=hu.gN (es.length-1) ab;rw[kg ab]at h;rw[uB _ ab,kg ab,oR,oR];refine⟨by simp;omega,?_⟩;rw[Bool.eq_false_iff];intro e;have e2:UInt8.ofNat c=UInt8.ofNat (g es (es.length-1)):=by simpa using e
  have:=congrArg UInt8.toNat e2;simp at this;omega
theorem qcB (hu:Up es) (h1:97<=c) (hc:c<128) (h:(c:Int)<=hv (fr es es.length)):Op.bytesLess (ch c).toList (fr es es.length).toList=true∨(Op.bytesLess (ch c).toList (fr es es.length).toList=false/\((ch c).toList==(fr es es.length).toList)=true):=by
 unfold fr at h⊢;split
 ·rename_i h0
  rw[if_pos h0,Fm]at h;omega
 ·rename_i h0
  rw[if_neg h0]at h;have hr:=hu.gN (es.length-1) ab;rw[kg ab]at h;rw[uB _ ab,kg ab,oR,oR];by_cases e:c=g es (es.length-1)
  ·right
   rw[<- e];simp
  ·left
   simp;omega
theorem Gu:Up []:=⟨ao,λi hi=>by simp at hi,λi U _ hj=>by simp at hj⟩
theorem Sd (w:World) (r:Nat):
  (convert 105 9 (.slice (some ⟨w.heap.size,0,none⟩) 1 1)).run prog (w.alloc (.cells #[.int .u8 (97+(r:Int))] 5))= .ok (.string (ch (97+r))) (w.alloc (.cells #[.int .u8 (97+(r:Int))] 5)):=by
 have h:=run_convert_bytes_arg (w.alloc (.cells #[.int .u8 (97+(r:Int))] 5)) 105 5 underlying105 av w.heap.size 0 1 1 [97+(r:Int)] rfl (λi hi=>by
  obtain rfl:i=0:=ab;have hg:(w.alloc (.cells #[.int .u8 (97+(r:Int))] 5)).heap[w.heap.size]? =some (.cells #[.int .u8 (97+(r:Int))] 5):=yY _ _;rw[cell_of_row _ _ 0 _ _ (0,0) hg];rfl) 9 av
 have e:ch (97+r)=⟨#[UInt8.ofNat (97+(r:Int)).toNat]⟩:=by unfold ch;rw[show(97+(r:Int)).toNat=97+r by omega]
 rw[e];exact h
theorem bo.but {xs:List Int} (h:bo w (some ⟨b,off,none⟩) n c xs) (hb:ah S w w2) (hn:b∉S):bo w2 (some ⟨b,off,none⟩) n c xs:=by
 obtain⟨h1,h2,h3,h4,h5⟩:=h;refine⟨h1,h2,h3,h4,λh0=> ?_⟩;obtain⟨b2,gA,e,hc⟩:=h5 h0
 cases e
 exact⟨_,_,rfl,λi hi=>hb.af (hc i hi) hn⟩
theorem dL.but (h:dL w (some ⟨b,off,none⟩) n c rs) (hb:ah S w w2) (hn:b∉S):dL w2 (some ⟨b,off,none⟩) n c rs:=by
 obtain⟨h1,h2,h3,h4,h5⟩:=h;refine⟨h1,h2,h3,h4,λh0=> ?_⟩;obtain⟨b2,gA,e,hc⟩:=h5 h0
 cases e
 exact⟨_,_,rfl,λi hi=>⟨hb.af (hc i hi).1 hn,hb.af (hc i hi).2 hn⟩⟩
structure Made (p:List Int) (n t:Nat) (f:Nat->Nat):Prop where
 len:p.length=n
 one:1<=n
 cV:n<=6
 qcC:∀ i,0<i->i<n->f i<i
 af:∀ i,i<n->pa p ((i+t)%n)=if i=0 then -1 else(((f i+t)%n:Nat):Int)
theorem Se (hi:i<n) (hj:U<n) (h:(i+t)%n=(U+t)%n):i=U:=by
 have h1:(i+t)%n=((i+t%n)%n):=by rw[Nat.add_mod,Nat.mod_eq_of_lt hi]
 have h2:(U+t)%n=((U+t%n)%n):=by rw[Nat.add_mod,Nat.mod_eq_of_lt hj]
 have ht:t%n<n:=Nat.mod_lt _ ab;rw[h1,h2]at h;generalize t%n=s at*
 have e1:(i+s)%n=if i+s<n then i+s else i+s-n:=by
  split
  ·exact Nat.mod_eq_of_lt bk
  ·rw[Nat.mod_eq_sub_mod ab,Nat.mod_eq_of_lt ab]
 have e2:(U+s)%n=if U+s<n then U+s else U+s-n:=by
  split
  ·exact Nat.mod_eq_of_lt bk
  ·rw[Nat.mod_eq_sub_mod ab,Nat.mod_eq_of_lt ab]
 rw[e1,e2]at h;split at h <;>split at h <;>omega
theorem qcD {y:Nat} (hy:y<n):∃ i,i<n/\(i+t)%n=y:=by
 have ht:t%n<n:=Nat.mod_lt _ ab;have key:∀ i,(i+t)%n=(i+t%n)%n:=λi=>ao;rcases R6 y (t%n)with g|g
 ·refine⟨y+n-t%n,ab,?_⟩;rw[key,show y+n-t%n+t%n=y+n by omega,Nat.add_mod_right,Nat.mod_eq_of_lt hy]
 ·refine⟨y-t%n,ab,?_⟩;rw[key,show y-t%n+t%n=y by omega,Nat.mod_eq_of_lt hy]
theorem Made.tree {f:Nat->Nat} (h:Made p n t f):cH p:=by
 have h1:=h.one
 have ex:∀ y,∃ i,y<n->i<n/\(i+t)%n=y:=λy=>by
  by_cases hy:y<n
  ·obtain⟨i,hi⟩:=qcD (t:=t) hy;exact⟨i,λ_=>hi⟩
  ·exact⟨0,λh=>absurd h hy⟩
 let R:Nat->Nat:=λy=>(ex y).choose
 have hR:∀ y,y<n->R y<n/\(R y+t)%n=y:=λy hy=>(ex y).choose_spec hy
 have zZ:∀ y,y<n->pa p y=if R y=0 then -1 else(((f (R y)+t)%n:Nat):Int):=λy hy=>by
  have:=h.af (R y) (hR y hy).1;rwa [(hR y hy).2]at this
 have K9:∀ x,x%n<n:=λx=>Nat.mod_lt _ ab;refine⟨R,by rw[h.len];exact h.one,by rw[h.len];exact h.cV,λx hx=> ?_,⟨t%n,by rw[h.len];exact K9 _,λx hx=> ?_⟩,λx hx y hy=> ?_,λx hx=> ?_⟩
 ·rw[h.len]at hx⊢;have:=K9 (f (R x)+t);rw[zZ x hx];split <;>omega
 ·rw[h.len]at hx;rw[zZ x hx];constructor
  ·intro e;split at e
   ·rename_i e0
    have:=(hR x hx).2;rw[e0,Nat.zero_add]at this;exact this.symm
   ·omega
  ·intro e;have:=(hR x hx).2;have e0:R x=0:=Se (t:=t) (hR x hx).1 ab (by rw[this,e,Nat.zero_add]);rw[if_pos e0]
 ·rw[h.len]at hx;rw[zZ x hx]at hy;split at hy
  ·omega
  ·rename_i e0
   have hf:=h.qcC (R x) ab (hR x hx).1;have kW:y<n:=by have:=K9 (f (R x)+t);omega
   have:=(hR y kW).2;have e:R y=f (R x):=Se (t:=t) (hR y kW).1 (by have:=(hR x hx).1;omega) (by rw[this];omega);omega
 ·rw[h.len]at hx;have:=(hR x hx).1;have:=h.cV;omega
def la (w:World) (A:Option Addr) (n c k:Nat) (V:Nat->List Value):Prop:=
 n<=c/\c<=maxLen/\(A=none->n=0/\c=0)/\(0<n->∃ b off,A=some ⟨b,off,none⟩/\b<w.heap.size/\∀ i,i<n->∀ U u,(V i)[U]? =some u->w.cell? ⟨b,off+i*k+U,none⟩=some u)
theorem la.kept {V:Nat->List Value} (h:la w A n c k V) (hk:ad w w2):la w2 A n c k V:=
 ⟨h.1,h.2.1,h.2.2.1,λh0=>by obtain⟨b,off,h1,h2,h3⟩:=h.2.2.2 h0;exact⟨b,off,h1,R4 h2 hk.size,λi hi U u hu=>hk.af (h3 i hi U u hu)⟩⟩
theorem Sf {H:Type} {enc:TypeId×Value->H} {a:Option Addr} {d:DataW H} {p:List MemPlace} {t:TypeId} {α:Type}
  (ht:P.underlying t=some (.slice e)) (hc:P.cellsOf e=k) (hk:0<k) (mk:α->List Value) (q:α->Prop) (x0:α)
  (leaf:∀ m cs y,cs.length=k->DataW.trod enc P w 0 spare held m e cs=some y->∃ x,cs=mk x/\q x)
  (h:DataW.Trod enc P w 0 spare held t (.slice a n c) d p):∃ x:Nat->α,la w a n c k (λi=>mk (x i))/\∀ i,i<n->q (x i):=by
 obtain⟨et,hf⟩:=h;rcases open_slice ht hf with ⟨fa,_⟩|⟨gQ,l,ni,m,f,D,qcE,fa,_,hl,hm,z',_,hi⟩
 ·simp[Value.cells]at fa;obtain⟨rfl,rfl,rfl⟩:=fa;exact⟨λ_=>x0,⟨CP _,ak,λ_=>⟨rfl,rfl⟩,λh=>absurd h ab⟩,λi hi=>absurd hi ab⟩
 ·simp[Value.cells]at fa;obtain⟨rfl,rfl,rfl⟩:=fa;have tg:n<=m:=by rw[z'];split <;>omega
  have each:∀ i,i<n->∃ x:α,q x/\∀ U u,(mk x)[U]? =some u->w.cell? ((gQ.add (i*k)).add U)=some u:=by
   intro i c7;obtain⟨cs',h1,h2⟩:=hi i ab;rw[hc]at h1;obtain⟨_,hlen,du⟩:=World.cells?_some h1;obtain⟨x,hx,hq⟩:=leaf _ _ _ hlen h2;refine⟨x,hq,λU u hu=> ?_⟩;rw[<- hx]at hu;have hj:U<cs'.length:=(bg hu);rw[du U ab,hu]
  have:Nonempty α:=⟨x0⟩;have:=Classical.inhabited_of_nonempty this;obtain⟨x,hx⟩:=choose_lt each;refine⟨x,⟨hl,hm,(λh=>by cases h),λh0=> ?_⟩,λi c7=>(hx i c7).1⟩;obtain⟨b,off,spot⟩:=gQ;obtain⟨_,ko⟩:=hx 0 h0;obtain⟨fx,g1,g2⟩:=hi 0 ab;rw[hc]at g1;obtain⟨_,hlen,du⟩:=World.cells?_some g1;have K':=du 0 hk;rw[vF ab]at K';have qcF:spot=none:=by simpa [Addr.add]using World.cell?_spot K'
  subst qcF;have xm:∀ qD U,((⟨b,qD,none⟩:Addr).add U)=⟨b,qD+U,none⟩:=λqD U=>by simp[Addr.add]
  refine⟨b,off,rfl,?_,λi c7 U u hu=> ?_⟩
  ·have:=Aa w _ K';simpa [xm]using this
  ·have:=(hx i c7).2 U u hu;rw[xm,xm]at this;exact this
theorem qcG {H:Type} {enc:TypeId×Value->H} {a:Option Addr} {d:DataW H} {p:List MemPlace} {t:TypeId} 
  (ht:P.underlying t=some (.slice e)) (he:P.underlying e=some (.int K)) (hc:P.cellsOf e=1)
  (h:DataW.Trod enc P w 0 spare held t (.slice a n c) d p):∃ x:Nat->Int,la w a n c 1 (λi=>[.int K (x i)])/\∀ i,i<n->(Lit.int K (x i)).wf=true:=
 Sf ht hc ab (λx=>[.int K x]) (λx=>(Lit.int K x).wf=true) 0 (λm cs y _ hy=>by
  obtain⟨z,rfl,_,hw⟩:=DataW.trod_int he hy;exact⟨z,rfl,hw⟩) h
theorem la.one {f:Nat->Value} (h:la w A n c 1 (λi=>[f i])) (h0:0<n):
  ∃ b off,A=some ⟨b,off,none⟩/\b<w.heap.size/\∀ i,i<n->w.cell? ⟨b,off+i,none⟩=some (f i):=by
 obtain⟨b,off,h1,h2,h3⟩:=h.2.2.2 h0;exact⟨b,off,h1,h2,λi hi=>by simpa using h3 i hi 0 _ rfl⟩
theorem Gv {H:Type} {enc:TypeId×Value->H} {c:Value} {y:DataW H×List MemPlace} {t:TypeId} 
  (ht:P.underlying t=some (.slice e)) (he:P.underlying e=some (.int K)) (hc:P.cellsOf e=1)
  (h:DataW.trod enc P w 0 spare held m t [c]=some y):∃ (a:Option Addr) (n ni:Nat) (x:Nat->Int),[c]=[Value.slice a n ni]/\la w a n ni 1 (λi=>[.int K (x i)])/\∀ i,i<n->(Lit.int K (x i)).wf=true:=by
 obtain⟨d,p⟩:=y
 have key:∃ (a:Option Addr) (n ni:Nat),c= .slice a n ni:=by
  rcases open_slice ht h with ⟨fa,_⟩|⟨gQ,l,ni,m,f,D,qcE,fa,_⟩
  ·simp at fa;exact⟨_,_,_,fa⟩
  ·simp at fa;exact⟨_,_,_,fa⟩
 obtain⟨a,n,ni,rfl⟩:=key;obtain⟨x,h1,h2⟩:=qcG ht he hc (a:=a) (n:=n) (c:=ni) (d:=d) (p:=p) ⟨m,by simpa [Value.cells]using h⟩;exact⟨a,n,ni,x,rfl,h1,h2⟩
theorem bo.Gx {x:Nat->Int} (h:la w A n c 1 (λi=>[.int .i64 (x i)])):bo w A n c ((List.range n).map x):=by
 refine⟨ao,h.1,h.2.1,h.2.2.1,λh0=> ?_⟩;obtain⟨b,off,h1,_,h2⟩:=la.one h h0;exact⟨b,off,h1,λi hi=>by rw[h2 i hi];simp[List.getElem?_map,List.getElem?_range hi]⟩
theorem Ab {k:ByteArray} {r:Int} (h:uI rs k r):0<=r↔∃ x∈rs,hasB x.1 x.2 k=true:=by
 rcases h with ⟨rfl,h⟩|⟨i,rfl,hi,h,_⟩
 ·refine⟨λh=>ab,λ⟨x,hx,hb⟩=> ?_⟩;obtain⟨i,hi⟩:=List.getElem?_of_mem hx;have:=h i (bg hi);unfold rg at this;rw[hi]at this;rw[show(some x).getD (nil,nil)=x from rfl,hb]at this
  cases this
 ·refine⟨λ_=>⟨rg rs i,?_,h⟩,λ_=>ab⟩;unfold rg;rw[vF hi];exact List.getElem_mem _
end Go.Proofs.YtehaoggjlciobaaGreat

/- Part 41 of 53. -/
import Derived.Test.YtehaoggjlciobaaGreatPbn
set_option linter.all false
set_option maxRecDepth 20000
set_option maxHeartbeats 16000000
namespace Go.Proofs.YtehaoggjlciobaaGreat
open Go.Maps Go.RowKit
def lE (es:List Nat) (os:List Int) (i:Int):List Rg:=dd es os i (es.length+1)
def sJ (es:List Nat) (os:List Int) (i:Nat):ci:=⟨lE es os i,λ_=>[],[],0,0⟩
def AZ (e:TypeId):Prop:=e=63∨e=48
theorem ba.Iz {w w2:World} {B:Int} {p:cZ} {id:Int} {own:List Rg} {X:List Nat} (h:ba w B p id ⟨own,λ_=>[],[],0,0⟩) (hk:ah X w w2) (hf:Fr AZ w w2) (h1:p.sb∉X) (h2:p.hb∉X) (h3:p.mb∉X):ba w2 B p id ⟨own,λ_=>[],[],0,0⟩:=by
 obtain⟨A,c,hb,hw⟩:=h.bB;obtain⟨v,l0,dp⟩:=h.sh.bB;obtain⟨C,hm,hc⟩:=h.sh.fz;refine⟨⟨A,c,hk.heap hb h1,hw.fr hf (.inr rfl)⟩,⟨⟨v,hk.heap l0 h2,dp.fr hf (.inl rfl)⟩,h.sh.bx,C,hm.but hk h3,λk hl=> ?_⟩,λv hv=>(by cases hv),h.bx,h.pF⟩;have hn:C k=none:=Classical.byContradiction λg=>((hc k hl).2 g).2 rfl;rw[hn];exact⟨⟨Rw.nil _,λx hx=>(by cases hx),.nil⟩,λg=>absurd rfl g⟩
theorem dF.qhn {w0 w:World} {X X':List Nat} {N:Nat} {P:Nat->Nat->Bool} {st:Nat->Nat->bF} (h:dF w0 X w N P st) (hX:∀ x,x∈X'->x∈X):dF w0 X' w N P st:=by
 obtain⟨M,k,S,F,h⟩:=h
 exact⟨M,k,S,F,h.cm,h.map,h.many,h.ne,h.nN,h.nM,h.lN,λx hx=>h.lX x (hX x hx),h.gy,h.bY,λa c s ha hc hs x hx=>by
  obtain⟨q1,q2,q3,q4,q5⟩:=h.own a c s ha hc hs x hx;exact⟨q1,q2,q3,q4,λg=>q5 (hX x g)⟩,h.apart⟩
theorem qho {w w2:World} {rv ov pv:Value} {es:List Nat} {os ps:List Int} (h:fm w rv ov pv es os ps) (hf:Fr (λe=>e=63∨e=3) w w2):fm w2 rv ov pv es os ps:=⟨h.r.fr hf (.inl rfl),h.o.fr hf (.inr rfl),h.p.fr hf (.inr rfl)⟩
structure sK (w wr:World) (gb N n U:Nat) (rv ov pv sv:Value) (es:List Nat) (os ps:List Int) (p:Nat->cZ):Prop where
 k:ad w wr
 bB:wr.heap[gb]? =some (.cells #[rv,ov,pv,sv,.pointer (some ⟨N,0,none⟩),.int .i64 0,.slice none 0 0,.int .i64 0,.slice none 0 0,.int .i64 0,.slice none 0 0,.int .i64 0,.slice none 0 0,.slice none 0 0,.slice none 0 0,.slice none 0 0,.slice none 0 0,.slice none 0 0,.slice none 0 0,.slice none 0 0,.slice none 0 0,.slice none 0 0,.slice none 0 0] 82 (0,0))
 row:fm wr rv ov pv es os ps
 own:wr.ownsRow w.heap.size 83 1 sv U (((List.range U).map λi=>(p i).sb).flatMap qk)
 bi:∀ i,i<U->ba wr 0 (p i) i (sJ es os i)
 apart:∀ i k,i<U->k<U->i≠k->(p i).sb≠(p k).sb/\(p i).hb≠(p k).hb/\(p i).mb≠(p k).mb
 ND:∀ i,i<U->w.heap.size<=(p i).sb/\w.heap.size<=(p i).hb/\w.heap.size<=(p i).mb
 cm:dF w ((List.range U).map λi=>(p i).mb) wr N (de n) (λ_ _=>sC)
theorem WX:∀ a,(qk a).length=1:=λ_=>rfl
theorem sK.go {w wr w2:World} {gb N n U:Nat} {rv ov pv sv:Value} {es:List Nat} {os ps:List Int} {p:Nat->cZ} (h:sK w wr gb N n U rv ov pv sv es os ps p) (hk:ad wr w2):sK w w2 gb N n U rv ov pv sv es os ps p:=
 ⟨h.k.call hk,hk.heap h.bB,h.row.fr (.ar hk),ad.own h.own hk,λi hi=>(h.bi i hi).kept hk,h.apart,h.ND,h.cm.keep hk⟩
theorem sK.next {w wr w2:World} {gb N n U:Nat} {rv ov pv sv:Value} {es:List Nat} {os ps:List Int} {p:Nat->cZ} (h:sK w wr gb N n U rv ov pv sv es os ps p) (hB:ah sv.ownBlock.toList wr w2) {x:cZ} (hs:ba w2 0 x U (sJ es os U)) (h1:wr.heap.size<=x.sb) (h2:wr.heap.size<=x.hb) (h3:wr.heap.size<=x.mb)
  {v6:Value} (ho:w2.ownsRow w.heap.size 83 1 v6 (U+1) (((List.range U).map λi=>(p i).sb).flatMap qk++[.pointer (some ⟨x.sb,0,none⟩)])) (eP:w.heap.size<=gb):
  sK w (w2.setCell ⟨gb,3,none⟩ v6) gb N n (U+1) rv ov pv v6 es os ps (ed p U x):=by
 have hd:=h;have ht:∀ y∈sv.ownBlock.toList,∃ cur,wr.heap[y]? =some (.cells cur 83 (0,0)):=λy hy=>j5 hd.own (Option.mem_toList.1 hy);have nb:=ec hd.own hd.bB ak;have hblk:=hB.heap hd.bB nb;have EA:=ah.set (w:=w2) gb 3 v6;have r9:ah (gb::sv.ownBlock.toList) wr (w2.setCell ⟨gb,3,none⟩ v6):=(hB.mono (λy hy=>qce _ hy)).trans (EA.mono ao)
 have hY:∀ y∈gb::sv.ownBlock.toList,∃ cur e,wr.heap[y]? =some (.cells cur e (0,0))/\(e=82∨e=83):=λy hy=>by
  rcases KX.1 hy with rfl|hy
  ·exact⟨_,_,hd.bB,.inl rfl⟩
  ·obtain⟨cur,hc⟩:=ht y hy;exact⟨cur,_,hc,.inr rfl⟩
 have hF:∀ {P:TypeId->Prop},¬P 82->¬P 83->Fr P wr (w2.setCell ⟨gb,3,none⟩ v6):=λ{P} n1 n2=>Fr.gn r9 λy hy cur e he hp=>by
  obtain⟨c2,e2,h5,h6⟩:=hY y hy;rw[he]at h5;simp only[Option.some.injEq,Obj.cells.injEq]at h5;obtain⟨_,rfl,_⟩:=h5;rcases h6 with rfl|rfl
  ·exact n1 hp
  ·exact n2 hp
 have bW:∀ {q:Nat} {cur:Array Value} {e:TypeId},wr.heap[q]? =some (.cells cur e (0,0))->e≠82->e≠83->q∉gb::sv.ownBlock.toList:=λ{q cur e} hq n1 n2 hy=>by
  obtain⟨c2,e2,h5,h6⟩:=hY q hy;rw[hq]at h5;simp only[Option.some.injEq,Obj.cells.injEq]at h5;obtain⟨_,rfl,_⟩:=h5;rcases h6 with h6|h6
  ·exact n1 h6
  ·exact n2 h6
 have tg:∀ {q:Nat} {yv:_} {dD:_},wr.heap[q]? =some (.map yv dD)->q∉gb::sv.ownBlock.toList:=λ{q yv dD} hq hy=>by
  obtain⟨c2,e2,h5,h6⟩:=hY q hy;rw[hq]at h5;cases h5
 have tM:∀ {y:cZ} {i:Nat},ba wr 0 y i (sJ es os i)->ba (w2.setCell ⟨gb,3,none⟩ v6) 0 y i (sJ es os i):=λ{y i} hs=>by
  obtain⟨c1,t1⟩:=hs.nL;obtain⟨c2,t2⟩:=hs.rm;obtain⟨yv,dD,t3⟩:=hs.mw;exact ba.Iz hs r9 (hF (by unfold AZ;decide) (by unfold AZ;decide)) (bW t1 ak ak) (bW t2 ak ak) (tg t3)
 have WY:ba (w2.setCell ⟨gb,3,none⟩ v6) 0 x U (sJ es os U):=by
  have hZ:gb<wr.heap.size:=(aQ h.bB)
  exact ba.Iz hs EA (Fr.gn EA λy hy cur e he hp=>by
   simp only[At]at hy;subst hy;rw[hblk]at he;simp only[Option.some.injEq,Obj.cells.injEq]at he;obtain⟨_,rfl,_⟩:=he;exact absurd hp (by unfold AZ;decide)) (by simp;omega) (by simp;omega) (by simp;omega)
 have an:∀ i,i<U->(p i).sb<wr.heap.size/\(p i).hb<wr.heap.size/\(p i).mb<wr.heap.size:=λi hi=>by
  obtain⟨c1,t1⟩:=(h.bi i hi).nL;obtain⟨c2,t2⟩:=(h.bi i hi).rm;obtain⟨yv,dD,t3⟩:=(h.bi i hi).mw;exact⟨(aQ t1),(aQ t2),(aQ t3)⟩
 have jm:∀ i,i<U->ed p U x i=p i:=λi hi=>pT ab
 have NE:∀ (f:cZ->Nat),(List.range (U+1)).map (λi=>f (ed p U x i))=(List.range U).map (λi=>f (p i))++[f x]:=λf=>by
  rw[List.range_succ,List.map_append,List.map_cons,List.map_nil,nO];congr 1
  exact List.map_congr_left λi hi=>by rw[jm i (List.mem_range.1 hi)]
 refine⟨(hd.k.but hB λy hy=>(hd.own.lt y (Option.mem_toList.1 hy)).1).but EA (by simpa using eP),Ok w2 gb 3 _ _ v6 hblk,qho hd.row (hF ak ak),?_,λi hi=> ?_,λi k hi hk' aN=> ?_,λi hi=> ?_,?_⟩
 ·have h9:=cB ho EA (gL ho hblk ak);rw[NE (·.sb),List.flatMap_append];exact h9
 ·by_cases e:i=U
  ·subst e;rw[nO];exact WY
  ·rw[pT e];exact tM (hd.bi i ab)
 ·by_cases e:i=U
  ·subst e;rw[nO,pT (Ne.symm aN)];have:=an k ab;omega
  ·rw[pT e];by_cases e2:k=U
   ·subst e2;rw[nO];have:=an i ab;omega
   ·rw[pT e2];exact h.apart i k ab ab aN
 ·by_cases e:i=U
  ·subst e;rw[nO];have:=h.k.size;omega
  ·rw[pT e];exact h.ND i ab
 ·obtain⟨yv,dD,t3⟩:=WY.mw;have Mh:=(aQ t3);obtain⟨M,k,S,F,A8⟩:=h.cm
  have h9:=A8.oK r9 λy hy _=>by
   obtain⟨c2,e2,h5,h6⟩:=hY y hy;exact .inr ⟨c2,e2,h5,by rcases h6 with rfl|rfl <;>decide,by rcases h6 with rfl|rfl <;>decide⟩
  refine⟨M,k,S,F,h9.cm,h9.map,h9.many,h9.ne,h9.nN,h9.nM,h9.lN,λy hy=> ?_,h9.gy,h9.bY,λa c s ha hc IA y hy=> ?_,h9.apart⟩
  ·rw[NE (·.mb),Pv,At]at hy;rcases hy with hy|rfl
   ·exact h9.lX y hy
   ·have h5:=A8.lN;obtain⟨D,h6,_⟩:=A8.map;have h7:=h6.lt;exact⟨Mh,ab,ab⟩
  ·obtain⟨q1,q2,q3,q4,q5⟩:=h9.own a c s ha hc IA y hy;refine⟨q1,q2,q3,q4,λhx=> ?_⟩;rw[NE (·.mb),Pv,At]at hx;rcases hx with hx|rfl
   ·exact q5 hx
   ·have:=(A8.own a c s ha hc IA _ hy).1;omega
structure sL (g:aG) (l:Nat->List ax) (mv:List Mv) (i:Nat):Prop where
 ij:∀ s,∀ v∈l s,∃ a k,a<g.n/\Let k/\v∈(g.σ a).L k
 Ba:∀ m∈mv.take i,∀ k,Let k->hasB m.f m.t k=true->∀ v∈(g.σ m.ij.toNat).L k,v∈l m.to.toNat
 bx:∀ s,(l s).length<=i*60000
structure p7 (g:aG) (l:Nat->List ax) (mv:List Mv) (i:Nat) (m:Mv) (hl:List aD) (U:Nat):Prop where
 ij:∀ s,∀ v∈l s,∃ a k,a<g.n/\Let k/\v∈(g.σ a).L k
 Ba:∀ m∈mv.take i,∀ k,Let k->hasB m.f m.t k=true->∀ v∈(g.σ m.ij.toNat).L k,v∈l m.to.toNat
 now:∀ d∈hl.take U,hasB m.f m.t d.key=true->∀ v∈(g.σ m.ij.toNat).L d.key,v∈l m.to.toNat
 bx:∀ s,(l s).length<=i*60000+U*6000
theorem sL.zero (g:aG) (mv:List Mv):sL g (λ_=>[]) mv 0:=⟨λs v hv=>(by cases hv),λm hm=>(by simp at hm),λs=>ao⟩
theorem sL.start {g:aG} {l:Nat->List ax} {mv:List Mv} {i:Nat} (h:sL g l mv i) (m:Mv) (hl:List aD):p7 g l mv i m hl 0:=⟨h.ij,h.Ba,λd hd=>(by simp at hd),λs=>by have:=h.bx s;rw[Nat.zero_mul,Nat.add_zero];exact this⟩
theorem p7.no {g:aG} {l:Nat->List ax} {mv:List Mv} {i U:Nat} {m:Mv} {hl:List aD} {d:aD} (h:p7 g l mv i m hl U) (hd:hl[U]? =some d) (hh:hasB m.f m.t d.key=false):p7 g l mv i m hl (U+1):=
 ⟨h.ij,h.Ba,λx hx hb=>(by
  rw[List.take_add_one,hd,Option.toList_some,Pv,At]at hx;rcases hx with hx|rfl
  ·exact h.now x hx hb
  ·rw[hh]at hb;cases hb),λs=>by have:=h.bx s;omega⟩
theorem p7.yes {g:aG} {l:Nat->List ax} {mv:List Mv} {i U a t:Nat} {m:Mv} {hl:List aD} {d:aD} (h:p7 g l mv i m hl U) (hd:hl[U]? =some d) (hk:Let d.key) (ha:m.ij=a) (hn:a<g.n) (ht:m.to=t) (hc:((g.σ a).L d.key).length<=6000):p7 g (λs=>if s=t then l t++(g.σ a).L d.key else l s) mv i m hl (U+1):=by
 have hm:∀ s,∀ v∈l s,v∈(if s=t then l t++(g.σ a).L d.key else l s):=λs v hv=>by
  by_cases e:s=t
  ·subst e;rw[if_pos rfl];exact List.mem_append_left _ hv
  ·rw[if_neg e];exact hv
 refine⟨λs v hv=> ?_,λm gd k bb hb v hv=>hm _ v (h.Ba m gd k bb hb v hv),λx hx hb v hv=> ?_,λs=> ?_⟩
 ·by_cases e:s=t
  ·subst e;simp only[if_pos,Pv]at hv;rcases hv with hv|hv
   ·exact h.ij s v hv
   ·exact⟨a,d.key,hn,hk,hv⟩
  ·simp only[if_neg e]at hv;exact h.ij s v hv
 ·rw[List.take_add_one,hd,Option.toList_some,Pv,At]at hx;rcases hx with hx|rfl
  ·exact hm _ v (h.now x hx hb v hv)
  ·rw[ha]at hv;rw[ht];simp only[Int.toNat_natCast,if_true]at hv⊢;exact List.mem_append_right _ hv
 ·have:=h.bx s;have h2:=h.bx t;by_cases e:s=t
  ·rw[if_pos e,qC];omega
  ·rw[if_neg e];omega
theorem p7.done {g:aG} {l:Nat->List ax} {mv:List Mv} {i:Nat} {m:Mv} {hl:List aD} (h:p7 g l mv i m hl hl.length) (hm:mv[i]? =some m) (hv:j0 (g.σ m.ij.toNat).L hl) (h8:hl.length<=8):sL g l mv (i+1):=
 ⟨h.ij,λx hx k hk hb v cW=>(by
  rw[List.take_add_one,hm,Option.toList_some,Pv,At]at hx;rcases hx with hx|rfl
  ·exact h.Ba x hx k hk hb v cW
  ·have hd:(⟨k,(hd (g.σ x.ij.toNat).L k).1,(hd (g.σ x.ij.toNat).L k).2⟩:aD)∈hl:=(hv.mem _).2 ⟨hk,(λe=>by
    have e2:(g.σ x.ij.toNat).L k=[]:=e;rw[e2]at cW;cases cW),rfl,rfl⟩
   exact h.now _ (by rw[List.take_length];exact hd) hb v cW),λs=>by have:=h.bx s;omega⟩
def NF (g:aG) (aH:List Nat) (aJ:List Int) (l:Nat->List ax):Prop:=(∀ s,∀ v∈l s,∃ a k,a<g.n/\Let k/\v∈(g.σ a).L k)/\
 ∀ s,s<g.n->∀ k,Let k->cq (ow aH aJ k) (s:Int)=true->cq (ow g.es g.os k) (s:Int)=false->∃ a:Nat,a<g.n/\cq (ow g.es g.os k) (a:Int)=true/\∀ v∈(g.σ a).L k,v∈l s
theorem sL.all {g:aG} {l:Nat->List ax} {mv:List Mv} {aH:List Nat} {aJ:List Int} {pt:List Rg} (h:sL g l mv mv.length) (hp:Hq g.es aH pt) (ht:nF g.es aH g.os aJ g.n pt pt.length 0 mv):NF g aH aJ l:=by
 refine⟨h.ij,λs hs k hk h1 h2=> ?_⟩;obtain⟨r,hr,hb,e1,e2⟩:=hp.all k;obtain⟨a,ha⟩:=qcl.1 hr;have hal:a<pt.length:=(bg ha);have o1:ow g.es g.os r.1=ow g.es g.os k:=by unfold ow;rw[e1]
 have o2:ow aH aJ r.1=ow aH aJ k:=by unfold ow;rw[e2]
 obtain⟨m,hm,m1,m2,m3⟩:=ht.all a s r (.inl ⟨hal,hs⟩) ha (by unfold comes;rw[o1,o2,h1,h2];rfl);obtain⟨_,_,q1,q2,q3⟩:=ht.ok m hm;refine⟨m.ij.toNat,ab,?_,λv hv=> ?_⟩
 ·rw[m2,o1]at q3;rw[Int.toNat_of_nonneg q1];exact q3
 ·have h3:=h.Ba m (by rw[List.take_length];exact hm) k hk (by rw[m2,m3];exact hb) v hv;rw[m1,Int.toNat_natCast]at h3;exact h3
theorem dc.qhp {w:World} {B:Int} {k:ByteArray} {v:Value} {l:List ax} (h:dc w B k v l) (hB:0<=B) (h9:B<=900):l.length<=6000:=by
 have:=LU B.toNat l 0 h.sd λx hx=>by
  have h3:=(h.iG x hx).1;have h2:=h3.n;have hc:=qck h3.wc.1;exact⟨h3.wc.1,ab,ab⟩
 omega
def WZ (g:aG) (aH:List Nat) (aJ:List Int) (l:Nat->List ax) (i:Nat) (s:ci):Prop:=∃ L1 wt L',s=⟨lE aH aJ i,L',wt,(clockOf ((g.σ i).cn,(g.σ i).cs) (l i)).1,(clockOf ((g.σ i).cn,(g.σ i).cs) (l i)).2⟩/\Dv (lE aH aJ i) (g.σ i).L L1/\Dy (lE aH aJ i) (g.σ i).wait wt/\tG (lE aH aJ i) L1 (l i) L'
def Bb (g:aG) (aH:List Nat) (aJ:List Int) (l:Nat->List ax) (σ':Nat->ci) (t:Nat):Prop:=∀ i,i<g.n->(i<t->WZ g aH aJ l i (σ' i))/\(t<=i->σ' i=g.σ i)
theorem Bb.step {g:aG} {aH:List Nat} {aJ:List Int} {l:Nat->List ax} {σ':Nat->ci} {t:Nat} {s:ci} (h:Bb g aH aJ l σ' t) (ht:t<g.n) (hs:WZ g aH aJ l t s):Bb g aH aJ l (ed σ' t s) (t+1):=by
 intro i hi;by_cases e:i=t
 ·subst e;rw[nO];exact⟨λ_=>hs,λg=>absurd g ab⟩
 ·rw[pT e];exact⟨λg=>(h i hi).1 ab,λg=>(h i hi).2 ab⟩
def Xa (g:aG) (aH:List Nat) (aJ a':List Int) (g':aG):Prop:=∃ l σ',NF g aH aJ l/\Bb g aH aJ l σ' g.n/\g'={g with es:=aH,os:=aJ,ps:=a',σ:=σ'}
theorem aT.qhq {w:World} {B:Int} {gb:Nat} {g:aG} (h:aT w B gb g) {rv ov pv:Value} {es:List Nat} {os ps:List Int} (hr:fm w rv ov pv es os ps) (hf:eA es os ps g.n) (hn:ps.length=g.n):
  aT (((w.setCell ⟨gb,0,none⟩ rv).setCell ⟨gb,1,none⟩ ov).setCell ⟨gb,2,none⟩ pv) B gb {g with es:=es,os:=os,ps:=ps}/\bN w (((w.setCell ⟨gb,0,none⟩ rv).setCell ⟨gb,1,none⟩ ov).setCell ⟨gb,2,none⟩ pv):=by
 obtain⟨V,h1,h2⟩:=h;have hb:=ah.vG (w:=w) gb rv ov pv;have cG:=(h1.fr hb).j7;have h3:=h2.Il h1 hb;have cp:({g with es:=es,os:=os,ps:=ps}:aG).n=g.n:=hn;have hm:j6 {g with es:=es,os:=os,ps:=ps}=j6 g:=by unfold j6;rw[cp]
 refine⟨⟨{V with rv:=rv,ov:=ov,pv:=pv},?_,⟨⟨hr.fr cG,by rw[cp];exact hf,by rw[cp];exact h3.a6.sites,by rw[cp];exact h3.a6.bY,by rw[cp];exact h3.a6.oJ,h3.a6.pins,h3.a6.rl⟩,by rw[cp];exact h3.bi,by rw[cp];exact h3.apart,by rw[hm,cp];exact h3.cm,h3.bx,h3.bJ,h3.cX,h3.old.oU rfl rfl cp⟩⟩,h1.fr hb⟩;have h5:=Ok _ gb 2 _ _ pv (Ok _ gb 1 _ _ ov (Ok w gb 0 _ _ rv h1));unfold GB;rw[h5];rfl
theorem qhr (B:Int) (p:cZ) (id:Int) (σ:ci) (w:World) (h:ba w B p id σ) (hB:0<=B) (h9:B<=900):
  Calls Tryz.prog 119 #[.pointer (some ⟨p.sb,0,none⟩)] w λe w'=>∃ b:Bool,e= .returned (.bool b)/\b=decide (0<σ.wait.length)/\ad w w':=by
 have HS:=aa h;clear h;go_in;go_wp2_with fail
 refine(Ud B p id σ _ HS.o).mono ?_;rintro e w1 ⟨rfl,k1⟩;obtain⟨n,hn⟩:∃ n,σ.wait.length=n:=⟨_,rfl⟩;have HN:=aa hn;rw[hn];clear hn;go_wp2;go_ret;exact⟨_,rfl,by rw[HN.o],k1⟩
theorem qhs (B:Int) (gb:Nat) (g:aG) (SA:Option Addr) (sc:Nat) (w:World) (hr:Rw w 83 1 qk (.slice SA g.n sc) ((List.range g.n).map λi=>(g.p i).sb)) (hS:∀ W,ad w W->∀ i,i<g.n->ba W B (g.p i) i (g.σ i)) (hB:0<=B) (h9:B<=900) (xQ:∀ i U,i<g.n->U<g.n->i≠U->(g.p i).sb≠(g.p U).sb):
  Calls Tryz.prog 118 #[.slice SA g.n sc,.func (.func 119) #[] #[]] w λe w'=>∃ b:Bool,e= .returned (.bool b)/\(b=false->∀ i,i<g.n->(g.σ i).wait=[])/\ad w w':=by
 have HS:=aa hS
 have hT:fI [] w 119 #[] (λp=> .pointer (some ⟨p,0,none⟩)) ((List.range g.n).map λi=>(g.p i).sb) (λp b=>∀ i,i<g.n->(g.p i).sb=p->b=decide (0<(g.σ i).wait.length)):=by
  refine⟨λargs w=>enters_of Tryz.func119 av rfl args w,λW2 fw x hx=> ?_⟩;obtain⟨i,hi,rfl⟩:=List.mem_map.1 hx;rw[List.mem_range]at hi;refine(qhr B (g.p i) i (g.σ i) W2 (HS.o W2 fw.kept i hi) hB h9).mono ?_;rintro e w' ⟨b,rfl,hb,k⟩
  exact⟨b,rfl,λU hj hs=>by
   have:U=i:=Classical.byContradiction λg2=>xQ U i hj hi g2 hs;rw[this];exact hb,k⟩
 refine(qaW _ _ _ _ _ _ hr [] hT).mono ?_;rintro e w2 ⟨b,rfl,_,hb,k⟩;refine⟨b,rfl,λhf i hi=> ?_,k⟩;have h1:=hb hf (g.p i).sb (List.mem_map.2 ⟨i,List.mem_range.2 hi,rfl⟩) i hi rfl;have h2:¬(0<(g.σ i).wait.length):=by simpa using h1
 exact ql2 ab
theorem NG {es:List Nat} {os:List Int} {n:Nat} {ps:List Int} (h:Fit es os n) (hp:ps.length=n:=by rfl):os.length<=1000/\ps.length<=1000/\es.length<=1000:=by
 have h1:=h.up.cV;have h2:=h.len;have h3:=h.cV;omega
theorem qht (B:Int) (gb:Nat) (g:aG) (s:Nat) (w:World) (h:aT w B gb g) (hB:0<=B) (h9:B<=900) (hs:s<g.n):
  Calls Tryz.prog 19 #[.pointer (some ⟨gb,0,none⟩),.int .i64 (s:Int)] w λe w'=>∃ v' l,e= .returned v'/\Rw w' 60 3 aS v' l/\j0 (g.σ s).L l/\ad w w':=by
 have HG:=aa h
 have HS:ag (∀ W,ad w W->ba W B (g.p s) s (g.σ s)):=by
  obtain⟨V,h1,h2⟩:=h;exact λW hW=>(h2.bi s hs).kept hW
 clear h;go_in;go_wp2_with fail
 refine(Eg B gb g s w HG.o).mono ?_;rw[if_pos ab];simp only[Int.toNat_natCast];rintro e w1 ⟨rfl,k1⟩;go_wp2_with fail
 refine(DC B (g.p s) s (g.σ s) w1 (HS.o w1 k1) hB ab).mono ?_;rintro e w2 ⟨v',l,rfl,h3,h4,k2⟩;have H3:=aa h3;have H4:=aa h4;clear h3 h4;go_wp2;go_ret;exact⟨v',l,rfl,H3.o,H4.o,k1.call k2⟩
theorem Xb (B:Int) (gb:Nat) (g:aG) (w:World) (h:aT w B gb g):
  Calls Tryz.prog 13 #[.pointer (some ⟨gb,0,none⟩)] w λe w'=>∃ rv ov pv,e= .returned (.agg #[rv,ov,pv])/\fm w' rv ov pv g.es g.os g.ps/\ad w w':=by
 obtain⟨V,h1,h2⟩:=h;have an:gb<w.heap.size:=(aQ h1);obtain⟨RA,rc,ei,_,_⟩:=h2.a6.row.r.form;obtain⟨RB,rd,cE,_,_⟩:=h2.a6.row.o.form;obtain⟨RC,qhu,cv,_,_⟩:=h2.a6.row.p.form;have cU:=aa h2.a6.row;have HF:=aa h2.a6.fit.fit;have r0:w.cell? ⟨gb,0,none⟩=some V.rv:=aE h1 0;have r1:w.cell? ⟨gb,1,none⟩=some V.ov:=aE h1 1;have r2:w.cell? ⟨gb,2,none⟩=some V.pv:=aE h1 2;have hl:g.os.length<=1000/\g.ps.length<=1000/\g.es.length<=1000:=NG h2.a6.fit.fit;rw[ei]at r0;rw[cE]at r1;rw[cv]at r2;rw[ei,cE,cv]at cU;generalize (bw g.es).length=m1 at r0 cU;generalize gd:g.os.length=m2 at r1 cU;generalize yw:g.ps.length=m3 at r2 cU;clear h1 h2 ei cE cv;go_in;go_wp2_with fail
 refine(M8 _ _ _ g.es g.os g.ps _ (cU.o.fr (.ar al)) (by rw[gd,yw];rw[gd,yw]at hl;exact hl)).mono ?_;rintro e w1 ⟨x,y,z,rfl,h3,k1⟩;obtain⟨A1,c1,hx,_,_⟩:=h3.r.form;obtain⟨A2,c2,hy,_,_⟩:=h3.o.form;obtain⟨A3,c3,hz,_,_⟩:=h3.p.form;rw[hx,hy,hz]at h3⊢;generalize (bw g.es).length=l1 at h3⊢;rw[gd,yw]at h3⊢;have H3:=aa h3;have K1:ad w w1:=ad.call al k1;have hb:w1.heap[w.heap.size]? =some (.cells #[.slice none 0 0,.slice none 0 0,.slice none 0 0] 29 (0,0)):=k1.heap (l5 _ _);have HB:=aa hb;have f0:=aI hb 0;have f1:=aI hb 1;have f2:=aI hb 2;have x0:w1.cell? ⟨w.heap.size,0,none⟩=some (.slice none 0 0):=aE hb 0;have x1:w1.cell? ⟨w.heap.size,1,none⟩=some (.slice none 0 0):=aE hb 1;have x2:w1.cell? ⟨w.heap.size,2,none⟩=some (.slice none 0 0):=aE hb 2;clear hb h3 k1 hx hy hz;go_wp2;have aL:=vG HB.o (.slice A1 l1 c1) (.slice A2 m2 c2) (.slice A3 m3 c3);have fk:=ah.vG (w:=w1) w.heap.size (.slice A1 l1 c1) (.slice A2 m2 c2) (.slice A3 m3 c3);have cG:=Fr.one (P:=bq) fk HB.o ak;have y0:=ap aL 0;have y1:=ap aL 1;have y2:=ap aL 2;refine KV (v:= .agg #[.slice A1 l1 c1,.slice A2 m2 c2,.slice A3 m3 c3]) (by simp[results,Tryz.results13,go_sem,y0,y1,y2]) rfl ?_;exact⟨_,_,_,rfl,H3.o.fr cG,ad.but K1 fk ao⟩
end Go.Proofs.YtehaoggjlciobaaGreat

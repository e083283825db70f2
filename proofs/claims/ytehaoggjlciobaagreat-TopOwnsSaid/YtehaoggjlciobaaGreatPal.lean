/- Part 12 of 53. -/
import Derived.Test.YtehaoggjlciobaaGreatPak
set_option linter.all false
set_option maxRecDepth 20000
set_option maxHeartbeats 16000000
namespace Go.Proofs.YtehaoggjlciobaaGreat
open Go.RowKit
def Grow (p:List Int) (l:List Nat):Prop:=∀ (k y:Nat),l[k]? =some y->pa p y= -1∨∃ (U z:Nat),U<k/\l[U]? =some z/\pa p y=z
structure oi (p:List Int) (l:List Nat):Prop where
 nd:l.Nodup
 lt:∀ x∈l,x<p.length
 RJ:Grow p l
theorem oi.snoc {p:List Int} {l:List Nat} (h:oi p l) {x:Nat} (hx:x<p.length) (hn:x∉l) (hp:pa p x= -1∨∃ z:Nat,z∈l/\pa p x=z):oi p (l++[x]):=by
 refine⟨List.nodup_append.2 ⟨h.nd,ao,λa ha b hb=>by
  obtain rfl:b=x:=by simpa using hb
  exact λe=>hn (e▸ha)⟩,λy hy=> ?_,λk y hk=> ?_⟩
 ·rcases Pv.1 hy with hy|hy
  ·exact h.lt y hy
  ·obtain rfl:y=x:=by simpa using hy
   exact hx
 ·rcases R6 k l.length with g|g
  ·rw[qlZ g]at hk;rcases h.RJ k y hk with h1|⟨U,z,h1,h2,h3⟩
   ·exact .inl h1
   ·exact .inr ⟨U,z,h1,by rw[qlZ ab];exact h2,h3⟩
  ·rw[List.getElem?_append_right g]at hk
   have Cw:k-l.length=0:=by
    rcases Nat.eq_zero_or_pos (k-l.length)with h|h
    ·exact h
    ·rw[List.getElem?_eq_none (by simp;omega)]at hk;cases hk
   rw[Cw]at hk;obtain rfl:x=y:=by simpa using hk
   rcases hp with h1|⟨z,hz,h1⟩
   ·exact .inl h1
   ·obtain⟨U,hj⟩:=List.getElem?_of_mem hz
    have:U<l.length:=by
     rcases R6 U l.length with g|g
     ·exact g
     ·rw[List.getElem?_eq_none g]at hj;cases hj
    exact .inr ⟨U,z,ab,by rw[qlZ this];exact hj,h1⟩
theorem oi.len {p:List Int} {l:List Nat} (h:oi p l):l.length<=p.length:=Cu _ l h.nd h.lt
def Has (p:List Int) (m:List Nat) (y:Nat):Prop:=∀ i,i<p.length->pa p i=y->i∈m
structure rY (p:List Int) (out:List Nat) (x:Nat) (o:List Nat) (U:Nat):Prop where
 be:oi p o
 pre:(out++[x]) <+: o
 old:∀ y∈o,y∉out->y≠x->Has p o y
 now:∀ i,i<U->pa p i=x->i∈o
theorem rY.same {p:List Int} {out o:List Nat} {x U:Nat} (h:rY p out x o U) (hj:pa p U=x->U∈o):ag (rY p out x o (U+1)):=
 ⟨h.be,h.pre,h.old,λi hi hp=>by
  rcases R6 i U with g|g
  ·exact h.now i g hp
  ·obtain rfl:i=U:=ab;exact hj hp⟩
theorem rY.call {p:List Int} {out o o2:List Nat} {x U:Nat} (h:rY p out x o U) (be:oi p o2) (pre:(o++[U]) <+: o2) (has:∀ y∈o2,y∉o->Has p o2 y):rY p out x o2 (U+1):=by
 have lU:∀ y∈o,y∈o2:=λy hy=>pre.subset (by simp[hy]);refine⟨be,h.pre.trans ((List.prefix_append o [U]).trans pre),λy hy h1 h2=> ?_,λi hi hp=> ?_⟩
 ·by_cases e:y∈o
  ·exact λi hi hp=>lU i (h.old y e h1 h2 i hi hp)
  ·exact has y hy e
 ·rcases R6 i U with g|g
  ·exact lU i (h.now i g hp)
  ·obtain rfl:i=U:=ab;exact pre.subset ao
theorem rY.done {p:List Int} {out o:List Nat} {x n:Nat} (h:rY p out x o n) (hn:p.length=n):∀ y∈o,y∉out->Has p o y:=λy hy h1=>by
 by_cases e:y=x
 ·subst e;exact λi hi hp=>h.now i ab hp
 ·exact h.old y hy h1 e
structure xr (w0:World) (base P S Q O I:Nat) (A:Option Addr) (n c:Nat) (f:Value) (w:World) (out:List Nat):Prop where
 kept:ad w0 w
 bas:base<=w.heap.size
 ff:w.cell? ⟨P,0,none⟩=some (.slice A n c)
 qA:w.cell? ⟨S,0,none⟩=some (.slice (some ⟨Q,0,none⟩) n n)
 KM:w.cell? ⟨I,0,none⟩=some f
 seen:∀ i,i<n->w.cell? ⟨Q,i,none⟩=some (.bool (decide (i∈out)))
 qbL:∀ i,w.frozen? ⟨Q,i,none⟩=false
 qbM:w.frozen? ⟨O,0,none⟩=false
 o:∃ v,w.cell? ⟨O,0,none⟩=some v/\w.ownsRow base 3 1 v out.length (cS out)
theorem xr.grown {w0:World} {base P S Q O I:Nat} (hb:w0.heap.size<=P/\w0.heap.size<=S/\w0.heap.size<=Q/\w0.heap.size<=O/\w0.heap.size<=I/\P<base/\S<base/\Q<base/\O<base/\I<base/\O≠P/\O≠S/\O≠Q/\O≠I/\Q≠P/\Q≠S/\Q≠I)
  {A:Option Addr} {n c:Nat} {f:Value} {w:World} {out:List Nat} (h:xr w0 base P S Q O I A n c f w out) {x:Nat} (hx:x<n) {v v3:Value} {o:Obj} {w3:World} (hv:w.cell? ⟨O,0,none⟩=some v) (an:∀ g,v.ownBlock=some g->base<=g)
  (hg:((w.setCell ⟨Q,x,none⟩ (.bool true)).alloc o).grownBy w3 v.ownBlock) (ho:w3.ownsRow base 3 1 v3 (out.length+1) (cS out++[.int .i64 (x:Nat)])):
  xr w0 base P S Q O I A n c f (w3.setCell ⟨O,0,none⟩ v3) (out++[x])/\w3.cell? ⟨O,0,none⟩=some v:=by
 obtain⟨b1,b2,ck,iV,dB,Uug,qB,Gp,xt,RK,b11,b12,b13,b14,b15,b16,b17⟩:=hb
 have Gq:∀ k i u,k<base->k≠Q->w.cell? ⟨k,i,none⟩=some u->w3.cell? ⟨k,i,none⟩=some u:=λk i u hk hq hc=>by
  refine hg.cell ?_ (λe=>by have:=an k e.symm;omega);have bb:k<w.heap.size:=Aa w _ hc;rw[Below.cell (B:=w.heap.size) (((Below.refl _ _).alloc (by simp[World.setCell]) o)) (by simpa using bb)];rw[World.cell?_setCell_other _ _ _ _ (by intro e;cases e;omega)];exact hc
 have c3:=Gq O 0 v ab ab hv
 have other:∀ k i u,k≠O->w3.cell? ⟨k,i,none⟩=some u->(w3.setCell ⟨O,0,none⟩ v3).cell? ⟨k,i,none⟩=some u:=λk i u hk hc=>by
  rw[World.cell?_setCell_other _ _ _ _ (by intro e;cases e;omega)];exact hc
 have fP:∀ k i u,k<base->w.cell? ⟨k,0,none⟩=some u->w3.frozen? ⟨k,i,none⟩=w.frozen? ⟨k,i,none⟩:=λk i u hk hc=>by
  have bb:k<w.heap.size:=Aa w _ hc;rw[World.frozen?_of_block (w:=(w.setCell ⟨Q,x,none⟩ (.bool true)).alloc o) (hg.block k (by first|(simp[World.setCell];done)|(simp[World.setCell];omega)) (λe=>by have:=an k e.symm;omega)),World.frozen?_alloc_old _ _ _ (by first|(simp;done)|(simp;omega)),World.frozen?_setCell]
 refine⟨⟨?_,?_,?_,?_,?_,?_,?_,?_,?_⟩,c3⟩
 ·refine(ad.grown ((h.kept.setCell (by simpa using ck) _).alloc o) hg (λg e=> ?_)).setCell (by simpa using iV) _;have:=an g e;have:=h.kept.size;omega
 ·have h1:=hg.size;have h2:=h.bas;simp[World.setCell]at h1⊢;omega
 ·exact other _ _ _ ab (Gq _ _ _ Uug ab h.ff)
 ·exact other _ _ _ ab (Gq _ _ _ qB ab h.qA)
 ·exact other _ _ _ ab (Gq _ _ _ RK ab h.KM)
 ·intro i hi;have hc:=h.seen i hi;have bb:Q<w.heap.size:=Aa w _ hc;refine other _ _ _ ab (hg.cell ?_ (λe=>by have:=an Q e.symm;omega));rw[Below.cell (B:=w.heap.size) (((Below.refl _ _).alloc (by simp[World.setCell]) o)) (by simpa using bb)];by_cases e:i=x
  ·subst e;rw[World.cell?_setCell_same _ _ _ hc];simp
  ·rw[World.cell?_setCell_other _ _ _ _ (by intro e;cases e;omega),hc];simp[e]
 ·intro i;rw[World.frozen?_setCell,fP Q i _ Gp (h.seen 0 ab)];exact h.qbL i
 ·rw[World.frozen?_setCell,fP O 0 _ xt hv];exact h.qbM
 ·refine⟨v3,World.cell?_setCell_same _ _ _ c3,?_⟩;rw[qC,<- zG];exact ownsRow_setCell_below ho (by simpa using xt) _
theorem qbN (w0:World) (base P S Q O I:Nat) (hb:w0.heap.size<=P/\w0.heap.size<=S/\w0.heap.size<=Q/\w0.heap.size<=O/\w0.heap.size<=I/\P<base/\S<base/\Q<base/\O<base/\I<base/\O≠P/\O≠S/\O≠Q/\O≠I/\Q≠P/\Q≠S/\Q≠I)
  (A:Option Addr) (n c:Nat) (p:List Int) (h6:n<=6) (hx:bo w0 A n c p) (f:Value) (hf:f= .func (.func 133) #[] #[.pointer (some ⟨S,0,none⟩),.pointer (some ⟨O,0,none⟩),.pointer (some ⟨P,0,none⟩),.pointer (some ⟨I,0,none⟩)]):
  ∀ (k:Nat) (out:List Nat) (x:Nat) (w:World),n<=out.length+k->x<n->x∉out->oi p out->(pa p x= -1∨∃ z:Nat,z∈out/\pa p x=z)->xr w0 base P S Q O I A n c f w out->
  Calls Tryz.prog 133 #[.int .i64 x,.pointer (some ⟨S,0,none⟩),.pointer (some ⟨O,0,none⟩),.pointer (some ⟨P,0,none⟩),.pointer (some ⟨I,0,none⟩)] w λe w'=>
   e= .returned (.tuple #[])/\∃ CI,xr w0 base P S Q O I A n c f w' CI/\oi p CI/\(out++[x]) <+: CI/\∀ y∈CI,y∉out->Has p CI y:=by
 obtain⟨i0,hi,a7,aY,aW⟩:=ql0 oZ;have HI:=aa hi;clear hi;subst hf;intro k
 induction k with
 |zero=>
  intro out x w hk pf KN CJ pg aV;have:=(CJ.snoc (by rw[hx.1];exact pf) KN pg).len;rw[hx.1]at this;simp at this;omega
 |succ k ih=>
  intro out x w hk pf KN CJ pg aV;have lY:out.length<=n:=by have:=CJ.len;rw[hx.1]at this;exact this
  have bG:=CJ.snoc (by rw[hx.1];exact pf) KN pg;have HB:=aa hb;have HX:=aa hx;have KK:=aa ih;have iZ:=aa bG;have hV:=aa aV;obtain⟨kw,qkL,ff,qA,KM,RL,hfQ,hfO,v,xu,ho⟩:=aV;have fQx:=hfQ x;have hOw:O<w.heap.size:=Aa w _ xu;have qkM:=RL x pf;have HO:=aa ho;have qkN:ag ((cS out).length=out.length*1):=by unfold ag;rw[qz,Nat.mul_one]
  obtain⟨b1,b2,ck,iV,dB,Uug,qB,Gp,xt,RK,b11,b12,b13,b14,b15,b16,b17⟩:=hb;clear bG CJ pg ih hx ho RL;have k0:ag (out.length=out.length):=rfl;generalize hl:out.length=l at*;replace k0:ag (out.length=l):=hl
  clear hl;have qbK:(n:Nat)<=9223372036854775807:=ab;go_in;go_wp2_with (at_builtin;refine wpList_append_own _ rfl _ _ 22 rfl base 3 i0 (.int .i64 0) 1 8 Tryz.underlying22 HI.o a7 aY aW rfl ak _ l _ rfl ((ownsRow_setCell_below HO.o (by first|assumption|(simp;omega)) _).alloc _) ⟨w.heap.size,0,none⟩ 1 1 [.int .i64 (x:Nat)] rfl rfl (qaI _ _ _ _ _) (by simp[Value.oneCell']) (by unfold maxLen;omega) ab (by simp;omega) ?_;intro v3 w3 bE cD _;obtain⟨A3,c3,rfl⟩:=JT bE;have kY:=HO.o.lt;have fO3:w3.frozen? ⟨O,0,none⟩=false:=(by rw[World.frozen?_of_block (w:=(w.setCell ⟨Q,x,none⟩ (.bool true)).alloc (.cells #[.int .i64 (x:Int)] 3)) (cD.block O (by first|(simp[World.setCell];done)|(simp[World.setCell];omega)) (λe=>by have:=(kY O e.symm).1;omega)),World.frozen?_alloc_old _ _ _ (by first|(simp;done)|(simp;omega)),World.frozen?_setCell];exact hfO);obtain⟨KO,cO3⟩:=hV.o.grown HB.o pf xu (λg hg=>(kY g hg).1) cD (by first|exact bE|(rw[k0.o];exact bE));have l4:=aa KO;have cP4:=KO.ff;clear KO bE cD)
  go_loopw [17] (λiv wr=>∃ (U:Nat) (o:List Nat),U<=n/\iv= .int .i64 U/\xr w0 base P S Q O I A n c (.func (.func 133) #[] #[.pointer (some ⟨S,0,none⟩),.pointer (some ⟨O,0,none⟩),.pointer (some ⟨P,0,none⟩),.pointer (some ⟨I,0,none⟩)]) wr o/\ag (rY p out x o U)) (λiv _=>n-(intOf iv).toNat)
  case atStart=>exact⟨0,_,ab,rfl,l4.o,⟨iZ.o,List.prefix_refl _,λy hy h1 h2=>absurd (Pv.1 hy) (by simp;exact⟨h1,h2⟩),λi hi=>ab⟩⟩
  case round=>
   obtain⟨U,o,hj,rfl,st,c7⟩:=hrel;have HS:=aa st;by_cases an:U<n
   ·obtain⟨b,off,rfl,hc⟩:=(HX.o.keep st.kept).2.2.2.2 ab;have c1:wr.cell? ⟨b,off+U,none⟩=some (.int .i64 (pa p U)):=hc U an;have c2:=st.seen U an;have c3:=st.qA;have c4:=st.KM;clear hc st;by_cases e1:pa p U=x
    ·rw[e1]at c1;by_cases e2:U∈o
     ·rw[ql3 e2]at c2;have hn:=c7.o.same (λ_=>e2);clear e1 e2;go_wp2;go_roundw
      case rel=>exact⟨U+1,o,ab,aA,HS.o,hn⟩
      case measure=>simp[intOf];omega
     ·rw[ql4 e2]at c2;have qbO:=aa e1;have qbP:=aa e2;clear e1 e2;go_wp2_with fail
      refine(KK.o o U wr (by have h1:=c7.o.pre.length_le;have h2:=k0.o;rw[qC,h2]at h1;simp at h1;omega) an qbP.o c7.o.be (.inr ⟨x,c7.o.pre.subset ao,qbO.o⟩) HS.o).mono ?_;rintro e w5 ⟨rfl,o2,RM,RN,RO,RP⟩;have ST2:=aa RM;have hn:ag (rY p out x o2 (U+1)):=c7.o.call RN RO RP;clear RM RN RO RP;go_wp2;go_roundw
      case rel=>exact⟨U+1,o2,ab,aA,ST2.o,hn⟩
      case measure=>simp[intOf];omega
    ·have d1:(pa p U==(x:Int))=false:=by simpa using e1
     have hn:=c7.o.same (λh=>absurd h e1);clear e1;generalize pa p U=q at*;go_wp2;go_roundw
     case rel=>exact⟨U+1,o,ab,aA,HS.o,hn⟩
     case measure=>simp[intOf];omega
   ·obtain rfl:U=n:=ab;go_wp2;go_end0
    exact⟨rfl,o,HS.o,c7.o.be,c7.o.pre,c7.o.done HX.o.1⟩
theorem qbQ:(Tryz.prog.info? 4).map (λi=>(i.zero,i.size,i.bytes))=some (some (.bool false),1,1):=av
theorem qbR (n i:Nat) (hi:i<n):(madeCells (Value.bool false).cells n)[i]? =some (.bool false):=by
 unfold madeCells;simp[Value.cells,hi,Nat.mod_one]
theorem qbS (w:World) (A:Option Addr) (n c:Nat) (f:Value) (h1:f.oneCell'=true):xr w (w.heap.size+1+1+1+1+1) w.heap.size (w.heap.size+1+1) (w.heap.size+1) (w.heap.size+1+1+1) (w.heap.size+1+1+1+1) A n c f
  (((((w.alloc (.cells #[.slice A n c] 22)).alloc (.cells (madeCells (Value.bool false).cells n) 4)).alloc (.cells #[.slice (some ⟨w.heap.size+1,0,none⟩) n n] 204)).alloc (.cells #[.slice none 0 0] 22)).alloc (.cells #[f] 208)) []:=by
 have hq:(((((w.alloc (.cells #[.slice A n c] 22)).alloc (.cells (madeCells (Value.bool false).cells n) 4)).alloc (.cells #[.slice (some ⟨w.heap.size+1,0,none⟩) n n] 204)).alloc (.cells #[.slice none 0 0] 22)).alloc (.cells #[f] 208)).heap[w.heap.size+1]? =some (.cells (madeCells (Value.bool false).cells n) 4):=by
  rw[Below.heap_alloc _ _ _ ao,Below.heap_alloc _ _ _ ao,Below.heap_alloc _ _ _ ao];have:=l5 (w.alloc (.cells #[.slice A n c] 22)) (.cells (madeCells (Value.bool false).cells n) 4);simpa using this
 refine⟨?_,?_,?_,?_,?_,λi hi=> ?_,λi=> ?_,?_,⟨.slice none 0 0,?_,qcb _ _ _ _⟩⟩
 ·exact al
 ·simp
 ·go_simp
 ·go_simp
 ·go_simp
 ·rw[cell_of_row _ _ i _ _ (0,0) hq,qbR n i hi];rfl
 ·unfold World.frozen?;rw[hq];simp
 ·go_simp
 ·go_simp
theorem qbT (A:Option Addr) (n c:Nat) (p:List Int) (x:Nat) (w:World) (h6:n<=6) (hx:bo w A n c p) (pf:x<n) (pg:pa p x= -1):
  Calls Tryz.prog 81 #[.slice A n c,.int .i64 x] w λe w'=>∃ l,xk l w e w'/\oi p l/\x∈l/\∀ y∈l,Has p l y:=by
 obtain⟨i0,hi,a7,aY,aW⟩:=ql0 qbQ;have iS:∀ fn first cap w,(Instr.makeFunc fn first cap).run Tryz.prog w= .ok (.func fn first cap) w:=λ_ _ _ _=>rfl
 have lT:∀ (w:World),(Instr.makeSlice 204 (.int .i64 (n:Int)) (.int .i64 (n:Int))).run Tryz.prog w= .ok (.slice (some ⟨w.heap.size,0,none⟩) n n) (w.alloc (.cells (madeCells (Value.bool false).cells n) 4)):=λw=>by
  have h:=run_makeSlice (P:=Tryz.prog) w 204 4 i0 (.bool false) Tryz.underlying204 hi a7 .i64 .i64 n n ab ab (by rw[aY];simp;omega) (by rw[aW];omega) ab;rw[aY]at h;simpa using h
 have hsf:∀ fn first cap a w,(store a (.func fn first cap)).run Tryz.prog w=stored Tryz.prog w a (.func fn first cap) .plain:=λ_ _ _ _ _=>run_store _ _ _ _ _ rfl
 have hn:(n:Nat)<=9223372036854775807:=ab;have HX:=aa hx;have HP:=aa pg;clear hi hx pg;go_in;go_wp2_with fail
 refine(qbN w (w.heap.size+1+1+1+1+1) w.heap.size (w.heap.size+1+1) (w.heap.size+1) (w.heap.size+1+1+1) (w.heap.size+1+1+1+1) ab A n c p h6 HX.o _ rfl n [] x _ ao pf ao ⟨List.nodup_nil,(λx h=>by cases h),(λk y h=>by simp at h)⟩ (.inl HP.o) (qbS w A n c _ rfl)).mono ?_;rintro e w2 ⟨rfl,l,st,be,pre,has⟩;obtain⟨v,xu,ho⟩:=st.o;obtain⟨A3,c3,rfl,cT⟩:=bo.bp ho;have iA:=aa cT;have HK:=aa st.kept;have HAS:ag (oi p l/\x∈l/\∀ y∈l,Has p l y):=⟨be,pre.subset ao,λy hy=>has y hy ao⟩;clear st be pre has ho cT;go_wp2;go_ret;exact⟨l,⟨A3,c3,rfl,iA.o,HK.o⟩,HAS.o⟩
def CK:List Nat->Nat->Nat
 |[],_=>0
 |y::t,x=>if y=x then 0 else CK t x+1
theorem Gr:∀ {l:List Nat} {k x:Nat},l.Nodup->l[k]? =some x->CK l x=k
 |[],k,x,_,h=>by simp at h
 |y::t,0,x,_,h=>by
  obtain rfl:y=x:=by simpa using h
  simp[CK]
 |y::t,k+1,x,hn,h=>by
  rw[List.getElem?_cons_succ]at h;have hx:x∈t:=zV h;have aN:y≠x:=λe=>(List.nodup_cons.1 hn).1 (e▸hx);rw[CK,if_neg aN,Gr (List.nodup_cons.1 hn).2 h]
theorem RQ:∀ (l m:List Nat),l.Nodup->(∀ x∈l,x∈m)->l.length<=m.length
 |[],m,_,_=>ao
 |y::t,m,hn,h=>by
  have hy:=h y ao;have:=RQ t (m.erase y) (List.nodup_cons.1 hn).2 (λx hx=>(List.mem_erase_of_ne (λe:x=y=>(List.nodup_cons.1 hn).1 (e▸hx))).2 (h x (by simp[hx])));rw[List.length_erase_of_mem hy]at this;have:0<m.length:=List.length_pos_of_mem hy;simp;omega
theorem qbU {p:List Int} {l:List Nat} {r:Nat} (h1:1<=p.length) (h6:p.length<=6) (hr:∀ x,x<p.length-> -1<=pa p x/\pa p x<p.length) (qy:r<p.length) (iz:∀ x,x<p.length->(pa p x= -1↔x=r)) (be:oi p l) (hm:r∈l) (has:∀ y∈l,Has p l y):
  l.length=p.length↔cH p:=by
 constructor
 ·intro he
  have all:∀ x,x<p.length->x∈l:=λx hx=>by
   refine Classical.byContradiction λhn=> ?_
   have:=Cu p.length (x::l) (List.nodup_cons.2 ⟨hn,be.nd⟩) (λy hy=>by
    rcases KX.1 hy with rfl|hy
    ·exact hx
    ·exact be.lt y hy)
   simp at this;omega
  refine⟨CK l,h1,h6,hr,⟨r,qy,iz⟩,λx hx y hy=> ?_,λx hx=> ?_⟩
  ·obtain⟨k,hk⟩:=List.getElem?_of_mem (all x hx);rw[Gr be.nd hk];rcases be.RJ k x hk with g|⟨U,z,g1,g2,g3⟩
   ·omega
   ·obtain rfl:z=y:=ab;rw[Gr be.nd g2];exact g1
  ·obtain⟨k,hk⟩:=List.getElem?_of_mem (all x hx);rw[Gr be.nd hk]
   have:k<l.length:=by
    rcases R6 k l.length with g|g
    ·exact g
    ·rw[List.getElem?_eq_none g]at hk;cases hk
   omega
 ·rintro⟨R,hT⟩
  have all:∀ (k x:Nat),R x<=k->x<p.length->x∈l:=by
   have step:∀ x,x<p.length->(∀ y:Nat,pa p x=y->y∈l)->x∈l:=λx hx h=>by
    by_cases e:pa p x= -1
    ·rw[(iz x hx).1 e];exact hm
    ·have h2:=hr x hx;have h3:(((pa p x).toNat:Nat):Int)=pa p x:=ab;exact has _ (h _ h3.symm) x hx h3.symm
   intro k
   induction k with
   |zero=>
    intro x hk hx;refine step x hx (λy hy=> ?_);have:=hT.rk x hx y hy;omega
   |succ k ih=>
    intro x hk hx;refine step x hx (λy hy=>ih y ?_ ?_)
    ·have:=hT.rk x hx y hy;omega
    ·have:=hr x hx;omega
  have a:=RQ (List.range p.length) l List.nodup_range (λx hx=>all _ x (CP _) (List.mem_range.1 hx));have b:=be.len;rw[List.length_range]at a;omega
theorem qbV (A:Option Addr) (n c:Nat) (p:List Int) (v:Int) (r:Nat) (w:World) (hx:bo w A n c p) (hr:r<n) (hv:pa p r=v) (hf:∀ x,x<r->pa p x≠v):
  Calls Tryz.prog 82 #[.slice A n c,.int .i64 v] w λe w'=>e= .returned (.int .i64 r)/\ad w w':=by
 obtain⟨b,off,rfl,hc⟩:=hx.2.2.2.2 ab;have HC:=aa hc;have HF:=aa hf;have HV:=aa hv;have hn:n<=9223372036854775807:=by have h1:=hx.2.1;have h2:=hx.2.2.1;unfold maxLen at h2;omega
 clear hc hf hv hx;go_wp2;go_loopw [8] (λiv wr=>∃ U:Nat,U<=r/\iv= .int .i64 U/\ad w wr) (λiv _=>n-(intOf iv).toNat)
 case atStart=>exact⟨0,ab,rfl,al⟩
 case round=>
  obtain⟨U,hj,rfl,kr⟩:=hrel;have an:U<n:=ab;have c1:wr.cell? ⟨b,off+U,none⟩=some (.int .i64 (pa p U)):=kr.af (HC.o U an);by_cases e:U=r
  ·subst e;rw[HV.o]at c1;go_wp2;go_ret;exact⟨rfl,al⟩
  ·have d1:(v==pa p U)=false:=by simpa using λh=>HF.o U ab h.symm
   generalize pa p U=q at*;go_wp2;go_roundw
   case rel=>first|exact⟨U+1,ab,aA,kr⟩|((repeat apply R7);exact⟨⟨U+1,ab,aA,kr⟩,rfl⟩)
   case measure=>simp[intOf];omega
theorem RR (A:Option Addr) (n c:Nat) (p:List Int) (w:World) (hx:bo w A n c p):
  Calls Tryz.prog 48 #[.slice A n c] w (uJ (cH p) w):=by
 have HX:=aa hx;obtain⟨x1,x2,x3,x4,x5⟩:=hx;unfold maxLen at x3;have fb:=aa x5;have b6:=aa x1;clear x4 x5 x1;rcases R6 n 1 with h1|h1
 ·have hn:ag (¬cH p):=λh=>by have:=((mZ p).1 h).1;have:=b6.o;omega
  have d1:decide ((n:Int)<1)=true:=by simp;omega
  go_wp2;go_ret;exact jw rfl hn.o al
 rcases R6 6 n with h6|h6
 ·have hn:ag (¬cH p):=λh=>by have:=((mZ p).1 h).2.1;have:=b6.o;omega
  have d1:decide ((n:Int)<1)=false:=by simp;omega
  have d6:decide ((6:Int)<(n:Int))=true:=by simp;omega
  go_wp2;go_ret;exact jw rfl hn.o al
 have d1:decide ((n:Int)<1)=false:=by simp;omega
 have d6:decide ((6:Int)<(n:Int))=false:=by simp;omega
 go_wp2;go_loopw [3,16] (λr i wr=>∃ U:Nat,U<=n/\r= .int .i64 (eQ p U:Nat)/\i= .int .i64 U/\ad w wr/\ag (∀ x,x<U->(-1<=pa p x/\pa p x<n))) (λ_ i _=>n-(intOf i).toNat)
 case atStart=>exact⟨0,ab,rfl,rfl,al,λi hi=>ab⟩
 case round=>
  obtain⟨U,hj,rfl,rfl,kr,b8⟩:=hrel;obtain⟨b,off,rfl,hc⟩:=fb.o ab;by_cases an:U<n
  ·have c1:wr.cell? ⟨b,off+U,none⟩=some (.int .i64 (pa p U)):=kr.af (hc U an);have HC:=aa hc;clear hc;by_cases lW: -1<=pa p U/\pa p U<n
   ·have xv:ag (∀ x,x<U+1->(-1<=pa p x/\pa p x<n)):=λx hx=>by
     rcases R6 x U with g|g
     ·exact b8.o x g
     ·obtain rfl:x=U:=ab;exact lW
    obtain⟨g1,g2⟩:=lW;have qx:ag (eQ p (U+1)=eQ p U+if pa p U= -1 then 1 else 0):=rfl;have qy:=zE p U;by_cases hv:pa p U= -1
    ·rw[hv]at c1 g2;have HR:ag (eQ p (U+1)=eQ p U+1):=by unfold ag;rw[qx.o,if_pos hv]
     clear qx hv g1;generalize eQ p U=r at*;go_wp2;go_roundw
     case rel=>first|exact⟨U+1,ab,by rw[HR.o];go_num,aA,kr,xv⟩|((repeat apply R7);exact⟨⟨U+1,ab,by rw[HR.o];go_num,aA,kr,xv⟩,rfl⟩)
     case measure=>simp[intOf];omega
    ·have HR:ag (eQ p (U+1)=eQ p U):=by unfold ag;rw[qx.o,if_neg hv];rfl
     have cW:(pa p U== -1)=false:=by simpa using hv
     clear qx hv;generalize eQ p U=r at*;generalize pa p U=q at*;go_wp2;go_roundw
     case rel=>first|exact⟨U+1,ab,by rw[HR.o],aA,kr,xv⟩|((repeat apply R7);exact⟨⟨U+1,ab,by rw[HR.o],aA,kr,xv⟩,rfl⟩)
     case measure=>simp[intOf];omega
   ·have bW:ag (¬cH p):=λh=>lW (by have:=((mZ p).1 h).2.2.1 U (by rw[b6.o];exact an);rwa [b6.o]at this);rcases Int.lt_or_le (pa p U) (-1)with g3|g3
    ·clear lW;generalize pa p U=v at*;go_wp2;go_ret;exact jw rfl bW.o al
    ·have g4:(n:Int)<=pa p U:=ab;clear lW;generalize pa p U=v at*;go_wp2;go_ret;exact jw rfl bW.o al
  ·obtain rfl:U=n:=ab;have qy:=zE p U;by_cases gV:eQ p U=1
   ·obtain⟨r,hr,iz⟩:=(Ga p U).1 gV
    have hT:ag (∀ l:List Nat,oi p l->r∈l->(∀ y∈l,Has p l y)->(l.length=U↔cH p)):=λl be hm has=>by
     have e:=b6.o;have:=qbU (p:=p) ab ab (λx hx=>by rw[e]at hx⊢;exact b8.o x hx) ab (λx hx=>iz x ab) be hm has;rwa [e]at this
    have iy:=(iz r hr).2 rfl;have b3:ag (∀ x,x<r->pa p x≠ -1):=λx hx h=>by have:=(iz x ab).1 h;omega
    rw[gV];have dv:=aa iy;clear hc iz iy gV qy b8;go_wp2_with fail
    refine(qbV (some ⟨b,off,none⟩) U c p (-1) r _ (HX.o.keep kr) hr dv.o b3.o).mono ?_;rintro e w2 ⟨rfl,k2⟩;have K2:=kr.call k2;go_wp2_with fail
    refine(qbT (some ⟨b,off,none⟩) U c p r _ h6 (HX.o.keep K2) hr dv.o).mono ?_;rintro e w3 ⟨l,⟨A3,c3,rfl,cT,k3⟩,be,hm,has⟩;have K3:=K2.call k3;have hl:ag (l.length=U↔cH p):=hT.o l be hm has;have hlen:l.length<=6:=by have:=be.len;rw[b6.o]at this;omega
    clear cT be hm has;generalize l.length=m at*;go_wp2;go_ret;refine⟨_,rfl,?_,K3⟩;rw[<- hl.o];simp;omega
   ·have bW:ag (¬cH p):=λh=>gV (by have:=((mZ p).1 h).2.2.2.1;rwa [b6.o]at this);have d:((eQ p U:Int)==1)=false:=by simp;omega
    clear gV hc;generalize eQ p U=r at*;go_wp2;go_ret;exact jw rfl bW.o al
def oj (n:Nat) (a:Int):Bool:=decide (0<=a)&&decide (a<n)
theorem zR (n:Nat) (a:Int):oj n a=true↔0<=a/\a<n:=by simp[oj]
theorem RS (A:Option Addr) (n c:Nat) (a:Int) (P:Nat) (w:World) (hn:n<=9223372036854775807) (ff:w.cell? ⟨P,0,none⟩=some (.slice A n c)):
  Calls Tryz.prog 258 #[.int .i64 a,.pointer (some ⟨P,0,none⟩)] w λe w'=>e= .returned (.bool (!oj n a))/\ad w w':=by
 rcases Int.lt_or_le a 0 with h0|h0
 ·have hb:ag (oj n a=false):=by unfold ag oj;simp;omega
  go_wp2;go_ret;exact⟨by rw[hb.o];rfl,al⟩
 ·rcases Int.lt_or_le a n with h1|h1
  ·have hb:ag (oj n a=true):=by unfold ag oj;simp;omega
   have d0:decide (a<0)=false:=by simp;omega
   have d:decide ((n:Int)<=a)=false:=by simp;omega
   go_wp2;go_ret;exact⟨by rw[hb.o];rfl,al⟩
  ·have hb:ag (oj n a=false):=by unfold ag oj;simp;omega
   have d:decide ((n:Int)<=a)=true:=by simp;omega
   go_wp2;go_ret;exact⟨by rw[hb.o];rfl,al⟩
def CL (n:Nat) (xs:List Int):Prop:=∀ i,i<xs.length->oj n (pa xs i)=true
theorem qbW (A:Option Addr) (n c:Nat) (P:Nat) (B:Option Addr) (m d:Nat) (xs:List Int) (w:World) (hn:n<=9223372036854775807) (ff:w.cell? ⟨P,0,none⟩=some (.slice A n c)) (hx:bo w B m d xs):
  Calls Tryz.prog 203 #[.slice B m d,.func (.func 258) #[] #[.pointer (some ⟨P,0,none⟩)]] w λe w'=>∃ r:Int,e= .returned (.int .i64 r)/\ -1<=r/\r<=m/\(r<0↔CL n xs)/\ad w w':=by
 have hm:m<=9223372036854775807:=by have h1:=hx.2.1;have h2:=hx.2.2.1;unfold maxLen at h2;omega
 have HX:=aa hx;clear hx;go_wp2;go_loopw [8] (λiv wr=>∃ U:Nat,U<=m/\iv= .int .i64 U/\ad w wr/\ag (∀ i,i<U->oj n (pa xs i)=true)) (λiv _=>m-(intOf iv).toNat)
 case atStart=>exact⟨0,ab,rfl,al,λi hi=>ab⟩
 case round=>
  obtain⟨U,hj,rfl,kr,b8⟩:=hrel;by_cases an:U<m
  ·obtain⟨b,off,rfl,hc⟩:=HX.o.2.2.2.2 ab;have c1:wr.cell? ⟨b,off+U,none⟩=some (.int .i64 (pa xs U)):=kr.af (hc U an);have HV:ag (∃ v,v=pa xs U):=⟨_,rfl⟩;clear hc
   cases hv:oj n (pa xs U)
   ·have HB:=aa hv;clear hv;go_wp2_with fail
    refine(RS A n c (pa xs U) P wr hn (kr.af ff)).mono ?_;rintro e w2 ⟨rfl,k2⟩;have K2:=kr.call k2;rw[HB.o];go_wp2;go_ret;refine⟨_,rfl,ab,ab,⟨λh=>absurd h ab,λh=> ?_⟩,K2⟩;have:=h U (by rw[HX.o.1];exact an);rw[HB.o]at this
    cases this
   ·have xv:ag (∀ i,i<U+1->oj n (pa xs i)=true):=λi hi=>by
     rcases R6 i U with g|g
     ·exact b8.o i g
     ·obtain rfl:i=U:=ab;exact hv
    have HB:=aa hv;clear hv;go_wp2_with fail
    refine(RS A n c (pa xs U) P wr hn (kr.af ff)).mono ?_;rintro e w2 ⟨rfl,k2⟩;have K2:=kr.call k2;rw[HB.o];go_wp2;go_roundw
    case rel=>first|exact⟨U+1,ab,aA,K2,xv⟩|((repeat apply R7);exact⟨⟨U+1,ab,aA,K2,xv⟩,rfl⟩)
    case measure=>simp[intOf];omega
  ·obtain rfl:U=m:=ab;go_wp2;go_ret;exact⟨-1,rfl,ab,ab,⟨λ_ i hi=>b8.o i (by rw[HX.o.1]at hi;exact hi),λ_=>ab⟩,kr⟩
theorem qbX (A:Option Addr) (n c:Nat) (P:Nat) (B:Option Addr) (m d:Nat) (xs:List Int) (w:World) (hn:n<=9223372036854775807) (ff:w.cell? ⟨P,0,none⟩=some (.slice A n c)) (hx:bo w B m d xs):
  Calls Tryz.prog 142 #[.slice B m d,.func (.func 258) #[] #[.pointer (some ⟨P,0,none⟩)]] w (uJ (¬CL n xs) w):=by
 have HX:=aa hx;clear hx;go_in;go_wp2_with fail
 refine(qbW A n c P B m d xs w hn ff HX.o).mono ?_;rintro e w2 ⟨r,rfl,h1,h2,h3,k2⟩;have H3:=aa h3;clear h3;go_wp2;go_ret;refine⟨_,rfl,?_,k2⟩;rw[<- H3.o];simp
theorem RT (A:Option Addr) (n c:Nat) (p:List Int) (B:Option Addr) (m d:Nat) (xs:List Int) (w:World) (hp:bo w A n c p) (hx:bo w B m d xs):
  Calls Tryz.prog 204 #[.slice A n c,.slice B m d] w (uJ (cH p/\CL n xs) w):=by
 have hn:n<=9223372036854775807:=by have h1:=hp.2.1;have h2:=hp.2.2.1;unfold maxLen at h2;omega
 have iS:∀ fn first cap w,(Instr.makeFunc fn first cap).run Tryz.prog w= .ok (.func fn first cap) w:=λ_ _ _ _=>rfl
 have HX:=aa hx;have HP:=aa hp;clear hx hp;go_in;go_wp2_with fail
 refine(RR A n c p _ (HP.o.keep al)).mono ?_;rintro e w2 ⟨C,rfl,hC,k2⟩;have HC:=aa hC;have ff:w2.cell? ⟨w.heap.size,0,none⟩=some (.slice A n c):=k2.af (by go_simp);have K2:ad w w2:=ad.call al k2;clear hC
 cases C
 ·go_wp2;go_ret;exact jw rfl (λh=>by have:=HC.o.2 h.1;cases this) K2
 ·have ht:ag (cH p):=HC.o.1 rfl;go_wp2_with fail
  refine(qbX A n c w.heap.size B m d xs _ hn ff (HX.o.keep K2)).mono ?_;rintro e w3 ⟨D,rfl,ja,k3⟩;have K3:=K2.call k3;have HD:=aa ja;clear ja
  cases D
  ·go_wp2;go_ret;exact JS rfl ⟨ht.o,Classical.byContradiction λh=>by have:=HD.o.2 h;cases this⟩ K3
  ·go_wp2;go_ret;exact jw rfl (λh=>(HD.o.1 ao) h.2) K3
theorem qbY (w:World) (x:Int) (b:Nat) (h:w.cell? ⟨b,0,none⟩=some (.int .i64 x)):bo w (some ⟨b,0,none⟩) 1 1 [x]:=
 ⟨rfl,CP _,by unfold maxLen;omega,(λh=>by cases h),λ_=>⟨_,0,rfl,λi hi=>by
  obtain rfl:i=0:=ab;exact h⟩⟩
theorem qbZ (w:World) (x y:Int) (b:Nat) (h:w.cell? ⟨b,0,none⟩=some (.int .i64 x)) (h2:w.cell? ⟨b,1,none⟩=some (.int .i64 y)):bo w (some ⟨b,0,none⟩) 2 2 [x,y]:=
 ⟨rfl,CP _,by unfold maxLen;omega,(λh=>by cases h),λ_=>⟨_,0,rfl,λi hi=>by
  rcases i with _|_|i
  ·exact h
  ·exact h2
  ·omega⟩⟩
theorem RU (n:Nat) (x:Int):CL n [x]↔0<=x/\x<n:=by
 constructor
 ·intro h;exact(zR n x).1 (h 0 ao)
 ·intro h i hi;obtain rfl:i=0:=by simp at hi;exact hi
  exact(zR n x).2 h
theorem RW (n:Nat) (x y:Int):CL n [x,y]↔(0<=x/\x<n)/\(0<=y/\y<n):=by
 constructor
 ·intro h;exact⟨(zR n x).1 (h 0 ao),(zR n y).1 (h 1 ao)⟩
 ·rintro⟨h1,h2⟩ i hi;rcases i with _|_|i
  ·exact(zR n x).2 h1
  ·exact(zR n y).2 h2
  ·simp at hi;omega
end Go.Proofs.YtehaoggjlciobaaGreat

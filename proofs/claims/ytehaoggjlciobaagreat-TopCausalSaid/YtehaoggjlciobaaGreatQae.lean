/- Part 3 of 40. -/
import Derived.Test.YtehaoggjlciobaaGreatQac
import Derived.Lib.SliceRun
set_option linter.all false
set_option maxRecDepth 20000
set_option maxHeartbeats 16000000
namespace Go.Proofs.YtehaoggjlciobaaGreat
open Go.RowKit Go.Proofs.Tryz
variable {U base c i k n:Nat} {p:Prop} {e:TypeId} {w:World}
theorem Rw.flat {α:Type} {f:α->List Value} {b off:Nat} {l:List α} (h:Rw w e k f (.slice (some ⟨b,off,none⟩) n c) l) (hf:∀ a,(f a).length=k) (hk:0<k):
  n=l.length/\∀ U u,(l.flatMap f)[U]? =some u->w.cell? ((⟨b,off,none⟩:Addr).add U)=some u:=by
 have hn:n=l.length:=by obtain⟨A,c',hv,_⟩:=h;injection hv
 refine⟨hn,λU u hu=> ?_⟩;have hj:U<l.length*k:=by have:=(bg hu);rwa [eF hf]at this
 have hi:U/k<l.length:=(Nat.div_lt_iff_lt_mul hk).2 hj;obtain⟨nY,qj,hA,_,hc⟩:=h.af (vF hi);injection hA with hA;injection hA with h1 h2 _;subst h1 h2;have hm:U%k<(f l[U/k]).length:=by rw[hf];exact Nat.mod_lt _ hk
 have h3:=rV hf l (U/k) _ (vF hi) (U%k) _ (vF hm);have h4:=hc (U%k) _ (vF hm);have h5:U/k*k+U%k=U:=by rw[Nat.mul_comm];exact Nat.div_add_mod U k
 rw[h5,hu]at h3;injection h3 with h3;rw[show off+U/k*k+U%k=off+U by omega,<- h3]at h4;have e:((⟨b,off,none⟩:Addr).add U)=⟨b,off+U,none⟩:=by simp[Addr.add]
 rw[e];exact h4
theorem uP:(prog.info? 60).map (λi=>(i.zero,i.size,i.bytes))=some (some (.agg #[.string ⟨#[]⟩,.int .i64 0,.int .i64 0]),3,32):=av
theorem ql:(prog.info? 48).map (λi=>(i.zero,i.size,i.bytes))=some (some (.agg #[.string ⟨#[]⟩,.string ⟨#[]⟩,.bool false,.int .i64 0,.int .i64 0,.slice none 0 0]),6,80):=av
theorem FN:(prog.info? 166).map (λi=>(i.zero,i.size,i.bytes))=some (some (.agg #[.int .i64 0,.slice none 0 0]),2,32):=av
theorem B4:(prog.info? 9).map (λi=>(i.zero,i.size,i.bytes))=some (some (.string ⟨#[]⟩),1,16):=av
theorem J5:(prog.info? 3).map (λi=>(i.zero,i.size,i.bytes))=some (some (.int .i64 0),1,8):=av
structure El {α:Type} (CF:α->List Value) (K TE SL B:Nat) (Z:Value):Prop where
 len:∀ a,(CF a).length=K
 one:∀ l:List α,∀ u∈l.flatMap CF,u.oneCell'=true
 pos:0<K
 zj:prog.underlying SL=some (.slice TE)
 inf:(prog.info? TE).map (λi=>(i.zero,i.size,i.bytes))=some (some Z,K,B)
 zer:(Value.cells Z).size=K
 bx:B<=80
def zk {α:Type} (F K TE:Nat) (CF:α->List Value):Prop:=∀ (v:Value) (l:List α) (w:World),Rw w TE K CF v l->l.length<=1000000000000->
  Calls prog F #[v] w λe w'=>∃ v',e= .returned v'/\w'.ownsRow w.heap.size TE K v' l.length (l.flatMap CF)/\ad w w'
theorem zm {α:Type} {CF:α->List Value} {K TE SL B:Nat} {Z v:Value} {l:List α} (E:El CF K TE SL B Z) (hv:Rw w TE K CF v l):
  (v= .slice none 0 0/\l=[])∨∃ b off n c xs,v= .slice (some ⟨b,off,none⟩) n c/\l.length=n/\n<=c/\c<=9223372036854775807/\l.flatMap CF=xs/\xs.length=n*K/\(∀ u∈xs,u.oneCell'=true)/\
   (w.alloc (.cells #[] TE)).ownsRow w.heap.size TE K (.slice (some ⟨w.heap.size,0,none⟩) 0 0) 0 []/\ag (∀ U u,xs[U]? =some u->(w.alloc (.cells #[] TE)).cell? ((⟨b,off,none⟩:Addr).add U)=some u):=by
 obtain⟨A,c,rfl,bl,bQ⟩:=hv.form
 cases A with
 |none=>
  obtain⟨A,c',lP,_,_,h3,_⟩:=hv;injection lP with h1 h2 h4;subst h1;obtain⟨rfl,h5⟩:=h3 rfl;subst h4 h5;exact .inl ⟨rfl,rfl⟩
 |some p=>
  obtain⟨b,off,rfl⟩:∃ b off,p=⟨b,off,none⟩:=by
   obtain⟨A,c',lP,_,_,_,h4⟩:=hv;injection lP with h1 h2 h3;obtain⟨b,off,cur,hA,_⟩:=h4 p h1.symm;exact⟨b,off,hA⟩
  exact .inr ⟨b,off,_,c,_,rfl,rfl,bl,bQ,rfl,eF E.len l,E.one l,BK w TE [] 0 K ao ak,λU u hu=>((ad.refl w).alloc _).af ((hv.flat E.len E.pos).2 U u hu)⟩
theorem B8:El aS 3 60 46 32 (.agg #[.string ⟨#[]⟩,.int .i64 0,.int .i64 0]):=⟨gT,J1,ak,underlying46,uP,rfl,ak⟩
theorem FO:zk 148 3 60 aS:=by
 intro v l w hv hb;rcases zm B8 hv with ⟨rfl,rfl⟩|⟨b,off,n,c,xs,rfl,hn,bl,bQ,bP,hl,h1,bA,H2⟩
 ·have hq:=λW=>Lib.run_eql_slice_nil (P:=prog) W 46 60 none 0 0 0 0 underlying46;go_wp2;go_ret;exact⟨_,rfl,qcb _ _ _ _,al⟩
 ·rw[hn]at hb⊢;rw[bP];clear hv hn bP;obtain⟨i0,hi,a7,aY,aW⟩:=ql0 uP;have hq:=λW=>Lib.run_eql_slice_nil (P:=prog) W 46 60 (some ⟨b,off,none⟩) n c 0 0 underlying46;go_in;go_wp2_with (at_builtin;refine wpList_append_own _ rfl _ _ 46 rfl w.heap.size 60 i0 (.agg #[.string ⟨#[]⟩,.int .i64 0,.int .i64 0]) 3 32 underlying46 hi a7 aY aW rfl ak _ 0 [] rfl bA ⟨b,off,none⟩ n c xs rfl hl H2.o h1 (by unfold maxLen;omega) ab ao ?_;intro v3 w3 bE cD _)
  simp only[Nat.zero_add,List.nil_append]at bE;go_ret;exact⟨v3,rfl,bE,((ad.refl w).alloc _).grown cD (by intro g hg;have h9:some w.heap.size=some g:=hg;injection h9 with h9;exact Nat.le_of_eq h9)⟩
theorem B9:El a8 6 48 33 80 (.agg #[.string ⟨#[]⟩,.string ⟨#[]⟩,.bool false,.int .i64 0,.int .i64 0,.slice none 0 0]):=⟨gp,uO,ak,underlying33,ql,rfl,ak⟩
theorem FP:zk 251 6 48 a8:=by
 intro v l w hv hb;rcases zm B9 hv with ⟨rfl,rfl⟩|⟨b,off,n,c,xs,rfl,hn,bl,bQ,bP,hl,h1,bA,H2⟩
 ·have hq:=λW=>Lib.run_eql_slice_nil (P:=prog) W 33 48 none 0 0 0 0 underlying33;go_wp2;go_ret;exact⟨_,rfl,qcb _ _ _ _,al⟩
 ·rw[hn]at hb⊢;rw[bP];clear hv hn bP;obtain⟨i0,hi,a7,aY,aW⟩:=ql0 ql;have hq:=λW=>Lib.run_eql_slice_nil (P:=prog) W 33 48 (some ⟨b,off,none⟩) n c 0 0 underlying33;go_in;go_wp2_with (at_builtin;refine wpList_append_own _ rfl _ _ 33 rfl w.heap.size 48 i0 (.agg #[.string ⟨#[]⟩,.string ⟨#[]⟩,.bool false,.int .i64 0,.int .i64 0,.slice none 0 0]) 6 80 underlying33 hi a7 aY aW rfl ak _ 0 [] rfl bA ⟨b,off,none⟩ n c xs rfl hl H2.o h1 (by unfold maxLen;omega) ab ao ?_;intro v3 w3 bE cD _)
  simp only[Nat.zero_add,List.nil_append]at bE;go_ret;exact⟨v3,rfl,bE,((ad.refl w).alloc _).grown cD (by intro g hg;have h9:some w.heap.size=some g:=hg;injection h9 with h9;exact Nat.le_of_eq h9)⟩
theorem qaX:El bZ 2 63 27 32 (.agg #[.string ⟨#[]⟩,.string ⟨#[]⟩]):=⟨nZ,J2,ak,underlying27,rU,rfl,ak⟩
theorem FQ:zk 49 2 63 bZ:=by
 intro v l w hv hb;rcases zm qaX hv with ⟨rfl,rfl⟩|⟨b,off,n,c,xs,rfl,hn,bl,bQ,bP,hl,h1,bA,H2⟩
 ·have hq:=λW=>Lib.run_eql_slice_nil (P:=prog) W 27 63 none 0 0 0 0 underlying27;go_wp2;go_ret;exact⟨_,rfl,qcb _ _ _ _,al⟩
 ·rw[hn]at hb⊢;rw[bP];clear hv hn bP;obtain⟨i0,hi,a7,aY,aW⟩:=ql0 rU;have hq:=λW=>Lib.run_eql_slice_nil (P:=prog) W 27 63 (some ⟨b,off,none⟩) n c 0 0 underlying27;go_in;go_wp2_with (at_builtin;refine wpList_append_own _ rfl _ _ 27 rfl w.heap.size 63 i0 (.agg #[.string ⟨#[]⟩,.string ⟨#[]⟩]) 2 32 underlying27 hi a7 aY aW rfl ak _ 0 [] rfl bA ⟨b,off,none⟩ n c xs rfl hl H2.o h1 (by unfold maxLen;omega) ab ao ?_;intro v3 w3 bE cD _)
  simp only[Nat.zero_add,List.nil_append]at bE;go_ret;exact⟨v3,rfl,bE,((ad.refl w).alloc _).grown cD (by intro g hg;have h9:some w.heap.size=some g:=hg;injection h9 with h9;exact Nat.le_of_eq h9)⟩
theorem Ca:El gS 2 166 80 32 (.agg #[.int .i64 0,.slice none 0 0]):=⟨FJ,QE,ak,underlying80,FN,rfl,ak⟩
theorem QH:zk 163 2 166 gS:=by
 intro v l w hv hb;rcases zm Ca hv with ⟨rfl,rfl⟩|⟨b,off,n,c,xs,rfl,hn,bl,bQ,bP,hl,h1,bA,H2⟩
 ·have hq:=λW=>Lib.run_eql_slice_nil (P:=prog) W 80 166 none 0 0 0 0 underlying80;go_wp2;go_ret;exact⟨_,rfl,qcb _ _ _ _,al⟩
 ·rw[hn]at hb⊢;rw[bP];clear hv hn bP;obtain⟨i0,hi,a7,aY,aW⟩:=ql0 FN;have hq:=λW=>Lib.run_eql_slice_nil (P:=prog) W 80 166 (some ⟨b,off,none⟩) n c 0 0 underlying80;go_in;go_wp2_with (at_builtin;refine wpList_append_own _ rfl _ _ 80 rfl w.heap.size 166 i0 (.agg #[.int .i64 0,.slice none 0 0]) 2 32 underlying80 hi a7 aY aW rfl ak _ 0 [] rfl bA ⟨b,off,none⟩ n c xs rfl hl H2.o h1 (by unfold maxLen;omega) ab ao ?_;intro v3 w3 bE cD _)
  simp only[Nat.zero_add,List.nil_append]at bE;go_ret;exact⟨v3,rfl,bE,((ad.refl w).alloc _).grown cD (by intro g hg;have h9:some w.heap.size=some g:=hg;injection h9 with h9;exact Nat.le_of_eq h9)⟩
theorem qaY:El cd 1 9 34 16 (.string ⟨#[]⟩):=⟨jU,qaR,ak,underlying34,B4,rfl,ak⟩
theorem QJ:zk 97 1 9 cd:=by
 intro v l w hv hb;rcases zm qaY hv with ⟨rfl,rfl⟩|⟨b,off,n,c,xs,rfl,hn,bl,bQ,bP,hl,h1,bA,H2⟩
 ·have hq:=λW=>Lib.run_eql_slice_nil (P:=prog) W 34 9 none 0 0 0 0 underlying34;go_wp2;go_ret;exact⟨_,rfl,qcb _ _ _ _,al⟩
 ·rw[hn]at hb⊢;rw[bP];clear hv hn bP;obtain⟨i0,hi,a7,aY,aW⟩:=ql0 B4;have hq:=λW=>Lib.run_eql_slice_nil (P:=prog) W 34 9 (some ⟨b,off,none⟩) n c 0 0 underlying34;go_in;go_wp2_with (at_builtin;refine wpList_append_own _ rfl _ _ 34 rfl w.heap.size 9 i0 (.string ⟨#[]⟩) 1 16 underlying34 hi a7 aY aW rfl ak _ 0 [] rfl bA ⟨b,off,none⟩ n c xs rfl hl H2.o h1 (by unfold maxLen;omega) ab ao ?_;intro v3 w3 bE cD _)
  simp only[Nat.zero_add,List.nil_append]at bE;go_ret;exact⟨v3,rfl,bE,((ad.refl w).alloc _).grown cD (by intro g hg;have h9:some w.heap.size=some g:=hg;injection h9 with h9;exact Nat.le_of_eq h9)⟩
theorem qaZ:El cJ 1 3 22 8 (.int .i64 0):=⟨J3,QF,ak,underlying22,J5,rfl,ak⟩
theorem QK:zk 50 1 3 cJ:=by
 intro v l w hv hb;rcases zm qaZ hv with ⟨rfl,rfl⟩|⟨b,off,n,c,xs,rfl,hn,bl,bQ,bP,hl,h1,bA,H2⟩
 ·have hq:=λW=>Lib.run_eql_slice_nil (P:=prog) W 22 3 none 0 0 0 0 underlying22;go_wp2;go_ret;exact⟨_,rfl,qcb _ _ _ _,al⟩
 ·rw[hn]at hb⊢;rw[bP];clear hv hn bP;obtain⟨i0,hi,a7,aY,aW⟩:=ql0 J5;have hq:=λW=>Lib.run_eql_slice_nil (P:=prog) W 22 3 (some ⟨b,off,none⟩) n c 0 0 underlying22;go_in;go_wp2_with (at_builtin;refine wpList_append_own _ rfl _ _ 22 rfl w.heap.size 3 i0 (.int .i64 0) 1 8 underlying22 hi a7 aY aW rfl ak _ 0 [] rfl bA ⟨b,off,none⟩ n c xs rfl hl H2.o h1 (by unfold maxLen;omega) ab ao ?_;intro v3 w3 bE cD _)
  simp only[Nat.zero_add,List.nil_append]at bE;go_ret;exact⟨v3,rfl,bE,((ad.refl w).alloc _).grown cD (by intro g hg;have h9:some w.heap.size=some g:=hg;injection h9 with h9;exact Nat.le_of_eq h9)⟩
theorem FR {P:Program} (w:World) (t e ty:TypeId) (z:Value) (ht:P.underlying t=some (.slice e)) (hv:∀ w,(zeroValue e).run P w= .ok z w) (k:Nat) (hz:z.cells.size=k) (h1:∀ u∈z.cells.toList,u.oneCell'=true) (b qD n c:Nat) (hn:0<n)
  (hc:∀ U,U<n*k->(w.cell? ⟨b,qD+U,none⟩).isSome=true) (hf:∀ U,U<n*k->w.frozen? ⟨b,qD+U,none⟩=false):
  ∃ xs,(Builtin.clear_ #[t] ty #[.slice (some ⟨b,qD,none⟩) n c]).run P w= .ok (.tuple #[]) (w.setCells b qD xs):=by
 have hl:(Builtin.zeroCells z.cells n).toList.length=n*k:=by simp[Builtin.zeroCells,hz]
 have ho:∀ v∈(Builtin.zeroCells z.cells n).toList,v.oneCell'=true:=by
  intro v hv;obtain⟨U,hj⟩:=List.getElem?_of_mem hv;have an:U<n*k:=by rw[<- hl];exact(bg hj)
  have hk:0<k:=by rcases Nat.eq_zero_or_pos k with h|h;subst h;simp at an;exact h
  have hm:U%z.cells.size<z.cells.size:=Nat.mod_lt _ (by rw[hz];exact hk)
  have:v=z.cells[U%z.cells.size]:=by
   have h2:=(pi.1 hj).2;rw[<- h2];simp[Builtin.zeroCells];exact getElem!_pos z.cells _ hm
  rw[this];exact h1 _ (by rw[Array.mem_toList_iff];exact Array.getElem_mem hm)
 have aV:=run_storeCells_cells (P:=P) b qD (Builtin.zeroCells z.cells n).toList 0 w (by rw[hl];simpa using hc) (by rw[hl];simpa using hf) ho;simp only[Nat.add_zero]at aV;refine⟨(Builtin.zeroCells z.cells n).toList,?_⟩;obtain⟨m,rfl⟩:∃ m,n=m+1:=⟨n-1,ab⟩;simp[Builtin.clear_,run_underlying ht,hv,aV]
theorem zn {α:Type} {g:Nat} {f:α->List Value} {m:List α} (hf:∀ a,(f a).length=k) (h:w.ownsRow base e k (.slice (some ⟨g,0,none⟩) n c) n (m.flatMap f)) (i:Nat) (a:α) (hi:i<m.length):
  (w.setCells g (i*k) (f a)).ownsRow base e k (.slice (some ⟨g,0,none⟩) n c) n ((m.set i a).flatMap f):=by
 have gen:∀ (us xs:List Value) (qD:Nat) (w:World),w.ownsRow base e k (.slice (some ⟨g,0,none⟩) n c) n xs->∃ ys,ys.length=xs.length/\(w.setCells g qD us).ownsRow base e k (.slice (some ⟨g,0,none⟩) n c) n ys/\(∀ U,qD<=U->U<qD+us.length->U<xs.length->ys[U]? =us[U-qD]?)/\∀ U,U<qD∨qD+us.length<=U->ys[U]? =xs[U]? :=by
  intro us
  induction us with
  |nil=>exact λxs qD w h=>⟨xs,rfl,h,λU h1 h2=>by simp at h2;omega,λU _=>rfl⟩
  |cons u t ih=>
   intro xs qD w h;obtain⟨ys,h1,h2,h3,h4⟩:=ih (xs.set qD u) (qD+1) _ (h.stored qD u).1;refine⟨ys,by rw[h1,List.length_set],h2,λU J6 j2 FT=> ?_,λU hj=> ?_⟩
   ·rcases Nat.eq_or_lt_of_le J6 with e|e
    ·subst e;rw[h4 qD (.inl ab),List.getElem?_set_self FT];simp
    ·rw[h3 U ab (by simp at j2;omega) (by rw[List.length_set];exact FT),show U-qD=(U-(qD+1))+1 by omega];rfl
   ·rw[h4 U (by simp at hj;omega),List.getElem?_set_ne (by simp at hj;omega)]
 obtain⟨ys,h1,h2,h3,h4⟩:=gen (f a) (m.flatMap f) (i*k) w h;have gz:i*k+k<=m.length*k:=by rw[<- Nat.succ_mul];exact Nat.mul_le_mul_right k hi
 have he:ys=(m.set i a).flatMap f:=by
  apply List.ext_getElem?
  intro U;rcases R6 U (m.length*k)with hj|hj
  ·have hk:0<k:=by rcases Nat.eq_zero_or_pos k with h|h;subst h;simp at hj;exact h
   have hq:U/k<m.length:=(Nat.div_lt_iff_lt_mul hk).2 hj;have hr:U%k<k:=Nat.mod_lt _ hk;have h5:U/k*k+U%k=U:=by rw[Nat.mul_comm];exact Nat.div_add_mod U k
   have hl:(m.flatMap f).length=m.length*k:=eF hf m;by_cases uQ:U/k=i
   ·have hx:(m.set i a)[i]? =some a:=List.getElem?_set_self hi;have b3:U%k<(f a).length:=by rw[hf];exact hr
    have:=rV hf (m.set i a) i a hx (U%k) _ (vF b3);rw[show i*k+U%k=U by rw[<- uQ];exact h5]at this;rw[this,h3 U (by rw[<- uQ];omega) (by rw[hf,<- uQ];omega) (by rw[hl];exact hj),show U-i*k=U%k by rw[<- uQ];omega];exact vF b3
   ·have hx:(m.set i a)[U/k]? =m[U/k]? :=List.getElem?_set_ne ab;rw[vF hq]at hx;have hm:U%k<(f m[U/k]).length:=by rw[hf];exact hr
    have e1:=rV hf (m.set i a) (U/k) _ hx (U%k) _ (vF hm);have e2:=rV hf m (U/k) _ (vF hq) (U%k) _ (vF hm);rw[h5]at e1 e2
    rw[e1,h4 U (by
     rcases R6 U (i*k)with g|g
     ·exact .inl g
     ·refine .inr ?_;rw[hf];rcases R6 U (i*k+k)with g2|g2
      ·exfalso
       apply uQ
       rw[Nat.div_eq_iff hk];rw[Nat.mul_comm]at g g2;constructor <;>rw[Nat.mul_comm] <;>omega
      ·exact g2),e2]
  ·rw[List.getElem?_eq_none (by rw[h1,eF hf];exact hj),List.getElem?_eq_none (by rw[eF hf,List.length_set];exact hj)]
 rw[<- he];exact h2
inductive cK {α:Type} (Q:α->Bool->Prop):List α->List α->Prop
 |nil:cK Q [] []
 |keep {a:α} {l m:List α}:Q a false->cK Q l m->cK Q (a::l) (a::m)
 |drop {a:α} {l m:List α}:Q a true->cK Q l m->cK Q (a::l) m
theorem cK.sub {α:Type} {Q:α->Bool->Prop} {l m:List α} (h:cK Q l m):m.Sublist l:=by
 induction h with
 |nil=>exact .slnil
 |keep _ _ ih=>exact ih.cons_cons _
 |drop _ _ ih=>exact ih.cons _
theorem cK.app {α:Type} {Q:α->Bool->Prop} {l m l2 m2:List α} (h:cK Q l m) (k:cK Q l2 m2):cK Q (l++l2) (m++m2):=by
 induction h with
 |nil=>exact k
 |keep h _ ih=>exact .keep h ih
 |drop h _ ih=>exact .drop h ih
theorem cK.mem {α:Type} {Q:α->Bool->Prop} {l m:List α} (h:cK Q l m) {a:α} (ha:a∈l):a∈m∨Q a true:=by
 induction h with
 |nil=>cases ha
 |keep h _ ih=>
  rcases KX.1 ha with rfl|ha
  ·exact .inl (List.mem_cons_self ..)
  ·exact(ih ha).imp (zM _) id
 |drop h _ ih=>
  rcases KX.1 ha with rfl|ha
  ·exact .inr h
  ·exact ih ha
theorem cK.not {α:Type} {Q:α->Bool->Prop} {l m:List α} (h:cK Q l m) {a:α} (ha:a∈m):a∈l/\Q a false:=by
 induction h with
 |nil=>cases ha
 |keep h _ ih=>
  rcases KX.1 ha with rfl|ha
  ·exact⟨List.mem_cons_self ..,h⟩
  ·exact⟨zM _ (ih ha).1,(ih ha).2⟩
 |drop h _ ih=>exact⟨zM _ (ih ha).1,(ih ha).2⟩
theorem cK.all {α:Type} {Q:α->Bool->Prop}:∀ {l:List α},(∀ a∈l,Q a false)->cK Q l l
 |[],_=> .nil
 |a::t,h=> .keep (h a (List.mem_cons_self ..)) (cK.all λb hb=>h b (zM _ hb))
structure Dl {α:Type} (Q:α->Bool->Prop) (l:List α) (U i:Nat) (m:List α):Prop where
 len:m.length=l.length
 done:cK Q (l.take U) (m.take i)
 rest:∀ t,U<=t->m[t]? =l[t]?
theorem Dl.start {α:Type} {Q:α->Bool->Prop} (l:List α) (i:Nat) (x:α) (hx:l[i]? =some x) (hq:Q x true) (h:∀ U a,U<i->l[U]? =some a->Q a false):Dl Q l (i+1) i l:=⟨rfl,by
 have an:=(bg hx);rw[QI an,(pi.1 hx).2]
 have:=(cK.all (Q:=Q) (l:=l.take i) λa ha=>by
  obtain⟨U,hj⟩:=qcl.1 ha;have fD:U<i:=by have:=(bg hj);rw[qcd]at this;omega
  rw[qlY fD]at hj;exact h U a fD hj).app (cK.drop hq .nil)
 rwa [List.append_nil]at this,λ_ _=>rfl⟩
theorem Dl.skip {α:Type} {Q:α->Bool->Prop} {l m:List α} {a:α} (h:Dl Q l U i m) (ha:l[U]? =some a) (hq:Q a true):Dl Q l (U+1) i m:=
 ⟨h.len,by
  have an:=(bg ha);rw[QI an,(pi.1 ha).2];have:=h.done.app (cK.drop hq .nil);rwa [List.append_nil]at this,λt ht=>h.rest t ab⟩
theorem Dl.put {α:Type} {Q:α->Bool->Prop} {l m:List α} {a:α} (h:Dl Q l U i m) (fV:i<U) (ha:l[U]? =some a) (hq:Q a false):Dl Q l (U+1) (i+1) (m.set i a):=by
 have an:=(bg ha);have hl:=h.len;refine⟨by simp[hl],?_,λt ht=>by rw[List.getElem?_set_ne ab];exact h.rest t ab⟩;have hi:i<(m.set i a).length:=by simp;omega
 rw[QI hi,QI an,(pi.1 ha).2];simp only[List.getElem_set_self];rw[List.take_set_of_le (CP i)];exact h.done.app (.keep hq .nil)
theorem o6 {g:Nat} {w:World}:∀ (vs:List Value) (qD:Nat) (w':World),ah [g] w w'->ah [g] w (w'.setCells g qD vs)
 |[],_,_,h=>h
 |v::r,qD,w',h=>o6 r (qD+1) _ (h.setCell (.inl ao) v)
theorem QL {g:Nat} {e:TypeId}:∀ (vs:List Value) (qD:Nat) (w:World) (cur:Array Value),w.heap[g]? =some (.cells cur e (0,0))->∃ eX:Array Value,(w.setCells g qD vs).heap[g]? =some (.cells eX e (0,0))/\eX.size=cur.size/\∀ t,t<qD->eX[t]? =cur[t]?
 |[],_,_,cur,h=>⟨cur,h,rfl,λ_ _=>rfl⟩
 |v::r,qD,w,cur,h=>by
  obtain⟨eX,h1,h0,h2⟩:=QL r (qD+1) (w.setCell ⟨g,qD,none⟩ v) (cur.setIfInBounds qD v) (Ok w g qD cur e v h);exact⟨eX,h1,by rw[h0,Array.size_setIfInBounds],λt ht=>by rw[h2 t ab,Array.getElem?_setIfInBounds_ne ab]⟩
theorem QM {α:Type} {k:Nat} {f:α->List Value} (hf:∀ a,(f a).length=k):∀ (m:List α) (i:Nat),(m.take i).flatMap f=(m.flatMap f).take (i*k)
 |[],i=>ao
 |a::t,0=>ao
 |a::t,i+1=>by
  have h1:(f a).take ((i+1)*k)=f a:=qcc (by rw[hf,Nat.succ_mul];omega);rw[List.take_succ_cons,List.flatMap_cons,List.flatMap_cons,QM hf t i,List.take_append,h1,hf,show(i+1)*k-k=i*k by rw[Nat.succ_mul];omega]
theorem zo {α:Type} {g:Nat} {f:α->List Value} {m:List α} (hf:∀ a,(f a).length=k) (hk:0<k) (h:w.ownsRow base e k (.slice (some ⟨g,0,none⟩) n c) n (m.flatMap f)) (i:Nat) (hi:i<=n) (xs:List Value):
  (w.setCells g (i*k) xs).ownsRow base e k (.slice (some ⟨g,0,none⟩) i c) (m.take i).length ((m.take i).flatMap f):=by
 have hm:m.length=n:=by
  have:=h.1;rw[eF hf]at this;exact Nat.eq_of_mul_eq_mul_right hk this
 rcases h.2 with ⟨hv,_⟩|⟨g',cap,cur,hv,hg,hh,h1,h2,h3,h4⟩
 ·cases hv
 injection hv with e1 _ e3;injection e1 with e1;injection e1 with e1 _ _;subst e1 e3;obtain⟨eX,g1,g0,g2⟩:=QL xs (i*k) w cur hh;have hl:(m.take i).length=i:=by rw[qcd];omega
 refine⟨eF hf _,.inr ⟨g,c,eX,by rw[hl],hg,g1,ab,h2,by rw[g0,h3],?_⟩⟩;rw[hl,QM hf,<- h4,List.take_take,Nat.min_eq_left (Nat.mul_le_mul_right k hi)];apply List.ext_getElem?
 intro t;rcases R6 t (i*k)with ht|ht
 ·rw[qlY ht,qlY ht,Array.getElem?_toList,Array.getElem?_toList,g2 t ht]
 ·rw[List.getElem?_eq_none (by rw[qcd];omega),List.getElem?_eq_none (by rw[qcd];omega)]
theorem qa0 (w:World):(zeroValue 60).run prog w= .ok (.agg #[.string ⟨#[]⟩,.int .i64 0,.int .i64 0]) w:=av
theorem qa1 (w:World):(zeroValue 48).run prog w= .ok (.agg #[.string ⟨#[]⟩,.string ⟨#[]⟩,.bool false,.int .i64 0,.int .i64 0,.slice none 0 0]) w:=av
theorem qa2 (w:World):(zeroValue 9).run prog w= .ok (.string ⟨#[]⟩) w:=av
theorem J7 (h:p:=by
  first|exact⟨U+1,i+1,_,ab,ab,aA,aA,HP.o _ rfl mO.o,rW,by repeat(first|exact mP|refine ah.setCell ?_ (.inl ao) _),by simp[World.setCell];omega⟩|((repeat apply R7);exact⟨⟨U+1,i+1,_,ab,ab,aA,aA,HP.o _ rfl mO.o,rW,by repeat(first|exact mP|refine ah.setCell ?_ (.inl ao) _),by simp[World.setCell];omega⟩,rfl⟩)):p:=h
theorem J8 (h:p:=by
  first|exact⟨U+1,i,_,ab,ab,rfl,aA,HS.o _ rfl mO.o,dA,mP,ab⟩|((repeat apply R7);exact⟨⟨U+1,i,_,ab,ab,rfl,aA,HS.o _ rfl mO.o,dA,mP,ab⟩,rfl⟩)):p:=h
theorem QN (base:Nat) (v:Value) (l:List aD) (gf:Nat) (cb:Array Value) (Q:aD->Bool->Prop) (w:World) (dW:base<=w.heap.size) (ho:w.ownsRow base 60 3 v l.length (l.flatMap aS)) (hq:fI v.ownBlock.toList w gf cb (λd=> .agg #[.string d.key,.int .i64 d.n,.int .i64 d.s]) l Q):
  Calls prog 235 #[v,.func (.func gf) #[] cb] w λe w'=>∃ v' l',e= .returned v'/\w'.ownsRow base 60 3 v' l'.length (l'.flatMap aS)/\cK Q l l'/\ah v.ownBlock.toList w w':=by
 have bU:=Rw.bp ho gT ak;obtain⟨A,c,rfl,bl,bQ⟩:=bU.form;obtain⟨n,hn⟩:=eqQ l.length;have HO:=aa ho;have HR:=aa bU;have lO:=hq.1;have HQ:=aa hq;have HL:=aa hn;rw[hn]at HO HR HQ bl⊢;clear ho bU hq hn;go_in;go_wp2_with fail
 refine(J4 _ l gf cb Q _ HR.o _ HQ.o).mono ?_;rintro e w1 ⟨r,rfl,hr,k1⟩;rcases hr with ⟨rfl,hr⟩|⟨i0,x0,rfl,iu,kq,hr⟩
 ·have Cb:=aa (cK.all hr);clear hr;go_wp2;go_ret;exact⟨_,l,rfl,by rw[HL.o];exact ad.own HO.o k1,Cb.o,.ar k1⟩
 ·have Cc:i0<n:=by have:=(bg iu);have:=HL.o;omega
  obtain⟨g,lQ,fJ,o7,dm⟩:=uK HO.o ab
  cases fJ
  have kS:ag (∀ W,ah [g] w W->∀ a∈l,Calls prog gf (#[(λd=> .agg #[.string d.key,.int .i64 d.n,.int .i64 d.s]) a]++cb) W λe W'=>∃ b,e= .returned (.bool b)/\Q a b/\ad W W'):=HQ.o.2;have uR:((i0:Int)== -1)=false:=by first|(simp;done)|(simp;omega)
  have hV:=aa (Dl.start l i0 x0 iu kq hr);clear hr iu kq;go_wp2;go_loopw [5,6] (λiv jv wr=>∃ (U i:Nat) (m:List aD),U<=n/\i<U/\iv= .int .i64 i/\jv= .int .i64 U/\ag (Dl Q l U i m)/\ag (wr.ownsRow base 60 3 (.slice (some ⟨g,0,none⟩) n c) n (m.flatMap aS))/\ah [g] w wr/\g<wr.heap.size) (λ_ jv _=>n-(intOf jv).toNat)
  case atStart=>exact⟨i0+1,i0,l,ab,ab,rfl,aA,hV.o,ad.own HO.o k1,.ar k1,by have:=k1.size;omega⟩
  case round=>
   obtain⟨U,i,m,hj,fV,rfl,rfl,dM,ho,kb,hZ⟩:=hrel;have Cd:m.length=n:=by rw[dM.o.len,HL.o]
   by_cases an:U<n
   ·obtain⟨a,ha⟩:=exQ l U (by rw[HL.o];exact an);have uS:m[U]? =some a:=by rw[dM.o.rest U (CP _)];exact ha
    obtain⟨b2,gA,e2,_,hc⟩:=(Rw.bp ho.o gT ak).af uS
    cases e2
    have aV:=λq (hq:q<3)=>(ho.o.cellAt (i*3+q) ab).trans (vF (by rw[eF gT];omega));have f0:wr.frozen? ⟨g,i*3,none⟩=false:=ho.o.frozenAt _;have s0:=aV 0 ab;have f1:wr.frozen? ⟨g,i*3+1,none⟩=false:=ho.o.frozenAt _;have s1:=aV 1 ab;have f2:wr.frozen? ⟨g,i*3+2,none⟩=false:=ho.o.frozenAt _;have s2:=aV 2 ab;have HM:=aa (zV ha);have HP:ag (∀ x,x=a->Q x false->Dl Q l (U+1) (i+1) (m.set i a)):=λx hx h=>dM.o.put fV ha (hx▸h);have HS:ag (∀ x,x=a->Q x true->Dl Q l (U+1) i m):=λx hx h=>dM.o.skip ha (hx▸h);obtain⟨x0,x1,x2⟩:=a;obtain⟨c0,c1,c2⟩:=kQ hc
    (try simp only[Nat.zero_add,Nat.mul_one,Nat.add_zero]at*)
    clear hc ha uS aV dM;go_wp2_with fail
    refine(kS.o _ (kb.alloc _) _ HM.o).mono ?_;rintro e w2 ⟨Ce,rfl,mN,k2⟩;have mO:=aa mN;clear mN;have z0:w2.cell? ⟨wr.heap.size,0,none⟩=some (.string x0):=k2.af (by go_simp);have z1:w2.cell? ⟨wr.heap.size,1,none⟩=some (.int .i64 x1):=k2.af (by go_simp);have z2:w2.cell? ⟨wr.heap.size,2,none⟩=some (.int .i64 x2):=k2.af (by go_simp);have k2:ad wr w2:=ad.call al k2;have mP:ah [g] w w2:=kb.trans (.ar k2);have dA:=aa (ad.own ho.o k2);have aW:=k2.size;have f0:=(k2.frozen g (i*3) hZ).trans f0;have s0:=k2.af s0;have f1:=(k2.frozen g (i*3+1) hZ).trans f1;have s1:=k2.af s1;have f2:=(k2.frozen g (i*3+2) hZ).trans f2;have s2:=k2.af s2
    cases Ce
    ·have rW:ag (((((w2.setCell ⟨g,i*3,none⟩ (.string x0)).setCell ⟨g,i*3+1,none⟩ (.int .i64 x1)).setCell ⟨g,i*3+2,none⟩ (.int .i64 x2))).ownsRow base 60 3 (.slice (some ⟨g,0,none⟩) n c) n ((m.set i ⟨x0,x1,x2⟩).flatMap aS)):=by first|exact zn gT dA.o i ⟨x0,x1,x2⟩ ab|(have h:=zn gT dA.o i ⟨x0,x1,x2⟩ ab;simp only[Nat.mul_one]at h;exact h)
     go_wp2;go_roundw
     case rel=>exact J7
     case measure=>exact dY
    ·go_wp2;go_roundw
     case rel=>exact J8
     case measure=>exact dY
   ·obtain rfl:U=n:=ab
    obtain⟨xs,bL⟩:=FR wr 46 60 0 _ underlying46 qa0 3 rfl ak g (i*3) (U-i) (c-i) ab (λt ht=>by
     rw[ho.o.cellAt (i*3+t) ab,vF (by rw[eF gT];omega)];rfl) (λt ht=>ho.o.frozenAt (i*3+t))
    have zp:∀ ty,(Builtin.clear_ #[46] ty #[.slice (some ⟨g,i*3,none⟩) (U-i) (c-i)]).run prog wr= .ok (.tuple #[]) (wr.setCells g (i*3) xs):=λ_=>bL
    (try simp only[Nat.mul_one]at zp)
    clear bL;have wQ:=aa kb;have uT:=aa dM.o;go_wp2;go_ret;exact⟨.slice (some ⟨g,0,none⟩) i c,m.take i,rfl,(by first|exact zo gT ak ho.o i ab xs|simpa only[Nat.mul_one]using zo gT ak ho.o i ab xs),by have:=uT.o.done;rwa [qcc (l:=l) (by rw[HL.o];exact CP _)]at this,o6 _ _ _ wQ.o⟩
theorem QO (base:Nat) (v:Value) (l:List ax) (gf:Nat) (cb:Array Value) (Q:ax->Bool->Prop) (w:World) (dW:base<=w.heap.size) (ho:w.ownsRow base 48 6 v l.length (l.flatMap a8)) (hq:fI v.ownBlock.toList w gf cb (λv=> .agg #[.string v.key,.string v.val,.bool v.gone,.int .i64 v.n,.int .i64 v.s,.slice v.pa v.pn v.pc]) l Q):
  Calls prog 252 #[v,.func (.func gf) #[] cb] w λe w'=>∃ v' l',e= .returned v'/\w'.ownsRow base 48 6 v' l'.length (l'.flatMap a8)/\cK Q l l'/\ah v.ownBlock.toList w w':=by
 have bU:=Rw.bp ho gp ak;obtain⟨A,c,rfl,bl,bQ⟩:=bU.form;obtain⟨n,hn⟩:=eqQ l.length;have HO:=aa ho;have HR:=aa bU;have lO:=hq.1;have HQ:=aa hq;have HL:=aa hn;rw[hn]at HO HR HQ bl⊢;clear ho bU hq hn;go_in;go_wp2_with fail
 refine(FL _ l gf cb Q _ HR.o _ HQ.o).mono ?_;rintro e w1 ⟨r,rfl,hr,k1⟩;rcases hr with ⟨rfl,hr⟩|⟨i0,x0,rfl,iu,kq,hr⟩
 ·have Cb:=aa (cK.all hr);clear hr;go_wp2;go_ret;exact⟨_,l,rfl,by rw[HL.o];exact ad.own HO.o k1,Cb.o,.ar k1⟩
 ·have Cc:i0<n:=by have:=(bg iu);have:=HL.o;omega
  obtain⟨g,lQ,fJ,o7,dm⟩:=uK HO.o ab
  cases fJ
  have kS:ag (∀ W,ah [g] w W->∀ a∈l,Calls prog gf (#[(λv=> .agg #[.string v.key,.string v.val,.bool v.gone,.int .i64 v.n,.int .i64 v.s,.slice v.pa v.pn v.pc]) a]++cb) W λe W'=>∃ b,e= .returned (.bool b)/\Q a b/\ad W W'):=HQ.o.2;have uR:((i0:Int)== -1)=false:=by first|(simp;done)|(simp;omega)
  have hV:=aa (Dl.start l i0 x0 iu kq hr);clear hr iu kq;go_wp2;go_loopw [5,6] (λiv jv wr=>∃ (U i:Nat) (m:List ax),U<=n/\i<U/\iv= .int .i64 i/\jv= .int .i64 U/\ag (Dl Q l U i m)/\ag (wr.ownsRow base 48 6 (.slice (some ⟨g,0,none⟩) n c) n (m.flatMap a8))/\ah [g] w wr/\g<wr.heap.size) (λ_ jv _=>n-(intOf jv).toNat)
  case atStart=>exact⟨i0+1,i0,l,ab,ab,rfl,aA,hV.o,ad.own HO.o k1,.ar k1,by have:=k1.size;omega⟩
  case round=>
   obtain⟨U,i,m,hj,fV,rfl,rfl,dM,ho,kb,hZ⟩:=hrel;have Cd:m.length=n:=by rw[dM.o.len,HL.o]
   by_cases an:U<n
   ·obtain⟨a,ha⟩:=exQ l U (by rw[HL.o];exact an);have uS:m[U]? =some a:=by rw[dM.o.rest U (CP _)];exact ha
    obtain⟨b2,gA,e2,_,hc⟩:=(Rw.bp ho.o gp ak).af uS
    cases e2
    have aV:=λq (hq:q<6)=>(ho.o.cellAt (i*6+q) ab).trans (vF (by rw[eF gp];omega));have f0:wr.frozen? ⟨g,i*6,none⟩=false:=ho.o.frozenAt _;have s0:=aV 0 ab;have f1:wr.frozen? ⟨g,i*6+1,none⟩=false:=ho.o.frozenAt _;have s1:=aV 1 ab;have f2:wr.frozen? ⟨g,i*6+2,none⟩=false:=ho.o.frozenAt _;have s2:=aV 2 ab;have f3:wr.frozen? ⟨g,i*6+3,none⟩=false:=ho.o.frozenAt _;have s3:=aV 3 ab;have f4:wr.frozen? ⟨g,i*6+4,none⟩=false:=ho.o.frozenAt _;have s4:=aV 4 ab;have f5:wr.frozen? ⟨g,i*6+5,none⟩=false:=ho.o.frozenAt _;have zq:=aV 5 ab;have HM:=aa (zV ha);have HP:ag (∀ x,x=a->Q x false->Dl Q l (U+1) (i+1) (m.set i a)):=λx hx h=>dM.o.put fV ha (hx▸h);have HS:ag (∀ x,x=a->Q x true->Dl Q l (U+1) i m):=λx hx h=>dM.o.skip ha (hx▸h);obtain⟨x0,x1,x2,x3,x4,x5,x6,x7,x8⟩:=a;obtain⟨c0,c1,c2,c3,c4,c5⟩:=o5 hc
    (try simp only[Nat.zero_add,Nat.mul_one,Nat.add_zero]at*)
    clear hc ha uS aV dM;go_wp2_with fail
    refine(kS.o _ (kb.alloc _) _ HM.o).mono ?_;rintro e w2 ⟨Ce,rfl,mN,k2⟩;have mO:=aa mN;clear mN;have z0:w2.cell? ⟨wr.heap.size,0,none⟩=some (.string x0):=k2.af (by go_simp);have z1:w2.cell? ⟨wr.heap.size,1,none⟩=some (.string x1):=k2.af (by go_simp);have z2:w2.cell? ⟨wr.heap.size,2,none⟩=some (.bool x2):=k2.af (by go_simp);have z3:w2.cell? ⟨wr.heap.size,3,none⟩=some (.int .i64 x3):=k2.af (by go_simp);have z4:w2.cell? ⟨wr.heap.size,4,none⟩=some (.int .i64 x4):=k2.af (by go_simp);have z5:w2.cell? ⟨wr.heap.size,5,none⟩=some (.slice x5 x6 x7):=k2.af (by go_simp);have k2:ad wr w2:=ad.call al k2;have mP:ah [g] w w2:=kb.trans (.ar k2);have dA:=aa (ad.own ho.o k2);have aW:=k2.size;have f0:=(k2.frozen g (i*6) hZ).trans f0;have s0:=k2.af s0;have f1:=(k2.frozen g (i*6+1) hZ).trans f1;have s1:=k2.af s1;have f2:=(k2.frozen g (i*6+2) hZ).trans f2;have s2:=k2.af s2;have f3:=(k2.frozen g (i*6+3) hZ).trans f3;have s3:=k2.af s3;have f4:=(k2.frozen g (i*6+4) hZ).trans f4;have s4:=k2.af s4;have f5:=(k2.frozen g (i*6+5) hZ).trans f5;have zq:=k2.af zq
    cases Ce
    ·have rW:ag ((((((((w2.setCell ⟨g,i*6,none⟩ (.string x0)).setCell ⟨g,i*6+1,none⟩ (.string x1)).setCell ⟨g,i*6+2,none⟩ (.bool x2)).setCell ⟨g,i*6+3,none⟩ (.int .i64 x3)).setCell ⟨g,i*6+4,none⟩ (.int .i64 x4)).setCell ⟨g,i*6+5,none⟩ (.slice x5 x6 x7))).ownsRow base 48 6 (.slice (some ⟨g,0,none⟩) n c) n ((m.set i ⟨x0,x1,x2,x3,x4,x5,x6,x7,x8⟩).flatMap a8)):=by first|exact zn gp dA.o i ⟨x0,x1,x2,x3,x4,x5,x6,x7,x8⟩ ab|(have h:=zn gp dA.o i ⟨x0,x1,x2,x3,x4,x5,x6,x7,x8⟩ ab;simp only[Nat.mul_one]at h;exact h)
     go_wp2;go_roundw
     case rel=>exact J7
     case measure=>exact dY
    ·go_wp2;go_roundw
     case rel=>exact J8
     case measure=>exact dY
   ·obtain rfl:U=n:=ab
    obtain⟨xs,bL⟩:=FR wr 33 48 0 _ underlying33 qa1 6 rfl ak g (i*6) (U-i) (c-i) ab (λt ht=>by
     rw[ho.o.cellAt (i*6+t) ab,vF (by rw[eF gp];omega)];rfl) (λt ht=>ho.o.frozenAt (i*6+t))
    have zp:∀ ty,(Builtin.clear_ #[33] ty #[.slice (some ⟨g,i*6,none⟩) (U-i) (c-i)]).run prog wr= .ok (.tuple #[]) (wr.setCells g (i*6) xs):=λ_=>bL
    (try simp only[Nat.mul_one]at zp)
    clear bL;have wQ:=aa kb;have uT:=aa dM.o;go_wp2;go_ret;exact⟨.slice (some ⟨g,0,none⟩) i c,m.take i,rfl,(by first|exact zo gp ak ho.o i ab xs|simpa only[Nat.mul_one]using zo gp ak ho.o i ab xs),by have:=uT.o.done;rwa [qcc (l:=l) (by rw[HL.o];exact CP _)]at this,o6 _ _ _ wQ.o⟩
theorem QP (base:Nat) (v:Value) (l:List ByteArray) (gf:Nat) (cb:Array Value) (Q:ByteArray->Bool->Prop) (w:World) (dW:base<=w.heap.size) (ho:w.ownsRow base 9 1 v l.length (l.flatMap cd)) (hq:fI v.ownBlock.toList w gf cb (λs=> .string s) l Q):
  Calls prog 229 #[v,.func (.func gf) #[] cb] w λe w'=>∃ v' l',e= .returned v'/\w'.ownsRow base 9 1 v' l'.length (l'.flatMap cd)/\cK Q l l'/\ah v.ownBlock.toList w w':=by
 have bU:=Rw.bp ho jU ak;obtain⟨A,c,rfl,bl,bQ⟩:=bU.form;obtain⟨n,hn⟩:=eqQ l.length;have HO:=aa ho;have HR:=aa bU;have lO:=hq.1;have HQ:=aa hq;have HL:=aa hn;rw[hn]at HO HR HQ bl⊢;clear ho bU hq hn;go_in;go_wp2_with fail
 refine(QG _ l gf cb Q _ HR.o _ HQ.o).mono ?_;rintro e w1 ⟨r,rfl,hr,k1⟩;rcases hr with ⟨rfl,hr⟩|⟨i0,x0,rfl,iu,kq,hr⟩
 ·have Cb:=aa (cK.all hr);clear hr;go_wp2;go_ret;exact⟨_,l,rfl,by rw[HL.o];exact ad.own HO.o k1,Cb.o,.ar k1⟩
 ·have Cc:i0<n:=by have:=(bg iu);have:=HL.o;omega
  obtain⟨g,lQ,fJ,o7,dm⟩:=uK HO.o ab
  cases fJ
  have kS:ag (∀ W,ah [g] w W->∀ a∈l,Calls prog gf (#[(λs=> .string s) a]++cb) W λe W'=>∃ b,e= .returned (.bool b)/\Q a b/\ad W W'):=HQ.o.2;have uR:((i0:Int)== -1)=false:=by first|(simp;done)|(simp;omega)
  have hV:=aa (Dl.start l i0 x0 iu kq hr);clear hr iu kq;go_wp2;go_loopw [5,6] (λiv jv wr=>∃ (U i:Nat) (m:List ByteArray),U<=n/\i<U/\iv= .int .i64 i/\jv= .int .i64 U/\ag (Dl Q l U i m)/\ag (wr.ownsRow base 9 1 (.slice (some ⟨g,0,none⟩) n c) n (m.flatMap cd))/\ah [g] w wr/\g<wr.heap.size) (λ_ jv _=>n-(intOf jv).toNat)
  case atStart=>exact⟨i0+1,i0,l,ab,ab,rfl,aA,hV.o,ad.own HO.o k1,.ar k1,by have:=k1.size;omega⟩
  case round=>
   obtain⟨U,i,m,hj,fV,rfl,rfl,dM,ho,kb,hZ⟩:=hrel;have Cd:m.length=n:=by rw[dM.o.len,HL.o]
   by_cases an:U<n
   ·obtain⟨a,ha⟩:=exQ l U (by rw[HL.o];exact an);have uS:m[U]? =some a:=by rw[dM.o.rest U (CP _)];exact ha
    obtain⟨b2,gA,e2,_,hc⟩:=(Rw.bp ho.o jU ak).af uS
    cases e2
    have aV:=λq (hq:q<1)=>(ho.o.cellAt (i*1+q) ab).trans (vF (by rw[eF jU];omega));have f0:wr.frozen? ⟨g,i,none⟩=false:=ho.o.frozenAt _;have s0:=aV 0 ab;have HM:=aa (zV ha);have HP:ag (∀ x,x=a->Q x false->Dl Q l (U+1) (i+1) (m.set i a)):=λx hx h=>dM.o.put fV ha (hx▸h);have HS:ag (∀ x,x=a->Q x true->Dl Q l (U+1) i m):=λx hx h=>dM.o.skip ha (hx▸h);skip
    obtain c0:=iU hc
    (try simp only[Nat.zero_add,Nat.mul_one,Nat.add_zero]at*)
    clear hc ha uS aV dM;go_wp2_with fail
    refine(kS.o _ kb _ HM.o).mono ?_;rintro e w2 ⟨Ce,rfl,mN,k2⟩;have mO:=aa mN;clear mN;skip
    have k2:ad wr w2:=ad.call al k2;have mP:ah [g] w w2:=kb.trans (.ar k2);have dA:=aa (ad.own ho.o k2);have aW:=k2.size;have f0:=(k2.frozen g (i) hZ).trans f0;have s0:=k2.af s0
    cases Ce
    ·have rW:ag (((w2.setCell ⟨g,i,none⟩ (.string a))).ownsRow base 9 1 (.slice (some ⟨g,0,none⟩) n c) n ((m.set i a).flatMap cd)):=by first|exact zn jU dA.o i a ab|(have h:=zn jU dA.o i a ab;simp only[Nat.mul_one]at h;exact h)
     go_wp2;go_roundw
     case rel=>exact J7
     case measure=>exact dY
    ·go_wp2;go_roundw
     case rel=>exact J8
     case measure=>exact dY
   ·obtain rfl:U=n:=ab
    obtain⟨xs,bL⟩:=FR wr 34 9 0 _ underlying34 qa2 1 rfl ak g (i*1) (U-i) (c-i) ab (λt ht=>by
     rw[ho.o.cellAt (i*1+t) ab,vF (by rw[eF jU];omega)];rfl) (λt ht=>ho.o.frozenAt (i*1+t))
    have zp:∀ ty,(Builtin.clear_ #[34] ty #[.slice (some ⟨g,i*1,none⟩) (U-i) (c-i)]).run prog wr= .ok (.tuple #[]) (wr.setCells g (i*1) xs):=λ_=>bL
    (try simp only[Nat.mul_one]at zp)
    clear bL;have wQ:=aa kb;have uT:=aa dM.o;go_wp2;go_ret;exact⟨.slice (some ⟨g,0,none⟩) i c,m.take i,rfl,(by first|exact zo jU ak ho.o i ab xs|simpa only[Nat.mul_one]using zo jU ak ho.o i ab xs),by have:=uT.o.done;rwa [qcc (l:=l) (by rw[HL.o];exact CP _)]at this,o6 _ _ _ wQ.o⟩
end Go.Proofs.YtehaoggjlciobaaGreat

/- Part 4 of 40. -/
import Derived.Test.YtehaoggjlciobaaGreatQae
import Derived.Lib.Walk
import Derived.Lib.AppendZeros
import Derived.Lib.AppendZerosOnto
import Derived.Lib.Overlaps
import Derived.Laws.Externs
import Derived.Laws.IdiomCopy
import Derived.Laws.NewBlocks
import Derived.Shelf.Spec.SlicesInsert
set_option linter.all false
set_option maxRecDepth 20000
set_option maxHeartbeats 16000000
namespace Go.Proofs.YtehaoggjlciobaaGreat
open Go.Lib Go.RowKit Go.Proofs.Tryz
variable {cur:Array Value} {k:Nat} {e:TypeId} {w:World}
theorem FU {P:Program} (w:World) (QQ qa3 ty elem:TypeId) (k b qD J9 qa4:Nat) (a:Addr) (Ka qa5:Nat) (cs:List Value)
  (hu:P.underlying QQ=some (.slice elem)) (hs:(P.info? elem).map (·.size)=some k) (hn:cs.length=Nat.min Ka J9*k)
  (zr:∀ U v,cs[U]? =some v->w.cell? (a.add U)=some v) (hc:∀ U,U<cs.length->(w.cell? ⟨b,qD+U,none⟩).isSome=true) (hf:∀ U,U<cs.length->w.frozen? ⟨b,qD+U,none⟩=false) (h1:∀ v∈cs,v.oneCell'=true):
  (Builtin.copy_ #[QQ,qa3] ty #[.slice (some ⟨b,qD,none⟩) J9 qa4,.slice (some a) Ka qa5]).run P w= .ok (goInt (Nat.min Ka J9)) (w.setCells b qD cs):=by
 have hl:=run_loadCells_list (P:=P) w a cs zr;have aV:=run_storeCells_cells (P:=P) b qD cs 0 w (by simpa using hc) (by simpa using hf) h1
 cases hq:P.info? elem with
 |none=>simp[hq]at hs
 |some i=>
  have hi:i.size=k:=by simpa [hq]using hs
  simp[Builtin.copy_,run_underlying hu,Builtin.lenOf,Builtin.firstCells,sizeOf,typeInfo,hq,hi,<- hn,hl,aV]
theorem wR {g:Nat} {e:TypeId}:∀ (vs:List Value) (qD:Nat) (w:World) (cur:Array Value),w.heap[g]? =some (.cells cur e (0,0))->
  ∃ eX:Array Value,(w.setCells g qD vs).heap[g]? =some (.cells eX e (0,0))/\eX.size=cur.size/\(∀ t,t<qD∨qD+vs.length<=t->eX[t]? =cur[t]?)/\∀ t,t<vs.length->qD+t<cur.size->eX[qD+t]? =vs[t]?
 |[],_,_,cur,h=>⟨cur,h,rfl,λ_ _=>rfl,λt ht=>by simp at ht⟩
 |v::r,qD,w,cur,h=>by
  obtain⟨eX,h1,h0,h2,h3⟩:=wR r (qD+1) (w.setCell ⟨g,qD,none⟩ v) (cur.setIfInBounds qD v) (Ok w g qD cur e v h);refine⟨eX,h1,by simpa using h0,λt ht=>by rw[h2 t (by simp at ht;omega),Array.getElem?_setIfInBounds_ne (by simp at ht;omega)],λt ht hs=> ?_⟩
  cases t with
  |zero=>rw[h2 _ (.inl ab),Nat.add_zero,Array.getElem?_setIfInBounds_self_of_lt ab];rfl
  |succ t=>
   have:=h3 t (by simpa using ht) (by simp;omega);rw[show qD+(t+1)=qD+1+t by omega,this];rfl
theorem Cf {α:Type} {b c:Nat} {f:α->List Value} {l:List α} (hf:∀ a,(f a).length=k) (h:w.heap[b]? =some (.cells cur e (0,0))) (hc:∀ (t:Nat) u,(l.flatMap f)[t]? =some u->cur[t]? =some u) (h1:l.length<=c) (h2:c<=maxLen):
  Rw w e k f (.slice (some ⟨b,0,none⟩) l.length c) l:=
 ⟨_,c,rfl,h1,h2,(λh=>by cases h),λp hp=>⟨b,0,cur,by injection hp with hp;exact hp.symm,h,λi a hi U u hu=>by
  rw[Nat.zero_add];exact hc _ u (rV hf l i a hi U u hu)⟩⟩
theorem QR {α:Type} {f:α->List Value} (hf:∀ a,(f a).length=k) (l:List α) (i:Nat) (hi:i<=l.length) (a:α):
  (l.take i++a::l.drop i).flatMap f=(l.flatMap f).take (i*k)++f a++(l.flatMap f).drop (i*k):=by
 have e:l.flatMap f=(l.take i).flatMap f++(l.drop i).flatMap f:=by rw[<- List.flatMap_append,List.take_append_drop]
 have hl:((l.take i).flatMap f).length=i*k:=by rw[eF hf,qcd,Nat.min_eq_left hi]
 rw[e,List.take_left' hl,List.drop_left' hl];simp
theorem QS {g qD:Nat} {xs news:List Value} (h:w.heap[g]? =some (.cells cur e (0,0))) (ho:qD<=xs.length) (hn:news.length=k) (bu:xs.length+k<=cur.size) (hx:∀ (t:Nat) u,t<qD->xs[t]? =some u->cur[t]? =some u):
  (∃ eX:Array Value,((w.setCells g (qD+k) (xs.drop qD)).setCells g qD news).heap[g]? =some (.cells eX e (0,0))/\∀ (t:Nat) u,(xs.take qD++news++xs.drop qD)[t]? =some u->eX[t]? =some u)/\
  ∃ eX:Array Value,((w.setCells g qD news).setCells g (qD+k) (xs.drop qD)).heap[g]? =some (.cells eX e (0,0))/\∀ (t:Nat) u,(xs.take qD++news++xs.drop qD)[t]? =some u->eX[t]? =some u:=by
 have gq:(xs.take qD).length=qD:=by rw[qcd];omega
 have split:∀ (t:Nat) u,(xs.take qD++news++xs.drop qD)[t]? =some u->(t<qD/\xs[t]? =some u)∨(qD<=t/\t<qD+k/\news[t-qD]? =some u)∨(qD+k<=t/\t-(qD+k)<(xs.drop qD).length/\(xs.drop qD)[t-(qD+k)]? =some u):=by
  intro t u hu;rcases R6 t qD with h1|h1
  ·rw[List.append_assoc,qlZ ab,qlY h1]at hu;exact .inl ⟨h1,hu⟩
  ·rcases R6 t (qD+k)with h2|h2
   ·rw[qlZ (by rw[zH];omega),List.getElem?_append_right ab,gq]at hu;exact .inr (.inl ⟨h1,h2,hu⟩)
   ·rw[List.getElem?_append_right (by rw[zH];omega),zH,gq,hn]at hu;exact .inr (.inr ⟨h2,(bg hu),hu⟩)
 have hd:(xs.drop qD).length=xs.length-qD:=ql1;refine⟨?_,?_⟩
 ·obtain⟨c1,bj,a2,a3,a4⟩:=wR (xs.drop qD) (qD+k) w cur h;obtain⟨c2,b1,b2,ck,iV⟩:=wR news qD _ c1 bj;refine⟨c2,b1,λt u hu=> ?_⟩;rcases split t u hu with ⟨h1,h2⟩|⟨h1,h2,h3⟩|⟨h1,h2,h3⟩
  ·rw[ck t (.inl h1),a3 t (.inl ab)];exact hx t u h1 h2
  ·have:=iV (t-qD) ab ab;rw[show qD+(t-qD)=t by omega]at this;rw[this];exact h3
  ·rw[ck t (.inr ab)];have:=a4 (t-(qD+k)) h2 ab;rw[show qD+k+(t-(qD+k))=t by omega]at this;rw[this];exact h3
 ·obtain⟨c1,bj,a2,a3,a4⟩:=wR news qD w cur h;obtain⟨c2,b1,b2,ck,iV⟩:=wR (xs.drop qD) (qD+k) _ c1 bj;refine⟨c2,b1,λt u hu=> ?_⟩;rcases split t u hu with ⟨h1,h2⟩|⟨h1,h2,h3⟩|⟨h1,h2,h3⟩
  ·rw[ck t (.inl ab),a3 t (.inl h1)];exact hx t u h1 h2
  ·have:=a4 (t-qD) ab ab;rw[show qD+(t-qD)=t by omega]at this;rw[ck t (.inl h2),this];exact h3
  ·have:=iV (t-(qD+k)) h2 ab;rw[show qD+k+(t-(qD+k))=t by omega]at this;rw[this];exact h3
section
variable {α:Type} {CF:α->List Value} {K TE SL B:Nat} {Z:Value} {base g c i vb:Nat} {l:List α} {a:α} {w:World}
theorem El.FV (E:El CF K TE SL B Z):(prog.info? TE).map (·.size)=some K:=by
 obtain⟨i0,gr,a7,aY,aW⟩:=ql0 E.inf;rw[gr];simp[aY]
theorem El.szo (E:El CF K TE SL B Z) (w:World):(Go.sizeOf TE).run prog w= .ok K w:=by
 obtain⟨i0,gr,a7,aY,aW⟩:=ql0 E.inf;simp[Go.sizeOf,typeInfo,gr,aY]
def FW (F K TE:Nat) (CF:α->List Value):Prop:=∀ (base:Nat) (v:Value) (l:List α) (a:α) (i vb:Nat) (w:World),base<=w.heap.size->w.ownsRow base TE K v l.length (l.flatMap CF)->l.length<=1000000000000->i<=l.length->w.heap[vb]? =some (.cells (CF a).toArray TE (0,0))->
  Calls prog F #[v,.int .i64 i,.slice (some ⟨vb,0,none⟩) 1 1] w λe w'=>∃ v',e= .returned v'/\Rw w' TE K CF v' (l.take i++a::l.drop i)/\ah v.ownBlock.toList w w'
def FX (F K TE:Nat) (CF:α->List Value):Prop:=∀ (base:Nat) (v:Value) (l:List α) (a:α) (vb vc:Nat) (w:World),base<=w.heap.size->w.ownsRow base TE K v l.length (l.flatMap CF)->l.length<=1000000000000->(∀ (U:Nat) u,(CF a)[U]? =some u->w.cell? ⟨vb,U,none⟩=some u)->
  Calls prog F #[v,.int .i64 l.length,.slice (some ⟨vb,0,none⟩) 1 vc] w λe w'=>∃ v',e= .returned v'/\Rw w' TE K CF v' (l++[a])/\ah v.ownBlock.toList w w'
def FY (F K TE:Nat) (CF:α->List Value):Prop:=∀ (base g c:Nat) (l:List α) (a:α) (i vb:Nat) (w:World),w.ownsRow base TE K (.slice (some ⟨g,0,none⟩) l.length c) l.length (l.flatMap CF)->i<l.length->l.length+1<=c->vb≠g->w.heap[vb]? =some (.cells (CF a).toArray TE (0,0))->
  Calls prog F #[.slice (some ⟨g,0,none⟩) l.length c,.int .i64 i,.slice (some ⟨vb,0,none⟩) 1 1] w λe w'=>∃ v',e= .returned v'/\Rw w' TE K CF v' (l.take i++a::l.drop i)/\ah [g] w w'
def FZ (F K TE:Nat) (CF:α->List Value):Prop:=∀ (base g c:Nat) (l:List α) (a:α) (i vb:Nat) (w:World),w.ownsRow base TE K (.slice (some ⟨g,0,none⟩) l.length c) l.length (l.flatMap CF)->i<l.length->c<l.length+1->l.length<=1000000000000->vb<w.heap.size->w.heap[vb]? =some (.cells (CF a).toArray TE (0,0))->
  Calls prog F #[.slice (some ⟨g,0,none⟩) l.length c,.int .i64 i,.slice (some ⟨vb,0,none⟩) 1 1] w λe w'=>∃ v',e= .returned v'/\Rw w' TE K CF v' (l.take i++a::l.drop i)/\ad w w'
theorem Kb (E:El CF K TE SL B Z) {v:Value} (ho:w.ownsRow base TE K v l.length (l.flatMap CF)) (eh:∀ (U:Nat) u,(CF a)[U]? =some u->w.cell? ⟨vb,U,none⟩=some u):
  ∃ A c n xs ys,v= .slice A n c/\l.length=n/\ys.length=K/\(∀ u∈ys,u.oneCell'=true)/\n<=c/\c<=9223372036854775807/\ag (∀ (w':World) v',w'.ownsRow base TE K v' (n+1) (xs++ys)->Rw w' TE K CF v' (l++[a]))/\ag (w.ownsRow base TE K (.slice A n c) n xs)/\ag (∀ (U:Nat) u,ys[U]? =some u->w.cell? ((⟨vb,0,none⟩:Addr).add U)=some u):=by
 obtain⟨A,c,rfl,bl,bQ⟩:=(Rw.bp ho E.len E.pos).form
 exact⟨A,c,_,_,CF a,rfl,rfl,E.len a,λu hu=>E.one [a] u (by simpa using hu),bl,bQ,λw' v' h=>Rw.bp (n:=l.length+1) (by rw[List.flatMap_append];simpa using h) E.len E.pos,ho,λU u hu=>by
  rw[Addr.add_lit,Nat.zero_add];exact eh U u hu⟩
theorem Kc (E:El CF K TE SL B Z) (ho:w.ownsRow base TE K (.slice (some ⟨g,0,none⟩) l.length c) l.length (l.flatMap CF)) (hi:i<l.length) (fK:l.length+1<=c) (kT:vb≠g) (hv:w.heap[vb]? =some (.cells (CF a).toArray TE (0,0))):
  ∃ n xs ys,l.length=n/\c<=9223372036854775807/\
   ag (∀ BT lb cb,(Extern.SlicesOverlaps.overlaps #[SL,SL] #[BT] #[.slice (some ⟨vb,0,none⟩) 1 1,.slice (some ⟨g,(i+1)*K,none⟩) lb cb]).run prog w= .ok (.bool false) w)/\
   ag (∀ ty dz sc,(Builtin.copy_ #[SL,SL] ty #[.slice (some ⟨g,(i+1)*K,none⟩) (n-i) dz,.slice (some ⟨g,i*K,none⟩) (n+1-i) sc]).run prog w.drew= .ok (goInt ((n-i:Nat):Int)) (w.drew.setCells g ((i+1)*K) xs))/\
   ag (∀ ty dz,(Builtin.copy_ #[SL,SL] ty #[.slice (some ⟨g,i*K,none⟩) (n+1-i) dz,.slice (some ⟨vb,0,none⟩) 1 1]).run prog (w.drew.setCells g ((i+1)*K) xs)= .ok (goInt 1) ((w.drew.setCells g ((i+1)*K) xs).setCells g (i*K) ys))/\
   ag (Rw ((w.drew.setCells g ((i+1)*K) xs).setCells g (i*K) ys) TE K CF (.slice (some ⟨g,0,none⟩) (n+1) c) (l.take i++a::l.drop i)):=by
 obtain⟨A',c',qm,h1,h2,h3,h4⟩:=Rw.bp ho E.len E.pos;injection qm with e1 e2 e3;subst e1 e3;have fH:=QR E.len l i ab a;have dN:=eF E.len l;have lR:=E.one l;have ki:=E.len a;have qn:∀ u∈CF a,u.oneCell'=true:=λu hu=>E.one [a] u (by simpa using hu)
 have wT:∀ (U:Nat) u,(l.flatMap CF)[U]? =some u->w.cell? ⟨g,U,none⟩=some u:=λU u hu=>by
  rw[ho.cellAt U (by have:=(bg hu);omega)];exact hu
 obtain⟨cur,qo,fa⟩:∃ cur:Array Value,w.heap[g]? =some (.cells cur TE (0,0))/\cur.size=c*K:=by
  rcases ho.2 with ⟨h',_⟩|⟨g',kP,cur,h',_,hg,_,_,fa,_⟩
  ·cases h'
  ·injection h' with h5 h6 h7;injection h5 with h5;injection h5 with h5 _ _;subst h5 h7;exact⟨cur,hg,fa⟩
 obtain⟨xs,bP⟩:=eqQ (l.flatMap CF);obtain⟨ys,uU⟩:=eqQ (CF a);rw[bP]at lR fH dN wT;rw[uU]at fH hv ki qn;obtain⟨n,hn⟩:=eqQ l.length;have eO:(l.take i++a::l.drop i).length=n+1:=by simp;omega
 rw[hn]at dN hi fK;have uV:∀ U,w.frozen? ⟨g,U,none⟩=false:=λU=>aI qo U;have zt:∀ U,U<c*K->(w.cell? ⟨g,U,none⟩).isSome=true:=λU hj=>by rw[aE qo,Ht ab];rfl
 have tf:∀ (U:Nat) u,ys[U]? =some u->w.cell? ⟨vb,U,none⟩=some u:=λU u hu=>by rw[aE hv];simpa using hu
 have eq:(i+1)*K=i*K+K:=Nat.succ_mul i K;have er:i*K+(n-i)*K=n*K:=by rw[<- Nat.add_mul];congr 1;omega
 have F0:n*K+K<=c*K:=by rw[<- Nat.succ_mul];exact Nat.mul_le_mul_right K fK
 have hp:=E.pos;have mQ:=(QS (w:=w.drew) (k:=K) (news:=ys) (show w.drew.heap[g]? =_ from qo) (show i*K<=xs.length by omega) ki ab (λt u _ hu=>by rw[<- aE qo];exact wT t u hu)).1;have kt:(xs.drop (i*K)).length=(n-i)*K:=by rw[ql1,dN];omega
 refine⟨n,xs.drop (i*K),ys,hn,h2,λBT lb cb=>Lib.run_overlaps_apart w SL BT TE E.zj K E.szo ⟨vb,0,none⟩ ⟨g,(i+1)*K,none⟩ 1 1 lb cb kT TE TE ys.length (c*K) (by simp[World.shape?,hv]) (by simp[World.shape?,qo,fa]) ab (aI hv _) (aI hv _),λty dz sc=> ?_,λty dz=> ?_,?_⟩
 ·have hm:Nat.min (n+1-i) (n-i)=n-i:=by simp only[Nat.min_def];split <;>omega
  have:=FU (P:=prog) w.drew SL SL ty TE K g ((i+1)*K) (n-i) dz ⟨g,i*K,none⟩ (n+1-i) sc (xs.drop (i*K)) E.zj E.FV (by rw[hm,kt])
   (λU v hj=>by rw[Addr.add_lit];exact wT _ v (by rwa [List.getElem?_drop]at hj))
   (λU hj=>zt _ ab) (λU hj=>uV _) (λv hv=>lR v (List.mem_of_mem_drop hv))
  rw[hm]at this;exact this
 ·have hm:Nat.min 1 (n+1-i)=1:=by simp only[Nat.min_def];split <;>omega
  have:=FU (P:=prog) (w.drew.setCells g ((i+1)*K) (xs.drop (i*K))) SL SL ty TE K g (i*K) (n+1-i) dz ⟨vb,0,none⟩ 1 1 ys E.zj E.FV (by rw[hm,ki,Nat.one_mul])
   (λU v hj=>by rw[Addr.add_lit,World.cell?_setCells_out g _ _ _ _ (λh _=>absurd h kT),Nat.zero_add];exact tf U v hj)
   (λU hj=>World.isSome_setCells g _ _ w.drew _ (zt _ ab)) (λU hj=>by rw[World.frozen?_setCells];exact uV _) qn
  rw[hm]at this;exact this
 ·obtain⟨eX,g1,g2⟩:=mQ;rw[<- eO,eq];exact Cf E.len g1 (by rw[fH];exact g2) (by rw[eO];exact fK) h2
theorem Kd (E:El CF K TE SL B Z) (ho:w.ownsRow base TE K (.slice (some ⟨g,0,none⟩) l.length c) l.length (l.flatMap CF)) (hi:i<l.length) (fK:c<l.length+1) (fL:l.length<=1000000000000) (o8:vb<w.heap.size) (hv:w.heap[vb]? =some (.cells (CF a).toArray TE (0,0))):
  ∃ n xs ys G dX,l.length=n/\n<=c/\n+1<=G/\G<=9223372036854775807/\g<w.heap.size/\
   (∀ ty,(Builtin.append_ #[SL,3] ty #[.slice (some ⟨g,0,none⟩) i c,.int .i64 ((n:Int)+1-(i:Int))]).run prog w= .ok (.slice (some ⟨w.heap.size,0,none⟩) (n+1) G) (w.drew.alloc (.cells dX TE)))/\
   ag (∀ ty dz,(Builtin.copy_ #[SL,SL] ty #[.slice (some ⟨w.heap.size,i*K,none⟩) (n+1-i) dz,.slice (some ⟨vb,0,none⟩) 1 1]).run prog (w.alloc (.cells dX TE)).drew= .ok (goInt 1) ((w.alloc (.cells dX TE)).drew.setCells w.heap.size (i*K) ys))/\
   ag (∀ ty dz sc,(Builtin.copy_ #[SL,SL] ty #[.slice (some ⟨w.heap.size,(i+1)*K,none⟩) (n-i) dz,.slice (some ⟨g,i*K,none⟩) (n-i) sc]).run prog ((w.alloc (.cells dX TE)).drew.setCells w.heap.size (i*K) ys).drew= .ok (goInt ((n-i:Nat):Int)) (((w.alloc (.cells dX TE)).drew.setCells w.heap.size (i*K) ys).drew.setCells w.heap.size ((i+1)*K) xs))/\
   ag (Rw (((w.alloc (.cells dX TE)).drew.setCells w.heap.size (i*K) ys).drew.setCells w.heap.size ((i+1)*K) xs) TE K CF (.slice (some ⟨w.heap.size,0,none⟩) (n+1) G) (l.take i++a::l.drop i)):=by
 have fH:=QR E.len l i ab a;have dN:=eF E.len l;have lR:=E.one l;have eP:=(ho.lt g rfl).2;have kU:l.length<=c:=by obtain⟨A',c',qm,h1,h2,_⟩:=Rw.bp ho E.len E.pos;injection qm with _ _ e3;omega
 have ki:=E.len a;have qn:∀ u∈CF a,u.oneCell'=true:=λu hu=>E.one [a] u (by simpa using hu)
 have wT:∀ (U:Nat) u,(l.flatMap CF)[U]? =some u->w.cell? ⟨g,U,none⟩=some u:=λU u hu=>by
  rw[ho.cellAt U (by have:=(bg hu);omega)];exact hu
 obtain⟨xs,bP⟩:=eqQ (l.flatMap CF);obtain⟨ys,uU⟩:=eqQ (CF a);rw[bP]at lR fH dN wT;rw[uU]at fH hv ki qn;obtain⟨n,hn⟩:=eqQ l.length;have eO:(l.take i++a::l.drop i).length=n+1:=by simp;omega
 rw[hn]at dN hi fK fL kU;have tf:∀ (U:Nat) u,ys[U]? =some u->w.cell? ⟨vb,U,none⟩=some u:=λU u hu=>by rw[aE hv];simpa using hu
 have eq:(i+1)*K=i*K+K:=Nat.succ_mul i K;have er:i*K+(n-i)*K=n*K:=by rw[<- Nat.add_mul];congr 1;omega
 have en:(n+1)*K=n*K+K:=Nat.succ_mul n K;have hp:=E.pos;have hB:=E.bx;obtain⟨i0,gr,a7,wU,rX⟩:=ql0 E.inf
 have hold:(Builtin.firstCells i0.size i (.slice (some ⟨g,0,none⟩) i c)).run prog w.drew= .ok (xs.take (i*K)).toArray w.drew:=by
  rw[wU]
  exact run_firstCells_some w.drew K i ⟨g,0,none⟩ i c (xs.take (i*K)) (by rw[qcd];omega) (λU v hj=>by
   rw[Addr.add_lit,Nat.zero_add];rw[List.getElem?_take]at hj;split at hj
   ·exact wT U v hj
   ·cases hj)
 have Cg:∀ m,(Builtin.zeroCells (Value.cells Z) m).size=m*K:=λm=>by simp[Builtin.zeroCells,E.zer]
 obtain⟨G,hG⟩:=eqR (grownCap w (n+1) c TE);obtain⟨dX,wV⟩:∃ dX:Array Value,dX=(xs.take (i*K)).toArray++Builtin.zeroCells (Value.cells Z) (n+1-i)++Builtin.zeroCells (Value.cells Z) (G-(n+1)):=⟨_,rfl⟩
 have qp:∀ ty,(Builtin.append_ #[SL,3] ty #[.slice (some ⟨g,0,none⟩) i c,.int .i64 ((n:Int)+1-(i:Int))]).run prog w=
   .ok (.slice (some ⟨w.heap.size,0,none⟩) (n+1) G) (w.drew.alloc (.cells dX TE)):=λty=>by
  have h:=Lib.run_append_grow_zeros w SL 3 ty TE i0 _ .i64 .i64 E.zj underlying3 gr a7 (some ⟨g,0,none⟩) i c (xs.take (i*K)) hold (n+1-i) ab ab ab ab (by rw[rX];exact qcg (Nat.mul_le_mul_left _ hB) ab) (by rw[rX,show i+(n+1-i)=n+1 by omega];exact qcg (Nat.mul_le_mul_left _ hB) (growslice_fits fK ab));rw[show i+(n+1-i)=n+1 by omega]at h;rw[show(n:Int)+1-(i:Int)=((n+1-i:Nat):Int)by omega,hG,wV,hG];exact h
 have zu:n+1<=G:=by rw[hG];exact grownCap_ge w _ _ _
 have wW:G<=maxLen:=by rw[hG];exact grownCap_le_maxLen w (n+1) c TE (by unfold maxLen;omega)
 have hRl:(n+1)*K<=dX.size:=by
  have e1:(n+1-i)*K+i*K=(n+1)*K:=by rw[<- Nat.add_mul];congr 1;omega
  rw[wV,Array.size_append,Array.size_append,Cg,Cg,List.size_toArray,qcd];omega
 have hRx:∀ (t:Nat) u,t<i*K->xs[t]? =some u->dX[t]? =some u:=λt u ht hu=>by
  rw[wV,Array.append_assoc,Array.getElem?_append_left (by simp;omega)];simp[ht,hu]
 have bR:(w.alloc (.cells dX TE)).heap[w.heap.size]? =some (.cells dX TE (0,0)):=yY w _;have hN:∀ U,U<(n+1)*K->((w.alloc (.cells dX TE)).cell? ⟨w.heap.size,U,none⟩).isSome=true:=λU hj=>by rw[aE bR,Ht ab];rfl
 have QT:∀ U,(w.alloc (.cells dX TE)).frozen? ⟨w.heap.size,U,none⟩=false:=λU=>aI bR U;have wX:ad w (w.alloc (.cells dX TE)):=(ad.refl w).alloc _;have kt:(xs.drop (i*K)).length=(n-i)*K:=by rw[ql1,dN];omega
 refine⟨n,xs.drop (i*K),ys,G,dX,hn,kU,zu,wW,eP,qp,λty dz=> ?_,λty dz sc=> ?_,?_⟩
 ·have hm:Nat.min 1 (n+1-i)=1:=by simp only[Nat.min_def];split <;>omega
  have:=FU (P:=prog) (w.alloc (.cells dX TE)).drew SL SL ty TE K w.heap.size (i*K) (n+1-i) dz ⟨vb,0,none⟩ 1 1 ys E.zj E.FV (by rw[hm,ki,Nat.one_mul])
   (λU v hj=>by rw[Addr.add_lit,Nat.zero_add];exact wX.af (tf U v hj))
   (λU hj=>hN _ ab) (λU hj=>QT _) qn
  rw[hm]at this;exact this
 ·have hm:Nat.min (n-i) (n-i)=n-i:=by simp only[Nat.min_def];split <;>omega
  have:=FU (P:=prog) ((w.alloc (.cells dX TE)).drew.setCells w.heap.size (i*K) ys).drew SL SL ty TE K w.heap.size ((i+1)*K) (n-i) dz ⟨g,i*K,none⟩ (n-i) sc (xs.drop (i*K)) E.zj E.FV (by rw[hm,kt])
   (λU v hj=>by
    show World.cell? ((w.alloc (.cells dX TE)).drew.setCells w.heap.size (i*K) ys) _=_
    rw[Addr.add_lit,World.cell?_setCells_out w.heap.size _ _ _ _ (λh _=>absurd (show g=w.heap.size from h) ab)];exact wX.af (wT _ v (by rwa [List.getElem?_drop]at hj)))
   (λU hj=>World.isSome_setCells w.heap.size _ _ (w.alloc (.cells dX TE)).drew _ (hN _ ab)) (λU hj=>by show World.frozen? ((w.alloc (.cells dX TE)).drew.setCells w.heap.size (i*K) ys) _=_;rw[World.frozen?_setCells];exact QT _) (λv hv=>lR v (List.mem_of_mem_drop hv))
  rw[hm]at this;exact this
 ·obtain⟨eX,g1,g2⟩:=(QS (k:=K) (news:=ys) (w:=((w.alloc (.cells dX TE)).drew)) (yY w (.cells dX TE)) (show i*K<=xs.length by omega) ki ab hRx).2;have g1:(((w.alloc (.cells dX TE)).drew.setCells w.heap.size (i*K) ys).drew.setCells w.heap.size ((i+1)*K) (xs.drop (i*K))).heap[w.heap.size]? =some (.cells eX TE (0,0)):=by rw[eq,<- drew_setCells];exact g1
  rw[<- eO];exact Cf E.len g1 (by rw[fH];exact g2) (by rw[eO];exact zu) wW
theorem Ke (E:El CF K TE SL B Z) {F:Nat} (mR:FX F K TE CF) (hS:FY F K TE CF) (hG:FZ F K TE CF):FW F K TE CF:=by
 intro base v l a i vb w dW ho hl hi hv;rcases R6 i l.length with h|h
 ·obtain⟨g,c,rfl,_,_⟩:=uK ho ab;rcases R6 c (l.length+1)with hc|hc
  ·exact(hG base g c l a i vb w ho h hc hl (aQ hv) hv).mono λe w' ⟨v',h1,h2,h3⟩=>⟨v',h1,h2,.ar h3⟩
  ·refine hS base g c l a i vb w ho h hc (λe=> ?_) hv;rcases ho.2 with ⟨h',_⟩|⟨g',kP,cur,h',_,hg,_,_,fa,_⟩
   ·cases h'
   ·injection h' with h5 h6 h7;injection h5 with h5;injection h5 with h5 _ _;subst h5 h7 e;rw[hg]at hv;injection hv with hv;injection hv with hv _ _;rw[hv]at fa;have h8:(CF a).toArray.size=K:=by simpa using E.len a
    have h9:K<c*K:=by have:=Nat.mul_le_mul_right K (show 2<=c by omega);have:=E.pos;omega
    omega
 ·obtain rfl:i=l.length:=ab;rw[qcc (CP _),List.drop_of_length_le (CP _)];exact mR base v l a vb 1 w dW ho hl (λU u hu=>by rw[aE hv];simpa using hu)
end
theorem qa6:FX 217 3 60 aS:=by
 intro base v l a vb vc w dW ho hl eh;obtain⟨A,c,n,xs,ys,rfl,hn,ki,qn,bl,bQ,HE,HO,HV⟩:=Kb B8 ho eh;rw[hn]at hl⊢;obtain⟨i0,hi,a7,aY,aW⟩:=ql0 uP;obtain⟨S,hS⟩:=eqQ ((Value.slice A n c).ownBlock);have HS:=aa hS;rw[hS];clear hS ho hn eh;go_in;go_wp2_with (at_builtin;refine wpList_append_own _ rfl _ _ 46 rfl base 60 i0 (.agg #[.string ⟨#[]⟩,.int .i64 0,.int .i64 0]) 3 32 underlying46 hi a7 aY aW rfl ak _ n xs rfl HO.o ⟨vb,0,none⟩ 1 vc ys rfl ki HV.o qn (by unfold maxLen;omega) ab dW ?_;intro v3 w3 bE cD _;have cD:w.grownBy w3 S:=(by rw[<- HS.o];exact cD))
 all_goals
  go_ret;exact⟨v3,rfl,HE.o w3 v3 bE,(ah.refl _ _).grown cD (λg hg=> .inl (Option.mem_toList.2 hg))⟩
theorem qa7:FY 217 3 60 aS:=by
 intro base g c l a i vb w ho hi fK kT hv;obtain⟨n,xs,ys,hn,Kf,Ci,Cj,Ck,HR⟩:=Kc B8 ho hi fK kT hv;rw[hn]at hi fK⊢;clear ho hn hv;have aW:¬((i:Int)=(n:Int)):=ab;have mS:¬(c:Int)<(n:Int)+1:=ab;have f':IntKind.i64.wrap ((i:Int)+1)=(i:Int)+1:=by rw[IntKind.wrap_i64];omega
 have lS:((i:Int)+1).toNat=i+1:=ab;have bG:¬(c=i+1):=ab;have dO:(i:Int)<=(n:Int)+1:=ab;have ga:¬(c=i):=ab;have c7:i<=n:=ab;have bD:(0:Int)<=(i:Int)+1:=ab;go_wp2
 have cE:∀ lb cb,(callFunc 267 #[.slice (some ⟨vb,0,none⟩) 1 1,.slice (some ⟨g,(i+1)*3,none⟩) lb cb]).run prog w= .ok (.value (.bool false)) w:=λlb cb=>by
  rw[run_callFunc_extern func267 av av av (e:=Extern.SlicesOverlaps.overlaps #[46,46] #[4]) av,Ci.o];rfl
 go_wp2_with (simp only[cE])
 clear cE;have mixed:prog.follows Departure.mixedOrders=true:=av;go_region_law_o (refine step_copy_runI rfl _ _ 46 46 rfl (.slice (some ⟨g,(i+1)*3,none⟩) (n-i) (c-(i+1))) (.slice (some ⟨g,i*3,none⟩) (n+1-i) (c-i)) (by simp[Act.eval,Act.put]) (by simp[Act.eval,Act.put]) (Cj.o 3 (c-(i+1)) (c-i)) ?_)
 have cz:=Ck.o;go_wp2;go_ret;exact⟨_,rfl,HR.o,o6 _ _ _ (o6 _ _ _ (ah.refl _ _).drew)⟩
theorem qa8:FZ 217 3 60 aS:=by
 intro base g c l a i vb w ho hi fK fL o8 hv;obtain⟨n,xs,ys,G,dX,hn,kU,zu,Kg,eP,qp,HA,HB,HR⟩:=Kd B8 ho hi fK fL o8 hv;rw[hn]at hi fK fL⊢;clear ho hn hv;have aW:¬((i:Int)=(n:Int)):=ab;have mS:(c:Int)<(n:Int)+1:=ab;have f':IntKind.i64.wrap ((i:Int)+1)=(i:Int)+1:=by rw[IntKind.wrap_i64];omega
 have lS:((i:Int)+1).toNat=i+1:=ab;have QU:¬(G=i):=ab;have QV:¬(G=i+1):=ab;have wY:¬(c=i):=ab;have dO:(i:Int)<=(n:Int):=ab;have c7:i<=n:=ab;have bD:(0:Int)<=(i:Int)+1:=ab;go_in;go_wp2_with (at_builtin;refine Lib.wpList_append_run _ rfl _ _ _ _ rfl _ _ rfl rfl _ _ (qp _) ?_)
 have ha:=HA.o;go_wp2_with (simp only[ha])
 clear ha;have mixed:prog.follows Departure.mixedOrders=true:=av;go_region_law_o (refine step_copy_runI rfl _ _ 46 46 rfl (.slice (some ⟨w.heap.size,(i+1)*3,none⟩) (n-i) (G-(i+1))) (.slice (some ⟨g,i*3,none⟩) (n-i) (c-i)) (by simp[Act.eval,Act.put]) (by simp[Act.eval,Act.put]) (HB.o 3 (G-(i+1)) (c-i)) ?_)
 go_wp2;go_ret;exact⟨_,rfl,HR.o,(below_setCells (CP _) _ _ _ (ad.drew (below_setCells (CP _) _ _ _ (((ad.refl w).alloc _).drew))))⟩
theorem qa9:FW 217 3 60 aS:=Ke B8 qa6 qa7 qa8
theorem qa':FX 282 6 48 a8:=by
 intro base v l a vb vc w dW ho hl eh;obtain⟨A,c,n,xs,ys,rfl,hn,ki,qn,bl,bQ,HE,HO,HV⟩:=Kb B9 ho eh;rw[hn]at hl⊢;obtain⟨i0,hi,a7,aY,aW⟩:=ql0 ql;obtain⟨S,hS⟩:=eqQ ((Value.slice A n c).ownBlock);have HS:=aa hS;rw[hS];clear hS ho hn eh;go_in;go_wp2_with (at_builtin;refine wpList_append_own _ rfl _ _ 33 rfl base 48 i0 (.agg #[.string ⟨#[]⟩,.string ⟨#[]⟩,.bool false,.int .i64 0,.int .i64 0,.slice none 0 0]) 6 80 underlying33 hi a7 aY aW rfl ak _ n xs rfl HO.o ⟨vb,0,none⟩ 1 vc ys rfl ki HV.o qn (by unfold maxLen;omega) ab dW ?_;intro v3 w3 bE cD _;have cD:w.grownBy w3 S:=(by rw[<- HS.o];exact cD))
 all_goals
  go_ret;exact⟨v3,rfl,HE.o w3 v3 bE,(ah.refl _ _).grown cD (λg hg=> .inl (Option.mem_toList.2 hg))⟩
theorem qba:FY 282 6 48 a8:=by
 intro base g c l a i vb w ho hi fK kT hv;obtain⟨n,xs,ys,hn,Kf,Ci,Cj,Ck,HR⟩:=Kc B9 ho hi fK kT hv;rw[hn]at hi fK⊢;clear ho hn hv;have aW:¬((i:Int)=(n:Int)):=ab;have mS:¬(c:Int)<(n:Int)+1:=ab;have f':IntKind.i64.wrap ((i:Int)+1)=(i:Int)+1:=by rw[IntKind.wrap_i64];omega
 have lS:((i:Int)+1).toNat=i+1:=ab;have bG:¬(c=i+1):=ab;have dO:(i:Int)<=(n:Int)+1:=ab;have ga:¬(c=i):=ab;have c7:i<=n:=ab;have bD:(0:Int)<=(i:Int)+1:=ab;go_wp2
 have cE:∀ lb cb,(callFunc 308 #[.slice (some ⟨vb,0,none⟩) 1 1,.slice (some ⟨g,(i+1)*6,none⟩) lb cb]).run prog w= .ok (.value (.bool false)) w:=λlb cb=>by
  rw[run_callFunc_extern func308 av av av (e:=Extern.SlicesOverlaps.overlaps #[33,33] #[4]) av,Ci.o];rfl
 go_wp2_with (simp only[cE])
 clear cE;have mixed:prog.follows Departure.mixedOrders=true:=av;go_region_law_o (refine step_copy_runI rfl _ _ 33 33 rfl (.slice (some ⟨g,(i+1)*6,none⟩) (n-i) (c-(i+1))) (.slice (some ⟨g,i*6,none⟩) (n+1-i) (c-i)) (by simp[Act.eval,Act.put]) (by simp[Act.eval,Act.put]) (Cj.o 3 (c-(i+1)) (c-i)) ?_)
 have cz:=Ck.o;go_wp2;go_ret;exact⟨_,rfl,HR.o,o6 _ _ _ (o6 _ _ _ (ah.refl _ _).drew)⟩
theorem qbb:FZ 282 6 48 a8:=by
 intro base g c l a i vb w ho hi fK fL o8 hv;obtain⟨n,xs,ys,G,dX,hn,kU,zu,Kg,eP,qp,HA,HB,HR⟩:=Kd B9 ho hi fK fL o8 hv;rw[hn]at hi fK fL⊢;clear ho hn hv;have aW:¬((i:Int)=(n:Int)):=ab;have mS:(c:Int)<(n:Int)+1:=ab;have f':IntKind.i64.wrap ((i:Int)+1)=(i:Int)+1:=by rw[IntKind.wrap_i64];omega
 have lS:((i:Int)+1).toNat=i+1:=ab;have QU:¬(G=i):=ab;have QV:¬(G=i+1):=ab;have wY:¬(c=i):=ab;have dO:(i:Int)<=(n:Int):=ab;have c7:i<=n:=ab;have bD:(0:Int)<=(i:Int)+1:=ab;go_in;go_wp2_with (at_builtin;refine Lib.wpList_append_run _ rfl _ _ _ _ rfl _ _ rfl rfl _ _ (qp _) ?_)
 have ha:=HA.o;go_wp2_with (simp only[ha])
 clear ha;have mixed:prog.follows Departure.mixedOrders=true:=av;go_region_law_o (refine step_copy_runI rfl _ _ 33 33 rfl (.slice (some ⟨w.heap.size,(i+1)*6,none⟩) (n-i) (G-(i+1))) (.slice (some ⟨g,i*6,none⟩) (n-i) (c-i)) (by simp[Act.eval,Act.put]) (by simp[Act.eval,Act.put]) (HB.o 3 (G-(i+1)) (c-i)) ?_)
 go_wp2;go_ret;exact⟨_,rfl,HR.o,(below_setCells (CP _) _ _ _ (ad.drew (below_setCells (CP _) _ _ _ (((ad.refl w).alloc _).drew))))⟩
theorem qbc:FW 282 6 48 a8:=Ke B9 qa' qba qbb
theorem qbd:FX 162 2 166 gS:=by
 intro base v l a vb vc w dW ho hl eh;obtain⟨A,c,n,xs,ys,rfl,hn,ki,qn,bl,bQ,HE,HO,HV⟩:=Kb Ca ho eh;rw[hn]at hl⊢;obtain⟨i0,hi,a7,aY,aW⟩:=ql0 FN;obtain⟨S,hS⟩:=eqQ ((Value.slice A n c).ownBlock);have HS:=aa hS;rw[hS];clear hS ho hn eh;go_in;go_wp2_with (at_builtin;refine wpList_append_own _ rfl _ _ 80 rfl base 166 i0 (.agg #[.int .i64 0,.slice none 0 0]) 2 32 underlying80 hi a7 aY aW rfl ak _ n xs rfl HO.o ⟨vb,0,none⟩ 1 vc ys rfl ki HV.o qn (by unfold maxLen;omega) ab dW ?_;intro v3 w3 bE cD _;have cD:w.grownBy w3 S:=(by rw[<- HS.o];exact cD))
 all_goals
  go_ret;exact⟨v3,rfl,HE.o w3 v3 bE,(ah.refl _ _).grown cD (λg hg=> .inl (Option.mem_toList.2 hg))⟩
theorem qbe:FY 162 2 166 gS:=by
 intro base g c l a i vb w ho hi fK kT hv;obtain⟨n,xs,ys,hn,Kf,Ci,Cj,Ck,HR⟩:=Kc Ca ho hi fK kT hv;rw[hn]at hi fK⊢;clear ho hn hv;have aW:¬((i:Int)=(n:Int)):=ab;have mS:¬(c:Int)<(n:Int)+1:=ab;have f':IntKind.i64.wrap ((i:Int)+1)=(i:Int)+1:=by rw[IntKind.wrap_i64];omega
 have lS:((i:Int)+1).toNat=i+1:=ab;have bG:¬(c=i+1):=ab;have dO:(i:Int)<=(n:Int)+1:=ab;have ga:¬(c=i):=ab;have c7:i<=n:=ab;have bD:(0:Int)<=(i:Int)+1:=ab;go_wp2
 have cE:∀ lb cb,(callFunc 226 #[.slice (some ⟨vb,0,none⟩) 1 1,.slice (some ⟨g,(i+1)*2,none⟩) lb cb]).run prog w= .ok (.value (.bool false)) w:=λlb cb=>by
  rw[run_callFunc_extern func226 av av av (e:=Extern.SlicesOverlaps.overlaps #[80,80] #[4]) av,Ci.o];rfl
 go_wp2_with (simp only[cE])
 clear cE;have mixed:prog.follows Departure.mixedOrders=true:=av;go_region_law_o (refine step_copy_runI rfl _ _ 80 80 rfl (.slice (some ⟨g,(i+1)*2,none⟩) (n-i) (c-(i+1))) (.slice (some ⟨g,i*2,none⟩) (n+1-i) (c-i)) (by simp[Act.eval,Act.put]) (by simp[Act.eval,Act.put]) (Cj.o 3 (c-(i+1)) (c-i)) ?_)
 have cz:=Ck.o;go_wp2;go_ret;exact⟨_,rfl,HR.o,o6 _ _ _ (o6 _ _ _ (ah.refl _ _).drew)⟩
theorem qbf:FZ 162 2 166 gS:=by
 intro base g c l a i vb w ho hi fK fL o8 hv;obtain⟨n,xs,ys,G,dX,hn,kU,zu,Kg,eP,qp,HA,HB,HR⟩:=Kd Ca ho hi fK fL o8 hv;rw[hn]at hi fK fL⊢;clear ho hn hv;have aW:¬((i:Int)=(n:Int)):=ab;have mS:(c:Int)<(n:Int)+1:=ab;have f':IntKind.i64.wrap ((i:Int)+1)=(i:Int)+1:=by rw[IntKind.wrap_i64];omega
 have lS:((i:Int)+1).toNat=i+1:=ab;have QU:¬(G=i):=ab;have QV:¬(G=i+1):=ab;have wY:¬(c=i):=ab;have dO:(i:Int)<=(n:Int):=ab;have c7:i<=n:=ab;have bD:(0:Int)<=(i:Int)+1:=ab;go_in;go_wp2_with (at_builtin;refine Lib.wpList_append_run _ rfl _ _ _ _ rfl _ _ rfl rfl _ _ (qp _) ?_)
 have ha:=HA.o;go_wp2_with (simp only[ha])
 clear ha;have mixed:prog.follows Departure.mixedOrders=true:=av;go_region_law_o (refine step_copy_runI rfl _ _ 80 80 rfl (.slice (some ⟨w.heap.size,(i+1)*2,none⟩) (n-i) (G-(i+1))) (.slice (some ⟨g,i*2,none⟩) (n-i) (c-i)) (by simp[Act.eval,Act.put]) (by simp[Act.eval,Act.put]) (HB.o 3 (G-(i+1)) (c-i)) ?_)
 go_wp2;go_ret;exact⟨_,rfl,HR.o,(below_setCells (CP _) _ _ _ (ad.drew (below_setCells (CP _) _ _ _ (((ad.refl w).alloc _).drew))))⟩
theorem qbg:FW 162 2 166 gS:=Ke Ca qbd qbe qbf
end Go.Proofs.YtehaoggjlciobaaGreat

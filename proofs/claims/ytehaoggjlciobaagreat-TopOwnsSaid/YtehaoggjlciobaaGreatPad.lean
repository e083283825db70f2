/- Part 4 of 53. -/
import Derived.Test.YtehaoggjlciobaaGreatPac
import Derived.Handy
import Derived.ArgAppend
set_option linter.all false
set_option maxRecDepth 20000
set_option maxHeartbeats 16000000
namespace Go.Proofs.YtehaoggjlciobaaGreat
open Go.RowKit
def hQ (rs:List Rg):List Value:=rs.flatMap λr=>[.string r.1,.string r.2]
theorem B0:∀ rs:List Rg,(hQ rs).length=rs.length*2
 |[]=>rfl
 |r::t=>by
  have:=B0 t;unfold hQ at this⊢;rw[List.flatMap_cons,qC,this];simp;omega
theorem JX (rs:List Rg) (r:Rg):hQ rs++[.string r.1,.string r.2]=hQ (rs++[r]):=by simp[hQ]
theorem Qx:∀ (rs:List Rg) (i:Nat),i<rs.length->(hQ rs)[i*2]? =some (.string (rg rs i).1)/\(hQ rs)[i*2+1]? =some (.string (rg rs i).2)
 |[],_,h=>by simp at h
 |r::t,0,_=>by simp[hQ,rg]
 |r::t,i+1,h=>by
  have:=Qx t i (by simpa using h);have e:hQ (r::t)= .string r.1:: .string r.2::hQ t:=by simp[hQ]
  rw[e,show(i+1)*2=i*2+1+1 by omega];simpa [rg]using this
theorem dL.bp {w:World} {base e:Nat} {v:Value} {n:Nat} {rs:List Rg} (h:w.ownsRow base e 2 v n (hQ rs)):∃ A c,v= .slice A n c/\dL w A n c rs:=by
 have hl:rs.length=n:=by have:=h.1;rw[B0]at this;omega
 rcases h.2 with ⟨rfl,h0⟩|⟨g,cap,cur,rfl,hb,hg,h1,h2,h3,h4⟩
 ·exact⟨none,0,by rw[h0],hl,ab,by unfold maxLen;omega,λ_=>⟨h0,rfl⟩,λh=>ab⟩
 ·refine⟨_,cap,rfl,hl,h1,h2,(λh=>by cases h),λh0=>⟨g,0,rfl,λi hi=> ?_⟩⟩;obtain⟨e1,e2⟩:=Qx rs i ab;rw[Nat.zero_add,h.cellAt (i*2) ab,h.cellAt (i*2+1) ab];exact⟨e1,e2⟩
theorem JY (w:World) (a b:Value) (t:TypeId):∀ (U:Nat) (u:Value),[a,b][U]? =some u->(w.alloc (.cells #[a,b] t)).cell? ((⟨w.heap.size,0,none⟩:Addr).add U)=some u:=by
 intro U u hu;have hg:(w.alloc (.cells #[a,b] t)).heap[w.heap.size]? =some (.cells #[a,b] t):=l5 _ _;have e:((⟨w.heap.size,0,none⟩:Addr).add U)=⟨w.heap.size,U,none⟩:=by unfold Addr.add;split <;>simp_all
 rw[e,cell_of_row _ _ U _ _ (0,0) hg];rcases U with _|_|U <;>simp at hu⊢ <;>exact hu
theorem rU:(Tryz.prog.info? 63).map (λi=>(i.zero,i.size,i.bytes))=some (some (.agg #[.string ⟨#[]⟩,.string ⟨#[]⟩]),2,32):=av
theorem aE {w:World} {g:Nat} {cs:Array Value} {t:TypeId} {fr:Nat×Nat} (h:w.heap[g]? =some (.cells cs t fr)) (i:Nat):w.cell? ⟨g,i,none⟩=cs[i]? :=cell_of_row w g i cs t fr h
theorem ap {w:World} {g:Nat} {cs:Array Value} {t:TypeId} {fr:Nat×Nat} {v:Value} (h:w.heap[g]? =some (.cells cs t fr)) (i:Nat) (hv:cs[i]? =some v:=by(simp only[List.getElem?_toArray,List.getElem?_cons_zero,List.getElem?_cons_succ];exact rfl)):w.cell? ⟨g,i,none⟩=some v:=by rw[cell_of_row w g i cs t fr h,hv]
theorem aI {w:World} {g:Nat} {cs:Array Value} {t:TypeId} (h:w.heap[g]? =some (.cells cs t (0,0))) (i:Nat):w.frozen? ⟨g,i,none⟩=false:=by simp[World.frozen?,h]
def Recv (w:World) (r:Nat) (n:Nat):Prop:=w.heap[r]? =some (.cells #[.int .i64 n] 145 (0,0))
theorem Recv.but {S:List Nat} {w w2:World} {r n:Nat} (h:Recv w r n) (hb:ah S w w2) (hn:r∉S):Recv w2 r n:=hb.heap h hn
theorem Recv.kept {w w2:World} {r n:Nat} (h:Recv w r n) (hb:ad w w2):Recv w2 r n:=hb.heap h
theorem Recv.lt {w:World} {r n:Nat} (h:Recv w r n):r<w.heap.size:=(aQ h)
theorem Qy (w:World):
  Calls Tryz.prog 52 #[] w λe w'=>e= .returned (.pointer (some ⟨w.heap.size,0,none⟩))/\ad w w'/\Recv w' w.heap.size 0:=by
 go_wp2;go_ret;exact⟨rfl,al,l5 w _⟩
theorem qaL (b n:Nat) (w:World) (hc:w.cell? ⟨b,0,none⟩=some (.int .i64 n)):
  Calls Tryz.prog 237 #[.pointer (some ⟨b,0,none⟩)] w λe w'=>e= .returned (.int .i64 n)/\ad w w':=by
 go_wp2;go_ret;exact⟨rfl,al⟩
theorem zi (r n:Nat) (w:World) (h:Recv w r n):
  Calls Tryz.prog 174 #[.pointer (some ⟨r,0,none⟩)] w λe w'=>e= .returned (.int .i64 n)/\ad w w':=by
 have hc:=aE h 0;have HH:=aa h;clear h;go_in;go_wp2_with (first|(go_at_call 237;refine(qaL _ n _ (by first|assumption|go_simp)).mono ?_;rintro e w1 ⟨rfl,bD⟩))
 go_ret;exact⟨rfl,al⟩
theorem qaM (r n:Nat) (q:Int) (d:ByteArray) (w:World) (h:Recv w r n) (hn:¬q=n):
  Calls Tryz.prog 175 #[.pointer (some ⟨r,0,none⟩),.agg #[.int .i64 q,.string d]] w λe w'=>e= .returned (.tuple #[.string ⟨#[]⟩,.bool false])/\ad w w':=by
 have hc:=aE h 0;have hr:=h.lt;have HH:=aa h;clear h;go_wp2;refine bz (λwB=>ad w wB/\wB.cell? ⟨r,0,none⟩=some (.int .i64 n)/\wB.cell? ⟨w.heap.size,0,none⟩=some (.int .i64 q)) λwB SS=> ?_;repeat refine DW.dt ?_
 refine DW.nl SS ?_;rintro wd hI ⟨ae,ai,aj⟩;go_wp2;go_ret2
 exact⟨rfl,al⟩
theorem qaN (r n:Nat) (d:ByteArray) (w:World) (h:Recv w r n) (hn:n<4611686018427387904):
  Calls Tryz.prog 175 #[.pointer (some ⟨r,0,none⟩),.agg #[.int .i64 n,.string d]] w λe w'=>e= .returned (.tuple #[.string d,.bool true])/\ah [r] w w'/\Recv w' r (n+1):=by
 have hc:=aE h 0;have cG:=aI h 0;have hr:=h.lt;have HH:=aa h;clear h;go_wp2;refine bz (λwB=>ad w wB/\wB.cell? ⟨r,0,none⟩=some (.int .i64 n)/\wB.cell? ⟨w.heap.size,0,none⟩=some (.int .i64 n)/\wB.cell? ⟨w.heap.size,1,none⟩=some (.string d)) λwB SS=> ?_;repeat refine DW.dt ?_
 refine DW.nl SS ?_;rintro wd hI ⟨ae,ai,aj,aq⟩;have hR:=HH.o.kept ae;have FH:=aI hR 0;have B1:=aa hR;clear hR HH hc cG;go_wp2;go_ret2
 refine⟨rfl,(ah.ar ae).setCell ao _,?_⟩;have:=B1.o;unfold Recv at this⊢;simp[World.setCell,Array.getElem?_modify,this]
theorem uL:(Tryz.prog.info? 238).map (λi=>(i.zero,i.size,i.bytes))=some (some (.agg #[.int .i64 0,.string ⟨#[]⟩]),2,24):=av
def pk:Nat->List ByteArray->List Value
 |_,[]=>[]
 |lo,d::r=> .int .i64 lo:: .string d::pk (lo+1) r
theorem Qz:∀ (lo:Nat) (ds:List ByteArray),(pk lo ds).length=ds.length*2
 |_,[]=>rfl
 |lo,d::r=>by simp only[pk,List.length_cons,Qz (lo+1) r];omega
theorem QA:∀ (lo:Nat) (ds:List ByteArray) (d:ByteArray),pk lo (ds++[d])=pk lo ds++[.int .i64 ((lo+ds.length:Nat):Int),.string d]
 |lo,[],d=>by simp[pk]
 |lo,a::r,d=>by simp only[List.cons_append,pk,QA (lo+1) r d,List.length_cons];rw[show lo+1+r.length=lo+(r.length+1)by omega]
theorem QB:∀ (lo:Nat) (ds:List ByteArray) (i:Nat),i<ds.length->(pk lo ds)[i*2]? =some (.int .i64 ((lo+i:Nat):Int))/\(pk lo ds)[i*2+1]? =some (.string (ds[i]?.getD ⟨#[]⟩))
 |lo,[],i,h=>by simp at h
 |lo,a::r,0,_=>by simp[pk]
 |lo,a::r,i+1,h=>by
  have:=QB (lo+1) r i (by simpa using h);rw[show(i+1)*2=i*2+1+1 by omega];simp only[pk,List.getElem?_cons_succ];rw[show lo+(i+1)=lo+1+i by omega];exact this
theorem QC:∀ (k lo:Nat) (ds:List ByteArray),k<=ds.length->(pk lo ds).drop (k*2)=pk (lo+k) (ds.drop k)
 |0,lo,ds,_=>ao
 |k+1,lo,[],h=>by simp at h
 |k+1,lo,a::r,h=>by
  rw[show(k+1)*2=k*2+1+1 by omega];simp only[pk,List.drop_succ_cons];rw[QC k (lo+1) r (by simpa using h),show lo+1+k=lo+(k+1)by omega]
theorem qaO (lo:Nat) (ds:List ByteArray):∀ u∈pk lo ds,u.oneCell'=true:=by
 induction ds generalizing lo with
 |nil=>intro u hu;cases hu
 |cons a r ih=>
  intro u hu;simp only[pk,KX]at hu;rcases hu with rfl|rfl|hu
  ·rfl
  ·rfl
  ·exact ih _ u hu
def td (w:World) (b:Nat):Prop:=∃ cur,w.heap[b]? =some (.cells cur 238 (0,0))
theorem td.but {S:List Nat} {w w2:World} {b:Nat} (h:td w b) (hb:ah S w w2) (hn:b∉S):td w2 b:=by
 obtain⟨cur,hc⟩:=h;exact⟨cur,hb.heap hc hn⟩
def jT (w:World) (G:Option Nat) (v:Value) (n:Nat) (xs:List Value):Prop:=
 (v= .slice none 0 0/\n=0/\G=none)∨∃ b off cap,v= .slice (some ⟨b,off,none⟩) n cap/\G=some b/\n<=cap/\cap<=maxLen/\xs.length=n*2/\
  (∀ U,U<cap*2->(w.cell? ⟨b,off+U,none⟩).isSome=true/\w.frozen? ⟨b,off+U,none⟩=false)/\(∀ U u,xs[U]? =some u->w.cell? ⟨b,off+U,none⟩=some u)/\td w b
theorem jT.but {S:List Nat} {w w2:World} {G:Option Nat} {v:Value} {n:Nat} {xs:List Value} (h:jT w G v n xs) (hb:ah S w w2) (hn:∀ g,G=some g->g∉S):jT w2 G v n xs:=by
 rcases h with h|⟨b,off,cap,hv,hG,h1,h2,h3,h4,h5,h6⟩
 ·exact .inl h
 ·refine .inr ⟨b,off,cap,hv,hG,h1,h2,h3,λU hj=> ?_,λU u hu=>hb.af (h5 U u hu) (hn b hG),h6.but hb (hn b hG)⟩;obtain⟨e1,e2⟩:=h4 U hj;obtain⟨u,hu⟩:=Option.isSome_iff_exists.1 e1;exact⟨by rw[hb.af hu (hn b hG)];rfl,by rw[hb.frozen (Aa w _ hu) (hn b hG)];exact e2⟩
def fZ (w:World) (s:Nat) (G:Option Nat) (lo:Nat) (ds:List ByteArray):Prop:=
 ∃ v,w.heap[s]? =some (.cells #[.int .i64 ((lo+ds.length:Nat):Int),v] 143 (0,0))/\jT w G v ds.length (pk lo ds)/\G≠some s/\(∀ g,G=some g->g<w.heap.size)
theorem fZ.but {S:List Nat} {w w2:World} {s:Nat} {G:Option Nat} {lo:Nat} {ds:List ByteArray} (h:fZ w s G lo ds) (hb:ah S w w2) (h1:s∉S) (hn:∀ g,G=some g->g∉S):fZ w2 s G lo ds:=by
 obtain⟨v,h2,h3,h4,h5⟩:=h;exact⟨v,hb.heap h2 h1,h3.but hb hn,h4,λg hg=>R4 (h5 g hg) hb.size⟩
theorem fZ.kept {w w2:World} {s:Nat} {G:Option Nat} {lo:Nat} {ds:List ByteArray} (h:fZ w s G lo ds) (hb:ad w w2):fZ w2 s G lo ds:=h.but (.ar (S:=[]) hb) ao ao
theorem fZ.lt {w:World} {s:Nat} {G:Option Nat} {lo:Nat} {ds:List ByteArray} (h:fZ w s G lo ds):s<w.heap.size:=by
 obtain⟨v,h2,_⟩:=h;exact(aQ h2)
theorem QD (w:World):
  Calls Tryz.prog 51 #[] w λe w'=>e= .returned (.pointer (some ⟨w.heap.size,0,none⟩))/\ad w w'/\fZ w' w.heap.size none 0 []:=by
 go_wp2;go_ret;exact⟨rfl,al,_,l5 w _,.inl ⟨rfl,rfl,rfl⟩,ao,ao⟩
theorem fZ.form {w:World} {s:Nat} {G:Option Nat} {lo:Nat} {ds:List ByteArray} (h:fZ w s G lo ds):∃ a c,w.cell? ⟨s,1,none⟩=some (.slice a ds.length c):=by
 obtain⟨v,h2,h3,_⟩:=h;have hc:=aE h2 1;rcases h3 with ⟨rfl,h4,_⟩|⟨b,off,cap,rfl,_⟩
 ·exact⟨none,0,by rw[h4];exact hc⟩
 ·exact⟨_,_,hc⟩
theorem qaP (s:Nat) (G:Option Nat) (lo:Nat) (ds:List ByteArray) (d:ByteArray) (w:World) (h:fZ w s G lo ds) (hf:8<=ds.length):
  Calls Tryz.prog 209 #[.pointer (some ⟨s,0,none⟩),.string d] w λe w'=>e= .returned (.tuple #[.agg #[.int .i64 0,.string ⟨#[]⟩],.int .i64 15])/\ad w w':=by
 obtain⟨a,c,hc⟩:=h.form;have hs:=h.lt;have HH:=aa h;clear h;generalize ds.length=n at hf hc;go_wp2;refine KV (v:= .tuple #[.agg #[.int .i64 0,.string ⟨#[]⟩],.int .i64 15]) (by simp[results,Tryz.results209,go_sem]) rfl ⟨rfl,?_⟩;exact al
theorem td.setCells {b:Nat}:∀ (vs:List Value) (o:Nat) (w:World),td w b->td (w.setCells b o vs) b
 |[],_,_,h=>h
 |v::r,o,w,⟨cur,h⟩=>td.setCells r (o+1) _ ⟨_,Ok w b o cur _ v h⟩
theorem jT.push {w:World} {b off n cap:Nat} {xs:List Value} (h:jT w (some b) (.slice (some ⟨b,off,none⟩) n cap) n xs) (x y:Value) (hc:n+1<=cap):
  jT (w.setCells b (off+n*2) [x,y]) (some b) (.slice (some ⟨b,off,none⟩) (n+1) cap) (n+1) (xs++[x,y]):=by
 rcases h with ⟨h,_⟩|⟨nY,qj,kP,hv,hG,h1,h2,h3,h4,h5,h6⟩
 ·cases h
 injection hv with ft cW wM;injection ft with ft;injection ft with e1 e2 _;subst e1 e2 wM
 have c7:∀ U,U < [x,y].length->(w.cell? ⟨b,off+n*2+U,none⟩).isSome=true:=λU hj=>by
  have:=(h4 (n*2+U) (by simp at hj;omega)).1;rwa [<- Nat.add_assoc]at this
 refine .inr ⟨b,off,cap,rfl,rfl,hc,h2,by simp[h3];omega,λU hj=> ?_,λU u hu=> ?_,h6.setCells _ _ _⟩
 ·rw[World.frozen?_setCells];exact⟨World.isSome_setCells b _ _ w _ (h4 U hj).1,(h4 U hj).2⟩
 ·rcases R6 U (n*2)with hj|hj
  ·rw[qlZ ab]at hu;rw[World.cell?_setCells_out b _ _ w _ (λ_ _=> .inl (by show off+U<off+n*2;omega))];exact h5 U u hu
  ·rw[List.getElem?_append_right ab,h3]at hu;obtain⟨an,wN⟩:=pi.1 hu;have:=World.cell?_setCells_in b [x,y] (off+n*2) w c7 (U-n*2) an;rw[show off+n*2+(U-n*2)=off+U by omega]at this;rw[this];exact congrArg some wN
theorem JZ {w:World} {g:Nat} {a b:Value} {t:TypeId} (h:w.heap[g]? =some (.cells #[a,b] t (0,0))):∀ (U:Nat) (u:Value),[a,b][U]? =some u->w.cell? ((⟨g,0,none⟩:Addr).add U)=some u:=by
 intro U u hu;have e:((⟨g,0,none⟩:Addr).add U)=⟨g,U,none⟩:=by simp[Addr.add];omega
 rw[e,aE h U,<- hu];exact List.getElem?_toArray
theorem J0 (a:Int) (d:ByteArray):∀ u∈[Value.int .i64 a,.string d],u.oneCell'=true:=by
 intro u hu;simp only[KX,List.not_mem_nil,or_false]at hu;rcases hu with rfl|rfl <;>rfl
theorem ah.setCells {w:World} (b o:Nat) (vs:List Value):ah [b] w (w.setCells b o vs):=by
 have hk:=World.keptBut_setCells b (may:=λ_=>True) vs o w (λ_ _=>trivial)
 have bu:∀ (vs:List Value) (o:Nat) (w:World),(w.setCells b o vs).heap.size=w.heap.size/\(w.setCells b o vs).tape=w.tape:=by
  intro vs
  induction vs with
  |nil=>intro o w;exact⟨rfl,rfl⟩
  |cons v r ih=>intro o w;have:=ih (o+1) (w.setCell ⟨b,o,none⟩ v);exact⟨by rw[World.setCells,this.1];simp,by rw[World.setCells,this.2];rfl⟩
 exact⟨hk.1,(bu vs o w).2,hk.2.1,by rw[(bu vs o w).1];exact CP _,λk hk hn=>World.heap_setCells_other w b o vs hk (by simpa using hn)⟩
theorem jT.bp {w:World} {base e n:Nat} {v:Value} {xs:List Value} (he:e=238) (h:w.ownsRow base e 2 v n xs):jT w v.ownBlock v n xs/\∀ g,v.ownBlock=some g->base<=g/\g<w.heap.size:=by
 refine⟨?_,h.lt⟩;rcases h.2 with ⟨rfl,rfl⟩|⟨g,cap,cur,rfl,hb,hg,h1,h2,h3,h4⟩
 ·exact .inl ⟨rfl,rfl,rfl⟩
 ·refine .inr ⟨g,0,cap,rfl,rfl,h1,h2,h.1,λU hj=>⟨?_,?_⟩,λU u hu=> ?_,⟨cur,by rw[hg,he]⟩⟩
  ·rw[aE hg,Nat.zero_add,qci ab];rfl
  ·exact aI hg _
  ·have hj:U<n*2:=by have:=(bg hu);rw[h.1]at this;exact this
   rw[Nat.zero_add,h.cellAt U hj,hu]
theorem qaQ {P:Program} (w:World) {ops:Array Oper} {rest:List Oper} {o:Oper} {a:Act} {Q:Exit->Act->World->Prop} (hg:o.guard=none) (s x:Operand) (t:TypeId)
  (uM:o.op=Op.call {callee:=Callee.builtin Builtin.append,args:= #[s,x],argTypes:= #[t,t]}) (e:TypeId) (i:TypeInfo) (z:Value) (bytes:Nat) (h1:P.underlying t=some (.slice e)) (h2:P.info? e=some i)
  (h3:i.zero=some z) (h4:i.size=2) (h5:i.bytes=bytes) (h6:z.cells.size=2) (G:Option Nat) (v:Value) (n:Nat) (olds:List Value) (hv:jT w G v n olds) (ho:olds.length=n*2) (hs:a.eval s=v)
  (gQ:Addr) (c:Nat) (news:List Value) (hx:a.eval x= .slice (some gQ) 1 c) (hn:news.length=2) (hc:∀ (U:Nat) u,news[U]? =some u->w.cell? (gQ.add U)=some u) (wO:∀ u∈news,u.oneCell'=true)
  (b1:n+1<=maxLen) (b2:(n+1)*bytes<=140737488355328)
  (he:e=238) (h:∀ v' w' G',ah G.toList w w'->jT w' G' v' (n+1) (olds++news)->(G'=G∨∃ g,G'=some g/\w.heap.size<=g/\g<w'.heap.size)->wpList P ops Q rest (a.put o.dst v') w'):wpList P ops Q (o::rest) a w:=by
 rcases hv with ⟨rfl,rfl,rfl⟩|⟨b,off,cap,rfl,rfl,p1,p2,p3,p4,p5,p6⟩
 ·have eK:olds=[]:=ql2 (by simpa using ho);subst eK;have bA:w.ownsRow w.heap.size e 2 (.slice none 0 0) 0 []:=⟨rfl,.inl ⟨rfl,rfl⟩⟩;refine wpList_append_own w hg s x t uM w.heap.size e i z 2 bytes h1 h2 h3 h4 h5 h6 ab _ 0 [] hs bA gQ 1 c news hx ab hc wO b1 b2 (CP _) λv' w' dk te _=> ?_;obtain⟨e1,e2⟩:=jT.bp he dk;refine h v' w' v'.ownBlock ((ah.refl _ _).grown te (by simp[Value.ownBlock])) e1 (.inr ?_);rcases dk.2 with ⟨_,h0⟩|⟨g,cap,cur,rfl,_⟩
  ·omega
  ·exact⟨g,rfl,e2 g rfl⟩
 ·have O:jT w (some b) (.slice (some ⟨b,off,none⟩) n cap) n olds:= .inr ⟨b,off,cap,rfl,rfl,p1,p2,p3,p4,p5,p6⟩
  refine wpList_append_arg w hg s x t uM e i z 2 bytes h1 h2 h3 h4 h5 h6 ab b off n cap olds hs ho p5 gQ 1 c news hx ab hc wO
   (λhr U hj=>by have:=p4 (n*2+U) ab;rwa [<- Nat.add_assoc]at this) b1 b2 (λhr=> ?_) (λ_ v' w' dk te=> ?_)
  ·obtain⟨x0,x1,rfl⟩:∃ x0 x1,news=[x0,x1]:=by
    match news,hn with
    |[x0,x1],_=>exact⟨x0,x1,rfl⟩
   exact h _ _ (some b) (ah.setCells b _ _) (O.push x0 x1 hr) (.inl rfl)
  ·obtain⟨e1,e2⟩:=jT.bp he dk;refine h v' w' v'.ownBlock ((ah.refl _ _).grown te ao) e1 (.inr ?_);rcases dk.2 with ⟨_,h0⟩|⟨g,cap,cur,rfl,_⟩
   ·omega
   ·exact⟨g,rfl,e2 g rfl⟩
theorem FI {t:TypeId} {w:World} {g:Nat} {a b:Value} (h:w.heap[g]? =some (.cells #[a,b] t (0,0))):w.cell? ⟨g,0,none⟩=some a/\w.cell? ⟨g,1,none⟩=some b/\w.frozen? ⟨g,0,none⟩=false/\w.frozen? ⟨g,1,none⟩=false:=
 ⟨aE h 0,aE h 1,aI h 0,aI h 1⟩
def cc (w:World) (G:Option Nat) (v:Value) (n k:Nat) (xs:List Value):Prop:=
 (v= .slice none 0 0/\n=0/\G=none)∨∃ b off cap,v= .slice (some ⟨b,off,none⟩) n cap/\G=some b/\n<=cap/\cap<=maxLen/\xs.length=n*k/\
  (∀ U,U<cap*k->(w.cell? ⟨b,off+U,none⟩).isSome=true/\w.frozen? ⟨b,off+U,none⟩=false)/\(∀ U u,xs[U]? =some u->w.cell? ⟨b,off+U,none⟩=some u)/\td w b
theorem cc.but {S:List Nat} {w w2:World} {G:Option Nat} {v:Value} {n k:Nat} {xs:List Value} (h:cc w G v n k xs) (hb:ah S w w2) (hn:∀ g,G=some g->g∉S):cc w2 G v n k xs:=by
 rcases h with h|⟨b,off,cap,hv,hG,h1,h2,h3,h4,h5,h6⟩
 ·exact .inl h
 ·refine .inr ⟨b,off,cap,hv,hG,h1,h2,h3,λU hj=> ?_,λU u hu=>hb.af (h5 U u hu) (hn b hG),h6.but hb (hn b hG)⟩;obtain⟨e1,e2⟩:=h4 U hj;obtain⟨u,hu⟩:=Option.isSome_iff_exists.1 e1;exact⟨by rw[hb.af hu (hn b hG)];rfl,by rw[hb.frozen (Aa w _ hu) (hn b hG)];exact e2⟩
theorem cc.kept {w w2:World} {G:Option Nat} {v:Value} {n k:Nat} {xs:List Value} (h:cc w G v n k xs) (hb:ad w w2):cc w2 G v n k xs:=h.but (.ar (S:=[]) hb) ao
theorem cc.nil (w:World) (k:Nat):cc w none (.slice none 0 0) 0 k []:= .inl ⟨rfl,rfl,rfl⟩
theorem cc.form {w:World} {G:Option Nat} {v:Value} {n k:Nat} {xs:List Value} (h:cc w G v n k xs):∃ A c,v= .slice A n c:=by
 rcases h with ⟨rfl,rfl,_⟩|⟨b,off,cap,rfl,_⟩
 ·exact⟨_,_,rfl⟩
 ·exact⟨_,_,rfl⟩
theorem cc.cells {w:World} {A:Option Addr} {B:Option Nat} {n c k:Nat} {xs:List Value} (h:cc w B (.slice A n c) n k xs) (h0:0<n):∃ b off,A=some ⟨b,off,none⟩/\B=some b/\n<=c/\c<=maxLen/\∀ U u,xs[U]? =some u->w.cell? ⟨b,off+U,none⟩=some u:=by
 rcases h with ⟨h1,h2,_⟩|⟨b,off,cap,hv,hG,h1,h2,h3,h4,h5,_⟩
 ·omega
 ·injection hv with e1 e2 e3;subst e3;exact⟨b,off,e1,hG,h1,h2,h5⟩
theorem cc.push {w:World} {b off n cap k:Nat} {xs:List Value} (h:cc w (some b) (.slice (some ⟨b,off,none⟩) n cap) n k xs) (news:List Value) (hn:news.length=k) (hc:n+1<=cap):
  cc (w.setCells b (off+n*k) news) (some b) (.slice (some ⟨b,off,none⟩) (n+1) cap) (n+1) k (xs++news):=by
 rcases h with ⟨h,_⟩|⟨nY,qj,kP,hv,hG,h1,h2,h3,h4,h5,h6⟩
 ·cases h
 injection hv with ft cW wM;injection ft with ft;injection ft with e1 e2 _;subst e1 e2 wM;have eu:n*k+k<=cap*k:=by have:=Nat.mul_le_mul_right k hc;rw[Nat.succ_mul]at this;exact this
 have c7:∀ U,U<news.length->(w.cell? ⟨b,off+n*k+U,none⟩).isSome=true:=λU hj=>by
  have:=(h4 (n*k+U) ab).1;rwa [<- Nat.add_assoc]at this
 refine .inr ⟨b,off,cap,rfl,rfl,hc,h2,by simp[h3,hn,Nat.succ_mul],λU hj=> ?_,λU u hu=> ?_,h6.setCells _ _ _⟩
 ·rw[World.frozen?_setCells];exact⟨World.isSome_setCells b _ _ w _ (h4 U hj).1,(h4 U hj).2⟩
 ·rcases R6 U (n*k)with hj|hj
  ·rw[qlZ ab]at hu;rw[World.cell?_setCells_out b _ _ w _ (λ_ _=> .inl (by show off+U<off+n*k;omega))];exact h5 U u hu
  ·rw[List.getElem?_append_right ab,h3]at hu;obtain⟨an,wN⟩:=pi.1 hu;have:=World.cell?_setCells_in b news (off+n*k) w c7 (U-n*k) an;rw[show off+n*k+(U-n*k)=off+U by omega]at this;rw[this];exact congrArg some wN
theorem cc.bp {w:World} {base e n k:Nat} {v:Value} {xs:List Value} (he:e=238) (h:w.ownsRow base e k v n xs):cc w v.ownBlock v n k xs/\∀ g,v.ownBlock=some g->base<=g/\g<w.heap.size:=by
 refine⟨?_,h.lt⟩;rcases h.2 with ⟨rfl,rfl⟩|⟨g,cap,cur,rfl,hb,hg,h1,h2,h3,h4⟩
 ·exact .inl ⟨rfl,rfl,rfl⟩
 ·refine .inr ⟨g,0,cap,rfl,rfl,h1,h2,h.1,λU hj=>⟨?_,?_⟩,λU u hu=> ?_,⟨cur,by rw[hg,he]⟩⟩
  ·rw[aE hg,Nat.zero_add,qci ab];rfl
  ·exact aI hg _
  ·have hj:U<n*k:=by have:=(bg hu);rw[h.1]at this;exact this
   rw[Nat.zero_add,h.cellAt U hj,hu]
structure Fr (P:TypeId->Prop) (w w2:World):Prop where
 os:w2.os=w.os
 tape:w2.tape=w.tape
 output:w2.output=w.output
 size:w.heap.size<=w2.heap.size
 block:∀ (b:Nat) (cur:Array Value) (e:TypeId),w.heap[b]? =some (.cells cur e (0,0))->P e->w2.heap[b]? =some (.cells cur e (0,0))
theorem Fr.ar {P:TypeId->Prop} {w w2:World} (h:ad w w2):Fr P w w2:=⟨h.os,h.tape,h.output,h.size,λb cur e hb _=>h.heap hb⟩
theorem Fr.trans {P:TypeId->Prop} {a b c:World} (h:Fr P a b) (k:Fr P b c):Fr P a c:=
 ⟨k.os.trans h.os,k.tape.trans h.tape,k.output.trans h.output,qcg h.size k.size,λi cur e hi hp=>k.block i cur e (h.block i cur e hi hp) hp⟩
theorem Fr.gn {P:TypeId->Prop} {S:List Nat} {w w2:World} (h:ah S w w2) (hS:∀ s∈S,∀ (cur:Array Value) (e:TypeId),w.heap[s]? =some (.cells cur e (0,0))->¬P e):Fr P w w2:=
 ⟨h.os,h.tape,h.output,h.size,λb cur e hb hp=>h.heap hb λhs=>hS b hs cur e hb hp⟩
theorem Fr.mono {P Q:TypeId->Prop} {w w2:World} (h:Fr P w w2) (o3:∀ e,Q e->P e):Fr Q w w2:=⟨h.os,h.tape,h.output,h.size,λb cur e hb hp=>h.block b cur e hb (o3 e hp)⟩
def Rw {α:Type} (w:World) (e:TypeId) (k:Nat) (f:α->List Value) (v:Value) (l:List α):Prop:=
 ∃ A c,v= .slice A l.length c/\l.length<=c/\c<=maxLen/\(A=none->l=[]/\c=0)/\
  (∀ p,A=some p->∃ b off cur,p=⟨b,off,none⟩/\w.heap[b]? =some (.cells cur e (0,0))/\∀ i a,l[i]? =some a->∀ U u,(f a)[U]? =some u->cur[off+i*k+U]? =some u)
section
variable {α:Type} {w w2:World} {e:TypeId} {k:Nat} {f:α->List Value} {v:Value} {l:List α}
theorem Rw.fr {P:TypeId->Prop} (h:Rw w e k f v l) (hf:Fr P w w2) (hp:P e):Rw w2 e k f v l:=by
 obtain⟨A,c,rfl,h1,h2,h3,h4⟩:=h;refine⟨A,c,rfl,h1,h2,h3,λp hl=> ?_⟩;obtain⟨b,off,cur,rfl,hb,hc⟩:=h4 p hl;exact⟨b,off,cur,rfl,hf.block b cur e hb hp,hc⟩
theorem Rw.kept (h:Rw w e k f v l) (hk:ad w w2):Rw w2 e k f v l:=h.fr (P:=λ_=>True) (.ar hk) trivial
theorem Rw.nil (w:World):Rw w e k f (.slice none 0 0) ([]:List α):=⟨none,0,rfl,ao,ak,λ_=>⟨rfl,rfl⟩,λp h=>by cases h⟩
theorem Rw.form (h:Rw w e k f v l):∃ A c,v= .slice A l.length c/\l.length<=c/\c<=9223372036854775807:=by
 obtain⟨A,c,rfl,h1,h2,h3,h4⟩:=h;exact⟨A,c,rfl,h1,by unfold maxLen at h2;exact h2⟩
theorem Rw.af {A:Option Addr} {n c:Nat} (h:Rw w e k f (.slice A n c) l) {i:Nat} {a:α} (hi:l[i]? =some a):
  ∃ b off,A=some ⟨b,off,none⟩/\b<w.heap.size/\∀ U u,(f a)[U]? =some u->w.cell? ⟨b,off+i*k+U,none⟩=some u:=by
 obtain⟨A',c',hv,h1,h2,h3,h4⟩:=h;injection hv with e1 e2 e3;subst e1
 cases A with
 |none=>rw[(h3 rfl).1]at hi;simp at hi
 |some p=>
 obtain⟨b,off,cur,rfl,hb,hc⟩:=h4 p rfl;exact⟨b,off,rfl,(aQ hb),λU u hu=>by rw[aE hb];exact hc i a hi U u hu⟩
theorem eF (hf:∀ a,(f a).length=k):∀ l:List α,(l.flatMap f).length=l.length*k
 |[]=>ao
 |a::t=>by rw[List.flatMap_cons,qC,hf,eF hf t,List.length_cons,Nat.succ_mul];omega
theorem rV (hf:∀ a,(f a).length=k):∀ (l:List α) (i:Nat) (a:α),l[i]? =some a->∀ U u,(f a)[U]? =some u->(l.flatMap f)[i*k+U]? =some u
 |[],i,a,h,_,_,_=>by simp at h
 |b::t,0,a,h,U,u,hu=>by
  simp only[List.getElem?_cons_zero,Option.some.injEq]at h;subst h;have hj:=(bg hu);rw[List.flatMap_cons,qlZ ab,Nat.zero_mul,Nat.zero_add,hu]
 |b::t,i+1,a,h,U,u,hu=>by
  have:=rV hf t i a (by simpa using h) U u hu;rw[List.flatMap_cons,List.getElem?_append_right (by rw[hf,Nat.succ_mul];omega),hf,<- this];congr 1
  rw[Nat.succ_mul];omega
theorem Rw.bp {base n:Nat} (h:w.ownsRow base e k v n (l.flatMap f)) (hf:∀ a,(f a).length=k) (hk:0<k):Rw w e k f v l:=by
 have hl:l.length=n:=by
  have:=h.1;rw[eF hf]at this;exact Nat.eq_of_mul_eq_mul_right hk this
 subst hl;rcases h.2 with ⟨rfl,h0⟩|⟨g,cap,cur,rfl,hb,hg,h1,h2,h3,h4⟩
 ·have:l=[]:=ql2 h0;subst this;exact Rw.nil w
 ·refine⟨_,cap,rfl,h1,h2,(λh=>by cases h),λp hp=>⟨g,0,cur,by injection hp with hp;exact hp.symm,hg,λi a hi U u hu=> ?_⟩⟩
  have hc:=h.cellAt (i*k+U) (by
   have h5:=rV hf l i a hi U u hu;have:=(bg h5);rwa [eF hf]at this)
  rw[rV hf l i a hi U u hu,aE hg]at hc;rw[Nat.zero_add];exact hc
theorem Rw.sub {A:Option Addr} {n c:Nat} (h:Rw w e k f (.slice A n c) l) (i m d:Nat) (kk:i+m<=n) (o4:m<=d) (hU:d<=maxLen) (hm:0<m):
  ∃ b off,A=some ⟨b,off,none⟩/\Rw w e k f (.slice (some ⟨b,off+i*k,none⟩) m d) ((l.drop i).take m):=by
 obtain⟨A',c',hv,h1,h2,h3,h4⟩:=h;injection hv with e1 e2 e3;subst e1
 cases A with
 |none=>have:=(h3 rfl).1;subst this;simp at e2;omega
 |some p=>
 obtain⟨b,off,cur,rfl,hb,hc⟩:=h4 p rfl;have hlen:((l.drop i).take m).length=m:=by rw[qcd,ql1];omega
 refine⟨b,off,rfl,some ⟨b,off+i*k,none⟩,d,by rw[hlen],ab,hU,(λh=>by cases h),λp hp=>⟨b,off+i*k,cur,by injection hp with hp;exact hp.symm,hb,λU a hj q u hu=> ?_⟩⟩;have s5:U<m:=by have:=(bg hj);omega
 rw[qlY s5,List.getElem?_drop]at hj;have:=hc (i+U) a hj q u hu;rw[Nat.add_mul]at this;rw[show off+i*k+U*k+q=off+(i*k+U*k)+q by omega];exact this
end
end Go.Proofs.YtehaoggjlciobaaGreat

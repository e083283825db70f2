/- Part 26 of 40. -/
import Derived.Test.YtehaoggjlciobaaGreatQbi
import Derived.Deep.CutBlock
import Derived.Deep.DeepCutAuto
set_option linter.all false
set_option maxRecDepth 20000
set_option maxHeartbeats 16000000
namespace Go.Proofs.YtehaoggjlciobaaGreat
open Go.Maps Go.RowKit Go.Proofs.Tryz
variable {B:Int} {aJ os ps:List Int} {mv:List Mv} {aH es:List Nat} {xs:List Value} {hl:List aD} {m:Mv} {U b i n t:Nat} {l:Nat->List ax} {v:Value} {w w2:World} {d:aD}
structure sL (g:aG) (l:Nat->List ax) (mv:List Mv) (i:Nat):Prop where
 ij:∀ s,∀ v∈l s,∃ a k,a<g.n/\Let k/\v∈(g.σ a).L k
 Ba:∀ m∈mv.take i,∀ k,Let k->hasB m.f m.t k=true->∀ v∈(g.σ m.ij.toNat).L k,v∈l m.to.toNat
 bx:∀ s,(l s).length<=i*60000
structure p7 (g:aG) (l:Nat->List ax) (mv:List Mv) (i:Nat) (m:Mv) (hl:List aD) (U:Nat):Prop where
 ij:∀ s,∀ v∈l s,∃ a k,a<g.n/\Let k/\v∈(g.σ a).L k
 Ba:∀ m∈mv.take i,∀ k,Let k->hasB m.f m.t k=true->∀ v∈(g.σ m.ij.toNat).L k,v∈l m.to.toNat
 now:∀ d∈hl.take U,hasB m.f m.t d.key=true->∀ v∈(g.σ m.ij.toNat).L d.key,v∈l m.to.toNat
 bx:∀ s,(l s).length<=i*60000+U*6000
theorem sL.zero (g:aG) (mv:List Mv):sL g (λ_=>[]) mv 0:=⟨λs v hv=>(by cases hv),λm hm=>(by simp at hm),λs=>ao⟩
theorem sL.start {g:aG} (h:sL g l mv i) (m:Mv) (hl:List aD):p7 g l mv i m hl 0:=⟨h.ij,h.Ba,λd hd=>(by simp at hd),λs=>by have:=h.bx s;rw[Nat.zero_mul,Nat.add_zero];exact this⟩
theorem p7.no {g:aG} (h:p7 g l mv i m hl U) (hd:hl[U]? =some d) (hh:hasB m.f m.t d.key=false):p7 g l mv i m hl (U+1):=
 ⟨h.ij,h.Ba,λx hx hb=>(by
  rw[List.take_add_one,hd,Option.toList_some,Pv,At]at hx;rcases hx with hx|rfl
  ·exact h.now x hx hb
  ·rw[hh]at hb;cases hb),λs=>by have:=h.bx s;omega⟩
theorem p7.yes {g:aG} {a:Nat} (h:p7 g l mv i m hl U) (hd:hl[U]? =some d) (hk:Let d.key) (ha:m.ij=a) (hn:a<g.n) (ht:m.to=t) (hc:((g.σ a).L d.key).length<=6000):p7 g (λs=>if s=t then l t++(g.σ a).L d.key else l s) mv i m hl (U+1):=by
 have hm:∀ s,∀ v∈l s,v∈(if s=t then l t++(g.σ a).L d.key else l s):=λs v hv=>by
  by_cases e:s=t
  ·subst e;rw[if_pos rfl];exact List.mem_append_left _ hv
  ·rw[if_neg e];exact hv
 refine⟨λs v hv=> ?_,λm gd k bb hb v hv=>hm _ v (h.Ba m gd k bb hb v hv),λx hx hb v hv=> ?_,λs=> ?_⟩
 ·by_cases e:s=t
  ·subst e;simp only[if_pos,Pv]at hv;rcases hv with hv|hv
   ·exact h.ij s v hv
   ·exact⟨a,d.key,hn,hk,hv⟩
  ·simp only[if_neg e]at hv;exact h.ij s v hv
 ·rw[List.take_add_one,hd,Option.toList_some,Pv,At]at hx;rcases hx with hx|rfl
  ·exact hm _ v (h.now x hx hb v hv)
  ·rw[ha]at hv;rw[ht];simp only[Int.toNat_natCast,if_true]at hv⊢;exact List.mem_append_right _ hv
 ·have:=h.bx s;have h2:=h.bx t;by_cases e:s=t
  ·rw[if_pos e,zH];omega
  ·rw[if_neg e];omega
theorem p7.done {g:aG} (h:p7 g l mv i m hl hl.length) (hm:mv[i]? =some m) (hv:j0 (g.σ m.ij.toNat).L hl) (h8:hl.length<=8):sL g l mv (i+1):=
 ⟨h.ij,λx hx k hk hb v cW=>(by
  rw[List.take_add_one,hm,Option.toList_some,Pv,At]at hx;rcases hx with hx|rfl
  ·exact h.Ba x hx k hk hb v cW
  ·have hd:(⟨k,(hd (g.σ x.ij.toNat).L k).1,(hd (g.σ x.ij.toNat).L k).2⟩:aD)∈hl:=(hv.mem _).2 ⟨hk,(λe=>by
    have e2:(g.σ x.ij.toNat).L k=[]:=e;rw[e2]at cW;cases cW),rfl,rfl⟩
   exact h.now _ (by rw[List.take_length];exact hd) hb v cW),λs=>by have:=h.bx s;omega⟩
def NF (g:aG) (aH:List Nat) (aJ:List Int) (l:Nat->List ax):Prop:=(∀ s,∀ v∈l s,∃ a k,a<g.n/\Let k/\v∈(g.σ a).L k)/\
 ∀ s,s<g.n->∀ k,Let k->cq (ow aH aJ k) (s:Int)=true->cq (ow g.es g.os k) (s:Int)=false->∃ a:Nat,a<g.n/\cq (ow g.es g.os k) (a:Int)=true/\∀ v∈(g.σ a).L k,v∈l s
theorem sL.all {g:aG} {pt:List Rg} (h:sL g l mv mv.length) (hp:Hq g.es aH pt) (ht:nF g.es aH g.os aJ g.n pt pt.length 0 mv):NF g aH aJ l:=by
 refine⟨h.ij,λs hs k hk h1 h2=> ?_⟩;obtain⟨r,hr,hb,e1,e2⟩:=hp.all k;obtain⟨a,ha⟩:=qcl.1 hr;have hal:a<pt.length:=(bg ha);have o1:ow g.es g.os r.1=ow g.es g.os k:=by unfold ow;rw[e1]
 have o2:ow aH aJ r.1=ow aH aJ k:=by unfold ow;rw[e2]
 obtain⟨m,hm,m1,m2,m3⟩:=ht.all a s r (.inl ⟨hal,hs⟩) ha (by unfold comes;rw[o1,o2,h1,h2];rfl);obtain⟨_,_,q1,q2,q3⟩:=ht.ok m hm;refine⟨m.ij.toNat,ab,?_,λv hv=> ?_⟩
 ·rw[m2,o1]at q3;rw[Int.toNat_of_nonneg q1];exact q3
 ·have h3:=h.Ba m (by rw[List.take_length];exact hm) k hk (by rw[m2,m3];exact hb) v hv;rw[m1,Int.toNat_natCast]at h3;exact h3
theorem dc.qhp {k:ByteArray} {l:List ax} (h:dc w B k v l) (hB:0<=B) (h9:B<=900):l.length<=6000:=by
 have:=LU B.toNat l 0 h.sd λx hx=>by
  have h3:=(h.iG x hx).1;have h2:=h3.n;have hc:=qck h3.wc.1;exact⟨h3.wc.1,ab,ab⟩
 omega
def WZ (g:aG) (aH:List Nat) (aJ:List Int) (l:Nat->List ax) (i:Nat) (s:ci):Prop:=∃ L1 wt L',s=⟨lE aH aJ i,L',wt,(clockOf ((g.σ i).cn,(g.σ i).cs) (l i)).1,(clockOf ((g.σ i).cn,(g.σ i).cs) (l i)).2⟩/\Dv (lE aH aJ i) (g.σ i).L L1/\Dy (lE aH aJ i) (g.σ i).wait wt/\tG (lE aH aJ i) L1 (l i) L'
def Bb (g:aG) (aH:List Nat) (aJ:List Int) (l:Nat->List ax) (σ':Nat->ci) (t:Nat):Prop:=∀ i,i<g.n->(i<t->WZ g aH aJ l i (σ' i))/\(t<=i->σ' i=g.σ i)
theorem Bb.step {g:aG} {σ':Nat->ci} {s:ci} (h:Bb g aH aJ l σ' t) (ht:t<g.n) (hs:WZ g aH aJ l t s):Bb g aH aJ l (ed σ' t s) (t+1):=by
 intro i hi;by_cases e:i=t
 ·subst e;rw[nO];exact⟨λ_=>hs,λg=>absurd g ab⟩
 ·rw[pT e];exact⟨λg=>(h i hi).1 ab,λg=>(h i hi).2 ab⟩
def Xa (g:aG) (aH:List Nat) (aJ a':List Int) (g':aG):Prop:=∃ l σ',NF g aH aJ l/\Bb g aH aJ l σ' g.n/\g'={g with es:=aH,os:=aJ,ps:=a',σ:=σ'}
theorem aT.qhq {gb:Nat} {g:aG} (h:aT w B gb g) {rv ov pv:Value} (hr:fm w rv ov pv es os ps) (hf:eA es os ps g.n) (hn:ps.length=g.n):
  aT (((w.setCell ⟨gb,0,none⟩ rv).setCell ⟨gb,1,none⟩ ov).setCell ⟨gb,2,none⟩ pv) B gb {g with es:=es,os:=os,ps:=ps}/\bN w (((w.setCell ⟨gb,0,none⟩ rv).setCell ⟨gb,1,none⟩ ov).setCell ⟨gb,2,none⟩ pv):=by
 obtain⟨V,h1,h2⟩:=h;have hb:=ah.vG (w:=w) gb rv ov pv;have cG:=(h1.fr hb).j7;have h3:=h2.Il h1 hb;have cp:({g with es:=es,os:=os,ps:=ps}:aG).n=g.n:=hn;have hm:j6 {g with es:=es,os:=os,ps:=ps}=j6 g:=by unfold j6;rw[cp]
 refine⟨⟨{V with rv:=rv,ov:=ov,pv:=pv},?_,⟨⟨hr.fr cG,by rw[cp];exact hf,by rw[cp];exact h3.a6.sites,by rw[cp];exact h3.a6.bY,by rw[cp];exact h3.a6.oJ,h3.a6.pins,h3.a6.rl⟩,by rw[cp];exact h3.bi,by rw[cp];exact h3.apart,by rw[hm,cp];exact h3.cm,h3.bx,h3.bJ,h3.cX,h3.old.oU rfl rfl cp⟩⟩,h1.fr hb⟩;have h5:=Ok _ gb 2 _ _ pv (Ok _ gb 1 _ _ ov (Ok w gb 0 _ _ rv h1));unfold GB;rw[h5];rfl
theorem qhr (B:Int) (p:cZ) (id:Int) (σ:ci) (w:World) (h:ba w B p id σ) (hB:0<=B) (h9:B<=900):
  Calls prog 119 #[.pointer (some ⟨p.sb,0,none⟩)] w λe w'=>∃ b:Bool,e= .returned (.bool b)/\b=decide (0<σ.wait.length)/\ad w w':=by
 have HS:=aa h;clear h;go_in;go_wp2_with fail
 refine(Ud B p id σ _ HS.o).mono ?_;rintro e w1 ⟨rfl,k1⟩;obtain⟨n,hn⟩:=eqQ σ.wait.length;have HN:=aa hn;rw[hn];clear hn;go_wp2;go_ret;exact⟨_,rfl,by rw[HN.o],k1⟩
theorem qhs (B:Int) (gb:Nat) (g:aG) (SA:Option Addr) (sc:Nat) (w:World) (hr:Rw w 83 1 qk (.slice SA g.n sc) ((List.range g.n).map λi=>(g.p i).sb)) (hS:∀ W,ad w W->∀ i,i<g.n->ba W B (g.p i) i (g.σ i)) (hB:0<=B) (h9:B<=900) (xQ:∀ i U,i<g.n->U<g.n->i≠U->(g.p i).sb≠(g.p U).sb):
  Calls prog 118 #[.slice SA g.n sc,.func (.func 119) #[] #[]] w λe w'=>∃ b:Bool,e= .returned (.bool b)/\(b=false->∀ i,i<g.n->(g.σ i).wait=[])/\ad w w':=by
 have HS:=aa hS
 have hT:fI [] w 119 #[] (λp=> .pointer (some ⟨p,0,none⟩)) ((List.range g.n).map λi=>(g.p i).sb) (λp b=>∀ i,i<g.n->(g.p i).sb=p->b=decide (0<(g.σ i).wait.length)):=by
  refine⟨λargs w=>enters_of func119 av rfl args w,λW2 fw x hx=> ?_⟩;obtain⟨i,hi,rfl⟩:=List.mem_map.1 hx;rw[List.mem_range]at hi;refine(qhr B (g.p i) i (g.σ i) W2 (HS.o W2 fw.kept i hi) hB h9).mono ?_;rintro e w' ⟨b,rfl,hb,k⟩
  exact⟨b,rfl,λU hj hs=>by
   have:U=i:=Classical.byContradiction λg2=>xQ U i hj hi g2 hs;rw[this];exact hb,k⟩
 refine(qaW _ _ _ _ _ _ hr [] hT).mono ?_;rintro e w2 ⟨b,rfl,_,hb,k⟩;refine⟨b,rfl,λhf i hi=> ?_,k⟩;have h1:=hb hf (g.p i).sb (List.mem_map.2 ⟨i,List.mem_range.2 hi,rfl⟩) i hi rfl;have h2:¬(0<(g.σ i).wait.length):=by simpa using h1
 exact ql2 ab
theorem clone_e (v:Value) (l:List nK) (w:World) (hv:Rw w 92 6 sF v l) (hb:l.length<=1000000000000):
  Calls prog 32 #[v] w λe w'=>∃ v',e= .returned v'/\w'.ownsRow w.heap.size 92 6 v' l.length (l.flatMap sF)/\ad w w':=by
 obtain⟨A,c,rfl,bl,bQ⟩:=hv.form;have hl:(l.flatMap sF).length=l.length*6:=eF qgE l
 cases A with
 |none=>
  obtain⟨A,c',lP,_,_,h3,_⟩:=hv;injection lP with h1 h2 h4;subst h1;obtain⟨rfl,h5⟩:=h3 rfl;subst h4 h5;simp only[List.length_nil,List.flatMap_nil];clear bl bQ hl hb;have hq:=λW=>Lib.run_eql_slice_nil (P:=prog) W 49 92 none 0 0 0 0 underlying49;go_wp2;go_ret;exact⟨_,rfl,qcb _ _ _ _,al⟩
 |some p=>
  obtain⟨b,off,rfl⟩:∃ b off,p=⟨b,off,none⟩:=by
   obtain⟨A,c',lP,_,_,_,h4⟩:=hv;injection lP with h1 h2 h3;obtain⟨b,off,cur,hA,_⟩:=h4 p h1.symm;exact⟨b,off,hA⟩
  have H:=aa (hv.flat qgE ak).2;obtain⟨n,hn⟩:=eqQ l.length;obtain⟨xs,bP⟩:=eqQ (l.flatMap sF);have h1:∀ u∈xs,u.oneCell'=true:=by rw[<- bP];exact qgF l
  rw[hn,bP]at hl;rw[bP]at H;rw[hn]at hb bl⊢;rw[bP];clear hv hn bP;obtain⟨i0,hi,a7,aY,aW⟩:=ql0 qgU;have bA:(w.alloc (.cells #[] 92)).ownsRow w.heap.size 92 6 (.slice (some ⟨w.heap.size,0,none⟩) 0 0) 0 []:=BK w 92 [] 0 6 rfl ak;have H2:ag (∀ U u,xs[U]? =some u->(w.alloc (.cells #[] 92)).cell? ((⟨b,off,none⟩:Addr).add U)=some u):=λU u hu=>((ad.refl w).alloc _).af (H.o U u hu);have hq:=λW=>Lib.run_eql_slice_nil (P:=prog) W 49 92 (some ⟨b,off,none⟩) n c 0 0 underlying49;go_in;go_wp2_with (at_builtin;refine wpList_append_own _ rfl _ _ 49 rfl w.heap.size 92 i0 (.agg #[.int .i64 0,.int .i64 0,.string ⟨#[]⟩,.int .i64 0,.int .i64 0,.slice none 0 0]) 6 72 underlying49 hi a7 aY aW rfl ak _ 0 [] rfl bA ⟨b,off,none⟩ n c xs rfl hl H2.o h1 (by unfold maxLen;omega) ab ao ?_;intro v3 w3 bE cD _)
  simp only[Nat.zero_add,List.nil_append]at bE;go_ret;exact⟨v3,rfl,bE,((ad.refl w).alloc _).grown cD (by intro g hg;have h9:some w.heap.size=some g:=hg;injection h9 with h9;exact Nat.le_of_eq h9)⟩
theorem NG (h:Fit es os n) (hp:ps.length=n:=by rfl):os.length<=1000/\ps.length<=1000/\es.length<=1000:=by
 have h1:=h.up.cV;have h2:=h.len;have h3:=h.cV;omega
theorem rw_of_own0 {b0:Nat} {l:List nK} (h:w.ownsRow b0 92 6 v l.length (l.flatMap sF)):Rw w 92 6 sF v l:=Rw.bp h qgE ak
theorem g_history (B:Int) (gb:Nat) (g:aG) (w:World) (h:aT w B gb g) (hB:B<=1000):
  Calls prog 10 #[.pointer (some ⟨gb,0,none⟩)] w λe w'=>∃ v',e= .returned v'/\Rw w' 92 6 sF v' g.bJ/\ad w w':=by
 obtain⟨V,h1,h2⟩:=h;have c22:w.cell? ⟨gb,22,none⟩=some V.hv:=aE h1 22;obtain⟨A,c,Nb⟩:=ca h2.bJ;have HO:=aa (rw_of_own0 h2.bJ);have cX:=h2.cX;rw[Nb]at c22 HO;clear h1 h2 Nb;go_in;go_wp2_with fail
 refine(clone_e _ g.bJ w HO.o ab).mono ?_;rintro e w1 ⟨v',rfl,h3,k1⟩;have H3:=aa (Rw.bp h3 qgE ak);clear h3;go_wp2;go_ret;exact⟨v',rfl,H3.o,k1⟩
def Xc (v:Value):Value:=match v with| .slice _ n _=> .int .i64 n|_=>undef
def ui (W:World) (b:Nat) (v:Value) (n:Nat) (xs:List Value):Prop:=W.ownsRow b 48 6 v n xs
theorem ui.kept {W:World} (h:ui W b v n xs) (k:ad W w2):ui w2 b v n xs:=ad.own h k
def NV (e:TypeId):Prop:=e≠48
theorem Fr.map {P:TypeId->Prop} {C:mz} (h:jq w b C) (hb:ah [b] w w2):Fr P w w2:=Fr.gn hb λy hy cur e he _=>by
 have e2:=At.1 hy;subst e2;obtain⟨D,⟨es,clock,h1,_⟩,_⟩:=h;rw[h1]at he;cases he
theorem ui.fr (h:ui w b v n xs) (hb:ah v.ownBlock.toList w w2):Fr NV w w2:=Fr.gn hb λy hy cur e he hp=>by
 obtain⟨c2,h2⟩:=j5 h (Option.mem_toList.1 hy);rw[h2]at he;simp only[Option.some.injEq,Obj.cells.injEq]at he;obtain⟨_,rfl,_⟩:=he;exact absurd rfl hp
theorem qhv {α:Type} {P:Program} {ops:Array Oper} {rest:List Oper} {qD:Oper} {a:Act} {Q:Exit->Act->World->Prop} (qR:qD.guard=none) (s x:Operand) (t e:TypeId) (z:Value) (k bytes:Nat) (f:α->List Value) (ho:qD.op= .call {callee:= .builtin .append,args:= #[s,x],argTypes:= #[t,t]}) (ht:P.underlying t=some (.slice e)) (hi:(P.info? e).map (λi=>(i.zero,i.size,i.bytes))=some (some z,k,bytes)) (wU:z.cells.size=k) (hk:0<k) (oz:bytes<=1000) (hf:∀ a,(f a).length=k) (h1:∀ l:List α,∀ u∈l.flatMap f,u.oneCell'=true)
  (base:Nat) (v:Value) (n:Nat) (ws:List Value) (ys:List α) (hs:a.eval s=v) (bA:w.ownsRow base e k v n ws) (b off m c:Nat) (hx:a.eval x= .slice (some ⟨b,off,none⟩) m c) (hy:Rw w e k f (.slice (some ⟨b,off,none⟩) m c) ys) (hl:n+m<=100000000000) (qS:base<=w.heap.size)
  (h:∀ v' w',w'.ownsRow base e k v' (n+m) (ws++ys.flatMap f)->ah v.ownBlock.toList w w'->(v'.ownBlock=v.ownBlock∨v'.ownBlock=some w.heap.size)->wpList P ops Q rest (a.put qD.dst v') w'):wpList P ops Q (qD::rest) a w:=by
 obtain⟨i0,hi,a7,aY,aW⟩:=ql0 hi;obtain⟨hm,hc⟩:=hy.flat hf hk;refine wpList_append_own_at w qR s x t ho base e i0 z k bytes ht hi a7 aY aW wU hk v n _ hs bA ⟨b,off,none⟩ m c (ys.flatMap f) hx (by rw[hm];exact eF hf ys) hc (h1 ys) (by unfold maxLen;omega) (qcg (Nat.mul_le_mul hl oz) ak) qS λv' w' h2 h3 _ h5=> ?_;exact h v' w' h2 ((ah.refl _ w).grown h3 λg hg=> .inl (Option.mem_toList.2 hg)) h5
theorem Rw.some_ {α:Type} {e k:Nat} {f:α->List Value} {l:List α} (h:Rw w e k f v l) (hl:l≠[]):∃ b off c,v= .slice (some ⟨b,off,none⟩) l.length c:=by
 obtain⟨A,c,hv,h1,h2,h3,h4⟩:=h
 cases A with
 |none=>exact absurd (h3 rfl).1 hl
 |some p=>
  obtain⟨b,off,cur,hp,_⟩:=h4 p rfl;subst hp;exact⟨b,off,c,hv⟩
theorem qhw (B:Int) (gb:Nat) (g:aG) (qD:ee) (aH:List Nat) (aJ a':List Int) (w:World) (h:aT w B gb g) (hB:0<=B) (h9:B<=900) (hr:fm w qD.rv qD.ov qD.pv aH aJ a') (cp:a'.length=g.n) (eG:eA aH aJ a' a'.length):
  Calls prog 66 #[.pointer (some ⟨gb,0,none⟩),dx qD] w λe w'=>∃ er g',e= .returned (gm er yo)/\aT w' B gb g'/\(er≠0/\g'=g∨er=0/\(∀ i,i<g.n->(g.σ i).wait=[])/\(∀ a c,a<6->c<6->de g.n a c=true->(g.st a c).T.length<=(g.st a c).lo)/\g.pins=[]/\Xa g aH aJ a' g')/\bN w w':=by
 have HG:=aa h;have an:=h.lt;obtain⟨V,h1,h2⟩:=h;obtain⟨SA,sc,c3,bR⟩:=AX h1 h2;have gV:0<g.n:=h2.a6.fit.fit.one;have jJ:g.n<=6:=h2.a6.fit.fit.cV;have HS:ag (∀ W,ad w W->∀ i,i<g.n->ba W B (g.p i) i (g.σ i)):=λW hW i hi=>(h2.bi i hi).kept hW;have IB:ag (∀ i U,i<g.n->U<g.n->i≠U->(g.p i).sb≠(g.p U).sb):=λi U hi hj aN=>(h2.apart i U hi hj aN).1
 have IC:ag (∀ i,i<g.n->(g.p i).sb<w.heap.size/\(g.p i).hb<w.heap.size/\(g.p i).mb<w.heap.size):=λi hi=>by
  obtain⟨q1,t1⟩:=(h2.bi i hi).nL;obtain⟨q2,t2⟩:=(h2.bi i hi).rm;obtain⟨q3,q4,t3⟩:=(h2.bi i hi).mw;exact⟨(aQ t1),(aQ t2),(aQ t3)⟩
 have vN:ag (∀ W,ad w W->dF g.w0 (j6 g) W V.N (de g.n) g.st):=λW hW=>h2.cm.keep hW
 have ID:ag (∀ a c,a<6->c<6->de g.n a c=true->(g.st a c).T.length<=4294967296):=λa c ha hc _=>by
  have:=(h2.bx a c ha hc).1;omega
 obtain⟨b0,ud,rfl,_⟩:=pY bR gV;obtain⟨RA,rc,ei,_,_⟩:=h2.a6.row.r.form;obtain⟨RB,rd,cE,_,_⟩:=h2.a6.row.qD.form;obtain⟨RC,vO,cv,_,_⟩:=h2.a6.row.p.form;have cU:=aa h2.a6.row;have jW:ag (eA g.es g.os g.ps g.ps.length):=h2.a6.fit;have r0:w.cell? ⟨gb,0,none⟩=some V.rv:=aE h1 0;have r1:w.cell? ⟨gb,1,none⟩=some V.ov:=aE h1 1;have r2:w.cell? ⟨gb,2,none⟩=some V.pv:=aE h1 2;have r4:w.cell? ⟨gb,4,none⟩=some (.pointer (some ⟨V.N,0,none⟩)):=aE h1 4;rw[ei]at r0;rw[cE]at r1;rw[cv]at r2;rw[ei,cE,cv]at cU;obtain⟨PA,pc,lD,_,_⟩:=h2.a6.pins.1.1.form;have uj:w.cell? ⟨gb,21,none⟩=some V.nv:=aE h1 21;rw[lD]at uj;obtain⟨N,EB⟩:=eqQ V.N;rw[EB]at r4 vN;obtain⟨pm,iN⟩:=eqQ g.pins.length;have pX:=aa iN;rw[iN]at uj;have H1:=aa h1;obtain⟨n,hn⟩:=eqQ g.n;have HN:=aa hn;have mj:g.ps.length=n:=hn;have pL:=aa mj;generalize (bw g.es).length=m1 at r0 cU;generalize g.os.length=m2 at r1 cU;rw[mj]at r2 cU;rw[hn]at c3 gV jJ bR IB IC vN ID;have sM:=aa bR;have lg:ag (a'.length=n):=cp.trans hn;have nG:=aa eG;have Nx:ag (pm<=8):=by rw[<- iN];exact h2.a6.pins.2.2.1
 have o0:=aa r0;have dv:=aa r1;have di:=aa r2;have As:=aa r4;have Xd:=aa uj;have rp:=aa c3;clear h1 h2 bR ei cE cv hn mj cp eG lD EB iN r0 r1 r2 r4 uj c3;obtain⟨ok,oc,os,ot,oa,oh,bT,dj,dq,dH,dI,dJ⟩:=qD;unfold dx il;simp only at*;obtain⟨bS,dT⟩:=pU (w:=w) (xs:= #[.int .i64 ok,.int .i64 oc,.int .i64 os,.int .i64 ot,.int .i64 oa,.int .i64 oh,.string bT,.string dj,dq,dH,dI,dJ]) (ys:= #[.int .i64 0,.slice none 0 0]) (a:=36) (b:=42);have dG:=aa bS;have dy:=aa dT;clear bS dT;obtain⟨XA,xa,rfl,_,_⟩:=hr.r.form;obtain⟨XB,xb,rfl,_,_⟩:=hr.qD.form;obtain⟨XC,xc,rfl,_,_⟩:=hr.p.form;obtain⟨k1,eN⟩:=eqQ ((bw aH).length);obtain⟨k2,bb⟩:=eqQ aJ.length;rw[eN,bb,lg.o]at hr dG dy;rw[eN,bb,lg.o];have cN:=aa hr;have qhx:ag (Fit aH aJ n):=by rw[<- lg.o];exact nG.o.fit
 have qhy:ag (∀ W,fm W (.slice XA k1 xa) (.slice XB k2 xb) (.slice XC n xc) aH aJ a'->fY W XA k1 xa XB k2 xb XC n xc (bw aH) aJ a'):=λW hW=>by
  obtain⟨A',B',C',n1',c1',IE,ML,sA,hh,fA⟩:=hW.mu;injection hh with hh;have jl:=congrArg Array.toList hh;simp only[List.cons.injEq,and_true,Value.slice.injEq]at jl;obtain⟨⟨rfl,rfl,rfl⟩,⟨rfl,rfl,rfl⟩,rfl,fJ,rfl⟩:=jl;rw[fJ];exact fA
 have sN:ag (k1=aH.length+1):=by rw[<- eN,ju];rfl
 have fJ:=ap dG.o 9;have ry:=ap dG.o 10;have rz:=ap dG.o 11;have r0:=o0.o;have r1:=dv.o;have r2:=di.o;clear hr eN bb;have z':=λW=>run_makeMap (P:=prog) 194 W;go_wp2;refine bz (λwB=>ad w wB/\ad ((w.alloc (.cells #[.int .i64 ok,.int .i64 oc,.int .i64 os,.int .i64 ot,.int .i64 oa,.int .i64 oh,.string bT,.string dj,dq,.slice XA k1 xa,.slice XB k2 xb,.slice XC n xc] 36)).alloc (.cells #[.int .i64 0,.slice none 0 0] 42)) wB/\wB.cell? ⟨gb,0,none⟩=some (.slice RA m1 rc)/\wB.cell? ⟨gb,1,none⟩=some (.slice RB m2 rd)/\wB.cell? ⟨gb,2,none⟩=some (.slice RC n vO)/\wB.cell? ⟨w.heap.size,9,none⟩=some (.slice XA k1 xa)/\wB.cell? ⟨w.heap.size,10,none⟩=some (.slice XB k2 xb)/\wB.cell? ⟨w.heap.size,11,none⟩=some (.slice XC n xc)) λwB SS=> ?_;obtain⟨au,br,aB,aC,aF,aX,bK,fg⟩:=SS.o _ (ad.refl _);repeat(apply DW.ct;(focus (intro wd hI;obtain⟨ae,ay,ai,aj,aq,az,aK,a1⟩:=SS.o wd hI;go_wp2_with (go_at_call 117;refine(MF _ _ g.es aH g.os g.ps aJ a' _ ((cU.o.fr (.ar (au.call hI))).mu) ((cN.o.fr (.ar (au.call hI))).mu) jW.o nG.o (by rw[pL.o,lg.o])).mono ?_;rintro e w5 ⟨rfl,cF⟩);exact aP));refine DW.np ?_)
 refine DW.nl SS ?_;rintro wd hI ⟨ae,ay,ai,aj,aq,az,aK,a1⟩;have jg:=aa ae;have cC:=aa (ay.heap dy.o);have b6:=aa (ay.heap dG.o);have c3:=ae.af rp.o;have c4:=ae.af As.o;have gZ:=ae.af Xd.o;have fU:=qhs B gb g _ sc wd (by rw[HN.o];exact sM.o.kept ae) (λW hW i hi=>HS.o W (ae.call hW) i hi) hB h9 (λi U hi hj=>IB.o i U (by rw[<- HN.o];exact hi) (by rw[<- HN.o];exact hj));rw[HN.o]at fU;have iI:=aa fU;have Gj:=ae.size;have VG:w.heap.size+1<wd.heap.size:=(aQ cC.o);clear ae ay au br hI ai aj aq az aK a1 aB aC aF aX bK fg fU fJ ry rz r0 r1 r2;go_wp2_with fail
 refine iI.o.mono ?_;rintro e w1 ⟨b,rfl,hb,k1⟩;have cx:=aa (jg.o.call k1);have xH:=aa hb;have ll:=aa (k1.heap cC.o);have iE:=aa (k1.heap b6.o);have c3:=k1.af c3;have c4:=k1.af c4;have gZ:=k1.af gZ;have aY:=k1.size;have kp:w.heap.size+1<w1.heap.size:=(aQ ll.o);clear k1 hb
 cases b
 ·go_wp2_with fail
  refine(qgu _ _ N _ _ _ (vN.o _ cx.o) ID.o).mono ?_;rintro e w2 ⟨⟨qhz,rfl,Xe⟩,k2⟩;have HBI:=aa Xe;have eb:=aa (cx.o.call k2);have gM:=aa (k2.heap ll.o);have im:=aa (k2.heap iE.o);have c3:=k2.af c3;have gZ:=k2.af gZ;have aW:=k2.size;have gE:w.heap.size+1<w2.heap.size:=(aQ gM.o);clear k2 Xe
  cases qhz
  ·go_wp2_with fail
   refine(gl 17 _).mono ?_;rintro e w6 ⟨rfl,k6⟩;have aZ:=aa (k6.heap gM.o);have aR:=aa k6;clear k6;obtain⟨p0,p1,p2,p3⟩:=dg aZ.o;go_wp2;have aL:=bC aZ.o (.int .i64 17) (.slice none 0 0);have y0:=ap aL 0;have y1:=ap aL 1;refine KV (v:= .agg #[.int .i64 17,.slice none 0 0]) (by simp[results,results66,go_sem,y0,y1]) rfl ?_;obtain⟨r1,r2⟩:=df eb.o ab gM.o (HG.o.kept (eb.o.call aR.o)) (.ar aR.o);exact⟨17,g,rfl,r1,.inl ⟨ak,rfl⟩,r2⟩
  by_cases Dd:pm=0
  ·subst Dd;have r0:=eb.o.af o0.o;have r1:=eb.o.af dv.o;have r2:=eb.o.af di.o;have fJ:=ap im.o 9;have ry:=ap im.o 10;have rz:=ap im.o 11;have HPI:ag (g.pins=[]):=ql2 pX.o;have iT:gb<w2.heap.size:=ab;have ko:w.heap.size<w2.heap.size:=ab;have Xf:=ru.new w w2;have HCM:=aa Xf;clear Xf;go_wp2;refine ku [0,1,2,3,4,5,8,6,7] [none,none,none,none,none,none,none,some (λu w'=>∃ A c mv pt,u= .slice A mv.length c/\Rw w' 198 4 sB u mv/\Hq g.es aH pt/\nF g.es aH g.os aJ n pt pt.length 0 mv),none] (λwB=>ad w wB/\ad w2 wB/\ad (w2.alloc (.map #[] 0)) wB/\wB.cell? ⟨gb,0,none⟩=some (.slice RA m1 rc)/\wB.cell? ⟨gb,1,none⟩=some (.slice RB m2 rd)/\wB.cell? ⟨gb,2,none⟩=some (.slice RC n vO)/\wB.cell? ⟨w.heap.size,9,none⟩=some (.slice XA k1 xa)/\wB.cell? ⟨w.heap.size,10,none⟩=some (.slice XB k2 xb)/\wB.cell? ⟨w.heap.size,11,none⟩=some (.slice XC n xc)) λwB SS=> ?_;obtain⟨au,br,DI,aB,aC,aF,aX,bK,fg⟩:=SS.o _ (ad.refl _);iterate 7 refine SP.on ?_
   refine SP.ew ?_ λv1=> ?_
   ·intro wd hI hF;obtain⟨ae,ay,kI,ai,aj,aq,az,aK,a1⟩:=SS.o wd hI;clear hF;go_wp2_with ((go_at_call 121;refine(qfx _ _ g.es aH g.os g.ps aJ a' _ ((cU.o.fr (.ar ae)).mu) ((cN.o.fr (.ar ae)).mu) jW.o nG.o (by rw[pL.o,lg.o])).mono ?_;rintro e w5 ⟨v5,pt,mv,rfl,h5,h6,h7,k5⟩;obtain⟨A5,c5,rfl,_,_⟩:=h5.form));exact bn rfl ⟨A5,c5,mv,pt,rfl,h5,h6,by rw[pL.o]at h7;exact h7⟩
   refine SP.oe (v:=Xc v1) ?_ ?_
   ·intro wd hI hF;obtain⟨ae,ay,kI,ai,aj,aq,az,aK,a1⟩:=SS.o wd hI;have h1:=hF.1;clear hF;(obtain⟨wz,⟨A5,c5,mv,pt,rfl,_⟩,_⟩:=h1);go_wp2;exact aP
   refine SP.nil av λwd hI hF=> ?_;obtain⟨ae,ay,kI,ai,aj,aq,az,aK,a1⟩:=SS.o wd hI;have h1:=hF.1;clear hF SS;obtain⟨w9,⟨MQ,mc,mv,pt,rfl,sm,mX,cO⟩,k9⟩:=h1;have NH:=sm.kept k9;obtain⟨M,hM⟩:=eqQ mv.length;have HM:=aa hM;have oF:=aa mX;have jY:=aa cO;have Ao:M<=1206:=by have:=cO.bx;have:=mX.bx;omega
   have Xg:=aa (HCM.o.keep kI);have lF:=aa (ay.heap gM.o);have sO:=aa (ay.heap im.o);have qhA:=aa ae;rw[hM]at NH⊢;have HMV:=aa NH;unfold Xc;simp only;obtain⟨MB,NI⟩:=eqQ w2.heap.size;have qld:=aa NI;rw[NI]at Xg⊢;have qle:w.heap.size<MB:=ab;have Cs:=ae.size;have oN:gb<wd.heap.size:=ab;clear sm mX cO hM NI k9 ae ay kI au br DI hI ai aj aq az aK a1 aB aC aF aX bK fg NH fJ ry rz r0 r1 r2 c3 gZ;obtain⟨W4,rfl⟩:=eqR wd;go_wp2;go_loopw [55] (λiv wr=>∃ (i:Nat) (C:mz) (l:Nat->List ax),i<=M/\iv= .int .i64 i/\ag (ad w wr)/\ag (Fr NV W4 wr)/\ag (ru w wr MB C l)/\ag (sL g l mv i)) (λiv _=>M-(intOf iv).toNat)
   case atStart=>exact⟨0,_,_,ab,rfl,qhA,Fr.ar (ad.refl _),Xg,sL.zero g mv⟩
   case round=>
    obtain⟨i,C,l,hi,rfl,hk,hf,iR,wY⟩:=hrel;have ou:=hk.o.size;have te:gb<wr.heap.size:=ab;by_cases sI:i<M
    ·obtain⟨m,hm⟩:=exQ mv i (by rw[HM.o];exact sI);have Gg:=aa hm;obtain⟨qlf,qlg,rfl,S4,fE⟩:=(HMV.o.fr hf.o (by unfold NV;decide)).af hm;obtain⟨_,_,q1,q2,_⟩:=jY.o.ok m (zV hm);have q0:=(jY.o.ok m (zV hm)).1;have q9:=(jY.o.ok m (zV hm)).2.1;obtain⟨mt,Xh,x0,x1⟩:=m;simp only at q0 q1 q2 q9;obtain⟨t,rfl⟩:∃ t:Nat,mt=t:=⟨mt.toNat,ab⟩;obtain⟨a,rfl⟩:∃ t:Nat,Xh=t:=⟨Xh.toNat,ab⟩;have ht:t<n:=ab;have ha:a<n:=ab;have d0:=fE 0 _ rfl;have d1:=fE 1 _ rfl;have d2:=fE 2 _ rfl;have d3:=fE 3 _ rfl;simp only[Nat.add_zero]at d0;have c3:=hk.o.af rp.o;obtain⟨xt,CS,fQ,dU⟩:=pY (sM.o.kept hk.o) ha;injection fQ with fQ;injection fQ with e1 e2;subst e1 e2;have bS:=yY wr (.cells #[.int .i64 t,.int .i64 a,.string x0,.string x1] 198);have HBM:=aa bS;have hkx:ad wr (wr.alloc (.cells #[.int .i64 t,.int .i64 a,.string x0,.string x1] 198)):=(ad.refl _).alloc _;clear hm fE q0 q1 q2 q9 bS;have dT:=Aa wr _ dU;go_wp2;refine bz (λwB=>ad wr wB/\ad (wr.alloc (.cells #[.int .i64 t,.int .i64 a,.string x0,.string x1] 198)) wB/\wB.cell? ⟨gb,3,none⟩=some (.slice (some ⟨b0,ud,none⟩) n sc)/\wB.cell? ⟨b0,ud+a,none⟩=some (.pointer (some ⟨(g.p a).sb,0,none⟩))/\wB.cell? ⟨wr.heap.size,1,none⟩=some (.int .i64 a)) λwB SS=> ?_;obtain⟨au,br,aB,aC,aF⟩:=SS.o _ (ad.refl _);repeat refine DW.dt ?_
     refine DW.nl SS ?_;rintro wd hI ⟨ae,ay,ai,aj,aq⟩;have oD:=aa (ay.heap HBM.o);have NJ:=aa (hk.o.call ae);have Xi:=aa (hf.o.trans (Fr.ar ae));have Xj:=aa (iR.o.keep ae);have Ta:=ae.size;have zX:wr.heap.size<wd.heap.size:=(aQ oD.o);obtain⟨rA,bS⟩:=eqQ wr.heap.size;have qlh:=aa bS;rw[bS]at oD zX⊢;clear ae ay au br hI ai aj aq aB aC aF d0 d1 d2 d3 c3 dU hkx bS;obtain⟨W5,jZ⟩:=eqR wd;rw[<- jZ]at oD NJ Xi Xj Ta zX⊢;clear jZ;go_wp2_with fail
     refine(DC B (g.p a) a (g.σ a) W5 (HS.o _ NJ.o a (by rw[HN.o];exact ha)) hB ab).mono ?_;rintro e w6 ⟨v6,hl,rfl,IF,cy,k6⟩;obtain⟨HA,hc,rfl,_,_⟩:=IF.form;have h8:=cy.cg.len;obtain⟨IG,NK⟩:=eqQ hl.length;have rB:=aa NK;rw[NK]at h8 IF⊢;have IH:=aa IF;have yx:=aa cy;have Mq:=aa (k6.heap oD.o);have aR:=aa (NJ.o.call k6);have DK:=aa (Xi.o.trans (Fr.ar k6));have sq:=aa (Xj.o.keep k6);have fG:rA<w6.heap.size:=by have:=k6.size;omega
     have nj:wr.heap.size<=w6.heap.size:=by have:=k6.size;omega
     clear k6 NK IF cy;go_wp2;go_loopw [70] (λjv wq=>∃ (U:Nat) (C:mz) (l:Nat->List ax),U<=IG/\jv= .int .i64 U/\ag (ad w wq)/\ag (Fr NV w6 wq)/\ag (ru w wq MB C l)/\ag (p7 g l mv i ⟨t,a,x0,x1⟩ hl U)) (λjv _=>IG-(intOf jv).toNat)
     case atStart=>exact⟨0,_,_,ab,rfl,aR.o,Fr.ar (ad.refl _),sq.o,wY.o.start _ _⟩
     case round=>
      obtain⟨U,C,l,hj,rfl,bb,eG,Xk,II⟩:=hrel;have dn:=eG.o.block _ _ _ Mq.o (by unfold NV;decide);have qli:rA<wr.heap.size:=(aQ dn);by_cases oN:U<IG
      ·obtain⟨d,hd⟩:=exQ hl U (by rw[rB.o];exact oN);obtain⟨qlj,oh2,rfl,hbh,fE⟩:=(IH.o.fr eG.o (by unfold NV;decide)).af hd;have zx:=(yx.o.mem d).1 (zV hd);have uC:=zx.1;have IJ:=zx.2.1;clear zx;have HD:=aa hd;obtain⟨oO,gR,dst⟩:=d;simp only at uC IJ;have f0:=fE 0 _ rfl;have f1:=fE 1 _ rfl;have f2:=fE 2 _ rfl;simp only[Nat.add_zero]at f0;have y0:=ap dn 0;have y2:=ap dn 2;have y3:=ap dn 3;obtain⟨hb,Xl⟩:=eqQ (hasB x0 x1 oO);have NL:=aa Xl;have qhB:=aa dn;have kS:=aa (yY wr (.cells #[.string oO,.int .i64 gR,.int .i64 dst] 60));have HKq:ag (ad wr (wr.alloc (.cells #[.string oO,.int .i64 gR,.int .i64 dst] 60))):=(ad.refl _).alloc _;obtain⟨LC,IK⟩:=eqQ ((g.σ a).L oO);have NN:=aa IK;rw[IK]at IJ;have se:=aa IJ
       have qhC:ag (∀ W,ad w W->Calls prog 123 #[.pointer (some ⟨(g.p a).sb,0,none⟩),.string oO] W λe w'=>∃ v',e= .returned v'/\dc w' B oO v' LC/\ad W w'):=λW hW=>by
        have:=Ue B (g.p a) a (g.σ a) W (HS.o _ hW a (by rw[HN.o];exact ha)) hB ab oO uC;rw[IK]at this;exact this
       clear hd fE Xl dn IK IJ;go_wp2_with fail
       refine(Qk x0 x1 oO _).mono ?_;rw[NL.o];rintro e w7 ⟨rfl,nr⟩;have IL:=aa (HKq.o.call nr);have fC:=aa (bb.o.call IL.o);have Bc:=aa (eG.o.trans (Fr.ar IL.o));have yy:=aa (Xk.o.keep IL.o);have EC:=aa (IL.o.heap qhB.o);have rC:=aa (nr.heap kS.o);clear nr f0 f1 f2 y0 y2 y3
       cases hb
       ·go_wp2;go_roundw
        case rel=>exact⟨U+1,C,l,ab,aA,fC.o,Bc.o,yy.o,II.o.no HD.o NL.o⟩
        case measure=>exact dY
       ·have fT:t<6:=ab;have bU:=yy.o.row t fT;obtain⟨CA,rD,gF⟩:=ca bU;have aL:=ec bU EC.o ak;have ED:=ec bU rC.o ak
        have tg:MB∉(jC (C t)).ownBlock.toList:=λhy=>by
         obtain⟨c2,cz⟩:=j5 bU (Option.mem_toList.1 hy);obtain⟨D,⟨es,clock,qhD,_⟩,_⟩:=yy.o.map;rw[qhD]at cz;cases cz
        have rQ:∀ y∈(jC (C t)).ownBlock.toList,w.heap.size<=y:=λy hy=>(bU.lt y (Option.mem_toList.1 hy)).1;obtain⟨lG,eO⟩:=eqQ ((l t).length);obtain⟨xs,bP⟩:=eqQ ((l t).flatMap a8);have cX:=II.o.bx t;rw[eO]at bU gF cX;rw[bP]at bU;rw[gF]at bU aL ED tg rQ;have sw:=aa eO;have ly:=aa bP;have jD:=aa gF;have mA:=aa rQ;have NO:=aa tg;have qhE:ag (ui w7 w.heap.size (.slice CA lG rD) lG xs):=bU;have jr:ag (ui w7 w.heap.size (.slice CA lG rD) lG xs):=bU;obtain⟨q2,gE⟩:=eqQ wr.heap.size;rw[gE]at ED rC⊢;have y0:=ap EC.o 0;have z0:=ap rC.o 0;have hz7:=fC.o.size;have qlk:rA<w7.heap.size:=(aQ EC.o);have EE:q2<w7.heap.size:=(aQ rC.o);clear bU gF eO bP gE tg rQ;go_wp2;refine oY (oS (((Value.slice CA lG rD).ownBlock.toList))) (λwB=>ah (((Value.slice CA lG rD).ownBlock.toList)) w7 wB/\wB.cell? ⟨rA,0,none⟩=some (.int .i64 t)/\wB.cell? ⟨q2,0,none⟩=some (.string oO)/\ag (ui wB w.heap.size (.slice CA lG rD) lG xs)) ?_ av av _ (by(try simp only[List.append_eq,List.cons_append,List.nil_append,List.toList_toArray]);exact rfl) ?_
        ·exact⟨by exact hD,by first|assumption|go_simp,by first|assumption|go_simp,by first|assumption|skip⟩
        rintro wB ⟨au,aB,aC,jr⟩;repeat((first|(apply DW.ct;(focus (intro wd hI;have ae:=au.trans hI;have ai:=hI.af aB bk;have aj:=hI.af aC bk;(try have cr:=(yy.o.map.but ae NO.o).look fT;rw[jD.o]at cr);go_wp2_with (fail);refine bd.mk _ rfl ⟨rfl,?_⟩;exact al)))|(refine DW.bt av ?_;intro wd hI;have ae:=au.trans (ah.ar hI);have ai:=hI.af aB;have aj:=hI.af aC;(try have cr:=(yy.o.map.but ae NO.o).look fT;rw[jD.o]at cr);go_wp2_with (first|(go_at_call 123;go_must (refine(qhC.o _ (fC.o.but ae mA.o)).mono ?_;rintro e w5 ⟨v5,rfl,h5,k5⟩;obtain⟨tj,NP,c5,rfl⟩:=h5.row.some_ se.o;have G5:=aa h5;have jr:=aa (jr.o.kept (hI.call k5));clear h5;have dB:ah (Value.slice CA lG rD).ownBlock.toList wd w5:=ah.ar k5))|(at_builtin;go_must (have h6:=G5.o.qhp hB h9;refine qhv rfl _ _ 33 48 _ 6 _ a8 rfl underlying33 ql rfl ak ak gp uO w.heap.size _ lG xs LC rfl (jr.o.kept hI) _ _ _ _ rfl (G5.o.row.kept hI) ab (fC.o.but ae mA.o).size ?_;intro v7 w8 O7 qB j8;have tN:=aa O7;have HE7:ag (∀ g2,v7.ownBlock=some g2->(Value.slice CA lG rD).ownBlock=some g2∨w7.heap.size<=g2):=(λg2 dm=>j8.elim (λe=> .inl (e.symm.trans dm)) (λe=> .inr (by rw[e]at dm;injection dm with dm;have:=ae.size;omega)));obtain⟨A7,tO,rfl⟩:=ca O7;have DF:=aa h6;clear O7 j8 h6)));refine bd.bt _ rfl (by exact hD) (λbf=> ?_);have b5:=(ah.ar (S:=((Value.slice CA lG rD).ownBlock.toList)) hI).trans bf;have au:=au.trans b5;have aB:=b5.af aB bk;have aC:=b5.af aC bk;(first|have jr:=aa (jr.o.kept (ad.call hI (ad.tQ bf)))|have jr:=aa (jr.o.kept (ad.call hI (ad.tR bf)))|skip)));simp only[Act.put,List.setIfInBounds_toArray,List.set_cons_succ,List.set_cons_zero])
        refine DW.tail av ?_;intro wd hI;have ae:=au.trans (ah.ar hI);have ai:=hI.af aB;have aj:=hI.af aC;have GP:=yy.o.map.but ae NO.o;obtain⟨yz,cr,Xm,vP⟩:=GP.put fT (.slice A7 (lG+LC.length) tO)
        have Xn:wd.ownsRow w.heap.size 48 6 (.slice A7 (lG+LC.length) tO) (l t++LC).length ((l t++LC).flatMap a8):=by
         rw[zH,sw.o,List.flatMap_append,ly.o];exact ad.own tN.o hI
        have DP:=aa (yy.o.put fT (by rw[jD.o];exact ae) Xn (by rw[jD.o];exact HE7.o) Xm vP);have yA:ag (ad w yz):=(fC.o.but ae mA.o).but vP (by simp;omega);have NQ:=aa ((Bc.o.trans (ui.fr qhE.o ae)).trans (Fr.map GP vP))
        have qhF:ag (p7 g (λs=>if s=t then l t++LC else l s) mv i ⟨t,a,x0,x1⟩ hl (U+1)):=by
         have e:(g.σ a).L (⟨oO,gR,dst⟩:aD).key=LC:=NN.o;have h:=II.o.yes (d:=⟨oO,gR,dst⟩) (a:=a) (t:=t) HD.o uC rfl (by rw[HN.o];exact ha) rfl (by rw[e];exact DF.o);rw[e]at h;exact h
        clear GP Xm vP Xn;go_wp2;go_roundw
        case rel=>exact⟨U+1,_,_,ab,aA,yA,NQ,DP,qhF⟩
        case measure=>exact dY
      ·obtain rfl:IG=U:=ab;go_wp2;go_roundw
       case rel=>exact⟨i+1,C,l,ab,aA,bb.o,DK.o.trans eG.o,Xk.o,p7.done (by rw[rB.o];exact II.o) Gg.o (by simpa using yx.o) (by rw[rB.o];exact h8)⟩
       case measure=>exact dY
    ·obtain rfl:M=i:=ab;have c3:=hk.o.af rp.o;have Gi:ag (NF g aH aJ l):=sL.all (by rw[HM.o];exact wY.o) oF.o (by rw[HN.o];exact jY.o);have HLF:ag (∀ s,(l s).length<=100000000):=λs=>by have:=wY.o.bx s;omega
     have aZ:=aa (hf.o.block _ _ _ lF.o (by unfold NV;decide));have tF:=aa (hf.o.block _ _ _ sO.o (by unfold NV;decide));have aR:=hk;have sq:=iR;have eS:=aa (HG.o.kept hk.o);clear hk hf iR wY sI;obtain⟨W6,pG⟩:=eqR wr;rw[<- pG]at aZ tF aR sq eS ou te c3⊢;clear pG;go_wp2;go_loopw [98] (λiv wr=>∃ (t:Nat) (σ':Nat->ci),t<=n/\iv= .int .i64 t/\ag (aT wr B gb {g with σ:=σ'})/\ag (Bb g aH aJ l σ' t)/\ag (bN W6 wr)/\ag (jq wr MB C)) (λiv _=>n-(intOf iv).toNat)
     case atStart=>exact⟨0,g.σ,ab,rfl,eS.o,λi hi=>⟨λh=>absurd h ab,λ_=>rfl⟩,.ar (ad.refl _),sq.o.map⟩
     case round=>
      obtain⟨t,σ',ht,rfl,hg,nR,dS,AJ⟩:=hrel;have qG:=dS.o.block _ _ _ tF.o ak;have fJ:=ap qG 9;have ry:=ap qG 10;have rz:=ap qG 11;have qll:w.heap.size<wr.heap.size:=(aQ qG);by_cases NR:t<n
      ·have fT:t<6:=ab;have lS:t<g.n:=by rw[HN.o];exact NR
       obtain⟨xt,CS,fQ,dU⟩:=pY ((sM.o.kept aR.o).fr dS.o ak) NR;injection fQ with fQ;injection fQ with e1 e2;subst e1 e2;obtain⟨CA,rD,gF⟩:=ca (sq.o.row t fT);have jD:=aa gF;have NT:=Rw.bp (sq.o.row t fT) gp ak;rw[gF]at NT;have Xo:=aa (NT.fr dS.o.j7 (by unfold bq;decide))
       have jF:ag (∀ x∈l t,b7 wr B x):=λx hx=>by
        obtain⟨a,k,ha,hk,lV⟩:=Gi.o.1 t x hx;exact(((HS.o W6 aR.o a ha).Az hk lV).1).fr dS.o.j7
       have hσ:=(nR.o t lS).2 (CP _)
       have ji:ba wr B (g.p t) t (g.σ t):=by
        obtain⟨V2,h1,h2⟩:=hg.o;have h3:=h2.bi t lS;have h4:ba wr B (g.p t) t (σ' t):=h3;rw[hσ]at h4;exact h4
       have Io:=aa ji;have qhG:=aa ((cN.o.fr (.ar aR.o)).fr dS.o.j7);obtain⟨LT,NU⟩:=eqQ (l t);have Xp:=aa NU;have NW:=HLF.o t;rw[NU]at jD Xo jF NW;have qhH:=aa NW;clear gF NT hσ ji qG NU NW;go_wp2;refine ku [0,1,2,3,5,6,7,4,8] [none,none,none,none,none,none,none,some (λu w'=>∃ D c,u= .slice D (dd aH aJ t k1).length c/\Rw w' 63 2 bZ u (dd aH aJ t k1))] (λwB=>ad wr wB/\wB.cell? ⟨w.heap.size,9,none⟩=some (.slice XA k1 xa)/\wB.cell? ⟨w.heap.size,10,none⟩=some (.slice XB k2 xb)/\wB.cell? ⟨w.heap.size,11,none⟩=some (.slice XC n xc)) λwB SS=> ?_;obtain⟨au,aB,aC,aF⟩:=SS.o _ (ad.refl _);iterate 7 (apply SP.one av;(focus (intro wd hI hF;clear hF;obtain⟨ae,ai,aj,aq⟩:=SS.o wd hI;(try have cr:=(AJ.o.keep ae).look fT;rw[jD.o]at cr);go_wp2_with (fail);exact aP));refine SP.np ?_)
       refine SP.ew ?_ λv1=> ?_
       ·intro wd hI hF;obtain⟨ae,ai,aj,aq⟩:=SS.o wd hI;clear hF;(try have cr:=(AJ.o.keep ae).look fT;rw[jD.o]at cr);go_wp2_with ((go_at_call 27;refine(UQ XA XB XC k1 xa k2 xb n xc aH aJ a' t _ ((qhy.o _ (qhG.o.fr (.ar ae)))) qhx.o).mono ?_;rintro e w5 ⟨D,c4,dB,rfl,h5,_,_,k5⟩));exact bn rfl ⟨D,c4,rfl,Rw.bp h5 nZ ak⟩
       refine SP.ml SS ?_;rintro wd hI hF ⟨ae,ai,aj,aq⟩;have h1:=hF.1;clear hF SS;obtain⟨w9,⟨D,dz,rfl,fA⟩,k9⟩:=h1;have ii:=aa (fA.kept k9);have sH:=aa (Io.o.kept ae);have yp:=aa (hg.o.kept ae);have Ny:=aa (dS.o.trans (.ar ae));have HMd:=aa (AJ.o.keep ae);have HCd:=aa (Xo.o.kept ae);have EF:ag (∀ x∈LT,b7 wd B x):=λx hx=>(jF.o x hx).kept ae;clear fA k9 ae au hI ai aj aq aB aC aF;go_wp2_with fail
       refine(qeI B (g.p t) t (g.σ t) D dz (dd aH aJ t k1) CA rD LT wd sH.o ii.o (by have:=Ho aH aJ t k1;have:=nG.o.fit.up.cV;have:=sN.o;omega) HCd.o (by have:=qhH.o;omega) EF.o hB ab).mono ?_;rintro e w7 ⟨L1,wt,L',rfl,q1,q2,q3,q4,q5,q6⟩;obtain⟨r1,r2⟩:=yp.o.tY (i:=t) lS q1 q5 q6 (Int.le_refl _);have vQ:=aa r1
       have vr:ag (Bb g aH aJ l (ed σ' t ⟨dd aH aJ t k1,L',wt,(clockOf ((g.σ t).cn,(g.σ t).cs) LT).1,(clockOf ((g.σ t).cn,(g.σ t).cs) LT).2⟩) (t+1)):=by
        refine nR.o.step lS ⟨L1,wt,L',?_,?_,?_,?_⟩
        ·unfold lE;rw[<- sN.o,Xp.o]
        ·unfold lE;rw[<- sN.o];exact q2
        ·unfold lE;rw[<- sN.o];exact q3
        ·unfold lE;rw[<- sN.o,Xp.o];exact q4
       have Bc:=aa (Ny.o.trans r2);have EC:=aa (HMd.o.but q5 (by have:=IC.o t NR;simp;omega));clear q1 q2 q3 q4 q5 q6 r1 r2;go_wp2;go_roundw
       case rel=>exact⟨t+1,_,ab,aA,vQ,vr,Bc,EC⟩
       case measure=>exact dY
      ·obtain rfl:t=n:=ab;have HAr:=aa (dS.o.block _ _ _ aZ.o ak);have HRr:=aa ((cN.o.fr (.ar aR.o)).fr dS.o.j7);clear qG;go_wp2_with fail
       refine(M8 _ _ _ aH aJ a' _ HRr.o (by have:=NG nG.o.fit rfl;exact⟨this.1,this.2.1,this.2.2⟩)).mono ?_;rintro e w8 ⟨rv8,ov8,pv8,rfl,Bd,k8⟩;have rE:=aa (hg.o.kept k8);have EG:=aa (dS.o.trans (.ar k8));have vR:=aa (k8.heap HAr.o);obtain⟨V8,vS,_⟩:=rE.o;have c0:w8.cell? ⟨gb,0,none⟩=some V8.rv:=aE vS 0;have c1:w8.cell? ⟨gb,1,none⟩=some V8.ov:=aE vS 1;have c2:w8.cell? ⟨gb,2,none⟩=some V8.pv:=aE vS 2;have f0:=aI vS 0;have f1:=aI vS 1;have f2:=aI vS 2;have qlm:gb<w8.heap.size:=(aQ vS);obtain⟨r1,r2⟩:=rE.o.qhq Bd (by show eA aH aJ a' g.n;rw[HN.o,<- lg.o];exact nG.o) (lg.o.trans HN.o.symm);have vT:=aa r1;have EH:=aa (EG.o.trans r2);have vU:=aa (gY vR.o r2);obtain⟨A1,bj,rfl,_,_⟩:=Bd.r.form;obtain⟨A2,a2,rfl,_,_⟩:=Bd.qD.form;obtain⟨A3,a3,rfl,_,_⟩:=Bd.p.form;clear r1 r2 vS Bd k8;obtain⟨p0,p1,p2,p3⟩:=dg vU.o;go_wp2;have aL:=bC vU.o (.int .i64 0) (.slice none 0 0);have y0:=ap aL 0;have y1:=ap aL 1;refine KV (v:= .agg #[.int .i64 0,.slice none 0 0]) (by simp[results,results66,go_sem,y0,y1]) rfl ?_;obtain⟨r1,r2⟩:=df aR.o ab aZ.o vT.o EH.o;exact⟨0,_,rfl,r1,.inr ⟨rfl,by rw[HN.o];exact xH.o (by trivial),by rw[HN.o];exact HBI.o.1 (by trivial),HPI.o,l,σ',Gi.o,by rw[HN.o];exact nR.o,rfl⟩,r2⟩
  ·have hd:decide (((pm:Nat):Int)>0)=true:=by simp;omega
   go_wp2_with fail
   refine(gl 17 _).mono ?_;rintro e w6 ⟨rfl,k6⟩;have aZ:=aa (k6.heap gM.o);have aR:=aa k6;clear k6;obtain⟨p0,p1,p2,p3⟩:=dg aZ.o;go_wp2;have aL:=bC aZ.o (.int .i64 17) (.slice none 0 0);have y0:=ap aL 0;have y1:=ap aL 1;refine KV (v:= .agg #[.int .i64 17,.slice none 0 0]) (by simp[results,results66,go_sem,y0,y1]) rfl ?_;obtain⟨r1,r2⟩:=df eb.o ab gM.o (HG.o.kept (eb.o.call aR.o)) (.ar aR.o);exact⟨17,g,rfl,r1,.inl ⟨ak,rfl⟩,r2⟩
 ·go_wp2_with fail
  refine(gl 17 _).mono ?_;rintro e w6 ⟨rfl,k6⟩;have aZ:=aa (k6.heap ll.o);have aR:=aa k6;clear k6;obtain⟨p0,p1,p2,p3⟩:=dg aZ.o;go_wp2;have aL:=bC aZ.o (.int .i64 17) (.slice none 0 0);have y0:=ap aL 0;have y1:=ap aL 1;refine KV (v:= .agg #[.int .i64 17,.slice none 0 0]) (by simp[results,results66,go_sem,y0,y1]) rfl ?_;obtain⟨r1,r2⟩:=df cx.o ab ll.o (HG.o.kept (cx.o.call aR.o)) (.ar aR.o);exact⟨17,g,rfl,r1,.inl ⟨ak,rfl⟩,r2⟩
end Go.Proofs.YtehaoggjlciobaaGreat

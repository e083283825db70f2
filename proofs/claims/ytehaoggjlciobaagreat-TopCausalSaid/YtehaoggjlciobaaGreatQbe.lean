/- Part 21 of 40. -/
import Derived.Test.YtehaoggjlciobaaGreatQbc
import Derived.Test.YtehaoggjlciobaaGreatQav
import Derived.Test.YtehaoggjlciobaaGreatQay
set_option linter.all false
set_option maxRecDepth 20000
set_option maxHeartbeats 16000000
namespace Go.Proofs.YtehaoggjlciobaaGreat
open Go.Maps Go.RowKit Go.Proofs.Tryz
variable {cur:Array Value} {B B2:Int} {os ps:List Int} {X Y es:List Nat} {xs:List Value} {M N a b c e gb i k:Nat} {P:Nat->Nat->Bool} {F:Nat->Nat->List Nat} {st:Nat->Nat->bF} {e2:TypeId} {ov pv rv v:Value} {w w0 w1 w2:World} {p:cZ} {σ σ':ci} {S:dR}
def M3 (x:bF):Int:=if x.T.length-x.lo<8 then 0 else 15
def pR (x:bF) (d:ByteArray):bF:=if x.T.length-x.lo<8 then⟨x.T++[d],x.lo,x.aw++[x.T.length]⟩else x
def tX (x:bF):bF:=⟨x.T,x.lo,ym x.T x.lo x.aw⟩
def rj (x:bF) (i:Int):Option Nat:=if i<0 then none else x.aw[i.toNat]?
def mr (x:bF) (i h:Int):bF:=match rj x i with
 |none=>x
 |some q=>if h=2 then(if x.aw.length<32 then⟨x.T,x.lo,x.aw++[q]⟩else x)else if h=1 then⟨x.T,x.lo,x.aw.eraseIdx i.toNat⟩else if q=x.lo then⟨x.T,x.lo+1,x.aw.eraseIdx i.toNat⟩else⟨x.T,x.lo,x.aw.eraseIdx i.toNat⟩
def nI (x:bF) (i h:Int):Bool:=decide (rj x i=some x.lo/\h≠1/\h≠2)
def told (b:Bool) (t:ByteArray):Value:= .tuple #[.string (if b then t else⟨#[]⟩),.bool b]
structure Wh (x:bF):Prop where
 lo:x.lo<=x.T.length
 aw:∀ q∈x.aw,q<x.T.length
theorem dF.qgy (h:dF w0 X w N P st) (ha:a<6) (hc:c<6) (hP:P a c=true):Wh (st a c):=by
 obtain⟨M,k,S,F,h⟩:=h;obtain⟨s,hs⟩:=(h.gy a c ha hc).1 hP;obtain⟨_,_,_,_,_,_,_,_,_,_,_,_,h1,h2⟩:=h.bY a c s ha hc hs;exact⟨h1,h2⟩
theorem dF.Wi (h:dF w0 X w N P st) (ha:a<6) (hc:c<6) (hP:P a c=false) (hk:ad w w2):
  Calls prog 172 #[.pointer (some ⟨N,0,none⟩),.int .i64 a,.int .i64 c] w2 λe w'=>e= .returned (.pointer none)/\ad w2 w':=by
 obtain⟨M,k,S,F,h⟩:=h.keep hk
 have hs:S a c=none:=by
  cases hs:S a c with
  |none=>rfl
  |some s=>have:=(h.gy a c ha hc).2 ⟨s,hs⟩;rw[hP]at this;cases this
 have:=mm N M k a c S w2 h.cm h.map ha hc;rw[hs]at this;exact this
section
variable (w0:World) (X:List Nat) (N:Nat) (P:Nat->Nat->Bool) (st:Nat->Nat->bF) (a c:Nat) (A C:Int) (w:World) (h:dF w0 X w N P st) (h0:ad w0 w) (hA:A=a) (hC:C=c) (ha:a<6) (hc:c<6)
include h h0 hA hC ha hc
theorem qgz (d:ByteArray) (hP:P a c=true) (hT:(st a c).T.length<=1000) (hw:(st a c).aw.length<=1000):
  Calls prog 151 #[.pointer (some ⟨N,0,none⟩),.int .i64 A,.int .i64 C,.string d] w λe w'=>e= .returned (.int .i64 (M3 (st a c)))/\sD w0 X w w' N P (gj st a c (pR (st a c) d)):=by
 subst hA hC;have c7:=h;obtain⟨M,k,S,F,h⟩:=h;obtain⟨s,hs⟩:=(h.gy a c ha hc).1 hP;by_cases h8:(st a c).T.length-(st a c).lo<8
 ·refine(qf5 N M k a c s _ _ S _ _ d w h.cm h.map ha hc hs (h.bY a c s ha hc hs) h8 ab ab).mono λe w' ⟨he,ht⟩=>⟨by rw[he];simp[M3,h8],?_⟩;exact h.step h0 ha hc hs _ (by unfold pR;rw[if_pos h8];exact ht)
 ·refine(qf4 N M k a c s _ _ S _ _ d w h.cm h.map ha hc hs (h.bY a c s ha hc hs) ab).mono λe w' ⟨he,hk⟩=>⟨by rw[he];simp[M3,h8],?_⟩;exact h.step h0 ha hc hs _ (by unfold pR;rw[if_neg h8];exact⟨_,(h.bY a c s ha hc hs).keep hk,.ar hk,λx hx=> .inl hx⟩)
theorem Wj (hP:P a c=true) (hT:(st a c).T.length<=1000) (hw:(st a c).aw.length<=1000):
  Calls prog 111 #[.pointer (some ⟨N,0,none⟩),.int .i64 A,.int .i64 C] w λe w'=>e= .returned (.int .i64 (tV (st a c).T (st a c).lo (st a c).aw:Nat))/\sD w0 X w w' N P (gj st a c (tX (st a c))):=by
 subst hA hC;obtain⟨M,k,S,F,h⟩:=h;obtain⟨s,hs⟩:=(h.gy a c ha hc).1 hP;refine(qgc N M k a c s _ _ S _ _ w h.cm h.map ha hc hs (h.bY a c s ha hc hs) ab ab).mono λe w' ⟨he,ht⟩=>⟨he,?_⟩;exact h.step h0 ha hc hs (tX (st a c)) ht
theorem qgA (i eT:Int) (hP:P a c=true) (hT:(st a c).T.length<=1000) (hw:(st a c).aw.length<=1000):
  Calls prog 107 #[.pointer (some ⟨N,0,none⟩),.int .i64 A,.int .i64 C,.int .i64 i,.int .i64 eT] w λe w'=>e= .returned (told (nI (st a c) i (bits .and .i64 eT 3)) (tx (st a c).T (st a c).lo))/\sD w0 X w w' N P (gj st a c (mr (st a c) i (bits .and .i64 eT 3))):=by
 subst hA hC;obtain⟨M,k,S,F,h⟩:=h;obtain⟨s,hs⟩:=(h.gy a c ha hc).1 hP;have lL:=h.bY a c s ha hc hs;generalize hh:bits .and .i64 eT 3=h3
 cases hq:rj (st a c) i with
 |none=>
  have ho:i<0∨((st a c).aw.length:Int)<=i:=by
   unfold rj at hq;by_cases h0:i<0
   ·exact .inl h0
   ·rw[if_neg h0]at hq;have:=List.getElem?_eq_none_iff.1 hq;exact .inr ab
  refine(qf7 N M k a c s _ _ S _ _ i eT w h.cm h.map ha hc hs lL ab ho).mono λe w' ⟨he,hk⟩=>⟨by rw[he];simp[nI,hq,told],?_⟩;exact h.step h0 ha hc hs _ (by unfold mr;rw[hq];exact⟨_,lL.keep hk,.ar hk,λx hx=> .inl hx⟩)
 |some q=>
  have gr:¬i<0:=by intro g;unfold rj at hq;rw[if_pos g]at hq;cases hq
  obtain⟨U,rfl⟩:∃ U:Nat,i=U:=⟨i.toNat,ab⟩;have py:(st a c).aw[U]? =some q:=by unfold rj at hq;rw[if_neg gr]at hq;simpa using hq
  by_cases e2:h3=2
  ·refine(qf8 N M k a c s _ U q _ S _ _ eT w h.cm h.map ha hc hs lL ab py (by rw[hh,e2])).mono λe w' ⟨he,ht⟩=>⟨by rw[he];simp[nI,e2,told],?_⟩;refine h.step h0 ha hc hs _ ?_;unfold mr;rw[hq];simp only[e2,if_true];split
   ·rename_i hl;rw[if_pos hl]at ht;exact ht
   ·rename_i hl;rw[if_neg hl]at ht;exact ht
  ·by_cases e1:h3=1
   ·refine(qf9 N M k a c s _ U q _ S _ _ eT w h.cm h.map ha hc hs lL ab py (by rw[hh,e1])).mono λe w' ⟨he,ht⟩=>⟨by rw[he];simp[nI,e1,told],?_⟩;exact h.step h0 ha hc hs _ (by unfold mr;rw[hq];simp only[if_neg e2,if_pos e1];simpa using ht)
   ·by_cases e0:q=(st a c).lo
    ·subst e0;refine(qga N M k a c s U _ _ S _ _ eT h3 w h.cm h.map ha hc hs lL ab ab py hh e1 e2).mono λe w' ⟨he,ht⟩=>⟨by rw[he];simp[nI,hq,e1,e2,told],?_⟩;exact h.step h0 ha hc hs _ (by unfold mr;rw[hq];simp only[if_neg e2,if_neg e1,if_true];simpa using ht)
    ·refine(qf' N M k a c s _ U q _ S _ _ eT h3 w h.cm h.map ha hc hs lL ab py hh e1 e2 e0).mono λe w' ⟨he,ht⟩=>⟨by rw[he];simp[nI,hq,e0,told],?_⟩;exact h.step h0 ha hc hs _ (by unfold mr;rw[hq];simp only[if_neg e2,if_neg e1,if_neg e0];simpa using ht)
theorem qgB (hP:P a c=false):
  Calls prog 111 #[.pointer (some ⟨N,0,none⟩),.int .i64 A,.int .i64 C] w λe w'=>e= .returned (.int .i64 0)/\sD w0 X w w' N P st:=by
 subst hA hC;exact(qge _ a c w λw2 hk=>h.Wi ha hc hP hk).mono λe w' ⟨he,hk⟩=>⟨he,h.to h0 hk⟩
end
section
variable (w0:World) (X:List Nat) (N:Nat) (P:Nat->Nat->Bool) (st:Nat->Nat->bF) (a c:Nat) (A C:Int) (w:World) (h:dF w0 X w N P st) (hA:A=a) (hC:C=c) (ha:a<6) (hc:c<6)
include h hA hC ha hc
theorem Wk (hP:P a c=true) (hT:(st a c).T.length<=1000):
  Calls prog 144 #[.pointer (some ⟨N,0,none⟩),.int .i64 A,.int .i64 C] w λe w'=>e= .returned (.int .i64 (((st a c).T.length-(st a c).lo:Nat):Int))/\ad w w':=by
 subst hA hC;obtain⟨M,k,S,F,h⟩:=h;obtain⟨s,hs⟩:=(h.gy a c ha hc).1 hP;exact qf0 N M k a c s _ _ S _ _ w h.cm h.map ha hc hs (h.bY a c s ha hc hs) ab
theorem qgC (hP:P a c=true) (hw:(st a c).aw.length<=1000):
  Calls prog 105 #[.pointer (some ⟨N,0,none⟩),.int .i64 A,.int .i64 C] w λe w'=>(∃ v',e= .returned v'/\w'.ownsRow w.heap.size 238 2 v' (st a c).aw.length (bm (st a c).T (st a c).aw))/\ad w w':=by
 subst hA hC;obtain⟨M,k,S,F,h⟩:=h;obtain⟨s,hs⟩:=(h.gy a c ha hc).1 hP;exact(qf1 N M k a c s _ _ S _ _ w h.cm h.map ha hc hs (h.bY a c s ha hc hs) ab).mono λe w' ⟨v',h1,h2,h3⟩=>⟨⟨v',h1,h2⟩,h3⟩
theorem qgD (i:Int) (hP:P a c=true) (hw:(st a c).aw.length<=1000):
  Calls prog 106 #[.pointer (some ⟨N,0,none⟩),.int .i64 A,.int .i64 C,.int .i64 i] w λe w'=>e= .returned (told (nI (st a c) i 0) (tx (st a c).T (st a c).lo))/\ad w w':=by
 subst hA hC;obtain⟨M,k,S,F,h⟩:=h;obtain⟨s,hs⟩:=(h.gy a c ha hc).1 hP;have lL:=h.bY a c s ha hc hs
 cases hq:rj (st a c) i with
 |none=>
  have ho:i<0∨((st a c).aw.length:Int)<=i:=by
   unfold rj at hq;by_cases h0:i<0
   ·exact .inl h0
   ·rw[if_neg h0]at hq;have:=List.getElem?_eq_none_iff.1 hq;exact .inr ab
  exact(qgf N M k a c s _ _ S _ _ i w h.cm h.map ha hc hs lL ab ho).mono λe w' ⟨he,hk⟩=>⟨by rw[he];simp[nI,hq,told],hk⟩
 |some q=>
  have gr:¬i<0:=by intro g;unfold rj at hq;rw[if_pos g]at hq;cases hq
  obtain⟨U,rfl⟩:∃ U:Nat,i=U:=⟨i.toNat,ab⟩;have py:(st a c).aw[U]? =some q:=by unfold rj at hq;rw[if_neg gr]at hq;simpa using hq
  refine(qgg N M k a c s _ U q _ S _ _ w h.cm h.map ha hc hs lL ab py).mono λe w' ⟨he,hk⟩=>⟨?_,hk⟩;rw[he];by_cases e0:q=(st a c).lo
  ·simp[nI,hq,e0,told]
  ·simp[nI,hq,e0,told]
end
theorem j5 {base n:Nat} (h:w.ownsRow base e k v n xs) {g:Nat} (hg:v.ownBlock=some g):∃ cur,w.heap[g]? =some (.cells cur e (0,0)):=by
 rcases h.2 with ⟨rfl,_⟩|⟨g',cap,cur,rfl,_,hh,_⟩
 ·simp[Value.ownBlock]at hg
 ·obtain rfl:g'=g:=by simpa [Value.ownBlock]using hg
  exact⟨cur,hh⟩
theorem fB {jb:Array Value} {e:TypeId} (ha:w.heap[a]? =some (.cells cur e (0,0))) (hb:w.heap[b]? =some (.cells jb e2 (0,0))) (aN:e≠e2):a≠b:=by
 rintro rfl;rw[ha]at hb;simp only[Option.some.injEq,Obj.cells.injEq]at hb;exact aN hb.2.1
theorem ec {base n:Nat} (h:w.ownsRow base e k v n xs) (hb:w.heap[b]? =some (.cells cur e2 (0,0))) (aN:e2≠e):b∉v.ownBlock.toList:=λhy=>by
 obtain⟨c,hc⟩:=j5 h (Option.mem_toList.1 hy);exact fB hb hc aN rfl
theorem nJ {base n Ii e2 k2 n2:Nat} {v2:Value} {xs2:List Value} (h:w.ownsRow base e k v n xs) (h2:w.ownsRow Ii e2 k2 v2 n2 xs2) (aN:e≠e2):∀ g,v.ownBlock=some g->g∉v2.ownBlock.toList:=λg hg hy=>by
 obtain⟨c,hc⟩:=j5 h hg;obtain⟨c2,cz⟩:=j5 h2 (Option.mem_toList.1 hy);exact fB hc cz aN rfl
theorem gL {base n:Nat} (h:w.ownsRow base e k v n xs) (hb:w.heap[b]? =some (.cells cur e2 (0,0))) (aN:e2≠e):∀ g,v.ownBlock=some g->g∉[b]:=λg hg hy=>by
 simp only[At]at hy;subst hy;obtain⟨c,hc⟩:=j5 h hg;exact fB hb hc aN rfl
structure nK where
 kind:Int
 Ij:Int
 key:ByteArray
 n:Int
 s:Int
 pa:Option Addr
 pn:Nat
 pc:Nat
 ds:List aD
def sF (e:nK):List Value:=[.int .i64 e.kind,.int .i64 e.Ij,.string e.key,.int .i64 e.n,.int .i64 e.s,.slice e.pa e.pn e.pc]
theorem qgE:∀ a,(sF a).length=6:=λ_=>rfl
theorem qgF:∀ (l:List nK),∀ u∈l.flatMap sF,u.oneCell'=true:=λl u hu=>by
 obtain⟨a,_,ha⟩:=List.mem_flatMap.1 hu;simp only[sF,KX,List.not_mem_nil,or_false]at ha;rcases ha with rfl|rfl|rfl|rfl|rfl|rfl <;>rfl
structure aG where
 es:List Nat
 os:List Int
 ps:List Int
 p:Nat->cZ
 σ:Nat->ci
 st:Nat->Nat->bF
 ss:Nat->Int×List aD
 jn:Nat->List ByteArray×List Int
 pins:List cf
 bJ:List nK
 w0:World
def aG.n (g:aG):Nat:=g.ps.length
structure e9 where
 rv:Value
 ov:Value
 pv:Value
 sv:Value
 N:Nat
 sp:Nat->Value
 kv:Nat->Value
 wv:Nat->Value
 nv:Value
 hv:Value
def M4 (g:aG) (V:e9):Array Value:= #[V.rv,V.ov,V.pv,V.sv,.pointer (some ⟨V.N,0,none⟩),.int .i64 (g.ss 0).1,V.sp 0,.int .i64 (g.ss 1).1,V.sp 1,.int .i64 (g.ss 2).1,V.sp 2,.int .i64 (g.ss 3).1,V.sp 3,
 V.kv 0,V.wv 0,V.kv 1,V.wv 1,V.kv 2,V.wv 2,V.kv 3,V.wv 3,V.nv,V.hv]
def GB (w:World) (gb:Nat) (g:aG) (V:e9):Prop:=w.heap[gb]? =some (.cells (M4 g V) 82 (0,0))
theorem Rw.ints {e:TypeId} {A:Option Addr} {n:Nat} {l:List Int} (h:Rw w e 1 cJ (.slice A n c) l):bo w A n c l:=by
 obtain⟨A',c',hv,h1,h2,h3,h4⟩:=h;injection hv with e1 e2 e3;subst e1 e2 e3;refine⟨rfl,h1,h2,λe=>⟨by rw[(h3 e).1];rfl,(h3 e).2⟩,λh0=> ?_⟩
 cases A with
 |none=>rw[(h3 rfl).1]at h0;simp at h0
 |some p=>
  obtain⟨b,off,cur,rfl,hb,hc⟩:=h4 p rfl;refine⟨b,off,rfl,λi hi=> ?_⟩;have:=hc i l[i] (vF hi) 0 _ rfl;rw[Nat.mul_one,Nat.add_zero]at this;rw[aE hb,vF hi];exact this
theorem Wl:∀ a,(cJ a).length=1:=λ_=>rfl
structure fm (w:World) (rv ov pv:Value) (es:List Nat) (os ps:List Int):Prop where
 r:Rw w 63 2 bZ rv (bw es)
 qD:Rw w 3 1 cJ ov os
 p:Rw w 3 1 cJ pv ps
theorem fm.fr (h:fm w rv ov pv es os ps) (hf:Fr bq w w2):fm w2 rv ov pv es os ps:=
 ⟨h.r.fr hf (by unfold bq;decide),h.qD.fr hf (by unfold bq;decide),h.p.fr hf (by unfold bq;decide)⟩
theorem fm.mu (h:fm w rv ov pv es os ps):pI w (.agg #[rv,ov,pv]) es os ps:=by
 obtain⟨r,qD,p⟩:=h;obtain⟨A,c,rfl,_,_⟩:=r.form;obtain⟨A2,c2,rfl,_,_⟩:=qD.form;obtain⟨A3,c3,rfl,_,_⟩:=p.form;exact⟨A,A2,A3,_,c,_,c2,c3,rfl,r.rows,qD.ints,p.ints⟩
structure oI (w:World) (B:Int) (g:aG) (V:e9):Prop where
 row:fm w V.rv V.ov V.pv g.es g.os g.ps
 fit:eA g.es g.os g.ps g.n
 sites:Rw w 83 1 qk V.sv ((List.range g.n).map λi=>(g.p i).sb)
 bY:∀ c,c<4->Rw w 60 3 aS (V.sp c) (g.ss c).2/\b9 (g.ss c).2/\(∀ d∈(g.ss c).2,d.n<=B)/\ -1<=(g.ss c).1/\(g.ss c).1<g.n
 oJ:∀ c,c<4->Rw w 9 1 cd (V.kv c) (g.jn c).1/\Rw w 3 1 cJ (V.wv c) (g.jn c).2/\(∀ k∈(g.jn c).1,Let k)/\(g.jn c).1.length<=4/\(g.jn c).2.length=(g.jn c).1.length/\∀ s∈(g.jn c).2,0<=s/\s<g.n
 pins:sx w V.nv g.pins/\lq g.pins/\g.pins.length<=8/\∀ x∈g.pins,x.ds.length<=4/\∀ d∈x.ds,Let d.key
 rl:∀ e∈g.bJ,Rw w 60 3 aS (.slice e.pa e.pn e.pc) e.ds/\e.ds.length=e.pn
theorem oI.fr {g:aG} {V:e9} (h:oI w B g V) (hf:Fr bq w w2) (hB:B<=B2):oI w2 B2 g V:=
 ⟨h.row.fr hf,h.fit,h.sites.fr hf (by unfold bq;decide),λc hc=>by
  obtain⟨a,b,d,e⟩:=h.bY c hc
  exact⟨a.fr hf (by unfold bq;decide),b,λx hx=>Int.le_trans (d x hx) hB,e⟩,λc hc=>by
  obtain⟨a,b,d⟩:=h.oJ c hc;exact⟨a.fr hf (by unfold bq;decide),b.fr hf (by unfold bq;decide),d⟩,
  ⟨⟨h.pins.1.1.fr hf (by unfold bq;decide),λx hx=>⟨(h.pins.1.2 x hx).1.fr hf (by unfold bq;decide),(h.pins.1.2 x hx).2⟩⟩,h.pins.2⟩,
  λe he=>⟨(h.rl e he).1.fr hf (by unfold bq;decide),(h.rl e he).2⟩⟩
def j6 (g:aG):List Nat:=(List.range g.n).map λi=>(g.p i).mb
theorem qgG {g:aG} (hi:i<g.n):(g.p i).mb∈j6 g:=List.mem_map.2 ⟨i,List.mem_range.2 hi,rfl⟩
def iM (e:TypeId):Prop:=e=82∨e=92∨e=126∨e=148∨iK e
instance:DecidablePred iK:=λe=>by unfold iK;infer_instance
instance:DecidablePred iM:=λe=>by unfold iM;infer_instance
def bare (g:aG) (w:World):World:={w with heap:=w.heap.extract 0 g.w0.heap.size}
theorem Eb (g:aG) (w:World):ad (bare g w) w:=⟨rfl,rfl,rfl,by simp[bare];omega,λk hk=>by
 simp only[bare,Array.size_extract]at hk⊢;rw[Array.getElem?_extract,if_pos ab,Nat.zero_add]⟩
theorem qgH (g:aG) (w:World):(bare g w).heap.size<=g.w0.heap.size:=by simp[bare];omega
structure pS (w:World) (gb:Nat) (g:aG):Prop where
 size:g.w0.heap.size<=w.heap.size
 gb:g.w0.heap.size<=gb
 bi:∀ i,i<g.n->g.w0.heap.size<=(g.p i).sb/\g.w0.heap.size<=(g.p i).hb/\g.w0.heap.size<=(g.p i).mb
 bB:∀ b,b<g.w0.heap.size->w.heap[b]? =g.w0.heap[b]?∨∃ cur e,g.w0.heap[b]? =some (.cells cur e (0,0))/\¬iM e
structure fo (w:World) (B:Int) (gb:Nat) (g:aG) (V:e9):Prop where
 a6:oI w B g V
 bi:∀ i,i<g.n->ba w B (g.p i) i (g.σ i)
 apart:∀ i U,i<g.n->U<g.n->i≠U->(g.p i).sb≠(g.p U).sb/\(g.p i).hb≠(g.p U).hb/\(g.p i).mb≠(g.p U).mb
 cm:dF g.w0 (j6 g) w V.N (de g.n) g.st
 bx:∀ a b,a<6->b<6->((g.st a b).T.length:Int)<=B/\((g.st a b).aw.length:Int)<=32+B
 bJ:w.ownsRow g.w0.heap.size 92 6 V.hv g.bJ.length (g.bJ.flatMap sF)
 cX:(g.bJ.length:Int)<=8*B
 old:pS w gb g
def aT (w:World) (B:Int) (gb:Nat) (g:aG):Prop:=∃ V,GB w gb g V/\fo w B gb g V
abbrev bN (w w2:World):Prop:=Fr (λe=>¬iM e) w w2
theorem bq.qgI {e:TypeId} (h:bq e):¬iM e:=by
 unfold bq at h;rcases h with rfl|rfl|rfl|rfl|rfl|rfl|rfl <;>decide
theorem bN.j7 (h:bN w w2):Fr bq w w2:=h.mono λe he=>he.qgI
theorem e8.oK (h:e8 w0 X w N M k S F P st) (hk:ah Y w w2)
  (hY:∀ y∈Y,y<w.heap.size->y∈X∨∃ cur e,w.heap[y]? =some (.cells cur e (0,0))/\¬iK e/\e≠110):e8 w0 X w2 N M k S F P st:=by
 have hN:N∉Y:=λhy=>by
  rcases hY N hy h.lN with hx|⟨cur,e,h1,_,h3⟩
  ·exact(h.lX N hx).2.1 rfl
  ·have:=h.cm;unfold iJ at this;rw[this]at h1;simp only[Option.some.injEq,Obj.cells.injEq]at h1;exact h3 h1.2.1.symm
 have hM:M∉Y:=λhy=>by
  rcases hY M hy h.map.lt with hx|⟨cur,e,h1,_⟩
  ·exact(h.lX M hx).2.2 rfl
  ·obtain⟨D,⟨es,clock,h4,_⟩,_⟩:=h.map;rw[h4]at h1;cases h1
 have hF:∀ a c s,a<6->c<6->S a c=some s->∀ x∈F a c,x∉Y:=λa c s ha hc hs x hx hy=>by
  obtain⟨o1,o2,vE,VJ,MZ⟩:=h.own a c s ha hc hs x hx;rcases hY x hy o1 with lV|⟨cur,e,h1,h2,_⟩
  ·exact MZ lV
  ·obtain⟨jb,e2,h3,h4⟩:=(h.bY a c s ha hc hs).types x hx;rw[h1]at h3;simp only[Option.some.injEq,Obj.cells.injEq]at h3;exact h2 (h3.2.1▸h4)
 exact {cm:=h.cm.but hk hN,map:=h.map.but hk hM,many:=h.many,ne:=h.ne,nN:=h.nN,nM:=h.nM,lN:=R4 h.lN hk.size,lX:=λx hx=>⟨R4 (h.lX x hx).1 hk.size,(h.lX x hx).2⟩,gy:=h.gy,bY:=λa c s ha hc hs=>(h.bY a c s ha hc hs).but hk (hF a c s ha hc hs),own:=λa c s ha hc hs x hx=>⟨R4 (h.own a c s ha hc hs x hx).1 hk.size,(h.own a c s ha hc hs x hx).2⟩,apart:=h.apart}
theorem e8.base (h:e8 w0 X w N M k S F P st) (hz:w1.heap.size<=w0.heap.size):e8 w1 X w N M k S F P st:=
 {h with nN:=by have:=h.nN;omega,nM:=by have:=h.nM;omega,own:=λa c s ha hc hs x hx=>by obtain⟨o1,o2,vE⟩:=h.own a c s ha hc hs x hx;exact⟨o1,ab,vE⟩}
theorem dF.oK (h:dF w0 X w N P st) (hk:ah Y w w2)
  (hY:∀ y∈Y,y<w.heap.size->y∈X∨∃ cur e,w.heap[y]? =some (.cells cur e (0,0))/\¬iK e/\e≠110):dF w0 X w2 N P st:=by
 obtain⟨M,k,S,F,h⟩:=h;exact⟨M,k,S,F,h.oK hk hY⟩
theorem dF.base (h:dF w0 X w N P st) (hz:w1.heap.size<=w0.heap.size):dF w1 X w N P st:=by
 obtain⟨M,k,S,F,h⟩:=h;exact⟨M,k,S,F,h.base hz⟩
theorem fo.Ec {g:aG} {V:e9} (h:fo w B gb g V):dF (bare g w) (j6 g) w V.N (de g.n) g.st:=h.cm.base (qgH _ _)
theorem ba.nL {id:Int} (h:ba w B p id σ):∃ cur,w.heap[p.sb]? =some (.cells cur 126 (0,0)):=by
 obtain⟨A,c,h1,_⟩:=h.bB;exact⟨_,h1⟩
theorem ba.rm {id:Int} (h:ba w B p id σ):∃ cur,w.heap[p.hb]? =some (.cells cur 148 (0,0)):=by
 obtain⟨v,h1,_⟩:=h.sh.bB;exact⟨_,h1⟩
theorem ba.mw {id:Int} (h:ba w B p id σ):∃ es clock,w.heap[p.mb]? =some (.map es clock):=by
 obtain⟨C,⟨D,⟨es,clock,h1,_⟩,_⟩,_⟩:=h.sh.fz;exact⟨_,_,h1⟩
theorem ba.oK {id:Int} (h:ba w B p id σ) (hk:ah Y w w2) (hf:Fr bq w w2) (hY:∀ y∈Y,y<w.heap.size->∃ cur e,w.heap[y]? =some (.cells cur e (0,0))/\e≠126/\e≠148):ba w2 B p id σ:=by
 have h1:p.sb∉Y:=λhy=>by
  obtain⟨cur,hc⟩:=h.nL;obtain⟨jb,e,h3,h4,_⟩:=hY _ hy (aQ hc);rw[hc]at h3;simp only[Option.some.injEq,Obj.cells.injEq]at h3;exact h4 h3.2.1.symm
 have h2:p.hb∉Y:=λhy=>by
  obtain⟨cur,hc⟩:=h.rm;obtain⟨jb,e,h3,_,h4⟩:=hY _ hy (aQ hc);rw[hc]at h3;simp only[Option.some.injEq,Obj.cells.injEq]at h3;exact h4 h3.2.1.symm
 have h3:p.mb∉Y:=λhy=>by
  obtain⟨es,clock,hc⟩:=h.mw;obtain⟨jb,e,h3,_⟩:=hY _ hy (aQ hc);rw[hc]at h3;cases h3
 exact h.but hk hf h1 h2 h3
def ed {α:Type} (f:Nat->α) (i:Nat) (x:α):Nat->α:=λU=>if U=i then x else f U
theorem nO {α:Type} (f:Nat->α) (i:Nat) (x:α):ed f i x i=x:=by simp[ed]
theorem pT {α:Type} {f:Nat->α} {U:Nat} {x:α} (h:U≠i):ed f i x U=f U:=by simp[ed,h]
theorem aT.lt {g:aG} (h:aT w B gb g):gb<w.heap.size:=by
 obtain⟨V,h1,_⟩:=h;exact(aQ h1)
theorem pS.but {g:aG} (h:pS w gb g) (hb:ah Y w w2) (hY:∀ y∈Y,y<w.heap.size->g.w0.heap.size<=y∨∃ cur e,w.heap[y]? =some (.cells cur e (0,0))/\¬iM e):pS w2 gb g:=
 ⟨qcg h.size hb.size,h.gb,h.bi,λb an=>by
  have hl:b<w.heap.size:=R4 an h.size;by_cases hy:b∈Y
  ·rcases hY b hy hl with h5|⟨cur,e,h5,h6⟩
   ·omega
   ·rcases h.bB b an with h7|h7
    ·exact .inr ⟨cur,e,by rw[<- h7];exact h5,h6⟩
    ·exact .inr h7
  ·have h8:=hb.heap (Ht hl) hy;rw[h8,<- Ht hl];exact h.bB b an⟩
theorem pS.kept {g:aG} (h:pS w gb g) (hk:ad w w2):pS w2 gb g:=h.but (Y:=[]) (.ar hk) λy hy=>by cases hy
theorem pS.oU {g g2:aG} (h:pS w gb g) (e1:g2.w0=g.w0) (e2:g2.p=g.p) (e3:g2.n=g.n):pS w gb g2:=by
 obtain⟨h1,h2,h3,h4⟩:=h;rw[<- e1]at h1 h2 h3 h4;rw[<- e2,<- e3]at h3;exact⟨h1,h2,h3,h4⟩
theorem pS.below {g:aG} (h:pS w gb g) (hf:bN g.w0 w):Below g.w0.heap.size g.w0 w:=
 ⟨hf.os,hf.tape,hf.output,hf.size,λb an=>by
  rcases h.bB b an with h5|⟨cur,e,h5,h6⟩
  ·exact h5
  ·rw[hf.block b cur e h5 h6,h5]⟩
theorem fo.kept {g:aG} {V:e9} (h:fo w B gb g V) (hk:ad w w2):fo w2 B gb g V:=
 ⟨h.a6.fr (.ar hk) (Int.le_refl _),λi hi=>(h.bi i hi).kept hk,h.apart,h.cm.oK (Y:=[]) (.ar hk) (λy hy=>by cases hy),h.bx,ad.own h.bJ hk,h.cX,h.old.kept hk⟩
theorem aT.kept {g:aG} (h:aT w B gb g) (hk:ad w w2):aT w2 B gb g:=by
 obtain⟨V,h1,h2⟩:=h;exact⟨V,hk.heap h1,h2.kept hk⟩
theorem fo.mono {g:aG} {V:e9} (h:fo w B gb g V) (hB:B<=B2):fo w B2 gb g V:=
 ⟨h.a6.fr (.ar (ad.refl _)) hB,λi hi=>(h.bi i hi).mono hB,h.apart,h.cm,λa b ha hb=>by have:=h.bx a b ha hb;omega,h.bJ,by have:=h.cX;omega,h.old⟩
theorem aT.mono {g:aG} (h:aT w B gb g) (hB:B<=B2):aT w B2 gb g:=by
 obtain⟨V,h1,h2⟩:=h;exact⟨V,h1,h2.mono hB⟩
theorem bN.gn (hb:ah Y w w2) (hY:∀ y∈Y,y<w.heap.size->∀ cur e,w.heap[y]? =some (.cells cur e (0,0))->iM e):bN w w2:=
 Fr.gn hb λs hs cur e h1 h2=>h2 (hY s hs (aQ h1) cur e h1)
theorem fo.other {g:aG} {V:e9} (h:fo w B gb g V) (hb:ah Y w w2) (hY:∀ y∈Y,y<w.heap.size->∃ cur e,w.heap[y]? =some (.cells cur e (0,0))/\(e=82/\g.w0.heap.size<=y∨(¬iM e/\¬bq e/\e≠110))):fo w2 B gb g V:=by
 have cG:Fr bq w w2:=Fr.gn hb λs hs cur e h1 h2=>by
  obtain⟨jb,e2,h3,h4⟩:=hY s hs (aQ h1);rw[h1]at h3;simp only[Option.some.injEq,Obj.cells.injEq]at h3;obtain⟨_,rfl,_⟩:=h3;rcases h4 with ⟨rfl,_⟩|⟨_,h4,_⟩
  ·exact absurd h2 ak
  ·exact h4 h2
 refine⟨h.a6.fr cG (Int.le_refl _),λi hi=>(h.bi i hi).oK hb cG λy hy hl=> ?_,h.apart,h.cm.oK hb λy hy hl=> ?_,h.bx,cB h.bJ hb λb dP hy=> ?_,h.cX,h.old.but hb λy hy hl=> ?_⟩
 ·obtain⟨cur,e,h3,h4⟩:=hY y hy hl;refine⟨cur,e,h3,?_,?_⟩
  ·rintro rfl;rcases h4 with ⟨h4,_⟩|⟨h4,_⟩
   ·exact absurd h4 ak
   ·exact h4 ak
  ·rintro rfl;rcases h4 with ⟨h4,_⟩|⟨h4,_⟩
   ·exact absurd h4 ak
   ·exact h4 ak
 ·obtain⟨cur,e,h3,h4⟩:=hY y hy hl;refine .inr ⟨cur,e,h3,?_,?_⟩
  ·intro hn;rcases h4 with ⟨rfl,_⟩|⟨h4,_⟩
   ·exact absurd hn ak
   ·exact h4 (.inr (.inr (.inr (.inr hn))))
  ·rcases h4 with ⟨rfl,_⟩|⟨_,_,h4⟩
   ·decide
   ·exact h4
 ·obtain⟨cur,hc⟩:=j5 h.bJ dP;obtain⟨jb,e,h3,h4⟩:=hY b hy (aQ hc);rw[hc]at h3;simp only[Option.some.injEq,Obj.cells.injEq]at h3;obtain⟨_,rfl,_⟩:=h3;rcases h4 with ⟨h4,_⟩|⟨h4,_⟩
  ·exact absurd h4 ak
  ·exact h4 ak
 ·obtain⟨cur,e,h3,h4⟩:=hY y hy hl;rcases h4 with ⟨_,h4⟩|⟨h4,_⟩
  ·exact .inl h4
  ·exact .inr ⟨cur,e,h3,h4⟩
theorem oI.withσ {g:aG} {V:e9} (h:oI w B g V) (σ:Nat->ci):oI w B {g with σ:=σ} V:=⟨h.row,h.fit,h.sites,h.bY,h.oJ,h.pins,h.rl⟩
theorem oI.qgJ {g:aG} {V:e9} (h:oI w B g V) (st:Nat->Nat->bF):oI w B {g with st:=st} V:=⟨h.row,h.fit,h.sites,h.bY,h.oJ,h.pins,h.rl⟩
theorem fo.tY {g:aG} {V:e9} (h:fo w B gb g V) (hi:i<g.n) (hs:ba w2 B2 (g.p i) i σ') (hb:ah [(g.p i).sb,(g.p i).hb,(g.p i).mb] w w2) (hf:Fr bq w w2) (hB:B<=B2):fo w2 B2 gb {g with σ:=ed g.σ i σ'} V:=by
 obtain⟨c1,t1⟩:=(h.bi i hi).nL;obtain⟨c2,t2⟩:=(h.bi i hi).rm;obtain⟨es,clock,t3⟩:=(h.bi i hi).mw
 refine⟨(h.a6.fr hf hB).withσ _,λU hj=> ?_,h.apart,h.cm.oK hb λy hy hl=> ?_,λa b ha hb=>by have:=h.bx a b ha hb;simp only;omega,cB h.bJ hb λb dP hy=> ?_,by have:=h.cX;simp only;omega,(h.old.but hb λy hy _=> .inl (by
  have:=h.old.bi i hi;simp only[KX,List.not_mem_nil,or_false]at hy;omega)).oU rfl rfl rfl⟩
 ·show ba w2 B2 (g.p U) U (ed g.σ i σ' U)
  by_cases e:U=i
  ·subst e;rw[nO];exact hs
  ·rw[pT e];obtain⟨bj,a2,a3⟩:=h.apart U i hj hi e;obtain⟨d1,u1⟩:=(h.bi U hj).nL;obtain⟨d2,u2⟩:=(h.bi U hj).rm;obtain⟨vj,qdX,u3⟩:=(h.bi U hj).mw;refine((h.bi U hj).mono hB).but hb hf ?_ ?_ ?_
   ·simp only[KX,List.not_mem_nil,or_false,not_or];exact⟨bj,fB u1 t2 ak,λe=>by rw[e,t3]at u1;cases u1⟩
   ·simp only[KX,List.not_mem_nil,or_false,not_or];exact⟨fB u2 t1 ak,a2,λe=>by rw[e,t3]at u2;cases u2⟩
   ·simp only[KX,List.not_mem_nil,or_false,not_or];exact⟨(λe=>by rw[e,t1]at u3;cases u3),(λe=>by rw[e,t2]at u3;cases u3),a3⟩
 ·simp only[KX,List.not_mem_nil,or_false]at hy;rcases hy with rfl|rfl|rfl
  ·exact .inr ⟨_,_,t1,ak,ak⟩
  ·exact .inr ⟨_,_,t2,ak,ak⟩
  ·exact .inl (qgG hi)
 ·obtain⟨cur,hc⟩:=j5 h.bJ dP;simp only[KX,List.not_mem_nil,or_false]at hy;rcases hy with rfl|rfl|rfl
  ·exact fB hc t1 ak rfl
  ·exact fB hc t2 ak rfl
  ·rw[t3]at hc;cases hc
theorem fo.qgK {g:aG} {V:e9} (h:fo w B gb g V) (hi:i<g.n) (hb:ah [(g.p i).sb,(g.p i).hb,(g.p i).mb] w w2):bN w w2:=by
 obtain⟨c1,t1⟩:=(h.bi i hi).nL;obtain⟨c2,t2⟩:=(h.bi i hi).rm;obtain⟨es,clock,t3⟩:=(h.bi i hi).mw;refine bN.gn hb λy hy _ cur e he=> ?_;simp only[KX,List.not_mem_nil,or_false]at hy;rcases hy with rfl|rfl|rfl
 ·rw[t1]at he;cases he;decide
 ·rw[t2]at he;cases he;decide
 ·rw[t3]at he;cases he
theorem GB.tY {g:aG} {V:e9} (hG:GB w gb g V) (h:fo w B gb g V) (hi:i<g.n) (hb:ah [(g.p i).sb,(g.p i).hb,(g.p i).mb] w w2):GB w2 gb g V:=by
 obtain⟨c1,t1⟩:=(h.bi i hi).nL;obtain⟨c2,t2⟩:=(h.bi i hi).rm;obtain⟨es,clock,t3⟩:=(h.bi i hi).mw;refine hb.heap hG λhy=> ?_;simp only[KX,List.not_mem_nil,or_false]at hy;rcases hy with rfl|rfl|rfl
 ·exact fB hG t1 ak rfl
 ·exact fB hG t2 ak rfl
 ·rw[GB,t3]at hG;cases hG
theorem aT.tY {g:aG} (h:aT w B gb g) (hi:i<g.n) (hs:ba w2 B2 (g.p i) i σ') (hb:ah [(g.p i).sb,(g.p i).hb,(g.p i).mb] w w2) (hf:Fr bq w w2) (hB:B<=B2):aT w2 B2 gb {g with σ:=ed g.σ i σ'}/\bN w w2:=by
 obtain⟨V,h1,h2⟩:=h;exact⟨⟨V,h1.tY h2 hi hb,h2.tY hi hs hb hf hB⟩,h2.qgK hi hb⟩
theorem re.j7 (h:re w w2):bN w w2:=by
 obtain⟨Y,hb,hY⟩:=h
 exact bN.gn hb λy hy hl cur e he=>by
  obtain⟨jb,e2,h3,h4⟩:=hY y hy hl;rw[he]at h3;simp only[Option.some.injEq,Obj.cells.injEq]at h3;exact .inr (.inr (.inr (.inr (h3.2.1▸h4))))
theorem aT.Ed {g:aG} {V:e9} {iL:Nat->Nat->bF} (hG:GB w gb g V) (h:fo w B gb g V) (ht:sD (bare g w) (j6 g) w w2 V.N (de g.n) iL) (hB:B<=B2) (hf:∀ a b,a<6->b<6->((iL a b).T.length:Int)<=B2/\((iL a b).aw.length:Int)<=32+B2):aT w2 B2 gb {g with st:=iL}/\bN w w2:=by
 obtain⟨hn,Ee,_,_,Y,hb,hY⟩:=ht;have hg:bN w w2:=re.j7 ⟨Y,hb,hY⟩;have cG:=hg.j7
 have aN:∀ (b:Nat) (cur:Array Value) (e:TypeId),w.heap[b]? =some (.cells cur e (0,0))->¬iK e->b∉Y:=λb cur e h1 h2 hy=>by
  obtain⟨jb,e2,h3,h4⟩:=hY b hy (aQ h1);rw[h1]at h3;simp only[Option.some.injEq,Obj.cells.injEq]at h3;exact h2 (h3.2.1▸h4)
 refine⟨⟨V,hb.heap hG (aN _ _ _ hG ak),(h.a6.fr cG hB).qgJ _,λi hi=> ?_,h.apart,?_,hf,cB h.bJ hb λb dP=> ?_,by have:=h.cX;simp only;omega,⟨qcg h.old.size hb.size,h.old.gb,h.old.bi,λb an=> ?_⟩⟩,hg⟩
 ·refine((h.bi i hi).mono hB).oK hb cG λy hy hl=> ?_;obtain⟨cur,e,h3,h4⟩:=hY y hy hl;exact⟨cur,e,h3,(by rintro rfl;exact absurd h4 ak),(by rintro rfl;exact absurd h4 ak)⟩
 ·obtain⟨M,k,S,F,hn⟩:=hn;exact⟨M,k,S,F,hn.base (by have:=h.old.size;simp[bare];omega)⟩
 ·obtain⟨cur,hc⟩:=j5 h.bJ dP;exact aN b cur _ hc ak
 ·have an:b<g.w0.heap.size:=an;have h7:=Ee.block b (by have:=h.old.size;simp[bare];omega)
  have h8:(bare g w).heap[b]? =w.heap[b]? :=by
   have:=h.old.size;simp only[bare];rw[Array.getElem?_extract,if_pos ab,Nat.zero_add]
  rw[h7,h8];exact h.old.bB b an
theorem fo.Il {g:aG} {V:e9} (h:fo w B gb g V) (hG:GB w gb g V) (hb:ah [gb] w w2):fo w2 B gb g V:=
 h.other hb λy hy _=>by simp at hy;subst hy;exact⟨_,_,hG,.inl ⟨rfl,h.old.gb⟩⟩
theorem GB.fr {g:aG} {V:e9} (hG:GB w gb g V) (hb:ah [gb] w w2):bN w w2:=
 bN.gn hb λy hy _ cur e he=>by simp at hy;subst hy;rw[GB]at hG;rw[hG]at he;cases he;decide
theorem aT.Ef {g:aG} (h:aT w B gb g) (hc:c<4) {s:Int} {ds:List aD} (hp:Rw w 60 3 aS pv ds) (b':b9 ds) (hd:∀ d∈ds,d.n<=B) (hs: -1<=s/\s<g.n):
  aT ((w.setCell ⟨gb,5+c*2,none⟩ (.int .i64 s)).setCell ⟨gb,5+c*2+1,none⟩ pv) B gb {g with ss:=ed g.ss c (s,ds)}/\bN w ((w.setCell ⟨gb,5+c*2,none⟩ (.int .i64 s)).setCell ⟨gb,5+c*2+1,none⟩ pv):=by
 obtain⟨V,h1,h2⟩:=h;have hb:ah [gb] w ((w.setCell ⟨gb,5+c*2,none⟩ (.int .i64 s)).setCell ⟨gb,5+c*2+1,none⟩ pv):=(ah.set gb _ _).trans (ah.set gb _ _);have cG:=(h1.fr hb).j7;have h3:=h2.Il h1 hb;refine⟨⟨{V with sp:=ed V.sp c pv},?_,⟨⟨h3.a6.row,h3.a6.fit,h3.a6.sites,λd sZ=> ?_,h3.a6.oJ,h3.a6.pins,h3.a6.rl⟩,h3.bi,h3.apart,h3.cm,h3.bx,h3.bJ,h3.cX,h3.old.oU rfl rfl rfl⟩⟩,h1.fr hb⟩
 ·have h4:=Ok _ gb (5+c*2+1) _ _ pv (Ok w gb (5+c*2) _ _ (.int .i64 s) h1);unfold GB;rw[h4];congr 2
  rcases(show c=0∨c=1∨c=2∨c=3 by omega)with rfl|rfl|rfl|rfl <;>rfl
 ·by_cases e:d=c
  ·subst e;simp only[nO];exact⟨hp.fr cG (by unfold bq;decide),b',hd,hs⟩
  ·simp only[pT e];exact h3.a6.bY d sZ
end Go.Proofs.YtehaoggjlciobaaGreat

/- Part 12 of 40. -/
import Derived.Test.YtehaoggjlciobaaGreatQao
set_option linter.all false
set_option maxRecDepth 20000
set_option maxHeartbeats 16000000
namespace Go.Proofs.YtehaoggjlciobaaGreat
open Go.Maps Go.RowKit Go.Proofs.Tryz
variable {L:ByteArray->List ax} {k n q:Nat} {e:TypeId} {w:World}
theorem Rw.len {α:Type} {c:Nat} {f:α->List Value} {A:Option Addr} {l:List α} (h:Rw w e k f (.slice A n c) l):l.length=n:=by
 obtain⟨A',c',hv,_⟩:=h;injection hv with _ h2 _;exact h2.symm
theorem ea {qD:Obj} (h:w.heap.size=q):(w.alloc qD).heap[q]? =some qD:=h▸yY w qD
theorem Rw.one {α:Type} {f:α->List Value} {a:α} (h:w.heap[q]? =some (.cells (f a).toArray e (0,0))):Rw w e k f (.slice (some ⟨q,0,none⟩) 1 1) [a]:=
 ⟨_,1,rfl,CP _,ak,(λh=>by cases h),λp hp=>⟨q,0,_,by injection hp with hp;exact hp.symm,h,λi x hi U u hu=>by
  rcases i with _|i
  ·simp only[List.getElem?_cons_zero,Option.some.injEq]at hi;subst hi;simpa using hu
  ·simp at hi⟩⟩
theorem jh {α:Type} {P:Program} {ops:Array Oper} {rest:List Oper} {qD:Oper} {a:Act} {Q:Exit->Act->World->Prop} (qR:qD.guard=none) (s x:Operand) (t e:TypeId) (z:Value) (k bytes:Nat) (f:α->List Value) (ho:qD.op= .call {callee:= .builtin .append,args:= #[s,x],argTypes:= #[t,t]}) (ht:P.underlying t=some (.slice e)) (hi:(P.info? e).map (λi=>(i.zero,i.size,i.bytes))=some (some z,k,bytes)) (wU:z.cells.size=k) (hk:0<k) (oz:bytes<=1000) (hf:∀ a,(f a).length=k) (h1:∀ l:List α,∀ u∈l.flatMap f,u.oneCell'=true)
  (base:Nat) (v:Value) (xs ys:List α) (hs:a.eval s=v) (bA:w.ownsRow base e k v xs.length (xs.flatMap f)) (b off m c:Nat) (hx:a.eval x= .slice (some ⟨b,off,none⟩) m c) (hy:Rw w e k f (.slice (some ⟨b,off,none⟩) m c) ys) (hl:xs.length+ys.length<=100000000000) (qS:base<=w.heap.size)
  (h:∀ v' w',w'.ownsRow base e k v' (xs++ys).length ((xs++ys).flatMap f)->ah v.ownBlock.toList w w'->(∀ g,v'.ownBlock=some g->base<=g)->wpList P ops Q rest (a.put qD.dst v') w'):wpList P ops Q (qD::rest) a w:=by
 obtain⟨i0,hi,a7,aY,aW⟩:=ql0 hi;obtain⟨hm,hc⟩:=hy.flat hf hk;subst hm;refine wpList_append_own w qR s x t ho base e i0 z k bytes ht hi a7 aY aW wU hk v xs.length _ hs bA ⟨b,off,none⟩ ys.length c (ys.flatMap f) hx (eF hf ys) hc (h1 ys) (by unfold maxLen;omega) (qcg (Nat.mul_le_mul hl oz) ak) qS λv' w' h2 h3 _=> ?_;refine h v' w' ?_ ((ah.refl _ w).grown h3 λg hg=> .inl (Option.mem_toList.2 hg)) λg hg=>(h2.lt g hg).1;rw[zH,List.flatMap_append];exact h2
def hd (L:ByteArray->List ax) (k:ByteArray):Int×Int:=match (L k).getLast? with
 |some v=>(v.n,v.s)
 |none=>(0,0)
def kE (L:ByteArray->List ax) (k:ByteArray):aD:=⟨k,(hd L k).1,(hd L k).2⟩
theorem Told.hd {k:ByteArray} {x:ax} {b:Bool} (h:Told (L k) (((L k).length:Int)-1) x b):x.n=(hd L k).1/\x.s=(hd L k).2:=by
 unfold Go.Proofs.YtehaoggjlciobaaGreat.hd;rw[List.getLast?_eq_getElem?];rcases h with ⟨_,U,h1,h2⟩|⟨_,rfl,h2⟩
 ·rw[show(L k).length-1=U by omega,h2];exact⟨rfl,rfl⟩
 ·cases hl:(L k)[(L k).length-1]? with
  |none=>exact⟨rfl,rfl⟩
  |some v=>
   have h3:=(bg hl);rw[h2 ((L k).length-1) ab]at hl
   cases hl
structure j0 (L:ByteArray->List ax) (l:List aD):Prop where
 cg:b9 l
 gt:∀ k,Let k->gt l k=hd L k
 mem:∀ d,d∈l↔Let d.key/\L d.key≠[]/\d.n=(hd L d.key).1/\d.s=(hd L d.key).2
theorem j0.of {ks:List ByteArray} (h:Am ks L) (hc:∀ k,Let k->∀ v∈L k,fu v.n v.s=true):j0 L (ks.map (kE L)):=by
 have hm:∀ d,d∈ks.map (kE L)↔Let d.key/\L d.key≠[]/\d.n=(hd L d.key).1/\d.s=(hd L d.key).2:=λd=>by
  rw[List.mem_map];constructor
  ·rintro⟨k,hk,rfl⟩;obtain⟨h1,h2⟩:=(h.mem k).1 hk;exact⟨h1,h2,rfl,rfl⟩
  ·rintro⟨h1,h2,h3,h4⟩;exact⟨d.key,(h.mem _).2 ⟨h1,h2⟩,by cases d;simp only at h3 h4;subst h3 h4;rfl⟩
 have hp:b9 (ks.map (kE L)):=⟨λd sZ=>by
  obtain⟨h1,h2,h3,h4⟩:=(hm d).1 sZ;refine⟨h1,?_⟩;obtain⟨v,hv⟩:∃ v,(L d.key).getLast?=some v:=⟨_,List.getLast?_eq_some_getLast h2⟩;unfold hd at h3 h4;rw[hv]at h3 h4;rw[h3,h4];exact hc _ h1 v (List.mem_of_getLast? hv),List.pairwise_map.2 h.up⟩
 refine⟨hp,λk hk=> ?_,hm⟩;by_cases e:L k=[]
 ·rw[xg λd sZ=> ?_]
  ·unfold hd;rw[e];rfl
  ·rintro rfl;exact((hm d).1 sZ).2.1 e
 ·exact Ct hp.pb (d:=kE L k) ((hm _).2 ⟨hk,e,rfl,rfl⟩)
theorem qd6 (B:Int) (hb mb:Nat) (own:List Rg) (L:ByteArray->List ax) (w:World) (h:cP w B hb mb own L) (hB:0<=B) (h9:B<=100000000000):
  Calls prog 79 #[.pointer (some ⟨hb,0,none⟩)] w λe w'=>∃ v' l,e= .returned v'/\Rw w' 60 3 aS v' l/\j0 L l/\ad w w':=by
 have HH:=aa h
 have fy:ag (∀ k,Let k->∀ v∈L k,fu v.n v.s=true):=λk hk v hv=>by
  obtain⟨C,_,hc⟩:=h.fz;exact((hc k hk).1.iG v hv).1.wc.1
 clear h;obtain⟨i0,hi,a7,aY,aW⟩:=ql0 uP;go_in;go_wp2_with fail
 refine(Ma B hb mb own L _ HH.o.w).mono ?_;rintro e w1 ⟨v1,ks,rfl,hr,hk,k1⟩;obtain⟨A,c,rfl,bl,bQ⟩:=hr.form;have cX:=hk.bx;obtain⟨n,hn⟩:=eqQ ks.length;rw[hn]at hr bl cX⊢;have HR:=aa hr;have HK:=aa hk;have HN:=aa hn;clear hr hk hn;go_wp2;go_loopw [3,11] (λov iv wr=>∃ (U:Nat) (v2:Value),v2=ov/\U<=n/\iv= .int .i64 U/\ad w wr/\ad w1 wr/\ag (wr.ownsRow w1.heap.size 60 3 v2 U (((ks.take U).map (kE L)).flatMap aS))) (λ_ iv _=>n-(intOf iv).toNat)
 case atStart=>exact⟨0,_,rfl,ab,rfl,k1,ad.refl _,qcb _ _ _ _⟩
 case round=>
  obtain⟨U,v2,rfl,hj,rfl,kr,TJ,ho⟩:=hrel;by_cases an:U<n
  ·obtain⟨k,fX⟩:=exQ ks U (by rw[HN.o];exact an);obtain⟨b,off,rfl,Fv,hc⟩:=HR.o.af fX;have c0:=TJ.af (iU hc);have HL:=aa ((HK.o.mem k).1 (zV fX)).1
   have ld:ag (((ks.take (U+1)).map (kE L)).flatMap aS=((ks.take U).map (kE L)).flatMap aS++aS (kE L k)):=by
    unfold ag;rw[QI (by rw[HN.o];exact an),(pi.1 fX).2,List.map_append,List.flatMap_append];simp
   have hlen:(((ks.take U).map (kE L)).flatMap aS).length=U*3:=by rw[eF gT,List.length_map,qcd,HN.o,Nat.min_eq_left hj]
   (try simp only[Nat.mul_one]at c0)
   clear hc fX;go_wp2_with fail
   refine(TF B hb mb own L k _ (HH.o.kept kr) HL.o hB h9).mono ?_;rintro e w3 ⟨x,jA,rfl,ht,k3⟩;obtain⟨lR,lV⟩:=ht.hd;obtain⟨x0,x1,x2,x3,x4,x5,x6,x7,x8⟩:=x;simp only at lR lV;have K3:=kr.call k3;have K13:=TJ.call k3;have rR:((ks.take U).map (kE L)).length=U:=by rw[List.length_map,qcd,HN.o,Nat.min_eq_left hj]
   have eR:ag (w3.ownsRow w1.heap.size 60 3 v2 ((ks.take U).map (kE L)).length (((ks.take U).map (kE L)).flatMap aS)):=by rw[rR];exact ad.own ho.o k3
   have qkU:=K13.size;have hw3:=K3.size;unfold aM;clear ht k3 ho;subst lR lV;go_wp2_with (at_builtin;go_must (refine jh rfl _ _ 46 60 _ 3 32 aS rfl underlying46 uP rfl ak ak gT J1 w1.heap.size _ (((ks.take U).map (kE L))) [kE L k] rfl ((eR.o.alloc _).alloc _) _ 0 1 1 rfl (Rw.one (ea ao)) (by simp;omega) (by simp;omega) ?_);intro v5 w5 iY cF _)
   have ie:=aa iY;have Me:ad w1 w5:=ad.but al cF λx hx=>(eR.o.lt x (Option.mem_toList.1 hx)).1;have K5:ad w w5:=k1.call Me
   have eo:ag (w5.ownsRow w1.heap.size 60 3 v5 (U+1) (((ks.take (U+1)).map (kE L)).flatMap aS)):=by
    unfold ag;have h:=ie.o;rw[zH,rR,List.flatMap_append]at h;rw[ld.o];simpa only[List.length_cons,List.length_nil,Nat.zero_add,List.flatMap_cons,List.flatMap_nil,List.append_nil]using h
   go_wp2;go_roundw
   case rel=>exact⟨U+1,v5,rfl,ab,aA,K5,Me,eo⟩
   case measure=>exact dY
  ·obtain rfl:U=n:=ab;have HE:ag (j0 L (ks.map (kE L))):= .of HK.o fy.o
   have HO:ag (wr.ownsRow w1.heap.size 60 3 v2 U ((ks.map (kE L)).flatMap aS)):=by
    have:=ho.o;rwa [qcc (by rw[HN.o];exact CP _)]at this
   clear ho;go_wp2;go_ret;exact⟨v2,_,rfl,Rw.bp HO.o gT ak,HE.o,kr⟩
theorem radd (v:Value) (l:List aD) (d:aD) (w:World) (hl:l.length<=100000) (hv:Rw w 60 3 aS v l) (hk:Let d.key):
  Calls prog 73 #[v,.agg #[.string d.key,.int .i64 d.n,.int .i64 d.s]] w λe w'=>∃ v' l',e= .returned v'/\Rw w' 60 3 aS v' l'/\(∀ x∈l',x∈l∨x=d)/\l'.length<=l.length+1/\ad w w':=by
 obtain⟨A,c,rfl,bl,bQ⟩:=hv.form;obtain⟨n,hn⟩:=eqQ l.length;rw[hn]at hv bl hl⊢;have HV:=aa hv;have HN:=aa hn;clear hv hn;obtain⟨pq,d1,d2⟩:=d;simp only at hk⊢;obtain⟨dD,eu⟩:=eqQ (fu d1 d2);have fy:=aa eu;have HK:=aa hk;clear eu hk;go_in;go_wp2_with fail
 refine(rkcheck pq HK.o _).mono ?_;rintro e w1 ⟨rfl,k1⟩;have K1:ad w w1:=ad.call al k1;have y0:w1.cell? ⟨w.heap.size,0,none⟩=some (.string pq):=k1.af (by go_simp);have y1:w1.cell? ⟨w.heap.size,1,none⟩=some (.int .i64 d1):=k1.af (by go_simp);have y2:w1.cell? ⟨w.heap.size,2,none⟩=some (.int .i64 d2):=k1.af (by go_simp);go_wp2_with fail
 refine(rcheck_any d1 d2 _).mono ?_;rintro e w2 ⟨rfl,k2⟩;rw[fy.o];have K2:ad w w2:=K1.call (ad.call al k2);have z0:=k2.af y0;have z1:=k2.af y1;have z2:=k2.af y2;clear k1 k2 y0 y1 y2
 cases dD
 ·go_wp2_with fail
  go_ret;exact⟨_,l,rfl,HV.o.kept K2,λx hx=> .inl hx,by rw[HN.o];omega,K2⟩
 have ra:=ql0 (P:=prog) (by rfl:(prog.info? 60).map (λi=>(i.zero,i.size,i.bytes))=some (some (.agg #[.string ⟨#[]⟩,.int .i64 0,.int .i64 0]),3,32));obtain⟨i0,HI,a7,aY,aW⟩:=ra;have HI:=aa HI;have bD:w.heap.size<w2.heap.size:=Aa w2 _ z0;go_wp2_with fail
 go_loopw [7,8,9] (λov pv iv wr=>∃ (U:Nat) (qln:Value) (lo:List aD) (p:Bool),U<=n/\iv= .int .i64 U/\qln=ov/\pv= .bool p/\ad w2 wr/\ag (wr.ownsRow w2.heap.size 60 3 qln lo.length (lo.flatMap aS))/\ag ((∀ x∈lo,x∈l∨x=⟨pq,d1,d2⟩)/\lo.length<=U+(if p then 1 else 0))) (λ_ _ iv _=>n-(intOf iv).toNat)
 case atStart=>exact⟨0,_,[],false,ab,rfl,rfl,rfl,ad.refl _,qcb _ _ _ _,⟨λx hx=>(by cases hx),ak⟩⟩
 case round=>
  obtain⟨U,qln,lo,p,hj,rfl,rfl,rfl,kr,ho,hm⟩:=hrel;by_cases an:U<n
  ·obtain⟨a,ha⟩:=exQ l U (by rw[HN.o];exact an);obtain⟨b,off,rfl,hb,hc⟩:=HV.o.af ha;have HA:=aa ha;obtain⟨x0,x1,x2⟩:=a;obtain⟨c0,c1,c2⟩:=kQ λU u hu=>kr.af (K2.af (hc U u hu));have y0:=kr.af z0;have y1:=kr.af z1;have y2:=kr.af z2;have oq:b<wr.heap.size:=Aa wr _ c0;have oP:w.heap.size<wr.heap.size:=Aa wr _ y0;clear hc ha;have Cq:lo.length<=U+1:=by have:=hm.o.2;have:(if p=true then 1 else 0)<=1:=(by split <;>omega);omega
   have jy:p=false->lo.length<=U:=λe=>by have:=hm.o.2;rw[e]at this;simpa using this
   by_cases he:x0.toList=pq.toList
   ·have hq:(x0.toList==pq.toList)=true:=by simp[he]
    obtain⟨lb,qI⟩:=eqQ (c8 x1 x2 d1 d2);have pj:=aa qI;clear qI;go_wp2_with fail
    refine(rless_any x1 x2 d1 d2 _).mono ?_;rintro e w4 ⟨rfl,k4⟩;rw[pj.o];have K4r:ad wr w4:=ad.call al k4;have K4:ad w2 w4:=kr.call K4r;have Cs:w2.heap.size<=w4.heap.size:=K4.size;have r0:w4.cell? ⟨wr.heap.size,0,none⟩=some (.string x0):=k4.af (by go_simp);have r1:w4.cell? ⟨wr.heap.size,1,none⟩=some (.int .i64 x1):=k4.af (by go_simp);have r2:w4.cell? ⟨wr.heap.size,2,none⟩=some (.int .i64 x2):=k4.af (by go_simp);have GG:wr.heap.size<w4.heap.size:=Aa w4 _ r0;have nj:w2.heap.size<=wr.heap.size:=kr.size;have hf:∀ qD,w4.frozen? ⟨wr.heap.size,qD,none⟩=false:=λqD=>by rw[k4.frozen wr.heap.size qD ao];go_simp
    have f0:=hf 0;have f1:=hf 1;have f2:=hf 2;have y0:w4.cell? ⟨w.heap.size,0,none⟩=some (.string pq):=k4.af (by go_simp);have y1:w4.cell? ⟨w.heap.size,1,none⟩=some (.int .i64 d1):=k4.af (by go_simp);have y2:w4.cell? ⟨w.heap.size,2,none⟩=some (.int .i64 d2):=k4.af (by go_simp);clear k4 hf
    cases lb
    ·have pB:ag ((∀ x∈lo++[(⟨x0,x1,x2⟩:aD)],x∈l∨x=⟨pq,d1,d2⟩)/\(lo++[(⟨x0,x1,x2⟩:aD)]).length<=U+1+(if true=true then 1 else 0)):=by
      refine⟨λx hx=> ?_,by rw[zH];simp;omega⟩;rcases Pv.1 hx with g|g
      ·exact hm.o.1 x g
      ·rw[At]at g;rw[g];exact .inl (zV HA.o)
     go_wp2_with (at_builtin;refine jh rfl _ _ 46 60 _ 3 32 aS rfl underlying46 uP rfl ak ak gT J1 w2.heap.size _ lo [(⟨x0,x1,x2⟩:aD)] rfl (ad.own ho.o (by exact al:ad wr _)) _ 0 1 1 rfl (Rw.one (ea ao)) (by simp;omega) (by simp;omega) ?_;intro v3 w3 l6 hB3 hg3;have eR:=aa l6;have K3:ad w2 w3:=ad.but al hB3 (λx hx=>((ad.own ho.o (by exact al:ad wr _)).lt x (Option.mem_toList.1 hx)).1);clear l6)
     go_roundw
     case rel=>exact⟨U+1,v3,_,true,ab,aA,rfl,rfl,K3,eR,pB⟩
     case measure=>exact dY
    ·have pB:ag ((∀ x∈lo++[(⟨pq,d1,d2⟩:aD)],x∈l∨x=⟨pq,d1,d2⟩)/\(lo++[(⟨pq,d1,d2⟩:aD)]).length<=U+1+(if true=true then 1 else 0)):=by
      refine⟨λx hx=> ?_,by rw[zH];simp;omega⟩;rcases Pv.1 hx with g|g
      ·exact hm.o.1 x g
      ·rw[At]at g;rw[g];exact .inr rfl
     go_wp2_with (at_builtin;refine jh rfl _ _ 46 60 _ 3 32 aS rfl underlying46 uP rfl ak ak gT J1 w2.heap.size _ lo [(⟨pq,d1,d2⟩:aD)] rfl (ad.own ho.o (by exact al:ad wr _)) _ 0 1 1 rfl (Rw.one (ea ao)) (by simp;omega) (by simp;omega) ?_;intro v3 w3 l6 hB3 hg3;have eR:=aa l6;have K3:ad w2 w3:=ad.but al hB3 (λx hx=>((ad.own ho.o (by exact al:ad wr _)).lt x (Option.mem_toList.1 hx)).1);clear l6)
     go_roundw
     case rel=>exact⟨U+1,v3,_,true,ab,aA,rfl,rfl,K3,eR,pB⟩
     case measure=>exact dY
   ·have hq:(x0.toList==pq.toList)=false:=by simp[he]
    have Cs:w2.heap.size<=wr.heap.size:=kr.size
    cases p
    ·have Lm:=jy rfl;obtain⟨lb,qI⟩:=eqQ (Op.bytesLess x0.toList pq.toList)
     cases lb
     ·have HM1:ag (∀ x∈lo++[(⟨pq,d1,d2⟩:aD)],x∈l∨x=⟨pq,d1,d2⟩):=λx hx=>by
       rcases Pv.1 hx with g|g
       ·exact hm.o.1 x g
       ·rw[At]at g;exact .inr g
      have fL:(lo++[(⟨pq,d1,d2⟩:aD)]).length<=U+1:=by rw[zH];simp;omega
      have bW:wr.heap.size∉qln.ownBlock.toList:=λhx=>by have:=(ho.o.lt _ (Option.mem_toList.1 hx)).2;omega
      have zO:w.heap.size∉qln.ownBlock.toList:=λhx=>by have:=(ho.o.lt _ (Option.mem_toList.1 hx)).1;omega
      go_upto_region 18 with (at_builtin;refine jh rfl _ _ 46 60 _ 3 32 aS rfl underlying46 uP rfl ak ak gT J1 w2.heap.size _ lo [(⟨pq,d1,d2⟩:aD)] rfl (ad.own ho.o (by exact al:ad wr _)) _ 0 1 1 rfl (Rw.one (ea ao)) (by simp;omega) (by simp;omega) ?_;intro v4 w4 mI hB4 hg4;have GO:=aa mI;have K4:ad w2 w4:=ad.but al hB4 (λx hx=>((ad.own ho.o (by exact al:ad wr _)).lt x (Option.mem_toList.1 hx)).1);have r0:w4.cell? ⟨wr.heap.size,0,none⟩=some (.string x0):=hB4.af (by go_simp) bW;have r1:w4.cell? ⟨wr.heap.size,1,none⟩=some (.int .i64 x1):=hB4.af (by go_simp) bW;have r2:w4.cell? ⟨wr.heap.size,2,none⟩=some (.int .i64 x2):=hB4.af (by go_simp) bW;have nj:=K4.size;clear mI hB4)
      have hz7:wr.heap.size<w4.heap.size:=Aa w4 _ r0
      ·have pB:ag ((∀ x∈(lo++[(⟨pq,d1,d2⟩:aD)])++[(⟨x0,x1,x2⟩:aD)],x∈l∨x=⟨pq,d1,d2⟩)/\((lo++[(⟨pq,d1,d2⟩:aD)])++[(⟨x0,x1,x2⟩:aD)]).length<=U+1+(if true=true then 1 else 0)):=by
        refine⟨λx hx=> ?_,by rw[zH];simp;omega⟩;rcases Pv.1 hx with g|g
        ·exact HM1.o x g
        ·rw[At]at g;rw[g];exact .inl (zV HA.o)
       go_wp2_with (at_builtin;refine jh rfl _ _ 46 60 _ 3 32 aS rfl underlying46 uP rfl ak ak gT J1 w2.heap.size _ (lo++[(⟨pq,d1,d2⟩:aD)]) [(⟨x0,x1,x2⟩:aD)] rfl (ad.own GO.o (by exact al:ad w4 _)) _ 0 1 1 rfl (Rw.one (ea ao)) (by simp;omega) (by simp;omega) ?_;intro v3 w3 l6 hB3 hg3;have eR:=aa l6;have K3:ad w2 w3:=ad.but al hB3 (λx hx=>((ad.own GO.o (by exact al:ad w4 _)).lt x (Option.mem_toList.1 hx)).1);clear l6)
       go_roundw
       case rel=>exact⟨U+1,v3,_,true,ab,aA,rfl,rfl,K3,eR,pB⟩
       case measure=>exact dY
     ·have pB:ag ((∀ x∈lo++[(⟨x0,x1,x2⟩:aD)],x∈l∨x=⟨pq,d1,d2⟩)/\(lo++[(⟨x0,x1,x2⟩:aD)]).length<=U+1+(if false=true then 1 else 0)):=by
       refine⟨λx hx=> ?_,by rw[zH];simp;omega⟩;rcases Pv.1 hx with g|g
       ·exact hm.o.1 x g
       ·rw[At]at g;rw[g];exact .inl (zV HA.o)
      go_wp2_with (at_builtin;refine jh rfl _ _ 46 60 _ 3 32 aS rfl underlying46 uP rfl ak ak gT J1 w2.heap.size _ lo [(⟨x0,x1,x2⟩:aD)] rfl (ad.own ho.o (by exact al:ad wr _)) _ 0 1 1 rfl (Rw.one (ea ao)) (by simp;omega) (by simp;omega) ?_;intro v3 w3 l6 hB3 hg3;have eR:=aa l6;have K3:ad w2 w3:=ad.but al hB3 (λx hx=>((ad.own ho.o (by exact al:ad wr _)).lt x (Option.mem_toList.1 hx)).1);clear l6)
      go_roundw
      case rel=>exact⟨U+1,v3,_,false,ab,aA,rfl,rfl,K3,eR,pB⟩
      case measure=>exact dY
    ·have pB:ag ((∀ x∈lo++[(⟨x0,x1,x2⟩:aD)],x∈l∨x=⟨pq,d1,d2⟩)/\(lo++[(⟨x0,x1,x2⟩:aD)]).length<=U+1+(if true=true then 1 else 0)):=by
      refine⟨λx hx=> ?_,by rw[zH];simp;omega⟩;rcases Pv.1 hx with g|g
      ·exact hm.o.1 x g
      ·rw[At]at g;rw[g];exact .inl (zV HA.o)
     go_wp2_with (at_builtin;refine jh rfl _ _ 46 60 _ 3 32 aS rfl underlying46 uP rfl ak ak gT J1 w2.heap.size _ lo [(⟨x0,x1,x2⟩:aD)] rfl (ad.own ho.o (by exact al:ad wr _)) _ 0 1 1 rfl (Rw.one (ea ao)) (by simp;omega) (by simp;omega) ?_;intro v3 w3 l6 hB3 hg3;have eR:=aa l6;have K3:ad w2 w3:=ad.but al hB3 (λx hx=>((ad.own ho.o (by exact al:ad wr _)).lt x (Option.mem_toList.1 hx)).1);clear l6)
     go_roundw
     case rel=>exact⟨U+1,v3,_,true,ab,aA,rfl,rfl,K3,eR,pB⟩
     case measure=>exact dY
  ·obtain rfl:U=n:=ab;have Cs:w2.heap.size<=wr.heap.size:=kr.size
   cases p
   ·have gX:lo.length<=U:=by have:=hm.o.2;simpa using this
    have y0:=kr.af z0;have y1:=kr.af z1;have y2:=kr.af z2
    have HM1:ag (∀ x∈lo++[(⟨pq,d1,d2⟩:aD)],x∈l∨x=⟨pq,d1,d2⟩):=λx hx=>by
     rcases Pv.1 hx with g|g
     ·exact hm.o.1 x g
     ·rw[At]at g;exact .inr g
    go_wp2_with (at_builtin;refine jh rfl _ _ 46 60 _ 3 32 aS rfl underlying46 uP rfl ak ak gT J1 w2.heap.size _ lo [(⟨pq,d1,d2⟩:aD)] rfl (ad.own ho.o (by exact al:ad wr _)) _ 0 1 1 rfl (Rw.one (ea ao)) (by simp;omega) (by simp;omega) ?_;intro v3 w3 l6 hB3 hg3;have eR:=aa l6;have K3:ad w2 w3:=ad.but al hB3 (λx hx=>((ad.own ho.o (by exact al:ad wr _)).lt x (Option.mem_toList.1 hx)).1);clear l6)
    go_ret;exact⟨_,_,rfl,.bp eR.o gT ak,HM1.o,by rw[zH];simp;omega,K2.call K3⟩
   ·have gX:lo.length<=U+1:=by have:=hm.o.2;simpa using this
    go_wp2_with fail
    go_ret;exact⟨_,rfl,lo,.bp ho.o gT ak,hm.o.1,gX,K2.call kr⟩
structure MemOk (D l:List aD):Prop where
 mem:∀ x∈l,x∈D
 len:l.length<=D.length
theorem MemOk.nil:MemOk [] []:=⟨λx hx=>(by cases hx),CP _⟩
theorem MemOk.add {D l l':List aD} {d:aD} (h:MemOk D l) (k:∀ x∈l',x∈l∨x=d) (kl:l'.length<=l.length+1):MemOk (D++[d]) l':=
 ⟨λx hx=>by
  rcases k x hx with g|rfl
  ·exact List.mem_append_left _ (h.mem x g)
  ·simp,by have:=h.len;simp;omega⟩
theorem take_deps {ls:List va} {U i:Nat} {x:va} (h:ls[U]? =some x):(l7 (ls.take U)++x.2.take i).length<=(l7 ls).length:=by
 have h1:=qcQ ls U x h;have h2:l7 ls=l7 (ls.take (U+1))++l7 (ls.drop (U+1)):=by unfold l7;rw[<- List.flatMap_append,List.take_append_drop]
 rw[h2,h1];simp only[zH,qcd];omega
theorem rmerge (v:Value) (ls:List va) (w:World) (bH:Rw w 46 1 Gy v ls) (hr:∀ x∈ls,Rw w 60 3 aS x.1 x.2) (hk:∀ d∈l7 ls,Let d.key) (hlen:(l7 ls).length<=90000):
  Calls prog 126 #[v] w λe w'=>∃ v' l',e= .returned v'/\Rw w' 60 3 aS v' l'/\MemOk (l7 ls) l'/\ad w w':=by
 obtain⟨A,c,rfl,bl,bQ⟩:=bH.form;obtain⟨n,hn⟩:=eqQ ls.length;rw[hn]at bH bl⊢;have HV:=aa bH;have HN:=aa hn;have HR:=aa hr;have HK:=aa hk;have sw:=aa hlen;clear bH hn hr hk hlen;go_in;go_wp2_with fail
 go_loopw [3,4] (λov iv wr=>∃ (U:Nat) (v':Value) (l':List aD),U<=n/\iv= .int .i64 U/\ov=v'/\ad w wr/\ag (Rw wr 60 3 aS v' l')/\ag (MemOk (l7 (ls.take U)) l')) (λ_ iv _=>n-(intOf iv).toNat)
 case atStart=>exact⟨0,_,[],ab,rfl,rfl,al,Rw.nil _,MemOk.nil⟩
 case round=>
  obtain⟨U,v',l',hj,rfl,rfl,kr,bU,r8⟩:=hrel;by_cases an:U<n
  ·obtain⟨x,hx⟩:=exQ ls U (by rw[HN.o];exact an);obtain⟨b,off,rfl,dZ,hc⟩:=HV.o.af hx;have HX:=aa hx;have qG:=(HR.o x (zV hx));obtain⟨qkP,xl⟩:=x;obtain⟨XA,xc,Sr,Ss,qkQ⟩:=qG.form;simp only at Sr Ss;subst Sr;have hx00:=iU hc;obtain⟨m,hm⟩:=eqQ xl.length;simp only[hm]at qG Ss hx00 HX;have Gz:ag (Rw w 60 3 aS (.slice XA m xc) xl):=qG;have HM:=aa hm
   (try simp only[Nat.mul_one]at hx00)
   have iu:=kr.af hx00;clear hx hc qG hm;go_wp2_with fail
   go_loopw [3,5] (λov iv w2=>∃ (i:Nat) (v2:Value) (l2:List aD),i<=m/\iv= .int .i64 i/\ov=v2/\ad w w2/\ag (Rw w2 60 3 aS v2 l2)/\ag (MemOk (l7 (ls.take U)++xl.take i) l2)) (λ_ iv _=>m-(intOf iv).toNat)
   case atStart=>exact⟨0,_,l',ab,rfl,rfl,kr,bU,by rw[List.take_zero,List.append_nil];exact r8.o⟩
   case round=>
    obtain⟨i,v2,l2,hi,rfl,rfl,k2,xD,Le⟩:=hrel;have iu:=k2.af hx00;by_cases iQ:i<m
    ·obtain⟨d,hd⟩:=exQ xl i (by rw[HM.o];exact iQ);obtain⟨Lf,qcR,rfl,qcS,tq⟩:=Gz.o.af hd;have HD:=aa hd;have St:Let d.key:=HK.o d (List.mem_flatMap.2 ⟨_,zV HX.o,zV hd⟩);have HL:=aa St;have fL:l2.length<=100000:=by have h:=Le.o.len;have h2:(l7 (ls.take U)++xl.take i).length<=(l7 ls).length:=take_deps HX.o;have:=sw.o;omega
     obtain⟨x0,x1,x2⟩:=d;obtain⟨c0,c1,c2⟩:=kQ λU u hu=>k2.af (tq U u hu);clear hd tq St;go_wp2_with fail
     refine(radd _ l2 ⟨x0,x1,x2⟩ _ fL (xD.o.kept al) HL.o).mono ?_;rintro e w3 ⟨v3,l3,rfl,h3,rW,Lm,k3⟩;have K3:ad w w3:=ad.call al k3;have H3:=aa h3
     have Su:ag (MemOk (l7 (ls.take U)++xl.take (i+1)) l3):=by
      have:=Le.o.add rW Lm;rw[List.append_assoc]at this;rw[show xl.take (i+1)=xl.take i++[⟨x0,x1,x2⟩]by rw[QI (by rw[HM.o];exact iQ),(pi.1 HD.o).2]];exact this
     clear h3 rW Lm k3;go_wp2_with fail
     go_roundw
     case rel=>exact⟨i+1,_,l3,ab,aA,rfl,K3,H3,Su⟩
     case measure=>exact dY
    ·obtain rfl:i=m:=ab
     have CT:ag (MemOk (l7 (ls.take (U+1))) l2):=by
      rw[qcQ ls U _ HX.o];have h:=Le.o;rw[qcc (l:=xl) (by rw[HM.o];exact CP _)]at h;exact h
     go_wp2_with fail
     go_roundw
     case rel=>exact⟨U+1,_,l2,ab,aA,rfl,k2,xD,CT⟩
     case measure=>exact dY
  ·obtain rfl:U=n:=ab;go_wp2_with fail
   go_ret;exact⟨_,l',rfl,bU.o,by have:=r8.o;rwa [qcc (by rw[HN.o];exact CP _)]at this,kr⟩
theorem Mf:(prog.info? 45).map (λi=>(i.zero,i.size,i.bytes))=some (some (.agg #[.int .i64 0,.int .i64 0]),2,16):=av
theorem ca {base e:Nat} {v:Value} {xs:List Value} (h:w.ownsRow base e k v n xs):∃ A c,v= .slice A n c:=by
 rcases h.2 with ⟨hv,h0⟩|⟨g,cap,cur,hv,_⟩
 ·exact⟨none,0,by rw[hv,h0]⟩
 ·exact⟨_,_,hv⟩
theorem ah.below {S:List Nat} {B:Nat} {a b:World} (h:ah S a b) (hS:∀ x∈S,B<=x) (hB:B<=a.heap.size):Below B a b:=
 ⟨h.os,h.tape,h.output,h.size,λk hk=>h.block k ab λhx=>by have:=hS k hx;omega⟩
def G4 (w:World) (q:Nat) (l:List (Int×Int)):Prop:=∃ v,w.heap[q]? =some (.cells #[v] 173 (0,0))/\w.ownsRow (q+1) 45 2 v l.length (l.flatMap kD)
theorem qd7 (K q:Nat) (key:ByteArray) (d:aD) (l:List (Int×Int)) (w:World) (hk:w.cell? ⟨K,0,none⟩=some (.string key)) (h:G4 w q l) (hl:l.length<=1000000000) (hK:K<q):
  Calls prog 244 #[.agg #[.string d.key,.int .i64 d.n,.int .i64 d.s],.pointer (some ⟨K,0,none⟩),.pointer (some ⟨q,0,none⟩)] w λe w'=>e= .returned (.tuple #[])/\(∃ l',G4 w' q l'/\l'.length<=l.length+1)/\Below q w w':=by
 obtain⟨v,h1,h2⟩:=h;have c0:w.cell? ⟨q,0,none⟩=some v:=aE h1 0;have f0:w.frozen? ⟨q,0,none⟩=false:=aI h1 0;have hq:=(aQ h1);have hKw:K<w.heap.size:=Aa w _ hk;have H2:=aa h2;have H1:=aa h1;have HL:=aa hl;have H3:ag (q∉v.ownBlock.toList):=λhx=>by have:=(h2.lt q (Option.mem_toList.1 hx)).1;omega
 clear h1 h2 hl;by_cases e:key.toList=d.key.toList
 ·have he:(d.key.toList==key.toList)=true:=by simp[e]
  clear e;go_in;go_wp2_with (at_builtin;go_must (refine jh rfl _ _ 173 45 _ 2 16 kD rfl underlying173 Mf rfl ak ak Aj LZ (q+1) _ l [(d.n,d.s)] rfl ((H2.o.alloc _).alloc _) _ 0 1 1 rfl (Rw.one (ea ao)) (by simp;have:=HL.o;omega) (by simp;omega) ?_);intro v5 w5 iY cF Dq;obtain⟨A5,c5,rfl⟩:=ca iY;have xS:w5.heap[q]? =some (.cells #[v] 173 (0,0)):=cF.heap (ad.heap al H1.o) H3.o;have d5:=aE xS 0;have f5:w5.frozen? ⟨q,0,none⟩=false:=aI xS 0;have ie:=aa iY;have nt:=aa cF;have fb:=aa Dq;have jE:=aa xS;clear iY cF Dq xS)
  go_end0
  have dZ:Below q w w5:=Below.trans (Below.mono (ad.below al) ab) (nt.o.below (λx hx=>by have:=(H2.o.lt x (Option.mem_toList.1 hx)).1;omega) (by simp;omega));refine⟨rfl,⟨l++[(d.n,d.s)],⟨.slice A5 (l.length+1) c5,Ok _ _ _ _ _ _ jE.o,?_⟩,ao⟩,Below.setCell dZ (CP _) _⟩;have h:=ie.o;have h2:=ownsRow_setCell_other h (a:=⟨q,0,none⟩) (λhx=>by have:=fb.o q hx;omega) (.slice A5 (l.length+1) c5);simpa using h2
 ·have he:(d.key.toList==key.toList)=false:=by rw[Bool.eq_false_iff];intro g;exact e (eq_of_beq g).symm
  have HE:=aa e;clear e;go_in;go_wp2_with fail
  go_end0
  exact⟨rfl,⟨l,⟨v,ad.heap al H1.o,ad.own H2.o al⟩,ab⟩,Below.mono (ad.below al) ab⟩
def An (L L':ByteArray->List ax):Prop:=∀ k,Let k->(L' k).Sublist (L k)/\(L' k).getLast?=(L k).getLast?
theorem qd8 (B:Int) (hb mb:Nat) (own:List Rg) (L:ByteArray->List ax) (n s:Int) (pv:Value) (ds:List aD) (w:World) (h:cP w B hb mb own L) (hp:Rw w 60 3 aS pv ds) (hd:ds.length<=1000000) (hB:0<=B) (h9:B<=100000000000):
  Calls prog 187 #[.pointer (some ⟨hb,0,none⟩),.agg #[.int .i64 n,.int .i64 s],pv] w λe w'=>∃ L',e= .returned (.tuple #[])/\cP w' B hb mb own L'/\An L L'/\ah [mb] w w'/\Fr bq w w':=by
 obtain⟨PA,pc,rfl,_,_⟩:=hp.form;obtain⟨m,hm⟩:=eqQ ds.length;rw[hm]at hp hd⊢;have HH:=aa h;have HP:=aa hp;have HM:=aa hm;clear h hp hm;go_in;go_wp2_with fail
 refine(Ma B hb mb own L _ (HH.o.kept al).w).mono ?_;rintro e w1 ⟨v1,ks,rfl,hr,hk,k1⟩;obtain⟨A,c,rfl,bl,bQ⟩:=hr.form;have cX:=hk.bx;obtain⟨tB,hn⟩:=eqQ ks.length;rw[hn]at hr bl cX⊢;have HR:=aa hr;have HK:=aa hk;have HN:=aa hn;have g0:w1.cell? ⟨w.heap.size,0,none⟩=some (.int .i64 n):=k1.af (by go_simp);have g1:w1.cell? ⟨w.heap.size,1,none⟩=some (.int .i64 s):=k1.af (by go_simp);have K1:ad w w1:=ad.call al k1;clear hr hk hn k1;go_wp2;go_loopw [15] (λiv wr=>∃ (U:Nat) (L2:ByteArray->List ax),U<=tB/\iv= .int .i64 U/\ah [mb] w1 wr/\Fr bq w1 wr/\ag (cP wr B hb mb own L2)/\ag (An L L2)) (λiv _=>tB-(intOf iv).toNat)
 case atStart=>exact⟨0,L,ab,rfl,.refl _ _,.ar (ad.refl _),HH.o.kept K1,λk _=>⟨List.Sublist.refl _,rfl⟩⟩
 case round=>
  obtain⟨U,L2,hj,rfl,kb,vk,hs,bL⟩:=hrel;by_cases an:U<tB
  ·obtain⟨wo,rfl⟩:=eqR wr;obtain⟨k,fX⟩:=exQ ks U (by rw[HN.o];exact an);obtain⟨b,off,rfl,dZ,hc⟩:=HR.o.af fX
   have Ao:b∉[mb]:=λhx=>by
    simp only[At]at hx;obtain⟨C,⟨D,⟨es,clock,h1,_⟩,_⟩,_⟩:=HH.o.fz;obtain⟨A',c',hv,_,_,_,h4⟩:=HR.o;injection hv with hv;obtain⟨nY,qj,cur,hA,h5,_⟩:=h4 _ hv.symm;injection hA with hA;subst hA hx;rw[K1.heap h1]at h5;cases h5
   have c0:=kb.af (iU hc) Ao;have HL:=aa ((HK.o.mem k).1 (zV fX)).1;have Ap:=aa fX;have qkV:mb<w.heap.size:=by obtain⟨C,hm,_⟩:=HH.o.fz;exact hm.lt
   have Mg:=K1.size;have g0:wo.cell? ⟨w.heap.size,0,none⟩=some (.int .i64 n):=kb.af g0 (by simp;omega);have g1:wo.cell? ⟨w.heap.size,1,none⟩=some (.int .i64 s):=kb.af g1 (by simp;omega);have lO:=λargs w=>enters_of func244 (P:=prog) av rfl args w;have iS:∀ fn first cap w,(Instr.makeFunc fn first cap).run prog w= .ok (.func fn first cap) w:=λ_ _ _ _=>rfl
   (try simp only[Nat.mul_one]at c0)
   clear hc fX Ao;go_wp2;go_loopw [22] (λiv w2=>∃ (i:Nat) (l:List (Int×Int)),i<=m/\iv= .int .i64 i/\ad wo w2/\w2.cell? ⟨wo.heap.size,0,none⟩=some (.string k)/\ag (G4 w2 (wo.heap.size+1) l/\l.length<=i)) (λiv _=>m-(intOf iv).toNat)
   case atStart=>exact⟨0,[],ab,rfl,al,by go_simp,⟨_,ea ao,qcb _ _ _ _⟩,ao⟩
   case round=>
    obtain⟨i,l,hi,rfl,k2,dD,lk⟩:=hrel;by_cases iQ:i<m
    ·obtain⟨d,TK⟩:=exQ ds i (by rw[HM.o];exact iQ);obtain⟨Lf,qcR,rfl,qcS,tq⟩:=HP.o.af TK
     have TM:Lf∉[mb]:=λhx=>by
      simp only[At]at hx;obtain⟨C,⟨D,⟨es,clock,h1,_⟩,_⟩,_⟩:=HH.o.fz;obtain⟨A',c',hv,_,_,_,h4⟩:=HP.o;injection hv with hv;obtain⟨nY,qj,cur,hA,h5,_⟩:=h4 _ hv.symm;injection hA with hA;subst hA hx;rw[h1]at h5;cases h5
     obtain⟨d0,d1,d2⟩:=kQ λU u hu=>k2.af (kb.af (K1.af (tq U u hu)) TM);obtain⟨x0,x1,x2⟩:=d;have hz:=Aa wr _ dD;clear TK tq TM;go_wp2_with fail
     refine(qd7 wo.heap.size (wo.heap.size+1) k ⟨x0,x1,x2⟩ l _ (ad.af al dD) (by obtain⟨v,h1,h2⟩:=lk.o.1;exact⟨v,ad.heap al h1,ad.own h2 al⟩) (by have:=lk.o.2;omega) ab).mono ?_;rintro e w3 ⟨rfl,⟨l3,mg,Lm⟩,k3⟩;have vm:ag (G4 w3 (wo.heap.size+1) l3/\l3.length<=i+1):=⟨mg,by have:=lk.o.2;omega⟩;have K3:ad wo w3:=Below.trans (ad.below al) (Below.mono k3 ab)
     have TN:w3.cell? ⟨wo.heap.size,0,none⟩=some (.string k):=by
      rw[Below.cell (p:=⟨wo.heap.size,0,none⟩) k3 (by show wo.heap.size<wo.heap.size+1;omega)];exact ad.af al dD
     clear mg Lm k3;go_wp2;go_roundw
     case rel=>exact⟨i+1,l3,ab,aA,K3,TN,vm⟩
     case measure=>exact dY
    ·obtain rfl:i=m:=ab;obtain⟨⟨lv,bS,bA⟩,fL⟩:=lk.o;have cN:=aa (Rw.bp bA Aj ak);obtain⟨LA,lc,rfl⟩:=ca bA;have lb:=aE bS 0;have dp:ag (cP wr B hb mb own L2):=hs.o.kept k2;obtain⟨C,gd,hC⟩:=dp.o.fz;obtain⟨rv,hblk,_⟩:=dp.o.bB;obtain⟨s0,s1,_,shl⟩:=xO hblk;obtain⟨e6,gF⟩:=eqQ (jC (C k));have eu:=(hC k HL.o).1;rw[gF]at eu;have fy:=aa eu;have jD:=aa gF;have pB:=aa gd;have pA:=aa hC;have Aq:=aa (eu.len hB h9);have hk:=HL.o;have g0:=k2.af g0;have g1:=k2.af g1;have qd9:=aa fL;clear bA bS hblk eu gF gd hC fL lk c0;go_wp2;refine ey [none,none,none,none,none,none,none,none,none,none,none,none,none,some (λu w'=>∃ l',Rw w' 48 6 a8 u l'/\l'.Sublist (L2 k)/\l'.getLast?=(L2 k).getLast?)] (λwB=>ad wr wB/\wB.cell? ⟨hb,0,none⟩=some (rv)/\wB.cell? ⟨hb,1,none⟩=some (.map (some mb))/\wB.cell? ⟨wo.heap.size,0,none⟩=some (.string k)/\wB.cell? ⟨w.heap.size,0,none⟩=some (.int .i64 n)/\wB.cell? ⟨w.heap.size,1,none⟩=some (.int .i64 s)/\wB.cell? ⟨wo.heap.size+1,0,none⟩=some (.slice LA l.length lc)) λwB SS=> ?_;iterate 13 (apply SP.one av;(focus (intro wd hI hF;clear hF;obtain⟨ae,ai,aj,aq,az,aK,a1⟩:=SS.o wd hI;(try have cr:=(pB.o.keep ae).look hk;rw[jD.o]at cr);go_wp2_with (fail);exact aP));refine SP.np ?_)
     refine SP.ew ?_ λv1=> ?_
     ·intro wd hI hF;obtain⟨ae,ai,aj,aq,az,aK,a1⟩:=SS.o wd hI;clear hF;(try have cr:=(pB.o.keep ae).look hk;rw[jD.o]at cr);go_wp2_with ((go_at_call 245;refine(qdW e6 (L2 k) n s _ l _ (fy.o.kept ae).row (fy.o.sd) Aq.o (cN.o.kept ae) (by have:=qd9.o;omega) (λx hx=>((fy.o.kept ae).iG x hx).1.qdR)).mono ?_;rintro e w4 ⟨v4,xT,rfl,h4,h5,h6,k4⟩));exact bn rfl ⟨xT,h4,h5,h6⟩
     refine SP.ml SS ?_;rintro wd hI hF ⟨ae,ai,aj,aq,az,aK,a1⟩;have h1:=hF.1;clear hF SS;obtain⟨w9,⟨l',h4,h5,h6⟩,k9⟩:=h1
     have Ar:L2 k≠[]:=λe=>((HK.o.mem k).1 (by have:=Ap.o;exact zV this)).2 (by
      have:=(bL.o k hk).2;rw[e]at this;exact List.getLast?_eq_none_iff.1 this.symm)
     have aN:l'≠[]:=λe=>Ar (by rw[e]at h6;exact List.getLast?_eq_none_iff.1 h6.symm);have Dr:C k≠none:=λe=>Ar (by have:=jD.o;rw[e]at this;have h:=fy.o;rw[<- this]at h;exact cP.none h);have e7:=aa ((pA.o k hk).2 Dr).1;have As:=aa (h4.kept k9);have Ds:=aa h5;have HGL:=aa h6;have se:=aa aN;obtain⟨w5,cr,xR,cF⟩:=(pB.o.keep ae).put hk v1;have fh:=Dn (pB.o.keep ae) cF;have G5:ag (dc w5 B k v1 l'):=((fy.o.kept ae).sub (ad.refl wd) Ds.o As.o).fr fh;have dQ:ag (cP w5 B hb mb own (lh L2 k l')):=(dp.o.kept ae).pz (λk hk=>⟨(pA.o k hk).1.kept ae,(pA.o k hk).2⟩) (pB.o.keep ae) hk xR cF G5.o e7.o se.o
     have TO:ag (An L (lh L2 k l')):=λx hx=>by
      have h:=bL.o x hx;by_cases e:x=k
      ·subst e;rw[L8];exact⟨Ds.o.trans h.1,HGL.o.trans h.2⟩
      ·rw[TG e];exact h
     have Dt:ah [mb] w1 w5:=kb.trans ((ah.ar k2).trans ((ah.ar ae).trans cF));have Du:Fr bq w1 w5:=vk.trans ((Fr.ar k2).trans ((Fr.ar ae).trans fh));clear h4 h5 h6 k9 xR cF fh aN Ar Dr;go_wp2;go_roundw
     case rel=>exact⟨U+1,_,ab,aA,Dt,Du,dQ,TO⟩
     case measure=>exact dY
  ·obtain rfl:U=tB:=ab;go_wp2;go_end0
   exact⟨L2,rfl,hs.o,bL.o,(ah.ar K1).trans kb,(Fr.ar K1).trans vk⟩
end Go.Proofs.YtehaoggjlciobaaGreat

/- Part 30 of 53. -/
import Derived.Test.YtehaoggjlciobaaGreatPbc
set_option linter.all false
set_option maxRecDepth 20000
set_option maxHeartbeats 16000000
namespace Go.Proofs.YtehaoggjlciobaaGreat
open Go.RowKit Go.Sort Go.Shelf
theorem qfb (s:ByteArray) (w:World):Calls Tryz.prog 279 #[.string s] w λe w'=>∃ b,e= .returned (.bool b)/\(b=true↔s.toList=[])/\ad w w':=by
 obtain⟨b,hb⟩:∃ b,b=(s.toList==([]:List UInt8)):=⟨_,rfl⟩;have HB:ag (b=true↔s.toList=[]):=by unfold ag;rw[hb];simp
 go_wp2;go_ret;exact⟨_,rfl,ao,ad.refl w⟩
theorem qfc {w:World} {g cap q m:Nat} {e:TypeId} {cur:Array Value} {ts:List (List UInt8)} (hb:w.heap[g]? =some (.cells cur e (0,0))) (hm:m<=ts.length) (hs:ts.length<=cur.size) (hc:m<=cap) (bQ:cap<=maxLen):
  Rw (putRow encStr (Sort.ahead w q) g 0 ts.toArray) e 1 cd (.slice (some ⟨g,0,none⟩) m cap) ((ts.take m).map λl=>(⟨l.toArray⟩:ByteArray)):=by
 have h1:(putRow encStr (Sort.ahead w q) g 0 ts.toArray).heap[g]? =some (.cells (putCells encStr 0 ts.toArray cur) e (0,0)):=by
  have:=heap_sorted (n:=q) (os:= #[]) ts.toArray hb;rwa [grow_empty]at this
 have h2:=take_putCells cur ts hs;have hl:((ts.take m).map λl=>(⟨l.toArray⟩:ByteArray)).length=m:=by rw[List.length_map,qcd];omega
 have:=Cf (l:=(ts.take m).map λl=>(⟨l.toArray⟩:ByteArray)) (c:=cap) jU h1 (λt u hu=> ?_) (by rw[hl];exact hc) bQ
 ·rwa [hl]at this
 ·have ht:=(bg hu);rw[eF jU,hl,Nat.mul_one]at ht
  have h3:(ts.map encStr)[t]? =some u:=by
   rw[MG,List.map_map,List.map_map]at hu;rw[List.getElem?_map,qlY ht]at hu;rw[List.getElem?_map];exact hu
  rw[<- h2,qlY ab,Array.getElem?_toList]at h3;exact h3
def gH (rs:List Rg):List ByteArray:=rs.flatMap λr=>[r.1,r.2]
theorem qfd {rs:List Rg} {i:Nat} {r:Rg} (h:rs[i]? =some r):gH (rs.take (i+1))=gH (rs.take i)++[r.1,r.2]:=by
 have an:=(bg h);unfold gH;rw[QI an,(pi.1 h).2];simp
theorem U6 (rs:List Rg):(gH rs).length=rs.length*2:=by
 unfold gH
 induction rs with
 |nil=>rfl
 |cons a t ih=>rw[List.flatMap_cons,qC,ih,List.length_cons];simp;omega
theorem qfe (a b c:List UInt8) (h1:decide (a<=b)=true) (h2:decide (b<=c)=true):decide (a<=c)=true:=by simp only[decide_eq_true_eq]at*;exact List.le_trans h1 h2
theorem qff (a b:List UInt8):(decide (a<=b)||decide (b<=a))=true:=by simp only[Bool.or_eq_true,decide_eq_true_eq];exact List.le_total a b
theorem qfg {rs:List Rg} (pJ:∀ r∈rs,(r.1=nil∨lr r.1)/\(r.2=nil∨lr r.2)) {l':List ByteArray} (hd:cK (λ(a:ByteArray) b=>b=true↔a.toList=[]) (gH rs) l') (S:Nat->Prop) (hS:∀ c,S c->97<=c/\c<=122/\∃ r∈rs,r.1=ch c∨r.2=ch c):
  AF S ((Lib.compact ((l'.map λk=>k.data.toList).mergeSort λx y=>decide (x<=y))).map λl=>(⟨l.toArray⟩:ByteArray)):=by
 have hm:∀ b,b∈(Lib.compact ((l'.map λk=>k.data.toList).mergeSort λx y=>decide (x<=y))).map (λl=>(⟨l.toArray⟩:ByteArray))↔b∈l':=λb=>by
  rw[List.mem_map];constructor
  ·rintro⟨l,hl,rfl⟩;rw[U0,(List.mergeSort_perm _ _).mem_iff,List.mem_map]at hl;obtain⟨k,hk,rfl⟩:=hl;exact hk
  ·intro hb;refine⟨b.data.toList,?_,rfl⟩;rw[U0,(List.mergeSort_perm _ _).mem_iff,List.mem_map];exact⟨b,hb,rfl⟩
 have hc:∀ b∈l',lr b:=λb hb=>by
  obtain⟨h1,h2⟩:=hd.not hb;have aN:b≠nil:=λe=>by have:=h2.2 (by rw[e];exact nU);cases this
  unfold gH at h1;obtain⟨r,hr,oq⟩:=List.mem_flatMap.1 h1;simp only[KX,List.not_mem_nil,or_false]at oq;rcases oq with rfl|rfl
  ·exact(pJ r hr).1.resolve_left aN
  ·exact(pJ r hr).2.resolve_left aN
 refine⟨λb hb=>hc b ((hm b).1 hb),λc hcS=> ?_,?_⟩
 ·obtain⟨h1,h2,r,hr,sy⟩:=hS c hcS;rw[hm];have c7:ch c∈gH rs:=List.mem_flatMap.2 ⟨r,hr,by simp;rcases sy with h|h;exact .inl h.symm;exact .inr h.symm⟩;rcases hd.mem c7 with h|h
  ·exact h
  ·have:=h.1 rfl;rw[oR]at this
   cases this
 ·have hs:=(List.pairwise_mergeSort qfe qff (l'.map λk=>k.data.toList)).sublist (U1 _);refine List.pairwise_map.2 (hs.imp_of_mem λ{a b} ha hb ib=> ?_);have h1:=hc _ ((hm ⟨a.toArray⟩).1 (List.mem_map.2 ⟨a,ha,rfl⟩));have h2:=hc _ ((hm ⟨b.toArray⟩).1 (List.mem_map.2 ⟨b,hb,rfl⟩));exact qe' h1 h2 (by simpa using ib)
theorem qfh (v:Value) (rs:List Rg) (w:World) (bH:Rw w 63 2 bZ v rs) (hl:rs.length<=100) (pJ:∀ r∈rs,(r.1=nil∨lr r.1)/\(r.2=nil∨lr r.2)) (S:Nat->Prop) (hS:∀ c,S c->97<=c/\c<=122/\∃ r∈rs,r.1=ch c∨r.2=ch c):
  Calls Tryz.prog 249 #[v] w λe w'=>∃ v' bs,e= .returned v'/\Rw w' 9 1 cd v' bs/\bs.length<=200/\AF S bs/\ad w w':=by
 obtain⟨A,c,rfl,bl,bQ⟩:=bH.form;obtain⟨n,hn⟩:∃ n,rs.length=n:=⟨_,rfl⟩;have HV:=aa bH;have HN:=aa hn;have HB:ag (∀ l',cK (λ(a:ByteArray) b=>b=true↔a.toList=[]) (gH rs) l'->AF S ((Lib.compact ((l'.map λk=>k.data.toList).mergeSort λx y=>decide (x<=y))).map λl=>(⟨l.toArray⟩:ByteArray))):=λl' hd=>qfg pJ hd S hS;rw[hn]at HV bl hl⊢;clear bH hn pJ hS;obtain⟨i0,hi,a7,aY,aW⟩:=ql0 B4;go_wp2;go_loopw [3,8] (λsv iv wr=>∃ U:Nat,U<=n/\iv= .int .i64 U/\ad w wr/\ag (wr.ownsRow w.heap.size 9 1 sv (gH (rs.take U)).length ((gH (rs.take U)).flatMap cd))) (λ_ iv _=>n-(intOf iv).toNat)
 case atStart=>exact⟨0,ab,rfl,al,qcb _ _ _ _⟩
 case round=>
  obtain⟨U,hj,rfl,kr,hs⟩:=hrel;by_cases an:U<n
  ·obtain⟨r,hr⟩:∃ r,rs[U]? =some r:=⟨_,jc (by rw[HN.o];exact an)⟩;obtain⟨b,off,rfl,hb,hc⟩:=HV.o.af hr
   have j1:ag ((gH (rs.take U)).flatMap cd++[.string r.1,.string r.2]=(gH (rs.take (U+1))).flatMap cd/\(gH (rs.take U)).length+2=(gH (rs.take (U+1))).length):=by
    unfold ag;rw[qfd hr,List.flatMap_append,qC];exact⟨rfl,rfl⟩
   have fL:ag ((gH (rs.take U)).length<=200):=by unfold ag;rw[U6,qcd,HN.o];omega
   obtain⟨r1,r2⟩:=r;obtain⟨c0,c1⟩:=Uuh λU u hu=>kr.af (hc U u hu);have ou:=kr.size;clear hc hr;go_wp2_with (at_builtin;have UY:=fL.o;refine wpList_append_own _ rfl _ _ 34 rfl w.heap.size 9 i0 (.string ⟨#[]⟩) 1 16 Tryz.underlying34 hi a7 aY aW rfl ak _ _ _ rfl ((hs.o.alloc _).alloc _) ⟨wr.heap.size+1,0,none⟩ 2 2 [.string r1,.string r2] rfl rfl (by have h:=JZ (l5 (wr.alloc (.cells #[.string r1,.string r2] 63)) (.cells #[.string r1,.string r2] 9));rw[World.size_alloc]at h;exact h) (by intro u hu;simp only[KX,List.not_mem_nil,or_false]at hu;rcases hu with rfl|rfl <;>rfl) (by unfold maxLen;omega) ab (by simp;omega) ?_;intro v' w3 dk gW _;have eR:ag (w3.ownsRow w.heap.size 9 1 v' (gH (rs.take (U+1))).length ((gH (rs.take (U+1))).flatMap cd)):=(by rw[<- j1.o.1,<- j1.o.2];exact dk);have K3:=((kr.alloc _).alloc _).grown gW (λg hg=>(hs.o.lt g hg).1);obtain⟨A3,c3,rfl⟩:=ca dk;clear dk gW)
   go_roundw
   case rel=>exact⟨U+1,ab,aA,K3,eR⟩
   case measure=>simp[intOf];omega
  ·obtain rfl:U=n:=ab;obtain⟨A3,c3,e3⟩:=ca hs.o;subst e3
   have dp:ag (wr.ownsRow w.heap.size 9 1 (.slice A3 (gH rs).length c3) (gH rs).length ((gH rs).flatMap cd)):=by
    have h:=hs.o;rwa [qcc (by rw[HN.o];omega)]at h
   rw[qcc (by rw[HN.o];omega)];clear hs;have HT:ag (fI (Value.slice A3 (gH rs).length c3).ownBlock.toList wr 279 #[] (λs=> .string s) (gH rs) (λ(a:ByteArray) b=>b=true↔a.toList=[])):=⟨λargs w=>enters_of Tryz.func279 av rfl args w,λW _ a _=>qfb a W⟩;have ou:=kr.size;go_wp2_with fail
   refine(QP w.heap.size _ (gH rs) _ _ _ wr ou dp.o HT.o).mono ?_;rintro e w4 ⟨v4,l',rfl,h4,hd,k4⟩;have sa:=aa (HB.o l' hd);have rO:l'.length<=200:=by have:=hd.sub.length_le;rw[U6,HN.o]at this;omega
   have K4:ad w w4:=kr.but k4 λx hx=>(dp.o.lt x (Option.mem_toList.1 hx)).1;rw[MG]at h4;clear hd k4 dp HT ou;rcases h4.2 with ⟨rfl,h0⟩|⟨gb,cap,cur,rfl,qS,eP,r1,r2,r3,r4⟩
   ·obtain rfl:l'=[]:=ql2 h0
    have MI:ag (AF S []):=by
     have h:=sa.o;simpa [ag,Lib.compact,Lib.compactUpTo]using h
    clear sa h4 h0;go_wp2_with fail
    refine(AnyM.slices_Sort_string_none Tryz.sort221 none 0 w4).mono ?_;rintro e w5 ⟨rfl,rfl⟩;go_wp2_with fail
    refine(Tryz.slices_Compact_string_empty none 0 w5).mono ?_;rintro e w6 ⟨rfl,rfl⟩;go_wp2;go_ret;exact⟨_,[],rfl,Rw.nil _,ao,MI.o,K4⟩
   ·have hH:Holds encStr w4 gb 0 (l'.map λk=>k.data.toList).toArray:=holds_of_block eP (by simpa using r4);have hZ:gb<w4.heap.size:=(aQ eP);have qA:=AnyM.slices_Sort_string Tryz.sort221 gb 0 cap (l'.map λk=>k.data.toList) w4 hH hZ (by simp;omega);rw[List.length_map]at qA;have pA:=aa qA;have vg:=aa eP;clear qA hH eP h4 r4;go_wp2_with fail
    refine pA.o.mono ?_;rintro e w5 ⟨rfl,nn,os,rfl⟩;obtain⟨ss,gI⟩:∃ ss,ss=((l'.map λk=>k.data.toList).mergeSort λx y=>decide (x<=y)):=⟨_,rfl⟩;have qm:ss.length=l'.length:=by rw[gI];simp
    have Hp:=heap_sorted (n:=nn) (os:=os) ss.toArray vg.o;have MJ:ah [gb] w4 (grow (putRow encStr (Sort.ahead w4 nn) gb 0 ss.toArray) os):=(ah.refl [gb] w4).grown (grownBy_sorted ss.toArray) (λx hx=>by cases hx;exact .inl ao);rw[<- gI]at sa⊢;obtain⟨W5,jZ⟩:∃ W5,W5=grow (putRow encStr (Sort.ahead w4 nn) gb 0 ss.toArray) os:=⟨_,rfl⟩;rw[<- jZ]at Hp MJ⊢;have hcz:(putCells encStr 0 ss.toArray cur).size=cur.size:=by simp[putCells]
    have U7:Holds encStr W5 gb 0 ss.toArray:=holds_of_block Hp (take_putCells cur ss ab);have yb:=Tryz.slices_Compact_string gb 0 cap ss W5 U7 ab ab;have bL:(Lib.compact ss).length<=ss.length:=(U1 ss).length_le;have Da:(Lib.compact ss++List.replicate (ss.length-(Lib.compact ss).length) []).length=ss.length:=by rw[qC,List.length_replicate];omega
    have cN:ag (∀ q,Rw (putRow encStr (Sort.ahead W5 q) gb 0 (Lib.compact ss++List.replicate (ss.length-(Lib.compact ss).length) []).toArray) 9 1 cd (.slice (some ⟨gb,0,none⟩) (Lib.compact ss).length cap) ((Lib.compact ss).map λl=>(⟨l.toArray⟩:ByteArray))):=λq=>by
     have h:=qfc (q:=q) (m:=(Lib.compact ss).length) (cap:=cap) (ts:=Lib.compact ss++List.replicate (ss.length-(Lib.compact ss).length) []) Hp ab ab ab r2;rwa [List.take_left']at h
     rfl
    rw[qm]at yb;have DP:=aa yb;have K5:ad w W5:=K4.but MJ (by simpa using qS);rw[qm]at cN;clear yb U7 Hp MJ jZ gI Da hcz;go_wp2_with fail
    refine DP.o.mono ?_;rintro e w6 ⟨rfl,q,rfl⟩;go_wp2;go_ret;exact⟨_,_,rfl,cN.o q,by rw[List.length_map];omega,sa.o,K5.but (UU W5 q gb _) (by simpa using qS)⟩
attribute [local go_sem] Oper.semAt_some
def yc (r:Rg):Value:= .agg #[.string r.1,.string r.2]
def q' (bs:List ByteArray) (i:Nat):List Rg:=(List.range i).map λU=>(((nil::bs)[U]?).getD nil,(bs[U]?).getD nil)
theorem qfi (bs:List ByteArray) (i:Nat):q' bs (i+1)=q' bs i++[(((nil::bs)[i]?).getD nil,(bs[i]?).getD nil)]:=by
 unfold q';rw[List.range_succ,List.map_append];rfl
theorem MK (bs:List ByteArray) (i:Nat):(q' bs i).length=i:=by unfold q';simp
theorem U8 (bs:List ByteArray):nD nil bs=q' bs bs.length++[(((nil::bs)[bs.length]?).getD nil,nil)]:=U2 nil bs
theorem qfj (bs:List ByteArray):(nD nil bs).length=bs.length+1:=by rw[U8,qC,MK];rfl
theorem qfk (F:Fence) (n:Nat) (hf:F.fn 278) (ej:F.round=none) (hn:1<=n) (l Bs:Nat) (Kp:World->World->Prop) (v:Value) (bs:List ByteArray) (U9:∀ X Y,Kp X Y->Rw X 9 1 cd v bs->Rw Y 9 1 cd v bs) (cO:bs.length<=1000000) (J Jx:List Rg->World->Prop)
  (hY:∀ pre x W,J pre W->pre.length<bs.length+1->YieldAt F (n-1) Tryz.prog l #[yc x] W λe W'=>(e= .returned (.bool true)/\J (pre++[x]) W'/\Kp W W')∨(e= .returned (.bool false)/\Jx (pre++[x]) W'))
  (W:World) (hv:Rw W 9 1 cd v bs) (DL:W.cell? ⟨Bs,0,none⟩=some v) (h0:J [] W):
  CallsIn F n Tryz.prog 278 #[.func (.yield l) #[] #[],.pointer (some ⟨Bs,0,none⟩)] W λe W'=>(∃ v,e= .returned v)/\((∃ ys,ys=nD nil bs/\J ys W')∨(∃ pre,True/\Jx pre W')):=by
 obtain⟨A,c,rfl,bl,bQ⟩:=hv.form;obtain⟨m,hm⟩:∃ m,bs.length=m:=⟨_,rfl⟩;have U':=aa U9;have HV:=aa hv;have HY:=aa hY;have HM:=aa hm;rw[hm]at HV U' HY cO bl DL;clear hv hY hm U9;refine callsIn_of_wp Tryz.func278 rfl hf ?_ ej;simp only[Tryz.ntmps278,List.size_toArray,List.length_cons,List.length_nil,Nat.reduceAdd,Nat.reduceSub,Array.replicate_succ,Array.replicate_zero,List.push_toArray,List.append_toArray,List.nil_append,List.cons_append];gi_wp2
 gi_loopw [3,8] (λfF iv wr=>∃ i:Nat,i<=m/\iv= .int .i64 i/\fF= .string (((nil::bs)[i]?).getD nil)/\ag (J (q' bs i) wr)/\ag (Rw wr 9 1 cd (.slice A m c) bs)) (λ_ iv _=>m-(intOf iv).toNat)
 case atStart=>exact⟨0,ab,rfl,rfl,h0,HV⟩
 case round=>
  obtain⟨i,hi,rfl,rfl,vv,kr⟩:=hrel;by_cases an:i<m
  ·obtain⟨x,hx⟩:∃ x,bs[i]? =some x:=⟨_,jc (by rw[HM.o];exact an)⟩;obtain⟨b,off,rfl,hb,hc⟩:=kr.o.af hx;obtain⟨y,yd⟩:∃ y,((nil::bs)[i]?).getD nil=y:=⟨_,rfl⟩;have j1:ag (q' bs i++[(y,x)]=q' bs (i+1)):=by unfold ag;rw[qfi,yd,hx];rfl
   have dV:ag (((nil::bs)[i+1]?).getD nil=x):=by unfold ag;rw[List.getElem?_cons_succ,hx];rfl
   rw[yd];obtain c0:=iU hc;simp only[Nat.mul_one]at c0;obtain⟨fn,tmps,assign,body,hy,hR⟩:=HY.o _ (y,x) wr vv.o (by rw[MK];omega);dsimp only[yc]at hy
   clear hc hx yd;gi_wp2
   refine hR.mono ?_;rintro e W3 (⟨rfl,qY,lj⟩|⟨rfl,x'⟩)
   ·have tI:ag (J (q' bs (i+1)) W3):=by rw[<- j1.o];exact qY
    have k3:ag (Rw W3 9 1 cd (.slice (some ⟨b,off,none⟩) m c) bs):=U'.o _ _ lj kr.o;clear qY;gi_wp2
    go_roundw
    case rel=>exact⟨i+1,ab,aA,by rw[dV.o],tI,k3⟩
    case measure=>simp[intOf];omega
   ·gi_wp2
    refine KV (results_none rfl _ _ _) rfl ?_;exact⟨⟨_,rfl⟩,.inr ⟨_,trivial,x'⟩⟩
  ·obtain rfl:i=m:=ab;obtain⟨y,yd⟩:∃ y,((nil::bs)[i]?).getD nil=y:=⟨_,rfl⟩;have j1:ag (q' bs i++[(y,nil)]=nD nil bs):=by unfold ag;rw[U8,HM.o,yd]
   rw[yd];obtain⟨fn,tmps,assign,body,hy,hR⟩:=HY.o _ (y,nil) wr vv.o (by rw[MK];omega);dsimp only[yc,nil]at hy
   clear yd;gi_wp2
   refine hR.mono ?_;rintro e W3 (⟨rfl,qY,lj⟩|⟨rfl,x'⟩)
   ·have tI:ag (J (nD nil bs) W3):=by rw[<- j1.o];exact qY
    clear qY;gi_wp2
    go_end0
    exact⟨⟨_,rfl⟩,.inl ⟨_,rfl,tI.o⟩⟩
   ·gi_wp2
    go_end0
    exact⟨⟨_,rfl⟩,.inr ⟨_,trivial,x'⟩⟩
theorem qfl (F:Fence) (n:Nat) (hf:F.fn 248) (ej:F.round=none) (A:Option Addr) (m c:Nat) (w:World):
  CallsIn F n Tryz.prog 248 #[.slice A m c] w λe w'=>e= .returned (.func (.func 278) #[] #[.pointer (some ⟨w.heap.size,0,none⟩)])/\w'=w.alloc (.cells #[.slice A m c] 34):=by
 refine callsIn_of_wp Tryz.func248 rfl hf ?_ ej;simp only[Tryz.ntmps248,List.size_toArray,List.length_cons,List.length_nil,Nat.reduceAdd,Nat.reduceSub,Array.replicate_succ,Array.replicate_zero,List.push_toArray,List.append_toArray,List.nil_append,List.cons_append];gi_wp2
 go_ret;exact⟨rfl,rfl⟩
attribute [local go_sem] Oper.semAt_some
structure Hq (es aH:List Nat) (pt:List Rg):Prop where
 bx:pt.length<=201
 all:∀ k,∃ r∈pt,hasB r.1 r.2 k=true/\bV es (hv r.1)=bV es (hv k)/\bV aH (hv r.1)=bV aH (hv k)
theorem Va {es:List Nat} (hu:Up es):∀ r∈bw es,(r.1=nil∨lr r.1)/\(r.2=nil∨lr r.2):=by
 intro r hr;unfold bw at hr;obtain⟨i,hi,rfl⟩:=List.mem_map.1 hr;rw[List.mem_range]at hi;have hg:∀ U,U<es.length->lr (ch (g es U)):=λU hj=>⟨_,(hu.gN U hj).1,(hu.gN U hj).2,rfl⟩;refine⟨?_,?_⟩
 ·show fr es i=nil∨lr (fr es i)
  unfold fr;split
  ·exact .inl rfl
  ·exact .inr (hg _ ab)
 ·show to es i=nil∨lr (to es i)
  unfold to;split
  ·exact .inr (hg _ bk)
  ·exact .inl rfl
theorem Vb {es:List Nat} (hu:Up es) {c:Nat} (hc:c∈es):97<=c/\c<=122/\∃ r∈bw es,r.1=ch c∨r.2=ch c:=by
 obtain⟨i,hi⟩:=qcl.1 hc;have hl:=(bg hi);have hg:g es i=c:=by unfold g;rw[hi];rfl
 have hr:=hu.gN i hl;rw[hg]at hr;refine⟨hr.1,hr.2,(fr es i,to es i),?_,.inr ?_⟩
 ·unfold bw;exact List.mem_map.2 ⟨i,List.mem_range.2 ab,rfl⟩
 ·show to es i=ch c
  unfold to;rw[if_pos hl,hg]
def nE (W W':World):Prop:=∀ (b:Nat) (cur:Array Value),W.heap[b]? =some (.cells cur 9 (0,0))->W'.heap[b]? =some (.cells cur 9 (0,0))
theorem nE.rw {W W':World} (h:nE W W') {v:Value} {bs:List ByteArray} (hr:Rw W 9 1 cd v bs):Rw W' 9 1 cd v bs:=by
 obtain⟨A,c,rfl,h1,h2,h3,h4⟩:=hr;refine⟨A,c,rfl,h1,h2,h3,λp hl=> ?_⟩;obtain⟨b,off,cur,rfl,hb,hc⟩:=h4 p hl;exact⟨b,off,cur,rfl,h b cur hb,hc⟩
theorem nE.kept {W W':World} (h:ad W W'):nE W W':=λb cur hb=>h.heap hb
theorem nE.putObj {W:World} {l:Nat} {o:Obj} (o':Obj) (hl:W.heap[l]? =some o) (ho:o.isCells=false):nE W (W.putObj l o'):=λb cur hb=>by
 have aN:b≠l:=by rintro rfl;rw[hl]at hb;cases hb;cases ho
 rw[World.putObj_heap_other aN];exact hb
theorem nE.app {W w1:World} {B n₀ k:Nat} {t e:TypeId} {size:Nat} {v v':Value} {xs:List Value} {tmp:Obj} (hv:Boxed W B t v) (ht:t≠9) (he:e≠9) (bR:W.ownsRow n₀ e size v k xs) (gW:(W.alloc tmp).grownBy w1 v.ownBlock):nE W (w1.setCell ⟨B,0,none⟩ v'):=λb cur hb=>by
 have an:=(aQ hb);have h1:(W.alloc tmp).heap[b]? =some (.cells cur 9 (0,0)):=(Below.heap_alloc W tmp b an).trans hb
 have h2:w1.heap[b]? =some (.cells cur 9 (0,0)):=by
  refine(gW.block b (aQ h1) (λrM=> ?_)).trans h1;rcases bR.2 with ⟨rfl,_⟩|⟨g,cap,jb,rfl,_,hg,_⟩
  ·simp[Value.ownBlock]at rM
  ·obtain rfl:b=g:=by simpa [Value.ownBlock]using rM
   rw[hg]at hb;simp only[Option.some.injEq,Obj.cells.injEq]at hb;exact he hb.2.1
 have aN:b≠B:=by
  rintro rfl;have:=(show W.heap[b]? =_ from hv).symm.trans hb;simp only[Option.some.injEq,Obj.cells.injEq]at this;exact ht this.2.1
 rw[Below.heap_setCell w1 ⟨B,0,none⟩ v' b (by simpa using aN)];exact h2
theorem qfm (W:World) (a b:Value) (t:TypeId):∀ (U:Nat) u,[a,b][U]? =some u->(W.alloc (.cells #[a,b] t)).cell? ((⟨W.heap.size,0,none⟩:Addr).add U)=some u:=by
 intro U u hu;rw[Addr.add_lit,Nat.zero_add,aE (l5 W _) U,<- hu];exact List.getElem?_toArray
theorem qfn (v v2:Value) (es aH:List Nat) (os ps aJ a':List Int) (w:World) (h:pI w v es os ps) (h2:pI w v2 aH aJ a') (hf:eA es os ps ps.length) (eG:eA aH aJ a' a'.length) (hn:ps.length=a'.length):
  Calls Tryz.prog 191 #[v,v2] w λe w'=>∃ v' pt,e= .returned v'/\Rw w' 63 2 bZ v' pt/\Hq es aH pt/\ad w w':=by
 have HH:=aa h;have GV:=aa h2;have HFT:=aa (λw1 (K:ad w w1)=>MF v v2 es aH os ps aJ a' w1 (h.keep K) (h2.keep K) hf eG hn);obtain⟨A,B,C,n1,c1,n2,c2,c3,rfl,hr⟩:=h;obtain⟨A',B',C',m1,d1,m2,d2,d3,rfl,b3⟩:=h2;have HR:=aa hr;have di:=aa b3;have AG:ag ((bw es).length=n1):=hr.rs.1;have AH:ag ((bw aH).length=m1):=b3.rs.1;have hu:=hf.fit.up;have pd:=eG.fit.up;have h61:0<n1/\n1<=100:=by have:=AG.o;rw[ju]at this;have:=hu.cV;omega
 have h62:0<m1/\m1<=100:=by have:=AH.o;rw[ju]at this;have:=pd.cV;omega
 have HU:=aa hu;have zI:=aa pd;clear hr b3 hf eG hu pd HH GV hn;refine(callsIn_wide (n:=5)).1 ?_;refine callsIn_of_wp_marks Tryz.func191 rfl trivial ?_ rfl;simp only[Tryz.ntmps191,List.size_toArray,List.length_cons,List.length_nil,Nat.reduceAdd,Nat.reduceSub,Array.replicate_succ,Array.replicate_zero,List.push_toArray,List.append_toArray,List.nil_append,List.cons_append];gi_wp2_with (refine⟨trivial,?_⟩;gi_at_call 117;refine(callsIn_wide.2 (HFT.o _ al)).mono ?_;rintro e w1 ⟨rfl,k1⟩;have K1:ad w w1:=ad.call al k1;have e0:w1.cell? ⟨w.heap.size,0,none⟩=some (.slice A n1 c1):=k1.af (by go_simp);have e1:w1.cell? ⟨w.heap.size+1,0,none⟩=some (.slice A' m1 d1):=k1.af (by go_simp);have z1:=k1.size;simp only[World.size_alloc]at z1;have x0:=((ad.refl w1).alloc (.cells #[.slice none 0 0] 27)).af e0;have x1:=((ad.refl w1).alloc (.cells #[.slice none 0 0] 27)).af e1;have cx:=aa K1;clear k1 K1 e0 e1)
 have Uua:ag (∀ q w2,ad w w2->w2.cell? ⟨q,0,none⟩=some (.slice A n1 c1)->w2.cell? ⟨q,1,none⟩=some (.slice A' m1 d1)->Calls Tryz.prog 250 #[.slice (some ⟨q,0,none⟩) 2 2] w2 λe w'=>∃ v,e= .returned v/\w'.ownsRow w2.heap.size 63 2 v (bw es++bw aH).length ((bw es++bw aH).flatMap bZ)/\ad w2 w'):=λq w2 K g0 g1=>by
  refine qe9 q A A' c1 d1 (bw es) (bw aH) w2 ?_ ?_ ?_ ?_ ?_ ?_
  ·rw[AG.o];exact HR.o.rs.keep K
  ·rw[AH.o];exact di.o.rs.keep K
  ·rw[AG.o];exact h61
  ·rw[AH.o];exact h62
  ·rw[AG.o];exact g0
  ·rw[AH.o];exact g1
 have hq:=FI (l5 (w1.alloc (.cells #[.slice none 0 0] 27)) (.cells #[.slice A n1 c1,.slice A' m1 d1] 27));rw[World.size_alloc]at hq;refine⟨trivial,(callsIn_wide.2 (Uua.o _ _ ((cx.o.alloc _).alloc _) hq.1 hq.2.1)).mono ?_⟩;rintro e w2 ⟨v2,rfl,dA,k2⟩;have AI:Boxed w2 w1.heap.size 27 (.slice none 0 0):=k2.heap ((Boxed.new w1 _ _).alloc _);have z2:=k2.size;simp only[World.size_alloc]at z2;have K2:ad w w2:=((cx.o.alloc _).alloc _).call k2;have cM:ag ((bw es++bw aH).length<=100):=by unfold ag;rw[qC,AG.o,AH.o];have a:=AG.o;have b:=AH.o;rw[ju]at a b;have:=HU.o.cV;have:=zI.o.cV;omega
 obtain⟨nl,tC⟩:∃ nl,(bw es++bw aH).length=nl:=⟨_,rfl⟩;obtain⟨A2,ML,rfl⟩:=ca dA;have xD:=Rw.bp dA nZ ak;rw[tC]at xD⊢;have cN:=aa xD
 have sa:ag (∀ w3,ad w2 w3->Calls Tryz.prog 249 #[.slice A2 nl ML] w3 λe w'=>∃ v' bs,e= .returned v'/\Rw w' 9 1 cd v' bs/\bs.length<=200/\AF (λc=>c∈es∨c∈aH) bs/\ad w3 w'):=λw3 K3=>
  qfh _ (bw es++bw aH) w3 (cN.o.kept K3) cM.o (λr hr=>(Pv.1 hr).elim (Va HU.o r) (Va zI.o r)) _ (λc hc=>by
   rcases hc with hc|hc
   ·obtain⟨a,b,r,hr,e⟩:=Vb HU.o hc;exact⟨a,b,r,List.mem_append_left _ hr,e⟩
   ·obtain⟨a,b,r,hr,e⟩:=Vb zI.o hc;exact⟨a,b,r,List.mem_append_right _ hr,e⟩)
 clear dA hq x0 x1 k2 Uua xD tC;gi_wp2
 refine⟨trivial,(callsIn_wide.2 (sa.o w2 (ad.refl _))).mono ?_⟩;rintro e w3 ⟨v3,bs,rfl,h3,dZ,pK,k3⟩;obtain⟨A3,sA,rfl,_,_⟩:=h3.form;have H3:=aa h3;have HP:ag (∀ k,∃ r∈nD nil bs,hasB r.1 r.2 k=true/\bV es (hv r.1)=bV es (hv k)/\bV aH (hv r.1)=bV aH (hv k)):=λk=>qfa HU.o zI.o pK k;have AI:Boxed w3 w1.heap.size 27 (.slice none 0 0):=k3.heap AI;have z3:=k3.size;have K3:=K2.call k3;obtain⟨nb,aL⟩:∃ nb,bs.length=nb:=⟨_,rfl⟩;have oG:=aa aL;rw[aL]at H3 dZ⊢;clear h3 pK k3 sa cN aL;gi_wp2
 refine⟨trivial,(qfl Fence.wide 4 trivial rfl _ _ _ w3).mono ?_⟩;rintro e w4 ⟨rfl,rfl⟩;gi_wp2
 have AI:=AI.alloc (.cells #[.slice A3 nb sA] 34);have K4:ad w (w3.alloc (.cells #[.slice A3 nb sA] 34)):=K3.alloc _;have du:(w3.alloc (.cells #[.slice A3 nb sA] 34)).cell? ⟨w3.heap.size,0,none⟩=some (.slice A3 nb sA):=aE (l5 w3 _) 0;have z4:(w3.alloc (.cells #[.slice A3 nb sA] 34)).heap.size=w3.heap.size+1:=ao;have H4:ag (Rw (w3.alloc (.cells #[.slice A3 nb sA] 34)) 9 1 cd (.slice A3 nb sA) bs):=H3.o.kept ((ad.refl _).alloc _);obtain⟨W0,gh⟩:∃ W0,w3.alloc (.cells #[.slice A3 nb sA] 34)=W0:=⟨_,rfl⟩;rw[gh]at AI K4 du z4 H4⊢
 refine wpIn_rangeFunc_ownH rfl ab (gf:=278) (lb:= #[.pointer (some ⟨w3.heap.size,0,none⟩)]) rfl trivial (enters_of Tryz.func278 av rfl)
  (S:=λys=>ys=nD nil bs) (Sp:=λ_=>True) (N:=nb+1) (w0:=W0) (encs:=λr:Rg=> #[yc r]) (Kp:=nE)
  (λl J Jx W hW kK _ hY h0=>qfk Fence.wide 4 trivial rfl ab l w3.heap.size nE _ bs (λX Y h hr=>h.rw hr) (by rw[oG.o];omega) J Jx (by rw[oG.o];exact hY) W (H4.o.kept hW) ((hW.cell (p:=⟨w3.heap.size,0,none⟩) (show w3.heap.size<W0.heap.size by omega)).trans du) h0)
  (λh k b cur hb=>k b cur (h b cur hb)) (λW l o o' _ hl ho _=>nE.putObj o' hl ho) (Below.refl _ _) (λ_=>rfl)
  (λpre W=>(∃ v,Boxed W w1.heap.size 27 v/\W.ownsRow w.heap.size 63 2 v pre.length (pre.flatMap bZ)/\True)/\Below w.heap.size w W)
  (λ_ _ _=>False)
  (OwnFrom.and (Own.from (holdsRow_own _ _ _ _ _ (λpre:List Rg=>pre.length) (λpre=>pre.flatMap bZ) (λ_ _=>True)) _) (ownFrom_below (CP _) ab))
  (λ_ _ _ _ _ hs _ _=>hs)
  ⟨⟨_,AI,qcb _ _ _ _,trivial⟩,K4⟩
  (λx bI W=>∃ Bx,w1.heap.size<Bx/\W.heap[Bx]? =some (.cells #[.string x.1,.string x.2] 63 (0,0))/\bI={tmps:= #[.agg #[.slice A n1 c1,.slice B n2 c2,.slice C ps.length c3],.agg #[.slice A' m1 d1,.slice B' m2 d2,.slice C' a'.length d3],.pointer (some ⟨w.heap.size,0,none⟩),.pointer (some ⟨w.heap.size+1,0,none⟩),.slice none 0 0,.pointer (some ⟨w1.heap.size,0,none⟩),.pointer (some ⟨Bx,0,none⟩),.agg #[.slice A n1 c1,.slice B n2 c2,.slice C ps.length c3],.agg #[.slice A' m1 d1,.slice B' m2 d2,.slice C' a'.length d3],.bool true,.bool false,.pointer (some ⟨w.heap.size,0,none⟩),.slice A n1 c1,.pointer (some ⟨w.heap.size+1,0,none⟩),.slice A' m1 d1,.slice (some ⟨w1.heap.size+1,0,none⟩) 2 2,.slice A2 nl ML,.slice A3 nb sA,.func (.func 278) #[] #[.pointer (some ⟨w3.heap.size,0,none⟩)],yc x,undef,undef,undef,undef,undef],defers:=[]})
  (λx bI _ X Y row hs hg hr=>by obtain⟨Bx,h1,h2,h3⟩:=hs;exact⟨Bx,h1,UM h2 hg (λr e=>(hr r e).2),h3⟩)
  ?assign ?body ?done ?stop
 case assign=>
  rintro l pre x W K ⟨⟨v,hv,hr,_⟩,hB⟩ hK;obtain⟨x0,x1⟩:=x;unfold yc at*;gi_wp2
  exact hK _ _ ((KeepsOthers.alloc _ _).from _) (nE.kept ((ad.refl W).alloc _)) ⟨⟨v,hv.alloc _,hr.alloc _,trivial⟩,hB.alloc hB.size _⟩ ⟨W.heap.size,hv.lt,l5 W _,rfl⟩
 case body=>
  rintro l pre x bI W hl ⟨r,hr⟩ ⟨⟨v,hv,bR,_⟩,hB⟩ ⟨Bx,hBx,hX,rfl⟩ an;obtain⟨x0,x1⟩:=x;have y0:W.cell? ⟨Bx,0,none⟩=some (.string x0):=aE hX 0;have y1:W.cell? ⟨Bx,1,none⟩=some (.string x1):=aE hX 1;have hc:=hv.cell;have hz:=hB.size;have hBO:w.heap.size<=w1.heap.size:=ab;obtain⟨i0,hi,a7,aY,aW⟩:=ql0 rU;clear hX hr;unfold yc;gi_wp2_with (gi_at_builtin;refine wpListIn_append_own _ rfl _ _ 27 rfl w.heap.size 63 i0 (.agg #[.string ⟨#[]⟩,.string ⟨#[]⟩]) 2 32 Tryz.underlying27 hi a7 aY aW rfl ak _ _ _ rfl (bR.alloc _) ⟨W.heap.size,0,none⟩ 1 1 [.string x0,.string x1] rfl rfl (qfm W _ _ _) (by intro u hu;simp only[KX,List.not_mem_nil,or_false]at hu;rcases hu with rfl|rfl <;>rfl) (by unfold maxLen;omega) ab (by simp;omega) ?_;intro v' w5 dk gW _;obtain⟨g',kP,rfl⟩:=ownsRow_succ dk;obtain⟨ft,cW,b3,bb,bG⟩:=hv.appended ak bR hz hBO dk gW;have og:=ft.cell;have vw:=ft.frozen)
  have gG:(w5.setCell ⟨w1.heap.size,0,none⟩ (.slice (some ⟨g',0,none⟩) (pre.length+1) kP)).ownsRow w.heap.size 63 2 (.slice (some ⟨g',0,none⟩) (pre.length+1) kP) (pre++[((x0,x1):Rg)]).length ((pre++[((x0,x1):Rg)]).flatMap bZ):=by simpa [bZ]using b3
  have hkp:nE W (w5.setCell ⟨w1.heap.size,0,none⟩ (.slice (some ⟨g',0,none⟩) (pre.length+1) kP)):=nE.app hv ak ak bR gW;exact⟨bb.from _,hkp,by first|exact⟨⟨_,cW,gG⟩,hB.trans bG⟩|exact⟨⟨_,cW,gG,trivial⟩,hB.trans bG⟩⟩
 case done=>
  rintro D ys W ja hS ⟨⟨v,hv,bR,_⟩,hB⟩ hK;subst hS;have hc:=hv.cell;have HRO:=aa (Rw.bp (ownsRow_putObj bR (.deferred none) hK rfl) nZ ak);obtain⟨qk2,e6,rfl⟩:=ca bR;gi_wp2
  refine⟨ao,.inl ⟨_,_,rfl,run_takeDeferred hK,?_⟩⟩;exact⟨_,by simp[results,Tryz.results191,go_sem],_,_,rfl,HRO.o,⟨by rw[qfj];have:=oG.o;omega,HP.o⟩,hB.trans (belowK_b (w:=w) (CP _) W D _ _ (by have:=K4.size;omega) hK rfl rfl)⟩
 case stop=>
  rintro D c pre W _ _ h _;exact h.elim
end Go.Proofs.YtehaoggjlciobaaGreat

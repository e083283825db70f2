/- Part 33 of 53. -/
import Derived.Test.YtehaoggjlciobaaGreatPbf
set_option linter.all false
set_option maxRecDepth 20000
set_option maxHeartbeats 16000000
namespace Go.Proofs.YtehaoggjlciobaaGreat
open Go.RowKit
theorem Vu {w0 wd:World} {x y:Value} {t:TypeId} (h:ad (w0.alloc (.cells #[x,y] t)) wd):∀ (U:Nat) (u:Value),[x,y][U]? =some u->wd.cell? ((⟨w0.heap.size,0,none⟩:Addr).add U)=some u:=
 JZ (h.heap (l5 _ _))
theorem vz {s sb rb:Nat} {A B:Option Nat} (h2:([s,sb,rb]++A.toList++B.toList).Nodup):(s≠sb/\s≠rb/\s∉A.toList/\s∉B.toList)/\(sb≠rb/\sb∉A.toList/\sb∉B.toList)/\(rb∉A.toList/\rb∉B.toList)/\∀ x∈A.toList,x∉B.toList:=by
 simp only[List.cons_append,List.nil_append,List.nodup_cons,KX,Pv,List.nodup_append,not_or]at h2;obtain⟨⟨bj,a2,a3,a4⟩,⟨b1,b2,ck⟩,⟨d1,d2⟩,e1,e2,e3⟩:=h2;exact⟨⟨bj,a2,a3,a4⟩,⟨b1,b2,ck⟩,⟨d1,d2⟩,λx hx hy=>e3 x hx x hy rfl⟩
theorem MV {s sb rb:Nat} {A B:Option Nat} (h1:s≠sb/\s≠rb/\sb≠rb) (hA:∀ x∈A.toList,x≠s/\x≠sb/\x≠rb) (hB:∀ x∈B.toList,x≠s/\x≠sb/\x≠rb) (hAB:∀ x∈A.toList,x∉B.toList):([s,sb,rb]++A.toList++B.toList).Nodup:=by
 have qf2:A.toList.Nodup:=by cases A <;>simp
 have qf3:B.toList.Nodup:=by cases B <;>simp
 simp only[List.cons_append,List.nil_append,List.nodup_cons,KX,Pv,List.nodup_append,not_or];exact⟨⟨h1.1,h1.2.1,λh=>(hA s h).1 rfl,λh=>(hB s h).1 rfl⟩,⟨h1.2.2,λh=>(hA sb h).2.1 rfl,λh=>(hB sb h).2.1 rfl⟩,⟨λh=>(hA rb h).2.2 rfl,λh=>(hB rb h).2.2 rfl⟩,qf2,qf3,λa ha b hb e=>hAB a ha (e▸hb)⟩
def gJ (w w':World) (F:List Nat) (s:Nat) (T:List ByteArray) (lo:Nat) (aw:List Nat):Prop:=
 ∃ F',fS w' F' s T lo aw/\ah F w w'/\∀ x∈F',x∈F∨w.heap.size<=x
theorem qf4 (N M n a c s lo:Nat) (F:List Nat) (S:dR) (T:List ByteArray) (aw:List Nat) (d:ByteArray) (w:World) (hN:iJ w N M) (hM:PM w M n S) (ha:a<6) (hc:c<6) (hs:S a c=some s) (h:fS w F s T lo aw) (h8:8<=T.length-lo):
  Calls Tryz.prog 151 #[.pointer (some ⟨N,0,none⟩),.int .i64 a,.int .i64 c,.string d] w λe w'=>e= .returned (.int .i64 15)/\ad w w':=by
 obtain⟨sb,rb,Gop,Gw,v,h1,h2,h3,h4,h5,h6,h7,lx,h9⟩:=h;obtain⟨c0,c1,c2,_⟩:=lu h4;have HN:=aa hN;have HM:=aa hM;have HS:=aa hs;have H5:=aa h5;clear hN hM hs h1 h2 h3 h4 h5 h6 h7 h9;go_in;go_wp2_with fail
 refine(mm N M n a c S _ HN.o HM.o ha hc).mono ?_;rintro e w1 ⟨rfl,k1⟩;rw[HS.o];have c0:=k1.af c0;unfold ptr;go_wp2_with fail
 refine(qaP sb Gop lo _ d _ (H5.o.kept k1) (by rw[ql1];exact h8)).mono ?_;rintro e w2 ⟨rfl,k2⟩;go_wp2;go_ret;exact⟨rfl,al⟩
theorem qf5 (N M n a c s lo:Nat) (F:List Nat) (S:dR) (T:List ByteArray) (aw:List Nat) (d:ByteArray) (w:World) (hN:iJ w N M) (hM:PM w M n S) (ha:a<6) (hc:c<6) (hs:S a c=some s) (h:fS w F s T lo aw) (h8:T.length-lo<8) (hT:T.length<=4294967296) (hw:aw.length<=4294967296):
  Calls Tryz.prog 151 #[.pointer (some ⟨N,0,none⟩),.int .i64 a,.int .i64 c,.string d] w λe w'=>e= .returned (.int .i64 0)/\gJ w w' F s (T++[d]) lo (aw++[T.length]):=by
 obtain⟨sb,rb,Gop,Gw,v,h1,h2,h3,h4,h5,h6,h7,lx,h9⟩:=h;obtain⟨i0,hi,a7,aY,aW⟩:=ql0 uL;have HI:=aa hi;have H1:=aa h1;have H2:=aa h2;have H3:=aa h3;have H4:=aa h4;have H6:=aa h6;have H7:=aa h7;have H9:=aa h9;obtain⟨c0,c1,c2,f2⟩:=lu h4;have HN:=aa hN;have HM:=aa hM;have HS:=aa hs;have H5:=aa h5;have bu:s<w.heap.size:=(aQ h4);subst h1;have ek:=vz h2;have gK:=aa ek;have ik:s∉Gw.toList:=ek.1.2.2.2;clear hN hM hs h2 h3 h4 h5 h6 h7 h9 hi ek;go_in;go_wp2_with fail
 refine(mm N M n a c S _ HN.o HM.o ha hc).mono ?_;rintro e w1 ⟨rfl,k1⟩;rw[HS.o];have c0:=k1.af c0;unfold ptr;go_wp2_with fail
 refine(qfE sb Gop lo _ d _ (H5.o.kept k1) (by rw[ql1];exact h8) (by rw[ql1];omega)).mono ?_;rintro e w2 ⟨rfl,G2,yh,dp,bG⟩;have nB:ag (((lo+(T.drop lo).length:Nat):Int)=(T.length:Int)):=by unfold ag;rw[ql1];omega
 rw[nB.o];have iZ:=aa bG;have vA:=aa yh;have vB:=aa dp;have Vv:s∉(sb::Gop.toList):=by simp only[KX,not_or];exact⟨gK.o.1.1,gK.o.1.2.2.1⟩
 have c2:=bG.af (k1.af c2) Vv;have qk6:s<w2.heap.size:=Aa w2 _ c2
 have dC:ag (cc w2 Gw v aw.length 2 (bm T aw)):=(H7.o.kept k1).but bG (λg hg=>by
  have iX:g∈Gw.toList:=by rw[hg];simp
  simp only[KX,not_or];exact⟨λe=>gK.o.2.1.2.2 (e▸iX),λhx=>gK.o.2.2.2 g hx iX⟩)
 have qf6:ag (∀ g,Gw=some g->g<w2.heap.size):=λg hg=>R4 (H3.o g (by rw[hg];simp)) (qcg k1.size bG.size)
 have H':w2.heap.size∉Gw.toList:=λhx=>by
  have:=qf6.o w2.heap.size (by simpa using hx);omega
 clear dp bG yh;obtain⟨A0,c6,hv⟩:=dC.o.form;have HV:=aa hv;subst hv;go_wp2;have tS:ag (cc (w2.alloc (.cells #[.int .i64 T.length,.string d] 238)) Gw (.slice A0 aw.length c6) aw.length 2 (bm T aw)):=dC.o.kept ((ad.refl w2).alloc _);obtain⟨xs,bP⟩:∃ xs,bm T aw=xs:=⟨_,rfl⟩;have ly:=aa bP;have dN:xs.length=aw.length*2:=by rw[<- bP];exact pN T aw
 have pO:=aa dN;rw[bP]at tS;clear bP dN;refine oY (oS (Gw.toList)) (λwB=>ah (Gw.toList) w2 wB/\wB.cell? ⟨s,2,none⟩=some (.slice A0 aw.length c6)/\wB.cell? ⟨w2.heap.size,0,none⟩=some (.int .i64 T.length)/\wB.cell? ⟨w2.heap.size,1,none⟩=some (.string d)/\ag (cc wB Gw (.slice A0 aw.length c6) aw.length 2 xs)) ?_ av av _ (by(try simp only[List.append_eq,List.cons_append,List.nil_append,List.toList_toArray]);exact rfl) ?_
 ·exact⟨by exact hD,by first|assumption|go_simp,by first|assumption|go_simp,by first|assumption|go_simp,by first|assumption|skip⟩
 rintro wB ⟨au,aB,aC,aF,HX⟩;repeat(first|(apply DW.ct;(focus (intro wd hI;have ae:=au.trans hI;have ai:=hI.af aB bk;have aj:=hI.af aC bk;have aq:=hI.af aF bk;go_wp2_with (fail);refine bd.mk _ rfl ⟨rfl,?_⟩;exact al));simp only[Act.put,List.setIfInBounds_toArray,List.set_cons_succ,List.set_cons_zero])|(refine DW.bt av ?_;intro wd hI;have ae:=au.trans (ah.ar hI);have ai:=hI.af aB;have aj:=hI.af aC;have aq:=hI.af aF;go_wp2_with (at_builtin;refine AM _ rfl _ _ 116 rfl 238 i0 (.agg #[.int .i64 0,.string ⟨#[]⟩]) 2 24 Tryz.underlying116 HI.o a7 aY aW rfl ab Gw _ aw.length 1 xs (HX.o.kept hI) pO.o rfl _ 1 [.int .i64 T.length,.string d] rfl rfl (Vu hI) (J0 _ _) (by unfold maxLen;omega) ab rfl ?_;intro v6 w6 G6 C0 O6 dw;have dw:(G6=Gw∨∃ g,G6=some g/\w2.heap.size<=g/\g<w6.heap.size):=dw.imp id (λ⟨g,h,h3,h4⟩=>⟨g,h,qcg ae.size h3,h4⟩));refine bd.bt _ rfl (by exact hD) (λbf=> ?_);have b5:=(ah.ar (S:=Gw.toList) hI).trans bf;have au:=au.trans b5;have aB:=b5.af aB bk;have aC:=b5.af aC bk;have aF:=b5.af aF bk;(first|have HX:=aa (HX.o.kept (ad.call hI (ad.tQ bf)))|have HX:=aa (HX.o.kept (ad.call hI (ad.tR bf)))|skip);simp only[Act.put,List.setIfInBounds_toArray,List.set_cons_succ,List.set_cons_zero]))
 refine DW.tail av ?_;intro wd hI;have ae:=au.trans (ah.ar hI);have ai:=hI.af aB;have aj:=hI.af aC;have aq:=hI.af aF;have jk:ag (wd.heap[s]? =some (.cells #[.pointer (some ⟨sb,0,none⟩),.pointer (some ⟨rb,0,none⟩),.slice A0 aw.length c6] 118 (0,0))):=ae.heap (iZ.o.heap (k1.heap H4.o) Vv) ik;have y1:=ai;have y2:=aI jk.o 2;have eo:=aa (O6.kept hI);have eS:=aa dw;obtain⟨A6,cQ,cy⟩:=O6.form;subst cy;clear O6 dw C0 HX;go_wp2;go_ret
 have D0:∀ g∈G2.toList,g∈Gop.toList∨(w.heap.size<=g/\g<w2.heap.size):=λg hg=>by
  rcases vA.o with h|⟨g',h,h3,h4⟩
  ·exact .inl (h▸hg)
  ·rw[h]at hg;have:g=g':=by simpa using hg
   exact .inr ⟨by have:=k1.size;omega,ab⟩
 have GJ:w.heap.size<=w2.heap.size:=qcg k1.size iZ.o.size
 have mn:∀ g∈G6.toList,g∈Gw.toList∨(w2.heap.size<=g/\g<wd.heap.size):=λg hg=>by
  rcases eS.o with h|⟨g',h,h3,h4⟩
  ·exact .inl (h▸hg)
  ·rw[h]at hg;have:g=g':=by simpa using hg
   have h5:=hI.size;exact .inr ⟨ab,ab⟩
 have an:∀ x∈([s,sb,rb]++Gop.toList++Gw.toList),x<w.heap.size:=H3.o;have pP:=an sb ao;have D4:=an rb ao;obtain⟨⟨q1,q2,q3,q4⟩,⟨q5,q6,q7⟩,⟨q8,q9⟩,nH⟩:=gK.o;have hwd:w2.heap.size<=wd.heap.size:=ae.size;have vC:∀ g∈Gop.toList,g<w.heap.size:=λg hg=>an g (by simp at hg⊢;simp[hg]);have yi:∀ g∈Gw.toList,g<w.heap.size:=λg hg=>an g (by simp at hg⊢;simp[hg]);refine⟨rfl,[s,sb,rb]++G2.toList++G6.toList,⟨sb,rb,G2,G6,.slice A6 (aw.length+1) cQ,rfl,MV ⟨q1,q2,q5⟩ (λx hx=> ?_) (λx hx=> ?_) (λx hx hy=> ?_),λx hx=> ?_,?_,?_,?_,?_,?_,?_⟩,?_,λx hx=> ?_⟩
 ·rcases D0 x hx with h|⟨h,_⟩
  ·exact⟨λe=>q3 (e▸h),λe=>q6 (e▸h),λe=>q8 (e▸h)⟩
  ·exact⟨ab,ab,ab⟩
 ·rcases mn x hx with h|⟨h,_⟩
  ·exact⟨λe=>q4 (e▸h),λe=>q7 (e▸h),λe=>q9 (e▸h)⟩
  ·exact⟨ab,ab,ab⟩
 ·rcases D0 x hx with h|⟨h,h'⟩ <;>rcases mn x hy with g|⟨g,g'⟩
  ·exact nH x h g
  ·have:=vC x h;omega
  ·have:=yi x g;omega
  ·omega
 ·rw[World.size_setCell];simp only[List.cons_append,List.nil_append,KX,Pv]at hx;rcases hx with rfl|rfl|rfl|hx|hx
  ·omega
  ·omega
  ·omega
  ·rcases D0 x hx with h|⟨h,h'⟩
   ·have:=vC x h;omega
   ·omega
  ·rcases mn x hx with h|⟨h,h'⟩
   ·have:=yi x h;omega
   ·omega
 ·have:=jk.o;simp[World.setCell,Array.getElem?_modify,this]
 ·rw[List.drop_append_of_le_length lx];have bS:ah (s::Gw.toList) w2 (wd.setCell ⟨s,2,none⟩ (.slice A6 (aw.length+1) cQ)):=(ae.mono (λx hx=>qce _ hx)).setCell (.inl ao) _;refine vB.o.but bS (by simp only[KX,not_or];exact⟨λe=>q1 e.symm,q7⟩) (λg hg=> ?_);have iX:g∈G2.toList:=by rw[hg];simp
  simp only[KX,not_or];rcases D0 g iX with h|⟨h,h'⟩
  ·exact⟨λe=>q3 (e▸h),λhx=>nH g h hx⟩
  ·exact⟨ab,λhx=>by have:=yi g hx;omega⟩
 ·have bS:ah (s::sb::Gop.toList++Gw.toList) w1 (wd.setCell ⟨s,2,none⟩ (.slice A6 (aw.length+1) cQ)):=((iZ.o.mono (λx hx=>by simp only[KX,Pv,List.cons_append]at hx⊢;rcases hx with h|h;exact .inr (.inl h);exact .inr (.inr (.inl h)))).trans (ae.mono (λx hx=>by simp only[KX,Pv,List.cons_append];exact .inr (.inr (.inr hx))))).setCell (.inl ao) _;refine(H6.o.kept k1).but bS ?_;simp only[List.cons_append,KX,Pv,not_or];exact⟨λe=>q2 e.symm,λe=>q5 e.symm,q8,q9⟩
 ·have e:bm (T++[d]) (aw++[T.length])=xs++[.int .i64 T.length,.string d]:=by
   rw[H8,qfZ d H9.o,ly.o];simp[bm,qfY]
  rw[e,qC];refine eo.o.but ((ah.refl _ _).setCell (.inl (At.2 rfl)) _) (λg hg=> ?_);have iX:g∈G6.toList:=by rw[hg];simp
  rw[At];intro e;have e:g=s:=e;rcases mn g iX with h|⟨h,_⟩
  ·exact q4 (e▸h)
  ·omega
 ·simp;omega
 ·intro q hq;rcases Pv.1 hq with hq|hq
  ·have:=H9.o q hq;simp;omega
  ·simp at hq;simp;omega
 ·refine(((ah.ar k1).trans (iZ.o.mono (λx hx=> ?_))).trans (ae.mono (λx hx=> ?_))).setCell (.inl ao) _
  ·simp only[KX,Pv,List.cons_append,List.nil_append]at hx⊢;rcases hx with h|h
   ·exact .inr (.inl h)
   ·exact .inr (.inr (.inr (.inl h)))
  ·simp only[KX,Pv,List.cons_append,List.nil_append];exact .inr (.inr (.inr (.inr hx)))
 ·simp only[List.cons_append,List.nil_append,KX,Pv]at hx⊢;rcases hx with h|h|h|hx|hx
  ·exact .inl (.inl h)
  ·exact .inl (.inr (.inl h))
  ·exact .inl (.inr (.inr (.inl h)))
  ·rcases D0 x hx with h|⟨h,h'⟩
   ·exact .inl (.inr (.inr (.inr (.inl h))))
   ·exact .inr h
  ·rcases mn x hx with h|⟨h,h'⟩
   ·exact .inl (.inr (.inr (.inr (.inr h))))
   ·exact .inr ab
theorem gJ.aw {w w':World} {F:List Nat} {s lo sb rb:Nat} {T:List ByteArray} {tT:List Nat} {Gop Gw G6:Option Nat} {v6:Value} (hF:F=[s,sb,rb]++Gop.toList++Gw.toList) (ek:F.Nodup) (an:∀ x∈F,x<w.heap.size)
  (hS:fZ w sb Gop lo (T.drop lo)) (hR:Recv w rb lo) (gX:lo<=T.length) (hb:ah (s::Gw.toList) w w') (hh:w'.heap[s]? =some (.cells #[.pointer (some ⟨sb,0,none⟩),.pointer (some ⟨rb,0,none⟩),v6] 118 (0,0)))
  (hO:cc w' G6 v6 tT.length 2 (bm T tT)) (hG:G6=Gw∨∃ g,G6=some g/\w.heap.size<=g/\g<w'.heap.size) (hq:∀ q∈tT,q<T.length):gJ w w' F s T lo tT:=by
 subst hF;obtain⟨⟨q1,q2,q3,q4⟩,⟨q5,q6,q7⟩,⟨q8,q9⟩,nH⟩:=vz ek
 have mn:∀ g∈G6.toList,g∈Gw.toList∨(w.heap.size<=g/\g<w'.heap.size):=λg hg=>by
  rcases hG with h|⟨g',h,h3,h4⟩
  ·exact .inl (h▸hg)
  ·rw[h]at hg;have:g=g':=by simpa using hg
   exact .inr ⟨ab,ab⟩
 have hs:=an s ao;have pP:=an sb ao;have D4:=an rb ao;have vC:∀ g∈Gop.toList,g<w.heap.size:=λg hg=>an g (by simp at hg⊢;simp[hg]);have yi:∀ g∈Gw.toList,g<w.heap.size:=λg hg=>an g (by simp at hg⊢;simp[hg]);have hz:=hb.size;refine⟨[s,sb,rb]++Gop.toList++G6.toList,⟨sb,rb,Gop,G6,v6,rfl,MV ⟨q1,q2,q5⟩ (λx hx=> ?_) (λx hx=> ?_) (λx hx hy=> ?_),λx hx=> ?_,hh,?_,?_,hO,gX,hq⟩,?_,λx hx=> ?_⟩
 ·exact⟨λe=>q3 (e▸hx),λe=>q6 (e▸hx),λe=>q8 (e▸hx)⟩
 ·rcases mn x hx with h|⟨h,_⟩
  ·exact⟨λe=>q4 (e▸h),λe=>q7 (e▸h),λe=>q9 (e▸h)⟩
  ·exact⟨ab,ab,ab⟩
 ·rcases mn x hy with g|⟨g,g'⟩
  ·exact nH x hx g
  ·have:=vC x hx;omega
 ·simp only[List.cons_append,List.nil_append,KX,Pv]at hx;rcases hx with rfl|rfl|rfl|hx|hx
  ·omega
  ·omega
  ·omega
  ·have:=vC x hx;omega
  ·rcases mn x hx with h|⟨h,h'⟩
   ·have:=yi x h;omega
   ·omega
 ·refine hS.but hb (by simp only[KX,not_or];exact⟨λe=>q1 e.symm,q7⟩) (λg hg=> ?_);have iX:g∈Gop.toList:=by rw[hg];simp
  simp only[KX,not_or];exact⟨λe=>q3 (e▸iX),λhx=>nH g iX hx⟩
 ·exact hR.but hb (by simp only[KX,not_or];exact⟨λe=>q2 e.symm,q9⟩)
 ·refine hb.mono (λx hx=> ?_);simp only[KX,Pv,List.cons_append,List.nil_append]at hx⊢;rcases hx with h|h
  ·exact .inl h
  ·exact .inr (.inr (.inr (.inr h)))
 ·simp only[List.cons_append,List.nil_append,KX,Pv]at hx⊢;rcases hx with h|h|h|hx|hx
  ·exact .inl (.inl h)
  ·exact .inl (.inr (.inl h))
  ·exact .inl (.inr (.inr (.inl h)))
  ·exact .inl (.inr (.inr (.inr (.inl hx))))
  ·rcases mn x hx with h|⟨h,h'⟩
   ·exact .inl (.inr (.inr (.inr (.inr h))))
   ·exact .inr h
theorem cc.pre {w:World} {G:Option Nat} {b off n cap k U:Nat} {xs:List Value} (h:cc w G (.slice (some ⟨b,off,none⟩) n cap) n k xs) (hj:U<=n):cc w G (.slice (some ⟨b,off,none⟩) U U) U k (xs.take (U*k)):=by
 rcases h with ⟨h,_⟩|⟨nY,qj,kP,hv,hG,h1,h2,h3,h4,h5,h6⟩
 ·cases h
 ·injection hv with ft cW wM;injection ft with ft;injection ft with e1 e2 _;subst e1 e2 wM;have hjk:U*k<=n*k:=Nat.mul_le_mul_right k hj;have zK:n*k<=cap*k:=Nat.mul_le_mul_right k h1;refine .inr ⟨b,off,U,rfl,hG,CP _,ab,by rw[qcd];omega,λi hi=>h4 i ab,λi u hu=>h5 i u ?_,h6⟩;have hi:=(bg hu);rw[qcd]at hi;rwa [qlY ab]at hu
theorem qf7 (N M n a c s lo:Nat) (F:List Nat) (S:dR) (T:List ByteArray) (aw:List Nat) (af eT:Int) (w:World) (hN:iJ w N M) (hM:PM w M n S) (ha:a<6) (hc:c<6) (hs:S a c=some s) (h:fS w F s T lo aw) (hw:aw.length<=4294967296) (ho:af<0∨(aw.length:Int)<=af):
  Calls Tryz.prog 107 #[.pointer (some ⟨N,0,none⟩),.int .i64 a,.int .i64 c,.int .i64 af,.int .i64 eT] w λe w'=>e= .returned (.tuple #[.string ⟨#[]⟩,.bool false])/\ad w w':=by
 obtain⟨sb,rb,Gop,Gw,v,h1,h2,h3,h4,h5,h6,h7,lx,h9⟩:=h;obtain⟨c0,c1,c2,_⟩:=lu h4;have HN:=aa hN;have HM:=aa hM;have HS:=aa hs;obtain⟨A0,c6,rfl⟩:=h7.form
 have hd:decide (af<0)=true∨(decide (af<0)=false/\decide ((aw.length:Int)<=af)=true):=by
  by_cases h0:af<0
  ·exact .inl (ql3 h0)
  ·exact .inr ⟨ql4 h0,ql3 ab⟩
 clear hN hM hs h1 h2 h3 h4 h5 h6 h7 h9 ho;rcases hd with hd|⟨hd,hU⟩
 all_goals
  (go_in
   go_wp2_with fail
   refine(mm N M n a c S _ HN.o HM.o ha hc).mono ?_;rintro e w1 ⟨rfl,k1⟩;rw[HS.o];have c2:=k1.af c2;unfold ptr;go_wp2;go_ret2
   exact⟨rfl,k1⟩)
theorem qf8 (N M n a c s lo af q:Nat) (F:List Nat) (S:dR) (T:List ByteArray) (aw:List Nat) (eT:Int) (w:World) (hN:iJ w N M) (hM:PM w M n S) (ha:a<6) (hc:c<6) (hs:S a c=some s) (h:fS w F s T lo aw) (hw:aw.length<=4294967296) (hq:aw[af]? =some q) (hh:bits .and .i64 eT 3=2):
  Calls Tryz.prog 107 #[.pointer (some ⟨N,0,none⟩),.int .i64 a,.int .i64 c,.int .i64 af,.int .i64 eT] w λe w'=>e= .returned (.tuple #[.string ⟨#[]⟩,.bool false])/\gJ w w' F s T lo (if aw.length<32 then aw++[q]else aw):=by
 obtain⟨sb,rb,Gop,Gw,v,h1,h2,h3,h4,h5,h6,h7,lx,h9⟩:=h;obtain⟨i0,hi,a7,aY,aW⟩:=ql0 uL;have HI:=aa hi;have H1:=aa h1;have H2:=aa h2;have H3:=aa h3;have H4:=aa h4;have H5:=aa h5;have H6:=aa h6;have H7:=aa h7;have H9:=aa h9;have HQ:=aa hq;obtain⟨c0,c1,c2,f2⟩:=lu h4;have HN:=aa hN;have HM:=aa hM;have HS:=aa hs;have bu:s<w.heap.size:=(aQ h4);have ek:=vz (h1▸h2);have ik:s∉Gw.toList:=ek.1.2.2.2;have yj:af<aw.length:=(bg hq);obtain⟨f',fM⟩:=AN T aw af q hq;obtain⟨A0,c6,hv⟩:=h7.form;subst hv;obtain⟨b,off,tU,nf,kU,iR,du⟩:=h7.cells ab;subst tU;have z1:w.cell? ⟨b,off+af*2,none⟩=some (.int .i64 (q:Int)):=du _ _ f';have z2:w.cell? ⟨b,off+af*2+1,none⟩=some (.string (tx T q)):=by have:=du _ _ fM;rwa [<- Nat.add_assoc]at this
 unfold maxLen at iR;have nC:b<w.heap.size:=Aa w _ z1;have kq:decide ((af:Int)<0)=false:=by first|(simp;done)|(simp;omega)
 have o4:decide ((aw.length:Int)<=(af:Int))=false:=by first|(simp;done)|(simp;omega)
 clear hN hM hs h2 h3 h4 h5 h6 h7 h9 hi hq f' fM du ek nf;by_cases Vw:aw.length<32
 ·have hU:decide ((aw.length:Int)<32)=true:=by simp;omega
  rw[if_pos Vw];go_in;go_wp2_with fail
  refine(mm N M n a c S _ HN.o HM.o ha hc).mono ?_;rintro e w1 ⟨rfl,k1⟩;rw[HS.o];have c2:=k1.af c2;have z1:=k1.af z1;have z2:=k1.af z2;have si:=R4 bu k1.size;have Ia:=R4 nC k1.size
  have H':w1.heap.size∉Gw.toList:=λhx=>by
   have:=H3.o w1.heap.size (by rw[H1.o];simp only[Pv];exact .inr hx);have:=k1.size;omega
  unfold ptr;go_wp2;have tS:ag (cc (w1.alloc (.cells #[.int .i64 q,.string (tx T q)] 238)) Gw (.slice (some ⟨b,off,none⟩) aw.length c6) aw.length 2 (bm T aw)):=(H7.o.kept k1).kept ((ad.refl w1).alloc _);obtain⟨xs,bP⟩:∃ xs,bm T aw=xs:=⟨_,rfl⟩;have ly:=aa bP;have dN:xs.length=aw.length*2:=by rw[<- bP];exact pN T aw
  have pO:=aa dN;rw[bP]at tS;clear bP dN;refine oY (oS (Gw.toList)) (λwB=>ah (Gw.toList) w1 wB/\wB.cell? ⟨s,2,none⟩=some (.slice (some ⟨b,off,none⟩) aw.length c6)/\wB.cell? ⟨w1.heap.size,0,none⟩=some (.int .i64 q)/\wB.cell? ⟨w1.heap.size,1,none⟩=some (.string (tx T q))/\ag (cc wB Gw (.slice (some ⟨b,off,none⟩) aw.length c6) aw.length 2 xs)) ?_ av av _ (by(try simp only[List.append_eq,List.cons_append,List.nil_append,List.toList_toArray]);exact rfl) ?_
  ·exact⟨by exact hD,by first|assumption|go_simp,by first|assumption|go_simp,by first|assumption|go_simp,by first|assumption|skip⟩
  rintro wB ⟨au,aB,aC,aF,HX⟩;repeat(first|(apply DW.ct;(focus (intro wd hI;have ae:=au.trans hI;have ai:=hI.af aB bk;have aj:=hI.af aC bk;have aq:=hI.af aF bk;go_wp2_with (fail);refine bd.mk _ rfl ⟨rfl,?_⟩;exact al));simp only[Act.put,List.setIfInBounds_toArray,List.set_cons_succ,List.set_cons_zero])|(refine DW.bt av ?_;intro wd hI;have ae:=au.trans (ah.ar hI);have ai:=hI.af aB;have aj:=hI.af aC;have aq:=hI.af aF;go_wp2_with (at_builtin;refine AM _ rfl _ _ 116 rfl 238 i0 (.agg #[.int .i64 0,.string ⟨#[]⟩]) 2 24 Tryz.underlying116 HI.o a7 aY aW rfl ab Gw _ aw.length 1 xs (HX.o.kept hI) pO.o rfl _ 1 [.int .i64 q,.string (tx T q)] rfl rfl (Vu hI) (J0 _ _) (by unfold maxLen;omega) ab rfl ?_;intro v6 w6 G6 C0 O6 dw;have dw:(G6=Gw∨∃ g,G6=some g/\w1.heap.size<=g/\g<w6.heap.size):=dw.imp id (λ⟨g,h,h3,h4⟩=>⟨g,h,qcg ae.size h3,h4⟩));refine bd.bt _ rfl (by exact hD) (λbf=> ?_);have b5:=(ah.ar (S:=Gw.toList) hI).trans bf;have au:=au.trans b5;have aB:=b5.af aB bk;have aC:=b5.af aC bk;have aF:=b5.af aF bk;(first|have HX:=aa (HX.o.kept (ad.call hI (ad.tQ bf)))|have HX:=aa (HX.o.kept (ad.call hI (ad.tR bf)))|skip);simp only[Act.put,List.setIfInBounds_toArray,List.set_cons_succ,List.set_cons_zero]))
  refine DW.tail av ?_;intro wd hI;have ae:=au.trans (ah.ar hI);have ai:=hI.af aB;have aj:=hI.af aC;have aq:=hI.af aF;have jk:ag (wd.heap[s]? =some (.cells #[.pointer (some ⟨sb,0,none⟩),.pointer (some ⟨rb,0,none⟩),.slice (some ⟨b,off,none⟩) aw.length c6] 118 (0,0))):=ae.heap (k1.heap H4.o) ik;have y1:=ai;have y2:=aI jk.o 2;have eo:=aa (O6.kept hI);have eS:=aa dw;obtain⟨A6,cQ,cy⟩:=O6.form;subst cy;clear O6 dw C0 HX;go_wp2;go_ret2
  refine⟨rfl,gJ.aw H1.o H2.o H3.o H5.o H6.o lx (v6:= .slice A6 (aw.length+1) cQ) (G6:=G6) ?_ ?_ ?_ ?_ ?_⟩
  ·exact(((ah.ar k1).trans (ae.mono λx hx=>qce _ hx))).setCell (.inl ao) _
  ·have:=jk.o;simp[World.setCell,Array.getElem?_modify,this]
  ·have e:bm T (aw++[q])=xs++[.int .i64 q,.string (tx T q)]:=by
    rw[H8,ly.o];simp[bm]
   rw[e,qC];refine eo.o.but ((ah.refl _ _).setCell (.inl (At.2 rfl)) _) (λg hg=> ?_);rw[At];intro e;have e:g=s:=e;rcases eS.o with h|⟨g',h,h3,h4⟩
   ·exact ik (by rw[<- h,hg,e];simp)
   ·rw[hg]at h;injection h with h;omega
  ·exact eS.o.imp id λ⟨g,h,h3,h4⟩=>⟨g,h,by have:=k1.size;omega,by rw[World.size_setCell];have:=hI.size;omega⟩
  ·intro x hx;rcases Pv.1 hx with hx|hx
   ·exact H9.o x hx
   ·have:x=q:=by simpa using hx
    rw[this];exact H9.o q (zV HQ.o)
 ·have hU:decide ((aw.length:Int)<32)=false:=by simp;omega
  rw[if_neg Vw];go_in;go_wp2_with fail
  refine(mm N M n a c S _ HN.o HM.o ha hc).mono ?_;rintro e w1 ⟨rfl,k1⟩;rw[HS.o];have c2:=k1.af c2;have z1:=k1.af z1;have z2:=k1.af z2;have si:=R4 bu k1.size;have Ia:=R4 nC k1.size;unfold ptr;go_wp2;go_ret2
  have bb:ad w (w1.alloc (.cells #[.int .i64 q,.string (tx T q)] 238)):=k1.alloc _;exact⟨rfl,F,fS.keep (show fS w F s T lo aw from⟨sb,rb,Gop,Gw,_,H1.o,H2.o,H3.o,H4.o,H5.o,H6.o,H7.o,lx,H9.o⟩) bb,.ar bb,λx hx=> .inl hx⟩
theorem gJ.all {w w':World} {F:List Nat} {s lo sb rb:Nat} {T:List ByteArray} {tT:List Nat} {Gop Gw G6:Option Nat} {v6:Value} (hF:F=[s,sb,rb]++Gop.toList++Gw.toList) (ek:F.Nodup) (an:∀ x∈F,x<w.heap.size)
  (hS:fZ w' sb Gop lo (T.drop lo)) (hR:Recv w' rb lo) (gX:lo<=T.length) (hb:ah F w w') (hh:w'.heap[s]? =some (.cells #[.pointer (some ⟨sb,0,none⟩),.pointer (some ⟨rb,0,none⟩),v6] 118 (0,0)))
  (hO:cc w' G6 v6 tT.length 2 (bm T tT)) (hG:G6=Gw∨∃ g,G6=some g/\w.heap.size<=g/\g<w'.heap.size) (hq:∀ q∈tT,q<T.length):gJ w w' F s T lo tT:=by
 subst hF;obtain⟨⟨q1,q2,q3,q4⟩,⟨q5,q6,q7⟩,⟨q8,q9⟩,nH⟩:=vz ek
 have mn:∀ g∈G6.toList,g∈Gw.toList∨(w.heap.size<=g/\g<w'.heap.size):=λg hg=>by
  rcases hG with h|⟨g',h,h3,h4⟩
  ·exact .inl (h▸hg)
  ·rw[h]at hg;have:g=g':=by simpa using hg
   exact .inr ⟨ab,ab⟩
 have hs:=an s ao;have pP:=an sb ao;have D4:=an rb ao;have vC:∀ g∈Gop.toList,g<w.heap.size:=λg hg=>an g (by simp at hg⊢;simp[hg]);have yi:∀ g∈Gw.toList,g<w.heap.size:=λg hg=>an g (by simp at hg⊢;simp[hg]);have hz:=hb.size;refine⟨[s,sb,rb]++Gop.toList++G6.toList,⟨sb,rb,Gop,G6,v6,rfl,MV ⟨q1,q2,q5⟩ (λx hx=> ?_) (λx hx=> ?_) (λx hx hy=> ?_),λx hx=> ?_,hh,hS,hR,hO,gX,hq⟩,hb,λx hx=> ?_⟩
 ·exact⟨λe=>q3 (e▸hx),λe=>q6 (e▸hx),λe=>q8 (e▸hx)⟩
 ·rcases mn x hx with h|⟨h,_⟩
  ·exact⟨λe=>q4 (e▸h),λe=>q7 (e▸h),λe=>q9 (e▸h)⟩
  ·exact⟨ab,ab,ab⟩
 ·rcases mn x hy with g|⟨g,g'⟩
  ·exact nH x hx g
  ·have:=vC x hx;omega
 ·simp only[List.cons_append,List.nil_append,KX,Pv]at hx;rcases hx with rfl|rfl|rfl|hx|hx
  ·omega
  ·omega
  ·omega
  ·have:=vC x hx;omega
  ·rcases mn x hx with h|⟨h,h'⟩
   ·have:=yi x h;omega
   ·omega
 ·simp only[List.cons_append,List.nil_append,KX,Pv]at hx⊢;rcases hx with h|h|h|hx|hx
  ·exact .inl (.inl h)
  ·exact .inl (.inr (.inl h))
  ·exact .inl (.inr (.inr (.inl h)))
  ·exact .inl (.inr (.inr (.inr (.inl hx))))
  ·rcases mn x hx with h|⟨h,h'⟩
   ·exact .inl (.inr (.inr (.inr (.inr h))))
   ·exact .inr h
theorem MW (T:List ByteArray) (aw:List Nat) (k:Nat) (hk:k<aw.length):(bm T aw).take (k*2)++bm T (aw.drop (k+1))=bm T (aw.eraseIdx k)/\k+(aw.length-(k+1))=(aw.eraseIdx k).length:=by
 rw[qfW,<- H8,<- List.eraseIdx_eq_take_drop_succ];exact⟨rfl,by rw[List.length_eraseIdx,if_pos hk];omega⟩
theorem MX {w:World} {G:Option Nat} {b off n ni k:Nat} {xs:List Value} {T:List ByteArray} {aw:List Nat} (h:cc w G (.slice (some ⟨b,off,none⟩) n ni) n 2 xs) (hx:bm T aw=xs) (hk:k<n):
  ∀ (U:Nat) (u:Value),(bm T (aw.drop (k+1)))[U]? =some u->w.cell? ((⟨b,off+(k+1)*2,none⟩:Addr).add U)=some u:=by
 intro U u hu;obtain⟨nY,qj,e,_,_,_,hc⟩:=h.cells ab;injection e with e;injection e with e1 e2;subst e1 e2;rw[<- qfV,List.getElem?_drop]at hu;have:=hc _ _ (hx▸hu);have e:((⟨b,off+(k+1)*2,none⟩:Addr).add U)=⟨b,off+((k+1)*2+U),none⟩:=by simp[Addr.add,Nat.add_assoc]
 rw[e];exact this
theorem qf9 (N M n a c s lo af q:Nat) (F:List Nat) (S:dR) (T:List ByteArray) (aw:List Nat) (eT:Int) (w:World) (hN:iJ w N M) (hM:PM w M n S) (ha:a<6) (hc:c<6) (hs:S a c=some s) (h:fS w F s T lo aw) (hw:aw.length<=4294967296) (hq:aw[af]? =some q) (hh:bits .and .i64 eT 3=1):
  Calls Tryz.prog 107 #[.pointer (some ⟨N,0,none⟩),.int .i64 a,.int .i64 c,.int .i64 af,.int .i64 eT] w λe w'=>e= .returned (.tuple #[.string ⟨#[]⟩,.bool false])/\gJ w w' F s T lo (aw.eraseIdx af):=by
 obtain⟨sb,rb,Gop,Gw,v,h1,h2,h3,h4,h5,h6,h7,lx,h9⟩:=h;obtain⟨i0,hi,a7,aY,aW⟩:=ql0 uL;have HI:=aa hi;have H1:=aa h1;have H2:=aa h2;have H3:=aa h3;have H4:=aa h4;have H5:=aa h5;have H6:=aa h6;have H7:=aa h7;have H9:=aa h9;have HQ:=aa hq;obtain⟨c0,c1,c2,f2⟩:=lu h4;have HN:=aa hN;have HM:=aa hM;have HS:=aa hs;have bu:s<w.heap.size:=(aQ h4);have ek:=vz (h1▸h2);have gK:=aa ek;have ik:s∉Gw.toList:=ek.1.2.2.2;have yj:af<aw.length:=(bg hq);obtain⟨f',fM⟩:=AN T aw af q hq;obtain⟨A0,c6,hv⟩:=h7.form;subst hv;obtain⟨b,off,tU,nf,kU,iR,du⟩:=h7.cells ab;subst tU;have z1:w.cell? ⟨b,off+af*2,none⟩=some (.int .i64 (q:Int)):=du _ _ f';have z2:w.cell? ⟨b,off+af*2+1,none⟩=some (.string (tx T q)):=by have:=du _ _ fM;rwa [<- Nat.add_assoc]at this
 unfold maxLen at iR;have nC:b<w.heap.size:=Aa w _ z1;have kq:decide ((af:Int)<0)=false:=by first|(simp;done)|(simp;omega)
 have o4:decide ((aw.length:Int)<=(af:Int))=false:=by first|(simp;done)|(simp;omega)
 have Vx:=aa nf;have eK:c6=af+1->bm T (aw.drop (af+1))=[]:=λe=>by rw[List.drop_eq_nil_of_le ab];rfl
 have yk:=aa eK;have hlen:aw.length-(af+1)=(aw.drop (af+1)).length:=ao;have k0:=aa hlen;clear hN hM hs h2 h3 h4 h5 h6 h7 h9 hi hq f' fM du ek nf eK hlen;rcases Decidable.em (c6=af+1)with vD|vD
 all_goals
  (go_in
   go_wp2_with fail
   refine(mm N M n a c S _ HN.o HM.o ha hc).mono ?_;rintro e w1 ⟨rfl,k1⟩;rw[HS.o];have c0:=k1.af c0;have c1:=k1.af c1;have c2:=k1.af c2;have z1:=k1.af z1;have z2:=k1.af z2;have si:=R4 bu k1.size;have Ia:=R4 nC k1.size
   have H':w1.heap.size∉Gw.toList:=λhx=>by
    have:=H3.o w1.heap.size (by rw[H1.o];simp only[Pv];exact .inr hx);have:=k1.size;omega
   unfold ptr;go_wp2;have tS:ag (cc (w1.alloc (.cells #[.int .i64 q,.string (tx T q)] 238)) Gw (.slice (some ⟨b,off,none⟩) aw.length c6) aw.length 2 (bm T aw)):=(H7.o.kept k1).kept ((ad.refl w1).alloc _);obtain⟨xs,bP⟩:∃ xs,bm T aw=xs:=⟨_,rfl⟩;have ly:=aa bP;have dN:xs.length=aw.length*2:=by rw[<- bP];exact pN T aw
   have pO:=aa dN;rw[bP]at tS;clear bP dN;refine oY (oS (Gw.toList)) (λwB=>ah (Gw.toList) w1 wB/\wB.cell? ⟨s,0,none⟩=some (.pointer (some ⟨sb,0,none⟩))/\wB.cell? ⟨s,1,none⟩=some (.pointer (some ⟨rb,0,none⟩))/\wB.cell? ⟨s,2,none⟩=some (.slice (some ⟨b,off,none⟩) aw.length c6)/\wB.cell? ⟨w1.heap.size,0,none⟩=some (.int .i64 q)/\wB.cell? ⟨w1.heap.size,1,none⟩=some (.string (tx T q))/\ag (cc wB Gw (.slice (some ⟨b,off,none⟩) aw.length c6) aw.length 2 xs)) ?_ av av _ (by(try simp only[List.append_eq,List.cons_append,List.nil_append,List.toList_toArray]);exact rfl) ?_
   ·exact⟨by exact hD,by first|assumption|go_simp,by first|assumption|go_simp,by first|assumption|go_simp,by first|assumption|go_simp,by first|assumption|go_simp,by first|assumption|skip⟩
   rintro wB ⟨au,aB,aC,aF,aX,bK,HX⟩;repeat(first|(apply DW.ct;(focus (intro wd hI;have ae:=au.trans hI;have ai:=hI.af aB bk;have aj:=hI.af aC bk;have aq:=hI.af aF bk;have az:=hI.af aX bk;have aK:=hI.af bK bk;go_wp2_with (fail);refine bd.mk _ rfl ⟨rfl,?_⟩;exact al));simp only[Act.put,List.setIfInBounds_toArray,List.set_cons_succ,List.set_cons_zero])|(refine DW.bt av ?_;intro wd hI;have ae:=au.trans (ah.ar hI);have ai:=hI.af aB;have aj:=hI.af aC;have aq:=hI.af aF;have az:=hI.af aX;have aK:=hI.af bK;go_wp2_with (at_builtin;refine AM _ rfl _ _ 116 rfl 238 i0 (.agg #[.int .i64 0,.string ⟨#[]⟩]) 2 24 Tryz.underlying116 HI.o a7 aY aW rfl ab Gw _ af (aw.length-(af+1)) (xs.take (af*2)) ((HX.o.kept hI).pre ab) (by rw[qcd,pO.o];omega) rfl _ _ (bm T (aw.drop (af+1))) rfl (by rw[pN,k0.o]) (by first|exact MX (HX.o.kept hI) ly.o ab|(rw[yk.o vD];intro U u hu;simp at hu;done)) (DZ _ _) (by unfold maxLen;omega) ab rfl ?_;intro v6 w6 G6 C0 O6 dw;have dw:(G6=Gw∨∃ g,G6=some g/\w1.heap.size<=g/\g<w6.heap.size):=dw.imp id (λ⟨g,h,h3,h4⟩=>⟨g,h,qcg ae.size h3,h4⟩));refine bd.bt _ rfl (by exact hD) (λbf=> ?_);have b5:=(ah.ar (S:=Gw.toList) hI).trans bf;have au:=au.trans b5;have aB:=b5.af aB bk;have aC:=b5.af aC bk;have aF:=b5.af aF bk;have aX:=b5.af aX bk;have bK:=b5.af bK bk;(first|have HX:=aa (HX.o.kept (ad.call hI (ad.tQ bf)))|have HX:=aa (HX.o.kept (ad.call hI (ad.tR bf)))|skip);simp only[Act.put,List.setIfInBounds_toArray,List.set_cons_succ,List.set_cons_zero]))
   refine DW.tail av ?_;intro wd hI;have ae:=au.trans (ah.ar hI);have ai:=hI.af aB;have aj:=hI.af aC;have aq:=hI.af aF;have az:=hI.af aX;have aK:=hI.af bK;have jk:ag (wd.heap[s]? =some (.cells #[.pointer (some ⟨sb,0,none⟩),.pointer (some ⟨rb,0,none⟩),.slice (some ⟨b,off,none⟩) aw.length c6] 118 (0,0))):=ae.heap (k1.heap H4.o) ik;have y2:=aI jk.o 2;have eo:=aa (O6.kept hI);have eS:=aa dw;have Vy:=aa hI;have jg:=aa ae;obtain⟨A6,cQ,cy⟩:=O6.form;subst cy;clear O6 dw C0 HX;obtain⟨m6,j3⟩:∃ m6,af+(aw.length-(af+1))=m6:=⟨_,rfl⟩;rw[j3]at eo;simp only[j3]
   have gw:ag (ah (s::Gw.toList) w (wd.setCell ⟨s,2,none⟩ (.slice A6 m6 cQ))/\(wd.setCell ⟨s,2,none⟩ (.slice A6 m6 cQ)).heap[s]? =some (.cells #[.pointer (some ⟨sb,0,none⟩),.pointer (some ⟨rb,0,none⟩),.slice A6 m6 cQ] 118 (0,0))/\
     cc (wd.setCell ⟨s,2,none⟩ (.slice A6 m6 cQ)) G6 (.slice A6 m6 cQ) (aw.eraseIdx af).length 2 (bm T (aw.eraseIdx af))/\(G6=Gw∨∃ g,G6=some g/\w.heap.size<=g/\g<(wd.setCell ⟨s,2,none⟩ (.slice A6 m6 cQ)).heap.size)):=by
    refine⟨(((ah.ar k1).trans (ae.mono λx hx=>qce _ hx))).setCell (.inl ao) _,?_,?_,?_⟩
    ·have:=jk.o;simp[World.setCell,Array.getElem?_modify,this]
    ·obtain⟨e1,e2⟩:=MW T aw af yj;rw[<- e1,<- e2,j3,ly.o];refine eo.o.but ((ah.refl _ _).setCell (.inl (At.2 rfl)) _) (λg hg=> ?_);rw[At];intro e;have e:g=s:=e;rcases eS.o with h|⟨g',h,h3,h4⟩
     ·exact ik (by rw[<- h,hg,e];simp)
     ·rw[hg]at h;injection h with h;omega
    ·exact eS.o.imp id λ⟨g,h,h3,h4⟩=>⟨g,h,by have:=k1.size;omega,by rw[World.size_setCell];have:=hI.size;omega⟩
   clear j3;go_wp2;go_ret2
   exact⟨rfl,gJ.aw H1.o H2.o H3.o H5.o H6.o lx gw.o.1 gw.o.2.1 gw.o.2.2.1 gw.o.2.2.2 λx hx=>H9.o x (List.mem_of_mem_eraseIdx hx)⟩)
end Go.Proofs.YtehaoggjlciobaaGreat

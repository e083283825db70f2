/- Part 20 of 40. -/
import Derived.Test.YtehaoggjlciobaaGreatQba
set_option linter.all false
set_option maxRecDepth 20000
set_option maxHeartbeats 16000000
namespace Go.Proofs.YtehaoggjlciobaaGreat
open Go.RowKit Go.Maps Go.Proofs.Tryz
variable {X aw:List Nat} {M N a c k lo n rb s sb:Nat} {P:Nat->Nat->Bool} {F:Nat->Nat->List Nat} {b w w' w0 w1 w2:World} {S:dR}
theorem gJ.keep {F:List Nat} {T:List ByteArray} (h:gJ w w1 F s T lo aw) (hk:ad w1 w2):gJ w w2 F s T lo aw:=by
 obtain⟨F',h1,h2,h3⟩:=h;exact⟨F',h1.keep hk,h2.trans (.ar hk),h3⟩
theorem qf' (N M n a c s lo af q:Nat) (F:List Nat) (S:dR) (T:List ByteArray) (aw:List Nat) (eT h3:Int) (w:World) (hN:iJ w N M) (hM:PM w M n S) (ha:a<6) (hc:c<6) (hs:S a c=some s) (h:fS w F s T lo aw) (hw:aw.length<=4294967296) (hq:aw[af]? =some q) (hh:bits .and .i64 eT 3=h3) (F6:¬h3=1) (jl:¬h3=2) (Av:q≠lo):
  Calls prog 107 #[.pointer (some ⟨N,0,none⟩),.int .i64 a,.int .i64 c,.int .i64 af,.int .i64 eT] w λe w'=>e= .returned (.tuple #[.string ⟨#[]⟩,.bool false])/\gJ w w' F s T lo (aw.eraseIdx af):=by
 have uQ:¬(q:Int)=(lo:Int):=ab;have HQI:=aa uQ;clear uQ Av;obtain⟨sb,rb,Gop,Gw,v,h1,h2,h3,h4,h5,h6,h7,lx,h9⟩:=h;obtain⟨i0,hi,a7,aY,aW⟩:=ql0 uL;have HI:=aa hi;have H1:=aa h1;have H2:=aa h2;have H3:=aa h3;have H4:=aa h4;have H5:=aa h5;have H6:=aa h6;have H7:=aa h7;have H9:=aa h9;have HQ:=aa hq;obtain⟨c0,c1,c2,f2⟩:=lu h4;have HN:=aa hN;have HM:=aa hM;have HS:=aa hs;have bu:s<w.heap.size:=(aQ h4);have ek:=vz (h1▸h2);have gK:=aa ek;have ik:s∉Gw.toList:=ek.1.2.2.2;have yj:af<aw.length:=(bg hq);obtain⟨f',fM⟩:=AN T aw af q hq;obtain⟨A0,c6,hv⟩:=h7.form;subst hv;obtain⟨b,off,tU,nf,kU,iR,du⟩:=h7.cells ab;subst tU;have z1:w.cell? ⟨b,off+af*2,none⟩=some (.int .i64 (q:Int)):=du _ _ f';have z2:w.cell? ⟨b,off+af*2+1,none⟩=some (.string (tx T q)):=by have:=du _ _ fM;rwa [<- Nat.add_assoc]at this
 unfold maxLen at iR;have nC:b<w.heap.size:=Aa w _ z1;have kq:decide ((af:Int)<0)=false:=by first|(simp;done)|(simp;omega)
 have o4:decide ((aw.length:Int)<=(af:Int))=false:=by first|(simp;done)|(simp;omega)
 have Vx:=aa nf;have eK:c6=af+1->bm T (aw.drop (af+1))=[]:=λe=>by rw[List.drop_eq_nil_of_le ab];rfl
 have yk:=aa eK;have hlen:aw.length-(af+1)=(aw.drop (af+1)).length:=ao;have k0:=aa hlen;clear hN hM hs h2 h3 h4 h5 h6 h7 h9 hi hq f' fM du ek nf eK hlen;rcases Decidable.em (c6=af+1)with vD|vD
 all_goals
  (go_in
   go_wp2_with fail
   refine(mm N M n a c S _ HN.o HM.o ha hc).mono ?_;rintro e w1 ⟨rfl,k1⟩;rw[HS.o];have c0:=k1.af c0;have c1:=k1.af c1;have c2:=k1.af c2;have z1:=k1.af z1;have z2:=k1.af z2;have si:=R4 bu k1.size;have Ia:=R4 nC k1.size
   have H':w1.heap.size∉Gw.toList:=λhx=>by
    have:=H3.o w1.heap.size (by rw[H1.o];simp only[Pv];exact .inr hx);have:=k1.size;omega
   unfold ptr;go_wp2;have tS:ag (cc (w1.alloc (.cells #[.int .i64 q,.string (tx T q)] 238)) Gw (.slice (some ⟨b,off,none⟩) aw.length c6) aw.length 2 (bm T aw)):=(H7.o.kept k1).kept ((ad.refl w1).alloc _);obtain⟨xs,bP⟩:=eqQ (bm T aw);have ly:=aa bP;have dN:xs.length=aw.length*2:=by rw[<- bP];exact pN T aw
   have pO:=aa dN;rw[bP]at tS;clear bP dN;refine oY (oS (Gw.toList)) (λwB=>ah (Gw.toList) w1 wB/\wB.cell? ⟨s,0,none⟩=some (.pointer (some ⟨sb,0,none⟩))/\wB.cell? ⟨s,1,none⟩=some (.pointer (some ⟨rb,0,none⟩))/\wB.cell? ⟨s,2,none⟩=some (.slice (some ⟨b,off,none⟩) aw.length c6)/\wB.cell? ⟨w1.heap.size,0,none⟩=some (.int .i64 q)/\wB.cell? ⟨w1.heap.size,1,none⟩=some (.string (tx T q))/\ag (cc wB Gw (.slice (some ⟨b,off,none⟩) aw.length c6) aw.length 2 xs)) ?_ av av _ (by(try simp only[List.append_eq,List.cons_append,List.nil_append,List.toList_toArray]);exact rfl) ?_
   ·exact⟨by exact hD,by first|assumption|go_simp,by first|assumption|go_simp,by first|assumption|go_simp,by first|assumption|go_simp,by first|assumption|go_simp,by first|assumption|skip⟩
   rintro wB ⟨au,aB,aC,aF,aX,bK,HX⟩;repeat((first|(apply DW.ct;(focus (intro wd hI;have ae:=au.trans hI;have ai:=hI.af aB bk;have aj:=hI.af aC bk;have aq:=hI.af aF bk;have az:=hI.af aX bk;have aK:=hI.af bK bk;go_wp2_with (fail);refine bd.mk _ rfl ⟨rfl,?_⟩;exact al)))|(refine DW.bt av ?_;intro wd hI;have ae:=au.trans (ah.ar hI);have ai:=hI.af aB;have aj:=hI.af aC;have aq:=hI.af aF;have az:=hI.af aX;have aK:=hI.af bK;go_wp2_with (at_builtin;refine AM _ rfl _ _ 116 rfl 238 i0 (.agg #[.int .i64 0,.string ⟨#[]⟩]) 2 24 underlying116 HI.o a7 aY aW rfl ab Gw _ af (aw.length-(af+1)) (xs.take (af*2)) ((HX.o.kept hI).pre ab) (by rw[qcd,pO.o];omega) rfl _ _ (bm T (aw.drop (af+1))) rfl (by rw[pN,k0.o]) (by first|exact MX (HX.o.kept hI) ly.o ab|(rw[yk.o vD];intro U u hu;simp at hu;done)) (DZ _ _) (by unfold maxLen;omega) ab rfl ?_;intro v6 w6 G6 C0 O6 dw;have dw:(G6=Gw∨∃ g,G6=some g/\w1.heap.size<=g/\g<w6.heap.size):=dw.imp id (λ⟨g,h,h3,h4⟩=>⟨g,h,qcg ae.size h3,h4⟩));refine bd.bt _ rfl (by exact hD) (λbf=> ?_);have b5:=(ah.ar (S:=Gw.toList) hI).trans bf;have au:=au.trans b5;have aB:=b5.af aB bk;have aC:=b5.af aC bk;have aF:=b5.af aF bk;have aX:=b5.af aX bk;have bK:=b5.af bK bk;(first|have HX:=aa (HX.o.kept (ad.call hI (ad.tQ bf)))|have HX:=aa (HX.o.kept (ad.call hI (ad.tR bf)))|skip)));simp only[Act.put,List.setIfInBounds_toArray,List.set_cons_succ,List.set_cons_zero])
   refine DW.tail av ?_;intro wd hI;have ae:=au.trans (ah.ar hI);have ai:=hI.af aB;have aj:=hI.af aC;have aq:=hI.af aF;have az:=hI.af aX;have aK:=hI.af bK;have jk:ag (wd.heap[s]? =some (.cells #[.pointer (some ⟨sb,0,none⟩),.pointer (some ⟨rb,0,none⟩),.slice (some ⟨b,off,none⟩) aw.length c6] 118 (0,0))):=ae.heap (k1.heap H4.o) ik;have y2:=aI jk.o 2;have eo:=aa (O6.kept hI);have eS:=aa dw;have Vy:=aa hI;have jg:=aa ae;obtain⟨A6,cQ,cy⟩:=O6.form;subst cy;clear O6 dw C0 HX;obtain⟨m6,j3⟩:=eqQ (af+(aw.length-(af+1)));rw[j3]at eo;simp only[j3]
   have gw:ag (ah (s::Gw.toList) w (wd.setCell ⟨s,2,none⟩ (.slice A6 m6 cQ))/\(wd.setCell ⟨s,2,none⟩ (.slice A6 m6 cQ)).heap[s]? =some (.cells #[.pointer (some ⟨sb,0,none⟩),.pointer (some ⟨rb,0,none⟩),.slice A6 m6 cQ] 118 (0,0))/\
     cc (wd.setCell ⟨s,2,none⟩ (.slice A6 m6 cQ)) G6 (.slice A6 m6 cQ) (aw.eraseIdx af).length 2 (bm T (aw.eraseIdx af))/\(G6=Gw∨∃ g,G6=some g/\w.heap.size<=g/\g<(wd.setCell ⟨s,2,none⟩ (.slice A6 m6 cQ)).heap.size)):=by
    refine⟨(((ah.ar k1).trans (ae.mono λx hx=>zM _ hx))).setCell (.inl ao) _,?_,?_,?_⟩
    ·have:=jk.o;simp[World.setCell,Array.getElem?_modify,this]
    ·obtain⟨e1,e2⟩:=MW T aw af yj;rw[<- e1,<- e2,j3,ly.o];refine eo.o.but ((ah.refl _ _).setCell (.inl (At.2 rfl)) _) (λg hg=> ?_);rw[At];intro e;have e:g=s:=e;rcases eS.o with h|⟨g',h,h3,h4⟩
     ·exact ik (by rw[<- h,hg,e];simp)
     ·rw[hg]at h;injection h with h;omega
    ·exact eS.o.imp id λ⟨g,h,h3,h4⟩=>⟨g,h,by have:=k1.size;omega,by rw[World.size_setCell];have:=hI.size;omega⟩
   clear j3;have MY:rb∉Gw.toList:=gK.o.2.2.1.2;have pJ:rb≠s:=λe=>gK.o.1.2.1 e.symm;have ii:ag (Recv (wd.setCell ⟨s,2,none⟩ (.slice A6 m6 cQ)) rb lo):=(H6.o.but (gw.o.1) (by simp only[KX,not_or];exact⟨pJ,MY⟩));have e1:(wd.setCell ⟨s,2,none⟩ (.slice A6 m6 cQ)).cell? ⟨s,1,none⟩=some (.pointer (some ⟨rb,0,none⟩)):=(lu gw.o.2.1).2.1;have D6:w1.heap.size≠s:=ab;have e4:(wd.setCell ⟨s,2,none⟩ (.slice A6 m6 cQ)).cell? ⟨w1.heap.size,0,none⟩=some (.int .i64 q):=by rw[World.cell?_setCell_other _ _ _ _ (by simp[D6])];exact az
   have e5:(wd.setCell ⟨s,2,none⟩ (.slice A6 m6 cQ)).cell? ⟨w1.heap.size,1,none⟩=some (.string (tx T q)):=by rw[World.cell?_setCell_other _ _ _ _ (by simp[D6])];exact aK
   go_wp2;generalize hW:wd.setCell ⟨s,2,none⟩ (.slice A6 m6 cQ)=W3 at gw ii e1 e4 e5⊢;have hsW:s<W3.heap.size:=(aQ gw.o.2.1);have HW:=aa hW
   (try go_simp)
   clear hW ai aj aq az aK y2 ae hI au;have hsN:s∉(none:Option Nat).toList:=ao;have hpN:w1.heap.size∉(none:Option Nat).toList:=ao;refine oY (oS ((none:Option Nat).toList)) (λwB=>ah ((none:Option Nat).toList) W3 wB/\wB.cell? ⟨s,1,none⟩=some (.pointer (some ⟨rb,0,none⟩))/\wB.cell? ⟨w1.heap.size,0,none⟩=some (.int .i64 q)/\wB.cell? ⟨w1.heap.size,1,none⟩=some (.string (tx T q))) ?_ av av _ (by(try simp only[List.append_eq,List.cons_append,List.nil_append,List.toList_toArray]);exact rfl) ?_
   ·exact⟨by exact hD,by first|assumption|go_simp,by first|assumption|go_simp,by first|assumption|go_simp⟩
   rintro wB ⟨au,aB,aC,aF⟩;repeat((first|(apply DW.ct;(focus (intro wd hI;have ae:=au.trans hI;have ai:=hI.af aB bk;have aj:=hI.af aC bk;have aq:=hI.af aF bk;go_wp2_with (fail);refine bd.mk _ rfl ⟨rfl,?_⟩;exact al)))|(refine DW.bt av ?_;intro wd hI;have ae:=au.trans (ah.ar hI);have ai:=hI.af aB;have aj:=hI.af aC;have aq:=hI.af aF;go_wp2_with (first|(go_at_call 175;refine(qaM rb lo q (tx T q) _ (ii.o.kept (ah.kept ae)) HQI.o).mono ?_;rintro e w5 ⟨rfl,cF⟩;have cF:ah (none:Option Nat).toList wd w5:=ah.ar cF));refine bd.bt _ rfl (by exact hD) (λbf=> ?_);have b5:=(ah.ar (S:=(none:Option Nat).toList) hI).trans bf;have au:=au.trans b5;have aB:=b5.af aB bk;have aC:=b5.af aC bk;have aF:=b5.af aF bk));simp only[Act.put,List.setIfInBounds_toArray,List.set_cons_succ,List.set_cons_zero])
   refine DW.nil ?_;intro wd hI;have ae:=au.trans (ah.ar hI);have ai:=hI.af aB;have aj:=hI.af aC;have aq:=hI.af aF;go_wp2;go_ret2
   exact⟨rfl,gJ.keep (gJ.aw H1.o H2.o H3.o H5.o H6.o lx gw.o.1 gw.o.2.1 gw.o.2.2.1 gw.o.2.2.2 λx hx=>H9.o x (List.mem_of_mem_eraseIdx hx)) (ah.kept ae)⟩)
theorem qga (N M n a c s af q:Nat) (F:List Nat) (S:dR) (T:List ByteArray) (aw:List Nat) (eT h3:Int) (w:World) (hN:iJ w N M) (hM:PM w M n S) (ha:a<6) (hc:c<6) (hs:S a c=some s) (h:fS w F s T q aw) (hw:aw.length<=4294967296) (hT:T.length<=4294967296) (hq:aw[af]? =some q) (hh:bits .and .i64 eT 3=h3) (F6:¬h3=1) (jl:¬h3=2):
  Calls prog 107 #[.pointer (some ⟨N,0,none⟩),.int .i64 a,.int .i64 c,.int .i64 af,.int .i64 eT] w λe w'=>e= .returned (.tuple #[.string (tx T q),.bool true])/\gJ w w' F s T (q+1) (aw.eraseIdx af):=by
 have HT:=aa hT;clear hT;obtain⟨sb,rb,Gop,Gw,v,h1,h2,h3,h4,h5,h6,h7,lx,h9⟩:=h;obtain⟨i0,hi,a7,aY,aW⟩:=ql0 uL;have HI:=aa hi;have H1:=aa h1;have H2:=aa h2;have H3:=aa h3;have H4:=aa h4;have H5:=aa h5;have H6:=aa h6;have H7:=aa h7;have H9:=aa h9;have HQ:=aa hq;obtain⟨c0,c1,c2,f2⟩:=lu h4;have HN:=aa hN;have HM:=aa hM;have HS:=aa hs;have bu:s<w.heap.size:=(aQ h4);have ek:=vz (h1▸h2);have gK:=aa ek;have ik:s∉Gw.toList:=ek.1.2.2.2;have yj:af<aw.length:=(bg hq);obtain⟨f',fM⟩:=AN T aw af q hq;obtain⟨A0,c6,hv⟩:=h7.form;subst hv;obtain⟨b,off,tU,nf,kU,iR,du⟩:=h7.cells ab;subst tU;have z1:w.cell? ⟨b,off+af*2,none⟩=some (.int .i64 (q:Int)):=du _ _ f';have z2:w.cell? ⟨b,off+af*2+1,none⟩=some (.string (tx T q)):=by have:=du _ _ fM;rwa [<- Nat.add_assoc]at this
 unfold maxLen at iR;have nC:b<w.heap.size:=Aa w _ z1;have kq:decide ((af:Int)<0)=false:=by first|(simp;done)|(simp;omega)
 have o4:decide ((aw.length:Int)<=(af:Int))=false:=by first|(simp;done)|(simp;omega)
 have Vx:=aa nf;have eK:c6=af+1->bm T (aw.drop (af+1))=[]:=λe=>by rw[List.drop_eq_nil_of_le ab];rfl
 have yk:=aa eK;have hlen:aw.length-(af+1)=(aw.drop (af+1)).length:=ao;have k0:=aa hlen;clear hN hM hs h2 h3 h4 h5 h6 h7 h9 hi hq f' fM du ek nf eK hlen;rcases Decidable.em (c6=af+1)with vD|vD
 all_goals
  (go_in
   go_wp2_with fail
   refine(mm N M n a c S _ HN.o HM.o ha hc).mono ?_;rintro e w1 ⟨rfl,k1⟩;rw[HS.o];have c0:=k1.af c0;have c1:=k1.af c1;have c2:=k1.af c2;have z1:=k1.af z1;have z2:=k1.af z2;have si:=R4 bu k1.size;have Ia:=R4 nC k1.size
   have H':w1.heap.size∉Gw.toList:=λhx=>by
    have:=H3.o w1.heap.size (by rw[H1.o];simp only[Pv];exact .inr hx);have:=k1.size;omega
   unfold ptr;go_wp2;have tS:ag (cc (w1.alloc (.cells #[.int .i64 q,.string (tx T q)] 238)) Gw (.slice (some ⟨b,off,none⟩) aw.length c6) aw.length 2 (bm T aw)):=(H7.o.kept k1).kept ((ad.refl w1).alloc _);obtain⟨xs,bP⟩:=eqQ (bm T aw);have ly:=aa bP;have dN:xs.length=aw.length*2:=by rw[<- bP];exact pN T aw
   have pO:=aa dN;rw[bP]at tS;clear bP dN;refine oY (oS (Gw.toList)) (λwB=>ah (Gw.toList) w1 wB/\wB.cell? ⟨s,0,none⟩=some (.pointer (some ⟨sb,0,none⟩))/\wB.cell? ⟨s,1,none⟩=some (.pointer (some ⟨rb,0,none⟩))/\wB.cell? ⟨s,2,none⟩=some (.slice (some ⟨b,off,none⟩) aw.length c6)/\wB.cell? ⟨w1.heap.size,0,none⟩=some (.int .i64 q)/\wB.cell? ⟨w1.heap.size,1,none⟩=some (.string (tx T q))/\ag (cc wB Gw (.slice (some ⟨b,off,none⟩) aw.length c6) aw.length 2 xs)) ?_ av av _ (by(try simp only[List.append_eq,List.cons_append,List.nil_append,List.toList_toArray]);exact rfl) ?_
   ·exact⟨by exact hD,by first|assumption|go_simp,by first|assumption|go_simp,by first|assumption|go_simp,by first|assumption|go_simp,by first|assumption|go_simp,by first|assumption|skip⟩
   rintro wB ⟨au,aB,aC,aF,aX,bK,HX⟩;repeat((first|(apply DW.ct;(focus (intro wd hI;have ae:=au.trans hI;have ai:=hI.af aB bk;have aj:=hI.af aC bk;have aq:=hI.af aF bk;have az:=hI.af aX bk;have aK:=hI.af bK bk;go_wp2_with (fail);refine bd.mk _ rfl ⟨rfl,?_⟩;exact al)))|(refine DW.bt av ?_;intro wd hI;have ae:=au.trans (ah.ar hI);have ai:=hI.af aB;have aj:=hI.af aC;have aq:=hI.af aF;have az:=hI.af aX;have aK:=hI.af bK;go_wp2_with (at_builtin;refine AM _ rfl _ _ 116 rfl 238 i0 (.agg #[.int .i64 0,.string ⟨#[]⟩]) 2 24 underlying116 HI.o a7 aY aW rfl ab Gw _ af (aw.length-(af+1)) (xs.take (af*2)) ((HX.o.kept hI).pre ab) (by rw[qcd,pO.o];omega) rfl _ _ (bm T (aw.drop (af+1))) rfl (by rw[pN,k0.o]) (by first|exact MX (HX.o.kept hI) ly.o ab|(rw[yk.o vD];intro U u hu;simp at hu;done)) (DZ _ _) (by unfold maxLen;omega) ab rfl ?_;intro v6 w6 G6 C0 O6 dw;have dw:(G6=Gw∨∃ g,G6=some g/\w1.heap.size<=g/\g<w6.heap.size):=dw.imp id (λ⟨g,h,h3,h4⟩=>⟨g,h,qcg ae.size h3,h4⟩));refine bd.bt _ rfl (by exact hD) (λbf=> ?_);have b5:=(ah.ar (S:=Gw.toList) hI).trans bf;have au:=au.trans b5;have aB:=b5.af aB bk;have aC:=b5.af aC bk;have aF:=b5.af aF bk;have aX:=b5.af aX bk;have bK:=b5.af bK bk;(first|have HX:=aa (HX.o.kept (ad.call hI (ad.tQ bf)))|have HX:=aa (HX.o.kept (ad.call hI (ad.tR bf)))|skip)));simp only[Act.put,List.setIfInBounds_toArray,List.set_cons_succ,List.set_cons_zero])
   refine DW.tail av ?_;intro wd hI;have ae:=au.trans (ah.ar hI);have ai:=hI.af aB;have aj:=hI.af aC;have aq:=hI.af aF;have az:=hI.af aX;have aK:=hI.af bK;have jk:ag (wd.heap[s]? =some (.cells #[.pointer (some ⟨sb,0,none⟩),.pointer (some ⟨rb,0,none⟩),.slice (some ⟨b,off,none⟩) aw.length c6] 118 (0,0))):=ae.heap (k1.heap H4.o) ik;have y2:=aI jk.o 2;have eo:=aa (O6.kept hI);have eS:=aa dw;have Vy:=aa hI;have jg:=aa ae;obtain⟨A6,cQ,cy⟩:=O6.form;subst cy;clear O6 dw C0 HX;obtain⟨m6,j3⟩:=eqQ (af+(aw.length-(af+1)));rw[j3]at eo;simp only[j3]
   have gw:ag (ah (s::Gw.toList) w (wd.setCell ⟨s,2,none⟩ (.slice A6 m6 cQ))/\(wd.setCell ⟨s,2,none⟩ (.slice A6 m6 cQ)).heap[s]? =some (.cells #[.pointer (some ⟨sb,0,none⟩),.pointer (some ⟨rb,0,none⟩),.slice A6 m6 cQ] 118 (0,0))/\
     cc (wd.setCell ⟨s,2,none⟩ (.slice A6 m6 cQ)) G6 (.slice A6 m6 cQ) (aw.eraseIdx af).length 2 (bm T (aw.eraseIdx af))/\(G6=Gw∨∃ g,G6=some g/\w.heap.size<=g/\g<(wd.setCell ⟨s,2,none⟩ (.slice A6 m6 cQ)).heap.size)):=by
    refine⟨(((ah.ar k1).trans (ae.mono λx hx=>zM _ hx))).setCell (.inl ao) _,?_,?_,?_⟩
    ·have:=jk.o;simp[World.setCell,Array.getElem?_modify,this]
    ·obtain⟨e1,e2⟩:=MW T aw af yj;rw[<- e1,<- e2,j3,ly.o];refine eo.o.but ((ah.refl _ _).setCell (.inl (At.2 rfl)) _) (λg hg=> ?_);rw[At];intro e;have e:g=s:=e;rcases eS.o with h|⟨g',h,h3,h4⟩
     ·exact ik (by rw[<- h,hg,e];simp)
     ·rw[hg]at h;injection h with h;omega
    ·exact eS.o.imp id λ⟨g,h,h3,h4⟩=>⟨g,h,by have:=k1.size;omega,by rw[World.size_setCell];have:=hI.size;omega⟩
   clear j3;have MY:rb∉Gw.toList:=gK.o.2.2.1.2;have pJ:rb≠s:=λe=>gK.o.1.2.1 e.symm;have hqT:q<T.length:=H9.o q (zV HQ.o);have ii:ag (Recv (wd.setCell ⟨s,2,none⟩ (.slice A6 m6 cQ)) rb q):=(H6.o.but (gw.o.1) (by simp only[KX,not_or];exact⟨pJ,MY⟩))
   have yl:ag (fZ (wd.setCell ⟨s,2,none⟩ (.slice A6 m6 cQ)) sb Gop q (T.drop q)):=(H5.o.but (gw.o.1) (by simp only[KX,not_or];exact⟨λe=>gK.o.1.1 e.symm,gK.o.2.1.2.2⟩) (λg hg=>by
    have iX:g∈Gop.toList:=by rw[hg];simp
    simp only[KX,not_or];exact⟨λe=>gK.o.1.2.2.1 (e▸iX),λhx=>gK.o.2.2.2 g iX hx⟩))
   have e0:(wd.setCell ⟨s,2,none⟩ (.slice A6 m6 cQ)).cell? ⟨s,0,none⟩=some (.pointer (some ⟨sb,0,none⟩)):=(lu gw.o.2.1).1;have e1:(wd.setCell ⟨s,2,none⟩ (.slice A6 m6 cQ)).cell? ⟨s,1,none⟩=some (.pointer (some ⟨rb,0,none⟩)):=(lu gw.o.2.1).2.1;have D6:w1.heap.size≠s:=ab;have e4:(wd.setCell ⟨s,2,none⟩ (.slice A6 m6 cQ)).cell? ⟨w1.heap.size,0,none⟩=some (.int .i64 q):=by rw[World.cell?_setCell_other _ _ _ _ (by simp[D6])];exact az
   have e5:(wd.setCell ⟨s,2,none⟩ (.slice A6 m6 cQ)).cell? ⟨w1.heap.size,1,none⟩=some (.string (tx T q)):=by rw[World.cell?_setCell_other _ _ _ _ (by simp[D6])];exact aK
   go_wp2;generalize hW:wd.setCell ⟨s,2,none⟩ (.slice A6 m6 cQ)=W3 at gw ii yl e0 e1 e4 e5⊢;have hsW:s<W3.heap.size:=(aQ gw.o.2.1);have HW:=aa hW
   (try go_simp)
   clear hW ai aj aq az aK y2 ae hI au;have hsR:s∉(some rb).toList:=by simp;exact pJ.symm
   have bU:rb<W3.heap.size:=ii.o.lt;have hrp:rb<w1.heap.size:=R4 (H3.o rb (by rw[H1.o];simp)) k1.size;have hpR:w1.heap.size∉(some rb).toList:=by simp;omega
   refine oY (oS ((some rb).toList)) (λwB=>ah ((some rb).toList) W3 wB/\wB.cell? ⟨s,0,none⟩=some (.pointer (some ⟨sb,0,none⟩))/\wB.cell? ⟨s,1,none⟩=some (.pointer (some ⟨rb,0,none⟩))/\wB.cell? ⟨w1.heap.size,0,none⟩=some (.int .i64 q)/\wB.cell? ⟨w1.heap.size,1,none⟩=some (.string (tx T q))/\ag (Recv wB rb q)) ?_ av av _ (by(try simp only[List.append_eq,List.cons_append,List.nil_append,List.toList_toArray]);exact rfl) ?_
   ·exact⟨by exact hD,by first|assumption|go_simp,by first|assumption|go_simp,by first|assumption|go_simp,by first|assumption|go_simp,by first|assumption|skip⟩
   rintro wB ⟨au,aB,aC,aF,aX,HX⟩;repeat((first|(apply DW.ct;(focus (intro wd hI;have ae:=au.trans hI;have ai:=hI.af aB bk;have aj:=hI.af aC bk;have aq:=hI.af aF bk;have az:=hI.af aX bk;go_wp2_with (fail);refine bd.mk _ rfl ⟨rfl,?_⟩;exact al)))|(refine DW.bt av ?_;intro wd hI;have ae:=au.trans (ah.ar hI);have ai:=hI.af aB;have aj:=hI.af aC;have aq:=hI.af aF;have az:=hI.af aX;go_wp2_with (first|(go_at_call 175;refine(qaN rb q (tx T q) _ (HX.o.kept hI) (by have:=HT.o;omega)).mono ?_;rintro e w4 ⟨rfl,ga,Vz⟩;have ga:ah (some rb).toList wd w4:=ga;have As:=aa Vz;clear Vz));refine bd.bt _ rfl (by exact hD) (λbf=> ?_);have b5:=(ah.ar (S:=(some rb).toList) hI).trans bf;have au:=au.trans b5;have aB:=b5.af aB bk;have aC:=b5.af aC bk;have aF:=b5.af aF bk;have aX:=b5.af aX bk;(first|have HX:=aa (HX.o.kept (ad.call hI (ad.tQ bf)))|have HX:=aa (HX.o.kept (ad.call hI (ad.tR bf)))|skip)));simp only[Act.put,List.setIfInBounds_toArray,List.set_cons_succ,List.set_cons_zero])
   refine DW.nil ?_;intro wd hI;have ae:=au.trans (ah.ar hI);have ai:=hI.af aB;have aj:=hI.af aC;have aq:=hI.af aF;have az:=hI.af aX;have jI:=aa (As.o.kept hI);have nt:=aa ae;have g0:=ai;have g1:=aj;have TI:s<wd.heap.size:=Aa wd _ g0;have bG:sb<w.heap.size:=H3.o sb (by rw[H1.o];simp);have b3:rb<w.heap.size:=H3.o rb (by rw[H1.o];simp)
   have qgb:ag (∀ g,G6=some g->g∈Gw.toList∨w.heap.size<=g):=λg hg=>by
    rcases gw.o.2.2.2 with h|⟨g',h,h3,_⟩
    ·exact .inl (by rw[<- h,hg];simp)
    ·rw[hg]at h;injection h with h;exact .inr ab
   have HSE:ag (fZ wd sb Gop q (T.drop q)):=yl.o.but nt.o (by simp;exact gK.o.2.1.1) (λg hg=>by
    have iX:g∈Gop.toList:=by rw[hg];simp
    simp;exact λe=>gK.o.2.2.1.1 (e▸iX))
   clear ae hI au HX ai aj aq az hpR hsR;go_wp2;refine bz (λwB=>ad wd wB/\wB.cell? ⟨s,0,none⟩=some (.pointer (some ⟨sb,0,none⟩))/\wB.cell? ⟨s,1,none⟩=some (.pointer (some ⟨rb,0,none⟩))) λwB SS=> ?_;obtain⟨au,aB,aC⟩:=SS.o _ (ad.refl _);iterate 9 (apply DW.ct;(focus (intro wd hI;obtain⟨ae,ai,aj⟩:=SS.o wd hI;go_wp2_with (first|(go_at_call 174;refine(zi rb (q+1) _ (jI.o.kept (au.call hI))).mono ?_;rintro e w5 ⟨rfl,cF⟩));exact aP));refine DW.np ?_)
   refine DW.tail av λwd hI=> ?_;obtain⟨ae,ai,aj⟩:=SS.o wd hI;clear SS;have aR:=aa ae;go_wp2_with (first|(go_at_call 176;refine(qfG sb Gop q (T.drop q) _ 1 _ (HSE.o.kept aR.o) (by rw[ql1];have:=HT.o;omega) (by rw[ql1];omega) (by intro _;omega) ab).mono ?_;rintro e w6 ⟨rfl,AA,cL⟩;have qV:=aa cL;have su:=aa AA;clear cL AA))
   go_ret2
   have nsb:s≠sb:=gK.o.1.1;have nsr:s≠rb:=gK.o.1.2.1;have nbr:sb≠rb:=gK.o.2.1.1
   have VC:∀ g,G6=some g->g≠rb/\g≠sb:=λg hg=>by
    rcases qgb.o g hg with h|h
    ·exact⟨λe=>gK.o.2.2.1.2 (e▸h),λe=>gK.o.2.1.2.2 (e▸h)⟩
    ·exact⟨ab,ab⟩
   have hO:=gw.o.2.2.1;refine⟨rfl,gJ.all (lo:=q+1) H1.o H2.o H3.o ?_ ?_ ab ?_ ?_ (((hO.but nt.o (λg hg=>by simp;exact(VC g hg).1)).kept aR.o).but qV.o (λg hg=>by simp;exact(VC g hg).2)) ?_ λx hx=>H9.o x (List.mem_of_mem_eraseIdx hx)⟩
   ·have:=su.o;rwa [List.drop_drop]at this
   ·exact(jI.o.kept aR.o).but qV.o (by simp;exact nbr.symm)
   ·refine(gw.o.1.mono λx hx=> ?_).trans ((nt.o.mono λx hx=> ?_).trans ((ah.ar aR.o).trans (qV.o.mono λx hx=> ?_)))
    ·rw[H1.o];simp only[KX,Pv,List.cons_append,List.nil_append]at hx⊢;rcases hx with h|h
     ·exact .inl h
     ·exact .inr (.inr (.inr (.inr h)))
    ·have:x=rb:=by simpa using hx
     rw[H1.o,this];simp
    ·have:x=sb:=by simpa using hx
     rw[H1.o,this];simp
   ·exact qV.o.heap (aR.o.heap (nt.o.heap gw.o.2.1 (by simp;exact nsr))) (by simp;exact nsb)
   ·exact gw.o.2.2.2.imp id λ⟨g,h,h3,h4⟩=>⟨g,h,h3,R4 h4 (qcg nt.o.size (qcg aR.o.size qV.o.size))⟩)
theorem VD {P:Program} (w:World) {ops:Array Oper} {rest:List Oper} {qD:Oper} {a:Act} {Q:Exit->Act->World->Prop} (hg:qD.guard=none) (s x:Operand) (t:TypeId)
  (uM:qD.op=Op.call {callee:=Callee.builtin Builtin.append,args:= #[s,x],argTypes:= #[t,t]}) (e:TypeId) (i:TypeInfo) (z:Value) (k bytes:Nat) (h1:P.underlying t=some (.slice e)) (h2:P.info? e=some i)
  (h3:i.zero=some z) (h4:i.size=k) (h5:i.bytes=bytes) (h6:z.cells.size=k) (hk:1<=k) (G:Option Nat) (v:Value) (n m:Nat) (olds:List Value) (hv:cc w G v n k olds) (ho:olds.length=n*k) (hs:a.eval s=v)
  (Ib:Option Addr) (c:Nat) (news:List Value) (hx:a.eval x= .slice Ib m c) (hn:news.length=m*k) (hc:0<m->∃ gQ,Ib=some gQ/\∀ (U:Nat) u,news[U]? =some u->w.cell? (gQ.add U)=some u) (wO:∀ u∈news,u.oneCell'=true)
  (b1:n+m<=maxLen) (b2:(n+m)*bytes<=140737488355328)
  (he:e=238) (h:∀ v' w' G',ah G.toList w w'->cc w' G' v' (n+m) k (olds++news)->(G'=G∨∃ g,G'=some g/\w.heap.size<=g/\g<w'.heap.size)->wpList P ops Q rest (a.put qD.dst v') w'):wpList P ops Q (qD::rest) a w:=by
 rcases Nat.eq_zero_or_pos m with rfl|hm
 ·have eK:news=[]:=ql2 (by simpa using hn);subst eK;obtain⟨A0,c0,hf⟩:=hv.form
  have hle:n<=c0:=by
   rcases hv with ⟨r1,r2,_⟩|⟨b,off,cap,r1,_,p1,_⟩
   ·omega
   ·rw[hf]at r1;injection r1 with _ _ r3;omega
  have zr:Src P i.size t (.slice Ib 0 c) 0 [] w:=by
   cases Ib with
   |none=>exact Src.ofNil w h1 c
   |some gQ=>exact Src.ofSlice w h1 gQ 0 c [] ao ao ao
  have cr:=run_append_nothing (P:=P) w t t qD.type e i h1 h2 A0 n c0 hle _ zr;refine wpList_plain hg λK Mn=> ?_;have mQ:=Mn _ _ (h v w G (ah.refl _ _) (by simpa using hv) (.inl rfl));unfold Oper.wp;rw[hf]at hs mQ;simp[execOp,uM,resolve,invoke,builtin,hs,hx,cr,Result.andThen];exact mQ
 ·obtain⟨gQ,rfl,du⟩:=hc hm;exact AM w hg s x t uM e i z k bytes h1 h2 h3 h4 h5 h6 hk G v n m olds hv ho hs gQ c news hx hn du wO b1 b2 he h
def tV (T:List ByteArray) (lo:Nat) (aw:List Nat):Nat:=min (T.length-lo) (32-aw.length)
def ym (T:List ByteArray) (lo:Nat) (aw:List Nat):List Nat:=aw++(List.range (tV T lo aw)).map λi=>lo+i
theorem VE {w6:World} {F:List Nat} {K:Nat} {T:List ByteArray} {Gop Gw G6:Option Nat} {A0 A6:Option Addr} {c6 cQ n6:Nat} (hF:F=[s,sb,rb]++Gop.toList++Gw.toList) (ek:F.Nodup) (an:∀ x∈F,x<w.heap.size)
  (hS:fZ w sb Gop lo (T.drop lo)) (hR:Recv w rb lo) (gX:lo<=T.length) (h9:∀ q∈aw,q<T.length) (hK:tV T lo aw=K) (hKL:lo+K<=T.length) (k1:ad w w1) (k2:ad w1 w2) (hb:ah Gw.toList w2 w6)
  (hh:w6.heap[s]? =some (.cells #[.pointer (some ⟨sb,0,none⟩),.pointer (some ⟨rb,0,none⟩),.slice A0 aw.length c6] 118 (0,0))) (ik:s∉Gw.toList)
  (hO:cc w6 G6 (.slice A6 n6 cQ) (aw.length+K) 2 (bm T (aw++(List.range K).map λi=>lo+i))) (hG:G6=Gw∨∃ g,G6=some g/\w2.heap.size<=g/\g<w6.heap.size):
  gJ w (w6.setCell ⟨s,2,none⟩ (.slice A6 n6 cQ)) F s T lo (ym T lo aw):=by
 have bu:s<w.heap.size:=an s (by rw[hF];simp);unfold ym;rw[hK];refine gJ.aw hF ek an hS hR gX ?_ (v6:= .slice A6 n6 cQ) (G6:=G6) ?_ ?_ ?_ ?_
 ·exact((ah.ar (k1.call k2)).trans (hb.mono λx hx=>zM _ hx)).setCell (.inl ao) _
 ·simp[World.setCell,Array.getElem?_modify,hh]
 ·have e:(aw++(List.range K).map λi=>lo+i).length=aw.length+K:=ao;rw[e];refine hO.but ((ah.refl _ _).setCell (.inl (At.2 rfl)) _) (λg hg=> ?_);rw[At];intro e;have e:g=s:=e;rcases hG with h|⟨g',h,h3,h4⟩
  ·exact ik (by rw[<- h,hg,e];simp)
  ·rw[hg]at h;injection h with h;have:=k1.size;have:=k2.size;omega
 ·exact hG.imp id λ⟨g,h,h3,h4⟩=>⟨g,h,by have:=k1.size;have:=k2.size;omega,by rw[World.size_setCell];omega⟩
 ·intro q hq;rcases Pv.1 hq with hq|hq
  ·exact h9 q hq
  ·obtain⟨i,hi,rfl⟩:=List.mem_map.1 hq;have:=List.mem_range.1 hi;omega
theorem qgc (N M n a c s lo:Nat) (F:List Nat) (S:dR) (T:List ByteArray) (aw:List Nat) (w:World) (hN:iJ w N M) (hM:PM w M n S) (ha:a<6) (hc:c<6) (hs:S a c=some s) (h:fS w F s T lo aw) (hT:T.length<=4294967296) (hw:aw.length<=4294967296):
  Calls prog 111 #[.pointer (some ⟨N,0,none⟩),.int .i64 a,.int .i64 c] w λe w'=>e= .returned (.int .i64 (tV T lo aw:Nat))/\gJ w w' F s T lo (ym T lo aw):=by
 obtain⟨sb,rb,Gop,Gw,v,h1,h2,h3,h4,h5,h6,h7,lx,h9⟩:=h;obtain⟨i0,hi,a7,aY,aW⟩:=ql0 uL;have HI:=aa hi;have H1:=aa h1;have H2:=aa h2;have H3:=aa h3;have H4:=aa h4;have H5:=aa h5;have H6:=aa h6;have H7:=aa h7;have H9:=aa h9;obtain⟨c0,c1,c2,f2⟩:=lu h4;have HN:=aa hN;have HM:=aa hM;have HS:=aa hs;have bu:s<w.heap.size:=(aQ h4);have ek:=vz (h1▸h2);have gK:=aa ek;have ik:s∉Gw.toList:=ek.1.2.2.2;obtain⟨A0,c6,hv⟩:=h7.form;subst hv;obtain⟨K,hK⟩:=eqQ (tV T lo aw);obtain⟨L,hL⟩:=eqQ (T.length-lo);have HK:=aa hK;have HL:=aa hL;have VF:(T.drop lo).length=L:=by rw[ql1];exact hL
 have zC:=aa VF;have hL2:L<=4294967296:=ab;have hKL:K<=L:=by unfold tV at hK;omega
 obtain⟨X,hX⟩:=eqQ (32-aw.length);have qg:(if 32-(aw.length:Int)<0 then(0:Int)else 32-(aw.length:Int))=(X:Int):=by split <;>omega
 have qgd:(if X<L then(X:Int)else(L:Int))=(K:Int):=by unfold tV at hK;split <;>omega
 rw[hK];clear hN hM hs h2 h3 h4 h5 h6 h7 h9 hi ek hK hL VF h1 hX;go_in;go_wp2_with fail
 refine(mm N M n a c S _ HN.o HM.o ha hc).mono ?_;rintro e w1 ⟨rfl,k1⟩;rw[HS.o];have c0:=k1.af c0;have c2:=k1.af c2;have si:=R4 bu k1.size;unfold ptr;go_wp2_with fail
 refine(Hz sb Gop lo _ _ (H5.o.kept k1) (by rw[zC.o];exact hL2)).mono ?_;rintro e w2 ⟨v',rfl,bA,k2⟩;rw[zC.o]at bA;have c2:=k2.af c2;have iT:=R4 si k2.size;have eb:=aa k2;have e7:=aa bA;have dC:ag (cc w2 Gw (.slice A0 aw.length c6) aw.length 2 (bm T aw)):=(H7.o.kept k1).kept k2;rcases bA.2 with ⟨ft,cW⟩|⟨g,cap,cur,ft,_,hg,om,th,_⟩
 ·subst ft;have cW:L=0:=cW;have Ic:K=0:=ab;subst Ic;clear qgd qg;clear bA;go_wp2_with (at_builtin;refine VD _ rfl _ _ 116 rfl 238 i0 (.agg #[.int .i64 0,.string ⟨#[]⟩]) 2 24 underlying116 HI.o a7 aY aW rfl ab Gw _ aw.length 0 (bm T aw) dC.o (pN _ _) rfl none 0 [] rfl rfl (by intro h;omega) ao (by unfold maxLen;omega) ab rfl ?_;intro v6 w6 G6 C0 O6 dw;have jk:ag (w6.heap[s]? =some (.cells #[.pointer (some ⟨sb,0,none⟩),.pointer (some ⟨rb,0,none⟩),.slice A0 aw.length c6] 118 (0,0))):=C0.heap (eb.o.heap (k1.heap H4.o)) ik;have y2:=aI jk.o 2;have c2:=C0.af c2 ik;have eo:=aa O6;have eS:=aa dw;have qJ:=aa C0;obtain⟨A6,cQ,cy⟩:=O6.form;subst cy;clear O6 dw C0)
  all_goals (go_ret;exact⟨rfl,VE (K:=0) H1.o H2.o H3.o H5.o H6.o lx H9.o HK.o ab k1 eb.o qJ.o jk.o ik (by have h:=eo.o;simp only[Nat.add_zero,List.append_nil,List.range_zero,List.map_nil]at h⊢;exact h) eS.o⟩)
 ·subst ft;have om:L<=cap:=om;have th:cap<=9223372036854775807:=by unfold maxLen at th;omega
  have hnw:pk lo (T.drop lo)=pk lo (T.drop lo):=rfl;have gx:ag ((pk lo (T.drop lo)).take (K*2)=bm T ((List.range K).map λi=>lo+i)):=Vt T K lo (by have:=HL.o;omega)
  have HCE:ag (0<K->∃ gQ,(some (⟨g,0,none⟩:Addr))=some gQ/\∀ (U:Nat) u,(bm T ((List.range K).map λi=>lo+i))[U]? =some u->w2.cell? (gQ.add U)=some u):=λh0=>⟨_,rfl,λU u hu=>by
   rw[<- gx.o]at hu;have hj:=(bg hu);rw[qcd]at hj;rw[qlY ab]at hu;have e:((⟨g,0,none⟩:Addr).add U)=⟨g,U,none⟩:=by simp[Addr.add];omega
   rw[e,e7.o.cellAt U ab,hu]⟩
  clear bA hg hnw;go_wp2_with (at_builtin;(refine VD _ rfl _ _ 116 rfl 238 i0 (.agg #[.int .i64 0,.string ⟨#[]⟩]) 2 24 underlying116 HI.o a7 aY aW rfl ab Gw _ aw.length K (bm T aw) dC.o (pN _ _) rfl (some ⟨g,0,none⟩) cap (bm T ((List.range K).map λi=>lo+i)) rfl (by rw[pN];simp) HCE.o (DZ _ _) (by unfold maxLen;omega) ab rfl ?_);intro v6 w6 G6 C0 O6 dw;have jk:ag (w6.heap[s]? =some (.cells #[.pointer (some ⟨sb,0,none⟩),.pointer (some ⟨rb,0,none⟩),.slice A0 aw.length c6] 118 (0,0))):=C0.heap (eb.o.heap (k1.heap H4.o)) ik;have y2:=aI jk.o 2;have c2:=C0.af c2 ik;have eo:=aa O6;have eS:=aa dw;have qJ:=aa C0;obtain⟨A6,cQ,cy⟩:=O6.form;subst cy;clear O6 dw C0)
  go_ret;exact⟨rfl,VE (K:=K) H1.o H2.o H3.o H5.o H6.o lx H9.o HK.o (by have:=HL.o;omega) k1 eb.o qJ.o jk.o ik (by rw[H8];exact eo.o) eS.o⟩
theorem qge (p:Option Addr) (a c:Int) (w:World) (h:∀ w2,ad w w2->Calls prog 172 #[.pointer p,.int .i64 a,.int .i64 c] w2 λe w'=>e= .returned (.pointer none)/\ad w2 w'):
  Calls prog 111 #[.pointer p,.int .i64 a,.int .i64 c] w λe w'=>e= .returned (.int .i64 0)/\ad w w':=by
 have HH:=aa h;clear h;go_in;go_wp2_with (first|(go_at_call 172;refine(HH.o _ (by first|exact ad.refl _|assumption)).mono ?_;rintro e w1 ⟨rfl,bD⟩))
 go_ret;exact⟨rfl,al⟩
theorem qgf (N M n a c s lo:Nat) (F:List Nat) (S:dR) (T:List ByteArray) (aw:List Nat) (af:Int) (w:World) (hN:iJ w N M) (hM:PM w M n S) (ha:a<6) (hc:c<6) (hs:S a c=some s) (h:fS w F s T lo aw) (hw:aw.length<=4294967296) (ho:af<0∨(aw.length:Int)<=af):
  Calls prog 106 #[.pointer (some ⟨N,0,none⟩),.int .i64 a,.int .i64 c,.int .i64 af] w λe w'=>e= .returned (.tuple #[.string ⟨#[]⟩,.bool false])/\ad w w':=by
 obtain⟨sb,rb,Gop,Gw,v,h1,h2,h3,h4,h5,h6,h7,lx,h9⟩:=h;obtain⟨c0,c1,c2,_⟩:=lu h4;have HN:=aa hN;have HM:=aa hM;have HS:=aa hs;obtain⟨A0,c6,rfl⟩:=h7.form
 have hd:decide (af<0)=true∨(decide (af<0)=false/\decide ((aw.length:Int)<=af)=true):=by
  by_cases h0:af<0
  ·exact .inl (ql3 h0)
  ·exact .inr ⟨ql4 h0,ql3 ab⟩
 clear hN hM hs h1 h2 h3 h4 h5 h6 h7 h9 ho;rcases hd with hd|⟨hd,hU⟩
 all_goals
  (go_in
   go_wp2_with fail
   refine(mm N M n a c S _ HN.o HM.o ha hc).mono ?_;rintro e w1 ⟨rfl,k1⟩;rw[HS.o];have c2:=k1.af c2;unfold ptr;go_wp2;refine bz (λwB=>ad w1 wB/\wB.cell? ⟨s,2,none⟩=some (.slice A0 aw.length c6)) λwB SS=> ?_;repeat refine DW.dt ?_
   refine DW.nl SS ?_;rintro wd hI ⟨ae,ai⟩;go_wp2;go_ret2
   exact⟨rfl,k1.call ae⟩)
theorem qgg (N M n a c s lo af q:Nat) (F:List Nat) (S:dR) (T:List ByteArray) (aw:List Nat) (w:World) (hN:iJ w N M) (hM:PM w M n S) (ha:a<6) (hc:c<6) (hs:S a c=some s) (h:fS w F s T lo aw) (hw:aw.length<=4294967296) (hq:aw[af]? =some q):
  Calls prog 106 #[.pointer (some ⟨N,0,none⟩),.int .i64 a,.int .i64 c,.int .i64 af] w λe w'=>e= .returned (.tuple (if q=lo then #[.string (tx T q),.bool true]else #[.string ⟨#[]⟩,.bool false]))/\ad w w':=by
 obtain⟨sb,rb,Gop,Gw,v,h1,h2,h3,h4,h5,h6,h7,lx,h9⟩:=h;obtain⟨c0,c1,c2,_⟩:=lu h4;have HN:=aa hN;have HM:=aa hM;have HS:=aa hs;have H6:=aa h6;obtain⟨A0,c6,rfl⟩:=h7.form;have yj:af<aw.length:=(bg hq);obtain⟨f',fM⟩:=AN T aw af q hq;obtain⟨b,off,tU,nf,kU,iR,du⟩:=h7.cells ab;subst tU;have z1:w.cell? ⟨b,off+af*2,none⟩=some (.int .i64 (q:Int)):=du _ _ f';have z2:w.cell? ⟨b,off+af*2+1,none⟩=some (.string (tx T q)):=by have:=du _ _ fM;rwa [<- Nat.add_assoc]at this
 unfold maxLen at iR;have kq:decide ((af:Int)<0)=false:=by first|(simp;done)|(simp;omega)
 have o4:decide ((aw.length:Int)<=(af:Int))=false:=by first|(simp;done)|(simp;omega)
 have qk7:decide (aw.length<=af)=false:=by simp;omega
 have hU:((q:Int)=(lo:Int))↔q=lo:=ab;clear hN hM hs h1 h2 h3 h4 h5 h6 h7 h9 hq f' fM du nf;by_cases Av:q=lo
 ·subst Av;rw[if_pos rfl];clear hU;go_in;go_wp2_with fail
  refine(mm N M n a c S _ HN.o HM.o ha hc).mono ?_;rintro e w1 ⟨rfl,k1⟩;rw[HS.o];have c1:=k1.af c1;have c2:=k1.af c2;have z1:=k1.af z1;have z2:=k1.af z2;unfold ptr;go_wp2;refine bz (λwB=>ad w1 wB/\wB.cell? ⟨s,1,none⟩=some (.pointer (some ⟨rb,0,none⟩))/\wB.cell? ⟨s,2,none⟩=some (.slice (some ⟨b,off,none⟩) aw.length c6)/\wB.cell? ⟨b,off+af*2,none⟩=some (.int .i64 q)/\wB.cell? ⟨b,off+af*2+1,none⟩=some (.string (tx T q))) λwB SS=> ?_;obtain⟨au,aB,aC,aF,aX⟩:=SS.o _ (ad.refl _);repeat(apply DW.ct;(focus (intro wd hI;obtain⟨ae,ai,aj,aq,az⟩:=SS.o wd hI;go_wp2_with (first|(go_at_call 174;refine(zi rb q _ (H6.o.kept (k1.call (au.call hI)))).mono ?_;rintro e w5 ⟨rfl,cF⟩));exact aP));refine DW.np ?_)
  refine DW.nl SS ?_;rintro wd hI ⟨ae,ai,aj,aq,az⟩;go_wp2;go_ret2
  exact⟨rfl,k1.call ae⟩
 ·rw[if_neg Av];have VG:((q:Int)!=(lo:Int))=true:=by simp;omega
  clear hU;go_in;go_wp2_with fail
  refine(mm N M n a c S _ HN.o HM.o ha hc).mono ?_;rintro e w1 ⟨rfl,k1⟩;rw[HS.o];have c1:=k1.af c1;have c2:=k1.af c2;have z1:=k1.af z1;have z2:=k1.af z2;unfold ptr;go_wp2;refine bz (λwB=>ad w1 wB/\wB.cell? ⟨s,1,none⟩=some (.pointer (some ⟨rb,0,none⟩))/\wB.cell? ⟨s,2,none⟩=some (.slice (some ⟨b,off,none⟩) aw.length c6)/\wB.cell? ⟨b,off+af*2,none⟩=some (.int .i64 q)/\wB.cell? ⟨b,off+af*2+1,none⟩=some (.string (tx T q))) λwB SS=> ?_;obtain⟨au,aB,aC,aF,aX⟩:=SS.o _ (ad.refl _);repeat(apply DW.ct;(focus (intro wd hI;obtain⟨ae,ai,aj,aq,az⟩:=SS.o wd hI;go_wp2_with (first|(go_at_call 174;refine(zi rb lo _ (H6.o.kept (k1.call (au.call hI)))).mono ?_;rintro e w5 ⟨rfl,cF⟩));exact aP));refine DW.np ?_)
  refine DW.nl SS ?_;rintro wd hI ⟨ae,ai,aj,aq,az⟩;go_wp2;go_ret2
  exact⟨rfl,k1.call ae⟩
structure bF where
 T:List ByteArray
 lo:Nat
 aw:List Nat
def sC:bF:=⟨[],0,[]⟩
def gj (st:Nat->Nat->bF) (a c:Nat) (x:bF):Nat->Nat->bF:=λi U=>if i=a/\U=c then x else st i U
theorem VH (st:Nat->Nat->bF) (a c:Nat) (x:bF):gj st a c x a c=x:=by simp[gj]
theorem VI {st:Nat->Nat->bF} {i U:Nat} {x:bF} (h:i≠a∨U≠c):gj st a c x i U=st i U:=by
 unfold gj;rw[if_neg];rintro⟨rfl,rfl⟩;rcases h with h|h <;>exact h rfl
structure e8 (w0:World) (X:List Nat) (w:World) (N M k:Nat) (S:dR) (F:Nat->Nat->List Nat) (P:Nat->Nat->Bool) (st:Nat->Nat->bF):Prop where
 cm:iJ w N M
 map:PM w M k S
 many:k<=36
 ne:N≠M
 nN:w0.heap.size<=N
 nM:w0.heap.size<=M
 lN:N<w.heap.size
 lX:∀ x∈X,x<w.heap.size/\x≠N/\x≠M
 gy:∀ a c,a<6->c<6->(P a c=true↔∃ s,S a c=some s)
 bY:∀ a c s,a<6->c<6->S a c=some s->fS w (F a c) s (st a c).T (st a c).lo (st a c).aw
 own:∀ a c s,a<6->c<6->S a c=some s->∀ x∈F a c,x<w.heap.size/\w0.heap.size<=x/\x≠N/\x≠M/\x∉X
 apart:∀ a c s bI c' s',a<6->c<6->S a c=some s->bI<6->c'<6->S bI c'=some s'->(bI≠a∨c'≠c)->∀ x∈F a c,x∉F bI c'
def dF (w0:World) (X:List Nat) (w:World) (N:Nat) (P:Nat->Nat->Bool) (st:Nat->Nat->bF):Prop:=∃ M k S F,e8 w0 X w N M k S F P st
theorem dF.lt {st:Nat->Nat->bF} (h:dF w0 X w N P st):N<w.heap.size:=by
 obtain⟨M,k,S,F,h⟩:=h;exact h.lN
theorem e8.keep {st:Nat->Nat->bF} (h:e8 w0 X w N M k S F P st) (hk:ad w w2):e8 w0 X w2 N M k S F P st:=
 {cm:=h.cm.keep hk,map:=h.map.keep hk,many:=h.many,ne:=h.ne,nN:=h.nN,nM:=h.nM,lN:=R4 h.lN hk.size,lX:=λx hx=>⟨R4 (h.lX x hx).1 hk.size,(h.lX x hx).2⟩,gy:=h.gy,
  bY:=λa c s ha hc hs=>(h.bY a c s ha hc hs).keep hk,own:=λa c s ha hc hs x hx=>⟨R4 (h.own a c s ha hc hs x hx).1 hk.size,(h.own a c s ha hc hs x hx).2⟩,apart:=h.apart}
theorem dF.keep {st:Nat->Nat->bF} (h:dF w0 X w N P st) (hk:ad w w2):dF w0 X w2 N P st:=by
 obtain⟨M,k,S,F,h⟩:=h;exact⟨M,k,S,F,h.keep hk⟩
theorem e8.but {st:Nat->Nat->bF} (h:e8 w0 X w N M k S F P st) (hk:ah X w w2):e8 w0 X w2 N M k S F P st:=
 {cm:=h.cm.but hk (λhx=>(h.lX N hx).2.1 rfl),map:=h.map.but hk (λhx=>(h.lX M hx).2.2 rfl),many:=h.many,ne:=h.ne,nN:=h.nN,nM:=h.nM,lN:=R4 h.lN hk.size,lX:=λx hx=>⟨R4 (h.lX x hx).1 hk.size,(h.lX x hx).2⟩,gy:=h.gy,
  bY:=λa c s ha hc hs=>(h.bY a c s ha hc hs).but hk (λx hx=>(h.own a c s ha hc hs x hx).2.2.2.2),own:=λa c s ha hc hs x hx=>⟨R4 (h.own a c s ha hc hs x hx).1 hk.size,(h.own a c s ha hc hs x hx).2⟩,apart:=h.apart}
theorem dF.but {st:Nat->Nat->bF} (h:dF w0 X w N P st) (hk:ah X w w2):dF w0 X w2 N P st:=by
 obtain⟨M,k,S,F,h⟩:=h;exact⟨M,k,S,F,h.but hk⟩
theorem e8.more {st:Nat->Nat->bF} (h:e8 w0 X w N M k S F P st) (hk:ad w w2) (y:Nat) (h1:w.heap.size<=y) (h2:y<w2.heap.size):e8 w0 (y::X) w2 N M k S F P st:=
 {h.keep hk with
  lX:=λx hx=>by
   rcases KX.1 hx with rfl|hx
   ·exact⟨h2,by have:=h.lN;omega,by have:=h.map.lt;omega⟩
   ·exact(h.keep hk).lX x hx
  own:=λa c s ha hc hs x hx=>by
   obtain⟨o1,o2,vE,VJ,MZ⟩:=h.own a c s ha hc hs x hx;exact⟨R4 o1 hk.size,o2,vE,VJ,by simp only[KX,not_or];exact⟨ab,MZ⟩⟩}
theorem dF.more {st:Nat->Nat->bF} (h:dF w0 X w N P st) (hk:ad w w2) (y:Nat) (h1:w.heap.size<=y) (h2:y<w2.heap.size):dF w0 (y::X) w2 N P st:=by
 obtain⟨M,k,S,F,h⟩:=h;exact⟨M,k,S,F,h.more hk y h1 h2⟩
def iK (e:TypeId):Prop:=e=118∨e=143∨e=145∨e=238
theorem fS.types {F:List Nat} {T:List ByteArray} (h:fS w F s T lo aw):∀ x∈F,∃ cur e,w.heap[x]? =some (.cells cur e (0,0))/\iK e:=by
 obtain⟨sb,rb,Gop,Gw,v,rfl,_,_,h4,⟨v2,h5,h6,_⟩,h7,h8,_⟩:=h;intro x hx;simp only[List.cons_append,List.nil_append,KX,Pv,Option.mem_toList]at hx;rcases hx with rfl|rfl|rfl|hx|hx
 ·exact⟨_,_,h4,.inl rfl⟩
 ·exact⟨_,_,h5,.inr (.inl rfl)⟩
 ·exact⟨_,_,h7,.inr (.inr (.inl rfl))⟩
 ·rcases h6 with ⟨_,_,rfl⟩|⟨b,_,_,_,rfl,_,_,_,_,_,cur,hc⟩
  ·cases hx
  ·cases hx;exact⟨cur,_,hc,.inr (.inr (.inr rfl))⟩
 ·rcases h8 with ⟨_,_,rfl⟩|⟨b,_,_,_,rfl,_,_,_,_,_,cur,hc⟩
  ·cases hx
  ·cases hx;exact⟨cur,_,hc,.inr (.inr (.inr rfl))⟩
def re (w w':World):Prop:=∃ Y:List Nat,ah Y w w'/\∀ y∈Y,y<w.heap.size->∃ cur e,w.heap[y]? =some (.cells cur e (0,0))/\iK e
theorem re.kept (h:ad w w'):re w w':=⟨[],.ar h,λy hy=>by cases hy⟩
theorem re.trans {a c:World} (h:re a b) (k:re b c):re a c:=by
 obtain⟨Y,h1,h2⟩:=h;obtain⟨Z,k1,k2⟩:=k;refine⟨Y++Z,(h1.mono λx hx=>List.mem_append_left _ hx).trans (k1.mono λx hx=>List.mem_append_right _ hx),λy hy an=> ?_⟩;by_cases M0:y∈Y
 ·exact h2 y M0 an
 ·obtain⟨cur,e,h3,h4⟩:=k2 y ((Pv.1 hy).resolve_left M0) (R4 an h1.size);exact⟨cur,e,by rw[<- h1.block y an M0];exact h3,h4⟩
theorem gJ.nfr {F:List Nat} {lo2:Nat} {T T2:List ByteArray} {qgh:List Nat} (h:fS w F s T lo aw) (k:gJ w w' F s T2 lo2 qgh):re w w':=by
 obtain⟨F',_,h2,_⟩:=k;exact⟨F,h2,λy hy _=>h.types y hy⟩
def sD (w0:World) (X:List Nat) (w w':World) (N:Nat) (P:Nat->Nat->Bool) (st:Nat->Nat->bF):Prop:=dF w0 X w' N P st/\ad w0 w'/\w.heap.size<=w'.heap.size/\(∀ x∈X,w'.heap[x]? =w.heap[x]?)/\re w w'
theorem sD.keep {st:Nat->Nat->bF} (h:sD w0 X w w1 N P st) (hk:ad w1 w'):sD w0 X w w' N P st:=
 ⟨h.1.keep hk,h.2.1.call hk,qcg h.2.2.1 hk.size,λx hx=>by
  obtain⟨M,k,S,F,hF⟩:=h.1;rw[hk.block x (hF.lX x hx).1,h.2.2.2.1 x hx],h.2.2.2.2.trans (.kept hk)⟩
theorem dF.to {st:Nat->Nat->bF} (h:dF w0 X w N P st) (h0:ad w0 w) (hk:ad w w'):sD w0 X w w' N P st:=
 ⟨h.keep hk,h0.call hk,hk.size,λx hx=>by
  obtain⟨M,k,S,F,hF⟩:=h;exact hk.block x (hF.lX x hx).1,.kept hk⟩
theorem e8.step {st:Nat->Nat->bF} (h:e8 w0 X w N M k S F P st) (h0:ad w0 w) (ha:a<6) (hc:c<6) (hs:S a c=some s) (x:bF)
  (ht:gJ w w' (F a c) s x.T x.lo x.aw):sD w0 X w w' N P (gj st a c x):=by
 have cG:=gJ.nfr (h.bY a c s ha hc hs) ht;obtain⟨F',h1,h2,h3⟩:=ht;have bA:=h.own a c s ha hc hs;have hz:=h2.size
 have qgi:∀ y∈F',y<w'.heap.size:=by
  obtain⟨_,_,_,_,_,_,_,h4,_⟩:=h1;exact h4
 refine⟨⟨M,k,S,λi U=>if i=a/\U=c then F' else F i U,?_⟩,h0.but h2 λy hy=>(bA y hy).2.1,hz,λy hy=>h2.block y (h.lX y hy).1 λhm=>(bA y hm).2.2.2.2 hy,cG⟩;have VK:N∉F a c:=λhm=>(bA N hm).2.2.1 rfl;have hMn:M∉F a c:=λhm=>(bA M hm).2.2.2.1 rfl;refine {cm:=h.cm.but h2 VK,map:=h.map.but h2 hMn,many:=h.many,ne:=h.ne,nN:=h.nN,nM:=h.nM,lN:=R4 h.lN hz,lX:=λy hy=>⟨R4 (h.lX y hy).1 hz,(h.lX y hy).2⟩,gy:=h.gy,bY:= ?_,own:= ?_,apart:= ?_}
 ·intro bI c' s' kR eW jt;by_cases e:bI=a/\c'=c
  ·obtain⟨rfl,rfl⟩:=e;rw[hs]at jt;injection jt with jt;subst jt;simp only[and_self,if_true,VH];exact h1
  ·have e2:bI≠a∨c'≠c:=by by_cases h:bI=a;exact .inr λg=>e ⟨h,g⟩;exact .inl h
   simp only[if_neg e,VI e2];exact(h.bY bI c' s' kR eW jt).but h2 λy hy rh=>h.apart bI c' s' a c s kR eW jt ha hc hs (by rcases e2 with e|e;exact .inl e.symm;exact .inr e.symm) y hy rh
 ·intro bI c' s' kR eW jt y hy;by_cases e:bI=a/\c'=c
  ·simp only[if_pos e]at hy;rcases h3 y hy with rh|rh
   ·obtain⟨o1,o2⟩:=bA y rh;exact⟨R4 o1 hz,o2⟩
   ·exact⟨qgi y hy,qcg h0.size rh,by have:=h.lN;omega,by have:=h.map.lt;omega,λhx=>by have:=(h.lX y hx).1;omega⟩
  ·simp only[if_neg e]at hy;obtain⟨o1,o2⟩:=h.own bI c' s' kR eW jt y hy;exact⟨R4 o1 hz,o2⟩
 ·intro bj c1 s1 a2 c2 s2 kC og l0 gg cz dp aN y hy k';by_cases e1:bj=a/\c1=c
  ·have e2:¬(a2=a/\c2=c):=λe=>by obtain⟨rfl,rfl⟩:=e1;obtain⟨rfl,rfl⟩:=e;rcases aN with h|h <;>exact h rfl
   simp only[if_pos e1]at hy;simp only[if_neg e2]at k';rcases h3 y hy with rh|rh
   ·obtain⟨rfl,rfl⟩:=e1;exact h.apart _ _ _ _ _ _ kC og l0 gg cz dp aN y rh k'
   ·have:=(h.own a2 c2 s2 gg cz dp y k').1;omega
  ·simp only[if_neg e1]at hy;by_cases e2:a2=a/\c2=c
   ·simp only[if_pos e2]at k';rcases h3 y k' with rh|rh
    ·obtain⟨rfl,rfl⟩:=e2;exact h.apart _ _ _ _ _ _ kC og l0 gg cz dp aN y hy rh
    ·have:=(h.own bj c1 s1 kC og l0 y hy).1;omega
   ·simp only[if_neg e2]at k';exact h.apart _ _ _ _ _ _ kC og l0 gg cz dp aN y hy k'
theorem e8.put {st:Nat->Nat->bF} (h:e8 w0 X w N M k S F P st) (h0:ad w0 w) (k1:ad w w1) (ha:a<6) (hc:c<6) (Fn:List Nat) (x:bF)
  (hS:fS w1 Fn s x.T x.lo x.aw) (ri:∀ y∈Fn,w.heap.size<=y) (BR:k<36) (hp:PM w' M (k+1) (pz S a c s)) (hg:w1.grownBy w' (some M)):e8 w0 X w' N M (k+1) (pz S a c s) (λi U=>if i=a/\U=c then Fn else F i U) (λi U=>P i U||(decide (i=a)&&decide (U=c))) (gj st a c x)/\ah [M] w w':=by
 have fk:ah [M] w1 w':=(ah.refl [M] w1).grown hg (λg hg=>by injection hg with hg;exact .inl (by simp[hg]));have kX:ah [M] w w':=(ah.ar k1).trans fk;have hz:=kX.size;have hM:=h.map.lt
 have si:∀ y∈Fn,y<w1.heap.size:=by
  obtain⟨_,_,_,_,_,_,_,h4,_⟩:=hS;exact h4
 have jm:∀ i U t,pz S a c s i U=some t->(i=a/\U=c/\t=s)∨(¬(i=a/\U=c)/\S i U=some t):=by
  intro i U t ht;unfold pz at ht;by_cases e:i=a/\U=c
  ·rw[if_pos e]at ht;injection ht with ht;exact .inl ⟨e.1,e.2,ht.symm⟩
  ·rw[if_neg e]at ht;exact .inr ⟨e,ht⟩
 refine⟨{cm:=h.cm.but kX (by simp;exact h.ne),map:=hp,many:=BR,ne:=h.ne,nN:=h.nN,nM:=h.nM,lN:=R4 h.lN hz,lX:=λy hy=>⟨R4 (h.lX y hy).1 hz,(h.lX y hy).2⟩,gy:= ?_,bY:= ?_,own:= ?_,apart:= ?_},kX⟩
 ·intro i U hi hj;unfold pz;by_cases e:i=a/\U=c
  ·obtain⟨rfl,rfl⟩:=e;simp
  ·rw[if_neg e]
   have:(decide (i=a)&&decide (U=c))=false:=by
    rw[Bool.eq_false_iff];intro g;simp at g;exact e g
   rw[this,Bool.or_false];exact h.gy i U hi hj
 ·intro i U t hi hj ht;rcases jm i U t ht with ⟨rfl,rfl,rfl⟩|⟨e,ht⟩
  ·simp only[and_self,if_true,VH];exact hS.but fk (λy hy=>by simp;rintro rfl;have:=ri _ hy;omega)
  ·have e2:i≠a∨U≠c:=by by_cases h:i=a;exact .inr λg=>e ⟨h,g⟩;exact .inl h
   simp only[if_neg e,VI e2];exact(h.bY i U t hi hj ht).but kX (λy hy=>by simp;exact(h.own i U t hi hj ht y hy).2.2.2.1)
 ·intro i U t hi hj ht y hy;rcases jm i U t ht with ⟨rfl,rfl,rfl⟩|⟨e,ht⟩
  ·simp only[and_self,if_true]at hy;have h1:=ri y hy;have h2:=si y hy;exact⟨R4 h2 fk.size,qcg h0.size h1,by have:=h.lN;omega,ab,λhx=>by have:=(h.lX y hx).1;omega⟩
  ·simp only[if_neg e]at hy;obtain⟨o1,o2⟩:=h.own i U t hi hj ht y hy;exact⟨R4 o1 hz,o2⟩
 ·intro i U t i' Ie Ig hi hj ht VM VN AO aN y hy k';rcases jm i U t ht with ⟨rfl,rfl,rfl⟩|⟨e,VO⟩
  ·simp only[and_self,if_true]at hy;rcases jm i' Ie Ig AO with ⟨rfl,rfl,rfl⟩|⟨rM,AO⟩
   ·rcases aN with h|h <;>exact h rfl
   ·simp only[if_neg rM]at k';have:=(h.own i' Ie Ig VM VN AO y k').1;have:=ri y hy;omega
  ·simp only[if_neg e]at hy;rcases jm i' Ie Ig AO with ⟨rfl,rfl,rfl⟩|⟨rM,AO⟩
   ·simp only[and_self,if_true]at k';have:=(h.own i U t hi hj VO y hy).1;have:=ri y k';omega
   ·simp only[if_neg rM]at k';exact h.apart i U t i' Ie Ig hi hj VO VM VN AO aN y hy k'
def lz (n a b:Nat):Nat->Nat->Bool:=λi U=>decide (i<n)&&decide (U<n)&&decide (i≠U)&&(decide (i<a)||(decide (i=a)&&decide (U<b)))
def de (n:Nat):Nat->Nat->Bool:=λi U=>decide (i<n)&&decide (U<n)&&decide (i≠U)
theorem e8.oU {VP:Nat->Nat->Bool} {st iL:Nat->Nat->bF} (h:e8 w0 X w N M k S F P st) (hP:∀ a c,a<6->c<6->VP a c=P a c) (aV:∀ a c,a<6->c<6->iL a c=st a c):e8 w0 X w N M k S F VP iL:=
 {h with
  gy:=λa c ha hc=>by rw[hP a c ha hc];exact h.gy a c ha hc
  bY:=λa c s ha hc hs=>by rw[aV a c ha hc];exact h.bY a c s ha hc hs}
theorem qgj (n a i U:Nat):lz n a (a+1) i U=lz n a a i U:=by
 unfold lz;by_cases h:i=a
 ·subst h;by_cases h2:i=U
  ·subst h2;simp
  ·have e:decide (U<i+1)=decide (U<i):=by simp;omega
   rw[e]
 ·simp[h]
theorem qgk (n a i U:Nat) (h:a<n):lz n (a+1) 0 i U=lz n a n i U:=by
 unfold lz;by_cases h1:U<n
 ·have e:decide (i<a+1)=(decide (i<a)||decide (i=a)):=by
   by_cases h2:i<a
   ·simp[h2];omega
   ·simp[h2];omega
  simp[h1,e]
 ·simp[h1]
theorem qgl (n a b i U:Nat) (ha:a<n) (hb:b<n) (ib:a≠b):lz n a (b+1) i U=(lz n a b i U||(decide (i=a)&&decide (U=b))):=by
 unfold lz;by_cases h:i=a
 ·subst h;by_cases h2:U=b
  ·subst h2;simp[ha,hb,ib]
  ·have e:decide (U<b+1)=decide (U<b):=by simp;omega
   simp[e,h2]
 ·simp[h]
theorem e8.qgm {wr wd:World} {b:Nat} (h:e8 w0 [] wr N M k S F (lz n a b) (λ_ _=>sC)) (h0:ad w0 wr) (hk:ad wr wd) (ha:a<n) (hb:b<n) (hn:n<=6) (ib:a≠b) (BR:k<36)
  (gI:wd.heap[s]? =some (.cells #[.pointer (some ⟨sb,0,none⟩),.pointer (some ⟨rb,0,none⟩),.slice none 0 0] 118 (0,0))) (hS:fZ wd sb none 0 []) (hR:Recv wd rb 0) (z1:wr.heap.size<=s) (z2:wr.heap.size<=sb) (z3:wr.heap.size<=rb):
  ∃ w',(Instr.mapUpdate 108 (.map (some M)) (.agg #[.int .i64 (a:Int),.int .i64 (b:Int)]) (.pointer (some ⟨s,0,none⟩))).run prog wd= .ok () w'/\
   (∃ qgn F',e8 w0 [] w' N M (k+1) qgn F' (lz n a (b+1)) (λ_ _=>sC))/\ad w0 w':=by
 have an:=λ{x:Nat} {qD:Obj} (h:wd.heap[x]? =some qD)=>(aQ h);have bu:=an gI;have nC:=hS.lt;have qp:=hR.lt;obtain⟨v,hv,_⟩:=id hS;unfold Recv at hR
 have n1:s≠sb:=by
  intro e;rw[e,hv]at gI;injection gI with gI;injection gI with gI;simp at gI
 have n2:s≠rb:=by
  intro e;rw[e,hR]at gI;injection gI with gI;injection gI with gI;simp at gI
 have n3:sb≠rb:=by
  intro e;rw[e,hR]at hv;injection hv with hv;injection hv with hv;simp at hv
 have qgo:fS wd [s,sb,rb] s [] 0 []:=⟨sb,rb,none,none,.slice none 0 0,rfl,by simp;exact⟨⟨n1,n2⟩,n3⟩,λx hx=>by simp at hx;rcases hx with rfl|rfl|rfl <;>assumption,gI,hS,hR,cc.nil _ _,ao,λq hq=>by cases hq⟩;obtain⟨w',cr,hp,hg⟩:=(h.keep hk).map.put (a:=a) (c:=b) ab ab s (by unfold maxLen;omega);obtain⟨hf,bG⟩:=h.put h0 hk (a:=a) (c:=b) ab ab [s,sb,rb] sC qgo (λy hy=>by simp at hy;rcases hy with rfl|rfl|rfl <;>assumption) BR hp hg;refine⟨w',cr,⟨_,_,hf.oU (λi U _ _=>qgl n a b i U ha hb ib) (λi U _ _=> ?_)⟩,h0.but bG (λx hx=>by rw[show x=M by simpa using hx];exact h.nM)⟩;unfold gj;split <;>rfl
theorem qgp (n:Nat) (w:World) (h1:1<=n) (h6:n<=6):
  Calls prog 25 #[.int .i64 n] w λe w'=>∃ N,e= .returned (.pointer (some ⟨N,0,none⟩))/\dF w [] w' N (de n) (λ_ _=>sC)/\ad w w':=by
 have e1:decide ((n:Int)<1)=false:=by simp;omega
 have e2:decide (6<(n:Int))=false:=by simp;omega
 have z':=λW=>run_makeMap (P:=prog) 108 W;go_wp2
 have VQ:e8 w [] ((w.alloc (.map #[] 0)).alloc (.cells #[.map (some w.heap.size)] 110)) (w.heap.size+1) w.heap.size 0 (λ_ _=>none) (λ_ _=>[]) (lz n 0 0) (λ_ _=>sC):=
  {cm:=by
    have:=yY (w.alloc (.map #[] 0)) (.cells #[.map (some w.heap.size)] 110);rw[World.size_alloc]at this;exact this
   map:=(PM.new w).keep ((ad.refl _).alloc _)
   many:=ab
   ne:=ab
   nN:=ab
   nM:=ab
   lN:=ao
   lX:=λx hx=>by simp at hx
   gy:=λa c ha hc=>by simp[lz]
   bY:=λa c s _ _ h=>by cases h
   own:=λa c s _ _ h=>by cases h
   apart:=λa c s _ _ _ _ _ h=>by cases h}
 have tW:=aa VQ;have oH:ag (ad w ((w.alloc (.map #[] 0)).alloc (.cells #[.map (some w.heap.size)] 110))):=((ad.refl w).alloc _).alloc _;clear VQ z';generalize (w.alloc (.map #[] 0)).alloc (.cells #[.map (some w.heap.size)] 110)=W1 at tW oH⊢;generalize hN:w.heap.size+1=N at tW⊢;generalize hM:w.heap.size=M at tW⊢;have HN:=aa hN;have HM:=aa hM;clear hN hM;go_loopw [16] (λiv wr=>∃ (a k:Nat) (S:dR) (F:Nat->Nat->List Nat),a<=n/\k<=a*6/\iv= .int .i64 a/\ag (e8 w [] wr N M k S F (lz n a 0) (λ_ _=>sC))/\ad w wr) (λiv _=>n-(intOf iv).toNat)
 case atStart=>exact⟨0,0,_,_,ab,ab,rfl,tW,oH.o⟩
 case round=>
  obtain⟨a,k,S,F,ha,hk,rfl,hF,kr⟩:=hrel;by_cases VR:a<n
  ·have xm:decide ((a:Int)<n)=true:=by simp;omega
   go_wp2;go_loopw [20] (λjv wr=>∃ (b k:Nat) (S:dR) (F:Nat->Nat->List Nat),b<=n/\k<=a*6+b/\jv= .int .i64 b/\ag (e8 w [] wr N M k S F (lz n a b) (λ_ _=>sC))/\ad w wr) (λjv _=>n-(intOf jv).toNat)
   case atStart=>exact⟨0,k,_,_,ab,ab,rfl,hF,kr⟩
   case round=>
    clear hF kr;obtain⟨b,k,S,F,hb,hk,rfl,hF,kr⟩:=hrel;by_cases pK:b<n
    ·have Ah:decide ((b:Int)<n)=true:=by simp;omega
     by_cases ib:a=b
     ·subst ib;have e3:decide (¬(a:Int)=a)=false:=ao;go_wp2;go_roundw
      case rel=>exact⟨a+1,k,S,F,ab,ab,aA,hF.o.oU (λi U hi hj=>qgj n a i U) (λ_ _ _ _=>rfl),kr⟩
      case measure=>exact dY
     ·have e3:¬(a:Int)=b:=ab
      have c0:wr.cell? ⟨N,0,none⟩=some (.map (some M)):=by
       have:=aE hF.o.cm 0;simpa using this
      have hNl:=hF.o.lN;have VK:=hF.o.nN;have My:=aa kr;go_wp2
      (try go_simp)
      refine bz (λwB=>ad wr wB/\wB.cell? ⟨N,0,none⟩=some (.map (some M))) λwB SS=> ?_;obtain⟨au,aB⟩:=SS.o _ (ad.refl _);iterate 11 (first|(apply DW.ct;(focus (intro wd hI;obtain⟨ae,ai⟩:=SS.o wd hI;(try have VS:=aa (au.call hI).size);go_wp2_with (first|(go_at_call 51;refine(QD _).mono ?_;rintro e w7 ⟨rfl,sE,D8⟩;have AP:=aa D8;have VT:=aa (au.call hI).size;clear D8)|(go_at_call 52;refine(Qy _).mono ?_;rintro e w8 ⟨rfl,mo,D9⟩;have AP:=aa (AP.o.kept (hI.call mo));have Ds:=aa D9;have VU:=aa (au.call hI).size;clear D9));exact aP));refine DW.np ?_)|(refine DW.bt av ?_;intro wd hI;obtain⟨ae,ai⟩:=SS.o wd hI;(try have VS:=aa (au.call hI).size);go_wp2_with (first|(go_at_call 51;refine(QD _).mono ?_;rintro e w7 ⟨rfl,sE,D8⟩;have AP:=aa D8;have VT:=aa (au.call hI).size;clear D8)|(go_at_call 52;refine(Qy _).mono ?_;rintro e w8 ⟨rfl,mo,D9⟩;have AP:=aa (AP.o.kept (hI.call mo));have Ds:=aa D9;have VU:=aa (au.call hI).size;clear D9));refine cu hI SS (λbf SS=> ?_) rfl;obtain⟨au,aB⟩:=SS.o _ (ad.refl _)))
      refine DW.tail av λwd hI=> ?_;obtain⟨ae,ai⟩:=SS.o wd hI;clear SS;have gI:=hI.heap (yY _ _);obtain⟨w9,cr,M1,VW⟩:=hF.o.qgm My.o ae VR pK h6 ib ab gI (AP.o.kept (bf.call hI)) (Ds.o.kept (bf.call hI)) VS.o VT.o VU.o;clear gI;have HNF:=aa M1;have mq:=aa VW;clear M1 VW;go_wp2;go_roundw
      case rel=>exact⟨b+1,k+1,_,_,ab,ab,aA,aa HNF.o.choose_spec.choose_spec,mq.o⟩
      case measure=>exact dY
    ·obtain rfl:b=n:=ab;have Ah:decide ((b:Int)<b)=false:=ao;go_wp2;go_roundw
     case rel=>exact⟨a+1,k,S,F,ab,ab,aA,hF.o.oU (λi U hi hj=>qgk b a i U VR) (λ_ _ _ _=>rfl),kr⟩
     case measure=>exact dY
  ·obtain rfl:a=n:=ab;have xm:decide ((a:Int)<a)=false:=ao;go_wp2;go_ret;exact⟨N,rfl,⟨_,_,_,_,hF.o.oU (λi U hi hj=>by unfold de lz;by_cases h:i<a <;>simp[h]) (λ_ _ _ _=>rfl)⟩,kr⟩
theorem qgq (v:Value) (y:DataW Unit×List MemPlace) (h:Rp v=some y):∃ c,v=ptr c:=by
 unfold Rp at h;split at h
 ·exact⟨none,rfl⟩
 ·rename_i b;exact⟨some b,rfl⟩
 ·cases h
theorem qgr {c:Option Nat} {y:DataW Unit×List MemPlace} (h:Rp (ptr c)=some y) (hy:y.1= .lit (.int .i64 (s:Int))):c=some s:=by
 cases c with
 |none=>simp[ptr,Rp]at h;rw[<- h]at hy;cases hy
 |some b=>
  simp[ptr,Rp]at h;rw[<- h]at hy;injection hy with hy;injection hy with _ hy;have:b=s:=ab;rw[this]
theorem qgs (key:Value) (kl:Lit) (_:keyOf prog 120 key=some kl):∃ x:Value,key=x:=⟨key,rfl⟩
def Ih (S:dR) (st:Nat->Nat->bF) (left:Lit->Bool):Prop:=∀ a c s,a<6->c<6->S a c=some s->left (kl a c)=false->(st a c).T.length<=(st a c).lo
theorem VX {a:World} (h:ad a b):a.grownBy b none:=⟨h.os,h.tape,h.output,h.size,λi hi _=>h.block i hi⟩
theorem VY {base e:Nat} {v:Value} {xs:List Value} (h:w.ownsRow base e k v n xs):∃ A c,v= .slice A n c:=by
 rcases h.2 with ⟨rfl,rfl⟩|⟨g,cap,cur,rfl,_⟩
 ·exact⟨_,_,rfl⟩
 ·exact⟨_,_,rfl⟩
theorem still_step {st:Nat->Nat->bF} {left:Lit->Bool} {b:Nat} (h:Ih S st left) (ha:a<6) (hb:b<6) (hz:(st a b).T.length<=(st a b).lo):Ih S st (λz=>left z&& !z.sameKey (kl a b)):=by
 intro a2 c2 s2 gg cz dp hl;simp only[Bool.and_eq_false_iff,Bool.not_eq_false']at hl;rcases hl with hl|hl
 ·exact h a2 c2 s2 gg cz dp hl
 ·obtain⟨rfl,rfl⟩:=Vs gg cz ha hb (WideAt.sameKey_eq hl);exact hz
theorem qgt {st:Nat->Nat->bF} {D:DataW Unit} (h:∀ a c,a<6->c<6->∀ z,D.atKey (kl a c) z=match S a c with|some s=> .lit (.int .i64 (s:Int))|none=>z):Ih S st (Maps.has D):=by
 intro a c s ha hc hs hl;have:=has_true_of_atKey (D:=D) (k:=kl a c) (λz=>by rw[h a c ha hc z,hs]);rw[this]at hl;cases hl
theorem qgu (w0:World) (X:List Nat) (N:Nat) (P:Nat->Nat->Bool) (st:Nat->Nat->bF) (w:World) (h:dF w0 X w N P st) (hb:∀ a c,a<6->c<6->P a c=true->(st a c).T.length<=4294967296):
  Calls prog 120 #[.pointer (some ⟨N,0,none⟩)] w λe w'=>(∃ B,e= .returned (.bool B)/\(B=true↔∀ a c,a<6->c<6->P a c=true->(st a c).T.length<=(st a c).lo))/\ad w w':=by
 obtain⟨M,n,S,F,h⟩:=h;have HH:=aa h;have HB:=aa hb;obtain⟨D,bA,fq,VZ⟩:=h.map;have kL:=aa fq;have qgv:=aa VZ
 have c0:w.cell? ⟨N,0,none⟩=some (.map (some M)):=by
  have:=aE h.cm 0;simpa using this
 clear h hb fq VZ;go_in
 go_wp2_with (first
  |(at_range;refine wpList_range_own _ rfl _ 108 rfl 120 111 AL underlying108 Rp M n D rfl bA ?_;intro w1 V9 V' pQ)
  |go_in)
 go_frame
 have K1:ag (ad w w1):=(ad.refl w).grown V' (λg hg=>by cases hg);have o0:=aa V9;clear bA V9 V' pQ;go_loopw [4] (λsv wr=>∃ (left:Lit->Bool) (fp:Nat) (v:Value),sv=v/\ag (wr.ranges prog 120 Rp M w.heap.size n D left fp)/\ag (∀ kl,left kl=true->Maps.has D kl=true)/\ag (Ih S st left)/\ad w wr) (λ_ wr=>wr.rangeLeft M w.heap.size)
 case atStart=>exact⟨_,_,_,rfl,o0,λk hk=>hk,qgt kL.o,K1.o⟩
 case round=>
  obtain⟨left,fp,v,rfl,lW,Wa,aV,kr⟩:=hrel
  go_wp2_with (first
   |(at_next;refine wpList_next_ranges _ rfl _ rfl 120 AL Rp (λx:Value=>x) ptr qgs qgq M w.heap.size n D left fp rfl lW.o ?_ ?_)
   |go_in)
  ·intro _ ng;go_wp2;go_ret;refine⟨⟨true,rfl,iff_of_true rfl λa c ha hc hP=> ?_⟩,kr⟩;obtain⟨s,hs⟩:=(HH.o.gy a c ha hc).1 hP;exact aV.o a c s ha hc hs (ng _)
  ·intro x c Wb qgw Wc w2 qgx mf zX hR Wd We an o7 l0 D';obtain⟨a,b,s,ha,hc,hs,rfl⟩:=qgv.o Wb (Wa.o Wb zX);have Wf:qgw= .lit (.int .i64 (s:Int)):=by rw[<- Wd .nil,kL.o a b ha hc .nil,hs]
   obtain rfl:=qgr hR Wf;have k2:ad w w2:=kr.grown o7 (λg hg=>by injection hg with hg;omega);have dv:=aa We;have zF:=lW;obtain⟨sb,rb,Gop,Gw,v2,q1,q2,q3,q4,q5,q6,q7,q8,q9⟩:=(HH.o.bY a b s ha hc hs).keep k2;have c0:=(lu q4).1;have Wg:=aa q5;have hP:P a b=true:=(HH.o.gy a b ha hc).2 ⟨s,hs⟩;have tE:=HB.o a b ha hc hP;have qk8:ag ((st a b).T.length<=(st a b).lo∨¬((st a b).T.length<=(st a b).lo)):=Decidable.em _;have hlen:(List.drop (st a b).lo (st a b).T).length=(st a b).T.length-(st a b).lo:=ql1;have k0:=aa hlen;have iT:=aa an;have H2:=aa k2;clear q1 q2 q3 q4 q5 q6 q7 q9 mf Wd hR Wf hlen zX We o7 l0 an tE k2 kr;unfold ptr at D'⊢;obtain⟨n3,xZ⟩:=eqQ ((st a b).T.length-(st a b).lo);have Ea:=aa xZ;rcases Nat.eq_zero_or_pos n3 with hz|hz
   ·subst hz;clear xZ
    go_wp2_with (first
     |(go_at_call 185;refine(Hz sb Gop (st a b).lo _ _ Wg.o (by rw[k0.o,Ea.o];omega)).mono ?_;rintro e w3 ⟨v',rfl,bE,k3⟩;rw[k0.o,Ea.o]at bE;have eI:=aa k3;obtain⟨A3,c3,rfl⟩:=VY bE;clear bE k3))
    go_roundw
    case rel=>exact⟨_,qgx,_,rfl,aa (dv.o.kept (VX eI.o) ao ao),λkl hk=>Wa.o kl (by simp at hk;exact hk.1),still_step aV.o ha hc (by have:=Ea.o;omega),H2.o.call eI.o⟩
    case measure=>rw[(dv.o.kept (VX eI.o) ao ao).left_eq,zF.o.left_eq];exact iT.o
   ·have aY:(0:Int)<n3:=ab;clear xZ
    go_wp2_with (first
     |(go_at_call 185;refine(Hz sb Gop (st a b).lo _ _ Wg.o (by rw[k0.o];have:=HB.o a b ha hc hP;omega)).mono ?_;rintro e w3 ⟨v',rfl,bE,k3⟩;rw[k0.o,Ea.o]at bE;have eI:=aa k3;obtain⟨A3,c3,rfl⟩:=VY bE;clear bE k3))
    go_ret;exact⟨⟨false,rfl,iff_of_false ao λb8=>by have:=b8 a b ha hc hP;have:=Ea.o;omega⟩,H2.o.call eI.o⟩
end Go.Proofs.YtehaoggjlciobaaGreat

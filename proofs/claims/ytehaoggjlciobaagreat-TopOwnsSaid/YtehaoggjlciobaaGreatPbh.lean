/- Part 34 of 53. -/
import Derived.Test.YtehaoggjlciobaaGreatPbg
set_option linter.all false
set_option maxRecDepth 20000
set_option maxHeartbeats 16000000
namespace Go.Proofs.YtehaoggjlciobaaGreat
open Go.RowKit
theorem gJ.keep {w w1 w2:World} {F:List Nat} {s lo:Nat} {T:List ByteArray} {aw:List Nat} (h:gJ w w1 F s T lo aw) (hk:ad w1 w2):gJ w w2 F s T lo aw:=by
 obtain⟨F',h1,h2,h3⟩:=h;exact⟨F',h1.keep hk,h2.trans (.ar hk),h3⟩
theorem qf' (N M n a c s lo af q:Nat) (F:List Nat) (S:dR) (T:List ByteArray) (aw:List Nat) (eT h3:Int) (w:World) (hN:iJ w N M) (hM:PM w M n S) (ha:a<6) (hc:c<6) (hs:S a c=some s) (h:fS w F s T lo aw) (hw:aw.length<=4294967296) (hq:aw[af]? =some q) (hh:bits .and .i64 eT 3=h3) (F6:¬h3=1) (jl:¬h3=2) (Av:q≠lo):
  Calls Tryz.prog 107 #[.pointer (some ⟨N,0,none⟩),.int .i64 a,.int .i64 c,.int .i64 af,.int .i64 eT] w λe w'=>e= .returned (.tuple #[.string ⟨#[]⟩,.bool false])/\gJ w w' F s T lo (aw.eraseIdx af):=by
 have uQ:¬(q:Int)=(lo:Int):=ab;have HQI:=aa uQ;clear uQ Av;obtain⟨sb,rb,Gop,Gw,v,h1,h2,h3,h4,h5,h6,h7,lx,h9⟩:=h;obtain⟨i0,hi,a7,aY,aW⟩:=ql0 uL;have HI:=aa hi;have H1:=aa h1;have H2:=aa h2;have H3:=aa h3;have H4:=aa h4;have H5:=aa h5;have H6:=aa h6;have H7:=aa h7;have H9:=aa h9;have HQ:=aa hq;obtain⟨c0,c1,c2,f2⟩:=lu h4;have HN:=aa hN;have HM:=aa hM;have HS:=aa hs;have bu:s<w.heap.size:=(aQ h4);have ek:=vz (h1▸h2);have gK:=aa ek;have ik:s∉Gw.toList:=ek.1.2.2.2;have yj:af<aw.length:=(bg hq);obtain⟨f',fM⟩:=AN T aw af q hq;obtain⟨A0,c6,hv⟩:=h7.form;subst hv;obtain⟨b,off,tU,nf,kU,iR,du⟩:=h7.cells ab;subst tU;have z1:w.cell? ⟨b,off+af*2,none⟩=some (.int .i64 (q:Int)):=du _ _ f';have z2:w.cell? ⟨b,off+af*2+1,none⟩=some (.string (tx T q)):=by have:=du _ _ fM;rwa [<- Nat.add_assoc]at this
 unfold maxLen at iR;have nC:b<w.heap.size:=Aa w _ z1;have kq:decide ((af:Int)<0)=false:=by first|(simp;done)|(simp;omega)
 have o4:decide ((aw.length:Int)<=(af:Int))=false:=by first|(simp;done)|(simp;omega)
 have Vx:=aa nf;have eK:c6=af+1->bm T (aw.drop (af+1))=[]:=λe=>by rw[List.drop_eq_nil_of_le ab];rfl
 have yk:=aa eK;have hlen:aw.length-(af+1)=(aw.drop (af+1)).length:=ao;have k0:=aa hlen;clear hN hM hs h2 h3 h4 h5 h6 h7 h9 hi hq f' fM du ek nf eK hlen;rcases Decidable.em (c6=af+1)with vD|vD
 all_goals
  (go_in
   go_wp2_with fail
   refine(mm N M n a c S _ HN.o HM.o ha hc).mono ?_;rintro e w1 ⟨rfl,k1⟩;rw[HS.o];have c0:=k1.af c0;have c1:=k1.af c1;have c2:=k1.af c2;have z1:=k1.af z1;have z2:=k1.af z2;have si:=R4 bu k1.size;have Ia:=R4 nC k1.size
   have H':w1.heap.size∉Gw.toList:=λhx=>by
    have:=H3.o w1.heap.size (by rw[H1.o];simp only[Pv];exact .inr hx);have:=k1.size;omega
   unfold ptr;go_wp2;have tS:ag (cc (w1.alloc (.cells #[.int .i64 q,.string (tx T q)] 238)) Gw (.slice (some ⟨b,off,none⟩) aw.length c6) aw.length 2 (bm T aw)):=(H7.o.kept k1).kept ((ad.refl w1).alloc _);obtain⟨xs,bP⟩:∃ xs,bm T aw=xs:=⟨_,rfl⟩;have ly:=aa bP;have dN:xs.length=aw.length*2:=by rw[<- bP];exact pN T aw
   have pO:=aa dN;rw[bP]at tS;clear bP dN;refine oY (oS (Gw.toList)) (λwB=>ah (Gw.toList) w1 wB/\wB.cell? ⟨s,0,none⟩=some (.pointer (some ⟨sb,0,none⟩))/\wB.cell? ⟨s,1,none⟩=some (.pointer (some ⟨rb,0,none⟩))/\wB.cell? ⟨s,2,none⟩=some (.slice (some ⟨b,off,none⟩) aw.length c6)/\wB.cell? ⟨w1.heap.size,0,none⟩=some (.int .i64 q)/\wB.cell? ⟨w1.heap.size,1,none⟩=some (.string (tx T q))/\ag (cc wB Gw (.slice (some ⟨b,off,none⟩) aw.length c6) aw.length 2 xs)) ?_ av av _ (by(try simp only[List.append_eq,List.cons_append,List.nil_append,List.toList_toArray]);exact rfl) ?_
   ·exact⟨by exact hD,by first|assumption|go_simp,by first|assumption|go_simp,by first|assumption|go_simp,by first|assumption|go_simp,by first|assumption|go_simp,by first|assumption|skip⟩
   rintro wB ⟨au,aB,aC,aF,aX,bK,HX⟩;repeat(first|(apply DW.ct;(focus (intro wd hI;have ae:=au.trans hI;have ai:=hI.af aB bk;have aj:=hI.af aC bk;have aq:=hI.af aF bk;have az:=hI.af aX bk;have aK:=hI.af bK bk;go_wp2_with (fail);refine bd.mk _ rfl ⟨rfl,?_⟩;exact al));simp only[Act.put,List.setIfInBounds_toArray,List.set_cons_succ,List.set_cons_zero])|(refine DW.bt av ?_;intro wd hI;have ae:=au.trans (ah.ar hI);have ai:=hI.af aB;have aj:=hI.af aC;have aq:=hI.af aF;have az:=hI.af aX;have aK:=hI.af bK;go_wp2_with (at_builtin;refine AM _ rfl _ _ 116 rfl 238 i0 (.agg #[.int .i64 0,.string ⟨#[]⟩]) 2 24 Tryz.underlying116 HI.o a7 aY aW rfl ab Gw _ af (aw.length-(af+1)) (xs.take (af*2)) ((HX.o.kept hI).pre ab) (by rw[qcd,pO.o];omega) rfl _ _ (bm T (aw.drop (af+1))) rfl (by rw[pN,k0.o]) (by first|exact MX (HX.o.kept hI) ly.o ab|(rw[yk.o vD];intro U u hu;simp at hu;done)) (DZ _ _) (by unfold maxLen;omega) ab rfl ?_;intro v6 w6 G6 C0 O6 dw;have dw:(G6=Gw∨∃ g,G6=some g/\w1.heap.size<=g/\g<w6.heap.size):=dw.imp id (λ⟨g,h,h3,h4⟩=>⟨g,h,qcg ae.size h3,h4⟩));refine bd.bt _ rfl (by exact hD) (λbf=> ?_);have b5:=(ah.ar (S:=Gw.toList) hI).trans bf;have au:=au.trans b5;have aB:=b5.af aB bk;have aC:=b5.af aC bk;have aF:=b5.af aF bk;have aX:=b5.af aX bk;have bK:=b5.af bK bk;(first|have HX:=aa (HX.o.kept (ad.call hI (ad.tQ bf)))|have HX:=aa (HX.o.kept (ad.call hI (ad.tR bf)))|skip);simp only[Act.put,List.setIfInBounds_toArray,List.set_cons_succ,List.set_cons_zero]))
   refine DW.tail av ?_;intro wd hI;have ae:=au.trans (ah.ar hI);have ai:=hI.af aB;have aj:=hI.af aC;have aq:=hI.af aF;have az:=hI.af aX;have aK:=hI.af bK;have jk:ag (wd.heap[s]? =some (.cells #[.pointer (some ⟨sb,0,none⟩),.pointer (some ⟨rb,0,none⟩),.slice (some ⟨b,off,none⟩) aw.length c6] 118 (0,0))):=ae.heap (k1.heap H4.o) ik;have y2:=aI jk.o 2;have eo:=aa (O6.kept hI);have eS:=aa dw;have Vy:=aa hI;have jg:=aa ae;obtain⟨A6,cQ,cy⟩:=O6.form;subst cy;clear O6 dw C0 HX;obtain⟨m6,j3⟩:∃ m6,af+(aw.length-(af+1))=m6:=⟨_,rfl⟩;rw[j3]at eo;simp only[j3]
   have gw:ag (ah (s::Gw.toList) w (wd.setCell ⟨s,2,none⟩ (.slice A6 m6 cQ))/\(wd.setCell ⟨s,2,none⟩ (.slice A6 m6 cQ)).heap[s]? =some (.cells #[.pointer (some ⟨sb,0,none⟩),.pointer (some ⟨rb,0,none⟩),.slice A6 m6 cQ] 118 (0,0))/\
     cc (wd.setCell ⟨s,2,none⟩ (.slice A6 m6 cQ)) G6 (.slice A6 m6 cQ) (aw.eraseIdx af).length 2 (bm T (aw.eraseIdx af))/\(G6=Gw∨∃ g,G6=some g/\w.heap.size<=g/\g<(wd.setCell ⟨s,2,none⟩ (.slice A6 m6 cQ)).heap.size)):=by
    refine⟨(((ah.ar k1).trans (ae.mono λx hx=>qce _ hx))).setCell (.inl ao) _,?_,?_,?_⟩
    ·have:=jk.o;simp[World.setCell,Array.getElem?_modify,this]
    ·obtain⟨e1,e2⟩:=MW T aw af yj;rw[<- e1,<- e2,j3,ly.o];refine eo.o.but ((ah.refl _ _).setCell (.inl (At.2 rfl)) _) (λg hg=> ?_);rw[At];intro e;have e:g=s:=e;rcases eS.o with h|⟨g',h,h3,h4⟩
     ·exact ik (by rw[<- h,hg,e];simp)
     ·rw[hg]at h;injection h with h;omega
    ·exact eS.o.imp id λ⟨g,h,h3,h4⟩=>⟨g,h,by have:=k1.size;omega,by rw[World.size_setCell];have:=hI.size;omega⟩
   clear j3;have MY:rb∉Gw.toList:=gK.o.2.2.1.2;have pJ:rb≠s:=λe=>gK.o.1.2.1 e.symm;have ii:ag (Recv (wd.setCell ⟨s,2,none⟩ (.slice A6 m6 cQ)) rb lo):=(H6.o.but (gw.o.1) (by simp only[KX,not_or];exact⟨pJ,MY⟩));have e1:(wd.setCell ⟨s,2,none⟩ (.slice A6 m6 cQ)).cell? ⟨s,1,none⟩=some (.pointer (some ⟨rb,0,none⟩)):=(lu gw.o.2.1).2.1;have D6:w1.heap.size≠s:=ab;have e4:(wd.setCell ⟨s,2,none⟩ (.slice A6 m6 cQ)).cell? ⟨w1.heap.size,0,none⟩=some (.int .i64 q):=by rw[World.cell?_setCell_other _ _ _ _ (by simp[D6])];exact az
   have e5:(wd.setCell ⟨s,2,none⟩ (.slice A6 m6 cQ)).cell? ⟨w1.heap.size,1,none⟩=some (.string (tx T q)):=by rw[World.cell?_setCell_other _ _ _ _ (by simp[D6])];exact aK
   go_wp2;generalize hW:wd.setCell ⟨s,2,none⟩ (.slice A6 m6 cQ)=W3 at gw ii e1 e4 e5⊢;have hsW:s<W3.heap.size:=(aQ gw.o.2.1);have HW:=aa hW
   (try go_simp)
   clear hW ai aj aq az aK y2 ae hI au;have hsN:s∉(none:Option Nat).toList:=ao;have hpN:w1.heap.size∉(none:Option Nat).toList:=ao;refine oY (oS ((none:Option Nat).toList)) (λwB=>ah ((none:Option Nat).toList) W3 wB/\wB.cell? ⟨s,1,none⟩=some (.pointer (some ⟨rb,0,none⟩))/\wB.cell? ⟨w1.heap.size,0,none⟩=some (.int .i64 q)/\wB.cell? ⟨w1.heap.size,1,none⟩=some (.string (tx T q))) ?_ av av _ (by(try simp only[List.append_eq,List.cons_append,List.nil_append,List.toList_toArray]);exact rfl) ?_
   ·exact⟨by exact hD,by first|assumption|go_simp,by first|assumption|go_simp,by first|assumption|go_simp⟩
   rintro wB ⟨au,aB,aC,aF⟩;repeat(first|(apply DW.ct;(focus (intro wd hI;have ae:=au.trans hI;have ai:=hI.af aB bk;have aj:=hI.af aC bk;have aq:=hI.af aF bk;go_wp2_with (fail);refine bd.mk _ rfl ⟨rfl,?_⟩;exact al));simp only[Act.put,List.setIfInBounds_toArray,List.set_cons_succ,List.set_cons_zero])|(refine DW.bt av ?_;intro wd hI;have ae:=au.trans (ah.ar hI);have ai:=hI.af aB;have aj:=hI.af aC;have aq:=hI.af aF;go_wp2_with (first|(go_at_call 175;refine(qaM rb lo q (tx T q) _ (ii.o.kept (ah.kept ae)) HQI.o).mono ?_;rintro e w5 ⟨rfl,cF⟩;have cF:ah (none:Option Nat).toList wd w5:=ah.ar cF));refine bd.bt _ rfl (by exact hD) (λbf=> ?_);have b5:=(ah.ar (S:=(none:Option Nat).toList) hI).trans bf;have au:=au.trans b5;have aB:=b5.af aB bk;have aC:=b5.af aC bk;have aF:=b5.af aF bk;simp only[Act.put,List.setIfInBounds_toArray,List.set_cons_succ,List.set_cons_zero]))
   refine DW.nil ?_;intro wd hI;have ae:=au.trans (ah.ar hI);have ai:=hI.af aB;have aj:=hI.af aC;have aq:=hI.af aF;go_wp2;go_ret2
   exact⟨rfl,gJ.keep (gJ.aw H1.o H2.o H3.o H5.o H6.o lx gw.o.1 gw.o.2.1 gw.o.2.2.1 gw.o.2.2.2 λx hx=>H9.o x (List.mem_of_mem_eraseIdx hx)) (ah.kept ae)⟩)
theorem qga (N M n a c s af q:Nat) (F:List Nat) (S:dR) (T:List ByteArray) (aw:List Nat) (eT h3:Int) (w:World) (hN:iJ w N M) (hM:PM w M n S) (ha:a<6) (hc:c<6) (hs:S a c=some s) (h:fS w F s T q aw) (hw:aw.length<=4294967296) (hT:T.length<=4294967296) (hq:aw[af]? =some q) (hh:bits .and .i64 eT 3=h3) (F6:¬h3=1) (jl:¬h3=2):
  Calls Tryz.prog 107 #[.pointer (some ⟨N,0,none⟩),.int .i64 a,.int .i64 c,.int .i64 af,.int .i64 eT] w λe w'=>e= .returned (.tuple #[.string (tx T q),.bool true])/\gJ w w' F s T (q+1) (aw.eraseIdx af):=by
 have HT:=aa hT;clear hT;obtain⟨sb,rb,Gop,Gw,v,h1,h2,h3,h4,h5,h6,h7,lx,h9⟩:=h;obtain⟨i0,hi,a7,aY,aW⟩:=ql0 uL;have HI:=aa hi;have H1:=aa h1;have H2:=aa h2;have H3:=aa h3;have H4:=aa h4;have H5:=aa h5;have H6:=aa h6;have H7:=aa h7;have H9:=aa h9;have HQ:=aa hq;obtain⟨c0,c1,c2,f2⟩:=lu h4;have HN:=aa hN;have HM:=aa hM;have HS:=aa hs;have bu:s<w.heap.size:=(aQ h4);have ek:=vz (h1▸h2);have gK:=aa ek;have ik:s∉Gw.toList:=ek.1.2.2.2;have yj:af<aw.length:=(bg hq);obtain⟨f',fM⟩:=AN T aw af q hq;obtain⟨A0,c6,hv⟩:=h7.form;subst hv;obtain⟨b,off,tU,nf,kU,iR,du⟩:=h7.cells ab;subst tU;have z1:w.cell? ⟨b,off+af*2,none⟩=some (.int .i64 (q:Int)):=du _ _ f';have z2:w.cell? ⟨b,off+af*2+1,none⟩=some (.string (tx T q)):=by have:=du _ _ fM;rwa [<- Nat.add_assoc]at this
 unfold maxLen at iR;have nC:b<w.heap.size:=Aa w _ z1;have kq:decide ((af:Int)<0)=false:=by first|(simp;done)|(simp;omega)
 have o4:decide ((aw.length:Int)<=(af:Int))=false:=by first|(simp;done)|(simp;omega)
 have Vx:=aa nf;have eK:c6=af+1->bm T (aw.drop (af+1))=[]:=λe=>by rw[List.drop_eq_nil_of_le ab];rfl
 have yk:=aa eK;have hlen:aw.length-(af+1)=(aw.drop (af+1)).length:=ao;have k0:=aa hlen;clear hN hM hs h2 h3 h4 h5 h6 h7 h9 hi hq f' fM du ek nf eK hlen;rcases Decidable.em (c6=af+1)with vD|vD
 all_goals
  (go_in
   go_wp2_with fail
   refine(mm N M n a c S _ HN.o HM.o ha hc).mono ?_;rintro e w1 ⟨rfl,k1⟩;rw[HS.o];have c0:=k1.af c0;have c1:=k1.af c1;have c2:=k1.af c2;have z1:=k1.af z1;have z2:=k1.af z2;have si:=R4 bu k1.size;have Ia:=R4 nC k1.size
   have H':w1.heap.size∉Gw.toList:=λhx=>by
    have:=H3.o w1.heap.size (by rw[H1.o];simp only[Pv];exact .inr hx);have:=k1.size;omega
   unfold ptr;go_wp2;have tS:ag (cc (w1.alloc (.cells #[.int .i64 q,.string (tx T q)] 238)) Gw (.slice (some ⟨b,off,none⟩) aw.length c6) aw.length 2 (bm T aw)):=(H7.o.kept k1).kept ((ad.refl w1).alloc _);obtain⟨xs,bP⟩:∃ xs,bm T aw=xs:=⟨_,rfl⟩;have ly:=aa bP;have dN:xs.length=aw.length*2:=by rw[<- bP];exact pN T aw
   have pO:=aa dN;rw[bP]at tS;clear bP dN;refine oY (oS (Gw.toList)) (λwB=>ah (Gw.toList) w1 wB/\wB.cell? ⟨s,0,none⟩=some (.pointer (some ⟨sb,0,none⟩))/\wB.cell? ⟨s,1,none⟩=some (.pointer (some ⟨rb,0,none⟩))/\wB.cell? ⟨s,2,none⟩=some (.slice (some ⟨b,off,none⟩) aw.length c6)/\wB.cell? ⟨w1.heap.size,0,none⟩=some (.int .i64 q)/\wB.cell? ⟨w1.heap.size,1,none⟩=some (.string (tx T q))/\ag (cc wB Gw (.slice (some ⟨b,off,none⟩) aw.length c6) aw.length 2 xs)) ?_ av av _ (by(try simp only[List.append_eq,List.cons_append,List.nil_append,List.toList_toArray]);exact rfl) ?_
   ·exact⟨by exact hD,by first|assumption|go_simp,by first|assumption|go_simp,by first|assumption|go_simp,by first|assumption|go_simp,by first|assumption|go_simp,by first|assumption|skip⟩
   rintro wB ⟨au,aB,aC,aF,aX,bK,HX⟩;repeat(first|(apply DW.ct;(focus (intro wd hI;have ae:=au.trans hI;have ai:=hI.af aB bk;have aj:=hI.af aC bk;have aq:=hI.af aF bk;have az:=hI.af aX bk;have aK:=hI.af bK bk;go_wp2_with (fail);refine bd.mk _ rfl ⟨rfl,?_⟩;exact al));simp only[Act.put,List.setIfInBounds_toArray,List.set_cons_succ,List.set_cons_zero])|(refine DW.bt av ?_;intro wd hI;have ae:=au.trans (ah.ar hI);have ai:=hI.af aB;have aj:=hI.af aC;have aq:=hI.af aF;have az:=hI.af aX;have aK:=hI.af bK;go_wp2_with (at_builtin;refine AM _ rfl _ _ 116 rfl 238 i0 (.agg #[.int .i64 0,.string ⟨#[]⟩]) 2 24 Tryz.underlying116 HI.o a7 aY aW rfl ab Gw _ af (aw.length-(af+1)) (xs.take (af*2)) ((HX.o.kept hI).pre ab) (by rw[qcd,pO.o];omega) rfl _ _ (bm T (aw.drop (af+1))) rfl (by rw[pN,k0.o]) (by first|exact MX (HX.o.kept hI) ly.o ab|(rw[yk.o vD];intro U u hu;simp at hu;done)) (DZ _ _) (by unfold maxLen;omega) ab rfl ?_;intro v6 w6 G6 C0 O6 dw;have dw:(G6=Gw∨∃ g,G6=some g/\w1.heap.size<=g/\g<w6.heap.size):=dw.imp id (λ⟨g,h,h3,h4⟩=>⟨g,h,qcg ae.size h3,h4⟩));refine bd.bt _ rfl (by exact hD) (λbf=> ?_);have b5:=(ah.ar (S:=Gw.toList) hI).trans bf;have au:=au.trans b5;have aB:=b5.af aB bk;have aC:=b5.af aC bk;have aF:=b5.af aF bk;have aX:=b5.af aX bk;have bK:=b5.af bK bk;(first|have HX:=aa (HX.o.kept (ad.call hI (ad.tQ bf)))|have HX:=aa (HX.o.kept (ad.call hI (ad.tR bf)))|skip);simp only[Act.put,List.setIfInBounds_toArray,List.set_cons_succ,List.set_cons_zero]))
   refine DW.tail av ?_;intro wd hI;have ae:=au.trans (ah.ar hI);have ai:=hI.af aB;have aj:=hI.af aC;have aq:=hI.af aF;have az:=hI.af aX;have aK:=hI.af bK;have jk:ag (wd.heap[s]? =some (.cells #[.pointer (some ⟨sb,0,none⟩),.pointer (some ⟨rb,0,none⟩),.slice (some ⟨b,off,none⟩) aw.length c6] 118 (0,0))):=ae.heap (k1.heap H4.o) ik;have y2:=aI jk.o 2;have eo:=aa (O6.kept hI);have eS:=aa dw;have Vy:=aa hI;have jg:=aa ae;obtain⟨A6,cQ,cy⟩:=O6.form;subst cy;clear O6 dw C0 HX;obtain⟨m6,j3⟩:∃ m6,af+(aw.length-(af+1))=m6:=⟨_,rfl⟩;rw[j3]at eo;simp only[j3]
   have gw:ag (ah (s::Gw.toList) w (wd.setCell ⟨s,2,none⟩ (.slice A6 m6 cQ))/\(wd.setCell ⟨s,2,none⟩ (.slice A6 m6 cQ)).heap[s]? =some (.cells #[.pointer (some ⟨sb,0,none⟩),.pointer (some ⟨rb,0,none⟩),.slice A6 m6 cQ] 118 (0,0))/\
     cc (wd.setCell ⟨s,2,none⟩ (.slice A6 m6 cQ)) G6 (.slice A6 m6 cQ) (aw.eraseIdx af).length 2 (bm T (aw.eraseIdx af))/\(G6=Gw∨∃ g,G6=some g/\w.heap.size<=g/\g<(wd.setCell ⟨s,2,none⟩ (.slice A6 m6 cQ)).heap.size)):=by
    refine⟨(((ah.ar k1).trans (ae.mono λx hx=>qce _ hx))).setCell (.inl ao) _,?_,?_,?_⟩
    ·have:=jk.o;simp[World.setCell,Array.getElem?_modify,this]
    ·obtain⟨e1,e2⟩:=MW T aw af yj;rw[<- e1,<- e2,j3,ly.o];refine eo.o.but ((ah.refl _ _).setCell (.inl (At.2 rfl)) _) (λg hg=> ?_);rw[At];intro e;have e:g=s:=e;rcases eS.o with h|⟨g',h,h3,h4⟩
     ·exact ik (by rw[<- h,hg,e];simp)
     ·rw[hg]at h;injection h with h;omega
    ·exact eS.o.imp id λ⟨g,h,h3,h4⟩=>⟨g,h,by have:=k1.size;omega,by rw[World.size_setCell];have:=hI.size;omega⟩
   clear j3;have MY:rb∉Gw.toList:=gK.o.2.2.1.2;have pJ:rb≠s:=λe=>gK.o.1.2.1 e.symm;have hqT:q<T.length:=H9.o q (zV HQ.o);have ii:ag (Recv (wd.setCell ⟨s,2,none⟩ (.slice A6 m6 cQ)) rb q):=(H6.o.but (gw.o.1) (by simp only[KX,not_or];exact⟨pJ,MY⟩))
   have yl:ag (fZ (wd.setCell ⟨s,2,none⟩ (.slice A6 m6 cQ)) sb Gop q (T.drop q)):=(H5.o.but (gw.o.1) (by simp only[KX,not_or];exact⟨λe=>gK.o.1.1 e.symm,gK.o.2.1.2.2⟩) (λg hg=>by
    have iX:g∈Gop.toList:=by rw[hg];simp
    simp only[KX,not_or];exact⟨λe=>gK.o.1.2.2.1 (e▸iX),λhx=>gK.o.2.2.2 g iX hx⟩))
   have e0:(wd.setCell ⟨s,2,none⟩ (.slice A6 m6 cQ)).cell? ⟨s,0,none⟩=some (.pointer (some ⟨sb,0,none⟩)):=(lu gw.o.2.1).1;have e1:(wd.setCell ⟨s,2,none⟩ (.slice A6 m6 cQ)).cell? ⟨s,1,none⟩=some (.pointer (some ⟨rb,0,none⟩)):=(lu gw.o.2.1).2.1;have D6:w1.heap.size≠s:=ab;have e4:(wd.setCell ⟨s,2,none⟩ (.slice A6 m6 cQ)).cell? ⟨w1.heap.size,0,none⟩=some (.int .i64 q):=by rw[World.cell?_setCell_other _ _ _ _ (by simp[D6])];exact az
   have e5:(wd.setCell ⟨s,2,none⟩ (.slice A6 m6 cQ)).cell? ⟨w1.heap.size,1,none⟩=some (.string (tx T q)):=by rw[World.cell?_setCell_other _ _ _ _ (by simp[D6])];exact aK
   go_wp2;generalize hW:wd.setCell ⟨s,2,none⟩ (.slice A6 m6 cQ)=W3 at gw ii yl e0 e1 e4 e5⊢;have hsW:s<W3.heap.size:=(aQ gw.o.2.1);have HW:=aa hW
   (try go_simp)
   clear hW ai aj aq az aK y2 ae hI au;have hsR:s∉(some rb).toList:=by simp;exact pJ.symm
   have bU:rb<W3.heap.size:=ii.o.lt;have hrp:rb<w1.heap.size:=R4 (H3.o rb (by rw[H1.o];simp)) k1.size;have hpR:w1.heap.size∉(some rb).toList:=by simp;omega
   refine oY (oS ((some rb).toList)) (λwB=>ah ((some rb).toList) W3 wB/\wB.cell? ⟨s,0,none⟩=some (.pointer (some ⟨sb,0,none⟩))/\wB.cell? ⟨s,1,none⟩=some (.pointer (some ⟨rb,0,none⟩))/\wB.cell? ⟨w1.heap.size,0,none⟩=some (.int .i64 q)/\wB.cell? ⟨w1.heap.size,1,none⟩=some (.string (tx T q))/\ag (Recv wB rb q)) ?_ av av _ (by(try simp only[List.append_eq,List.cons_append,List.nil_append,List.toList_toArray]);exact rfl) ?_
   ·exact⟨by exact hD,by first|assumption|go_simp,by first|assumption|go_simp,by first|assumption|go_simp,by first|assumption|go_simp,by first|assumption|skip⟩
   rintro wB ⟨au,aB,aC,aF,aX,HX⟩;repeat(first|(apply DW.ct;(focus (intro wd hI;have ae:=au.trans hI;have ai:=hI.af aB bk;have aj:=hI.af aC bk;have aq:=hI.af aF bk;have az:=hI.af aX bk;go_wp2_with (fail);refine bd.mk _ rfl ⟨rfl,?_⟩;exact al));simp only[Act.put,List.setIfInBounds_toArray,List.set_cons_succ,List.set_cons_zero])|(refine DW.bt av ?_;intro wd hI;have ae:=au.trans (ah.ar hI);have ai:=hI.af aB;have aj:=hI.af aC;have aq:=hI.af aF;have az:=hI.af aX;go_wp2_with (first|(go_at_call 175;refine(qaN rb q (tx T q) _ (HX.o.kept hI) (by have:=HT.o;omega)).mono ?_;rintro e w4 ⟨rfl,ga,Vz⟩;have ga:ah (some rb).toList wd w4:=ga;have As:=aa Vz;clear Vz));refine bd.bt _ rfl (by exact hD) (λbf=> ?_);have b5:=(ah.ar (S:=(some rb).toList) hI).trans bf;have au:=au.trans b5;have aB:=b5.af aB bk;have aC:=b5.af aC bk;have aF:=b5.af aF bk;have aX:=b5.af aX bk;(first|have HX:=aa (HX.o.kept (ad.call hI (ad.tQ bf)))|have HX:=aa (HX.o.kept (ad.call hI (ad.tR bf)))|skip);simp only[Act.put,List.setIfInBounds_toArray,List.set_cons_succ,List.set_cons_zero]))
   refine DW.nil ?_;intro wd hI;have ae:=au.trans (ah.ar hI);have ai:=hI.af aB;have aj:=hI.af aC;have aq:=hI.af aF;have az:=hI.af aX;have jI:=aa (As.o.kept hI);have nt:=aa ae;have g0:=ai;have g1:=aj;have TI:s<wd.heap.size:=Aa wd _ g0;have bG:sb<w.heap.size:=H3.o sb (by rw[H1.o];simp);have b3:rb<w.heap.size:=H3.o rb (by rw[H1.o];simp)
   have qgb:ag (∀ g,G6=some g->g∈Gw.toList∨w.heap.size<=g):=λg hg=>by
    rcases gw.o.2.2.2 with h|⟨g',h,h3,_⟩
    ·exact .inl (by rw[<- h,hg];simp)
    ·rw[hg]at h;injection h with h;exact .inr ab
   have HSE:ag (fZ wd sb Gop q (T.drop q)):=yl.o.but nt.o (by simp;exact gK.o.2.1.1) (λg hg=>by
    have iX:g∈Gop.toList:=by rw[hg];simp
    simp;exact λe=>gK.o.2.2.1.1 (e▸iX))
   clear ae hI au HX ai aj aq az hpR hsR;go_wp2;refine bz (λwB=>ad wd wB/\wB.cell? ⟨s,0,none⟩=some (.pointer (some ⟨sb,0,none⟩))/\wB.cell? ⟨s,1,none⟩=some (.pointer (some ⟨rb,0,none⟩))) λwB SS=> ?_;obtain⟨au,aB,aC⟩:=SS.o _ (ad.refl _);iterate 9 (first|(apply DW.ct;(focus (intro wd hI;obtain⟨ae,ai,aj⟩:=SS.o wd hI;go_wp2_with (first|(go_at_call 174;refine(zi rb (q+1) _ (jI.o.kept (au.call hI))).mono ?_;rintro e w5 ⟨rfl,cF⟩));exact aP));refine DW.np ?_)|(refine DW.bt av ?_;intro wd hI;obtain⟨ae,ai,aj⟩:=SS.o wd hI;go_wp2_with (first|(go_at_call 174;refine(zi rb (q+1) _ (jI.o.kept (au.call hI))).mono ?_;rintro e w5 ⟨rfl,cF⟩));refine cu hI SS (λbf SS=> ?_) rfl;obtain⟨au,aB,aC⟩:=SS.o _ (ad.refl _)))
   refine DW.tail av λwd hI=> ?_;obtain⟨ae,ai,aj⟩:=SS.o wd hI;clear SS;have aR:=aa ae;go_wp2_with (first|(go_at_call 176;refine(qfG sb Gop q (T.drop q) _ 1 _ (HSE.o.kept aR.o) (by rw[ql1];have:=HT.o;omega) (by rw[ql1];omega) (by intro _;omega) ab).mono ?_;rintro e w6 ⟨rfl,AA,cL⟩;have qV:=aa cL;have su:=aa AA;clear cL AA))
   go_ret2
   have nsb:s≠sb:=gK.o.1.1;have nsr:s≠rb:=gK.o.1.2.1;have nbr:sb≠rb:=gK.o.2.1.1
   have VC:∀ g,G6=some g->g≠rb/\g≠sb:=λg hg=>by
    rcases qgb.o g hg with h|h
    ·exact⟨λe=>gK.o.2.2.1.2 (e▸h),λe=>gK.o.2.1.2.2 (e▸h)⟩
    ·exact⟨ab,ab⟩
   have hO:=gw.o.2.2.1;refine⟨rfl,gJ.all (lo:=q+1) H1.o H2.o H3.o ?_ ?_ ab ?_ ?_ (((hO.but nt.o (λg hg=>by simp;exact(VC g hg).1)).kept aR.o).but qV.o (λg hg=>by simp;exact(VC g hg).2)) ?_ λx hx=>H9.o x (List.mem_of_mem_eraseIdx hx)⟩
   ·have:=su.o;rwa [List.drop_drop]at this
   ·exact(jI.o.kept aR.o).but qV.o (by simp;exact nbr.symm)
   ·refine(gw.o.1.mono λx hx=> ?_).trans ((nt.o.mono λx hx=> ?_).trans ((ah.ar aR.o).trans (qV.o.mono λx hx=> ?_)))
    ·rw[H1.o];simp only[KX,Pv,List.cons_append,List.nil_append]at hx⊢;rcases hx with h|h
     ·exact .inl h
     ·exact .inr (.inr (.inr (.inr h)))
    ·have:x=rb:=by simpa using hx
     rw[H1.o,this];simp
    ·have:x=sb:=by simpa using hx
     rw[H1.o,this];simp
   ·exact qV.o.heap (aR.o.heap (nt.o.heap gw.o.2.1 (by simp;exact nsr))) (by simp;exact nsb)
   ·exact gw.o.2.2.2.imp id λ⟨g,h,h3,h4⟩=>⟨g,h,h3,R4 h4 (qcg nt.o.size (qcg aR.o.size qV.o.size))⟩)
theorem VD {P:Program} (w:World) {ops:Array Oper} {rest:List Oper} {o:Oper} {a:Act} {Q:Exit->Act->World->Prop} (hg:o.guard=none) (s x:Operand) (t:TypeId)
  (uM:o.op=Op.call {callee:=Callee.builtin Builtin.append,args:= #[s,x],argTypes:= #[t,t]}) (e:TypeId) (i:TypeInfo) (z:Value) (k bytes:Nat) (h1:P.underlying t=some (.slice e)) (h2:P.info? e=some i)
  (h3:i.zero=some z) (h4:i.size=k) (h5:i.bytes=bytes) (h6:z.cells.size=k) (hk:1<=k) (G:Option Nat) (v:Value) (n m:Nat) (olds:List Value) (hv:cc w G v n k olds) (ho:olds.length=n*k) (hs:a.eval s=v)
  (Ib:Option Addr) (c:Nat) (news:List Value) (hx:a.eval x= .slice Ib m c) (hn:news.length=m*k) (hc:0<m->∃ gQ,Ib=some gQ/\∀ (U:Nat) u,news[U]? =some u->w.cell? (gQ.add U)=some u) (wO:∀ u∈news,u.oneCell'=true)
  (b1:n+m<=maxLen) (b2:(n+m)*bytes<=140737488355328)
  (he:e=238) (h:∀ v' w' G',ah G.toList w w'->cc w' G' v' (n+m) k (olds++news)->(G'=G∨∃ g,G'=some g/\w.heap.size<=g/\g<w'.heap.size)->wpList P ops Q rest (a.put o.dst v') w'):wpList P ops Q (o::rest) a w:=by
 rcases Nat.eq_zero_or_pos m with rfl|hm
 ·have eK:news=[]:=ql2 (by simpa using hn);subst eK;obtain⟨A0,c0,hf⟩:=hv.form
  have hle:n<=c0:=by
   rcases hv with ⟨r1,r2,_⟩|⟨b,off,cap,r1,_,p1,_⟩
   ·omega
   ·rw[hf]at r1;injection r1 with _ _ r3;omega
  have zr:Src P i.size t (.slice Ib 0 c) 0 [] w:=by
   cases Ib with
   |none=>exact Src.ofNil w h1 c
   |some gQ=>exact Src.ofSlice w h1 gQ 0 c [] ao ao ao
  have cr:=run_append_nothing (P:=P) w t t o.type e i h1 h2 A0 n c0 hle _ zr;refine wpList_plain hg λK Mn=> ?_;have mQ:=Mn _ _ (h v w G (ah.refl _ _) (by simpa using hv) (.inl rfl));unfold Oper.wp;rw[hf]at hs mQ;simp[execOp,uM,resolve,invoke,builtin,hs,hx,cr,Result.andThen];exact mQ
 ·obtain⟨gQ,rfl,du⟩:=hc hm;exact AM w hg s x t uM e i z k bytes h1 h2 h3 h4 h5 h6 hk G v n m olds hv ho hs gQ c news hx hn du wO b1 b2 he h
def tV (T:List ByteArray) (lo:Nat) (aw:List Nat):Nat:=min (T.length-lo) (32-aw.length)
def ym (T:List ByteArray) (lo:Nat) (aw:List Nat):List Nat:=aw++(List.range (tV T lo aw)).map λi=>lo+i
theorem VE {w w1 w2 w6:World} {F:List Nat} {s lo sb rb K:Nat} {T:List ByteArray} {aw:List Nat} {Gop Gw G6:Option Nat} {A0 A6:Option Addr} {c6 cQ n6:Nat} (hF:F=[s,sb,rb]++Gop.toList++Gw.toList) (ek:F.Nodup) (an:∀ x∈F,x<w.heap.size)
  (hS:fZ w sb Gop lo (T.drop lo)) (hR:Recv w rb lo) (gX:lo<=T.length) (h9:∀ q∈aw,q<T.length) (hK:tV T lo aw=K) (hKL:lo+K<=T.length) (k1:ad w w1) (k2:ad w1 w2) (hb:ah Gw.toList w2 w6)
  (hh:w6.heap[s]? =some (.cells #[.pointer (some ⟨sb,0,none⟩),.pointer (some ⟨rb,0,none⟩),.slice A0 aw.length c6] 118 (0,0))) (ik:s∉Gw.toList)
  (hO:cc w6 G6 (.slice A6 n6 cQ) (aw.length+K) 2 (bm T (aw++(List.range K).map λi=>lo+i))) (hG:G6=Gw∨∃ g,G6=some g/\w2.heap.size<=g/\g<w6.heap.size):
  gJ w (w6.setCell ⟨s,2,none⟩ (.slice A6 n6 cQ)) F s T lo (ym T lo aw):=by
 have bu:s<w.heap.size:=an s (by rw[hF];simp);unfold ym;rw[hK];refine gJ.aw hF ek an hS hR gX ?_ (v6:= .slice A6 n6 cQ) (G6:=G6) ?_ ?_ ?_ ?_
 ·exact((ah.ar (k1.call k2)).trans (hb.mono λx hx=>qce _ hx)).setCell (.inl ao) _
 ·simp[World.setCell,Array.getElem?_modify,hh]
 ·have e:(aw++(List.range K).map λi=>lo+i).length=aw.length+K:=ao;rw[e];refine hO.but ((ah.refl _ _).setCell (.inl (At.2 rfl)) _) (λg hg=> ?_);rw[At];intro e;have e:g=s:=e;rcases hG with h|⟨g',h,h3,h4⟩
  ·exact ik (by rw[<- h,hg,e];simp)
  ·rw[hg]at h;injection h with h;have:=k1.size;have:=k2.size;omega
 ·exact hG.imp id λ⟨g,h,h3,h4⟩=>⟨g,h,by have:=k1.size;have:=k2.size;omega,by rw[World.size_setCell];omega⟩
 ·intro q hq;rcases Pv.1 hq with hq|hq
  ·exact h9 q hq
  ·obtain⟨i,hi,rfl⟩:=List.mem_map.1 hq;have:=List.mem_range.1 hi;omega
theorem qgc (N M n a c s lo:Nat) (F:List Nat) (S:dR) (T:List ByteArray) (aw:List Nat) (w:World) (hN:iJ w N M) (hM:PM w M n S) (ha:a<6) (hc:c<6) (hs:S a c=some s) (h:fS w F s T lo aw) (hT:T.length<=4294967296) (hw:aw.length<=4294967296):
  Calls Tryz.prog 111 #[.pointer (some ⟨N,0,none⟩),.int .i64 a,.int .i64 c] w λe w'=>e= .returned (.int .i64 (tV T lo aw:Nat))/\gJ w w' F s T lo (ym T lo aw):=by
 obtain⟨sb,rb,Gop,Gw,v,h1,h2,h3,h4,h5,h6,h7,lx,h9⟩:=h;obtain⟨i0,hi,a7,aY,aW⟩:=ql0 uL;have HI:=aa hi;have H1:=aa h1;have H2:=aa h2;have H3:=aa h3;have H4:=aa h4;have H5:=aa h5;have H6:=aa h6;have H7:=aa h7;have H9:=aa h9;obtain⟨c0,c1,c2,f2⟩:=lu h4;have HN:=aa hN;have HM:=aa hM;have HS:=aa hs;have bu:s<w.heap.size:=(aQ h4);have ek:=vz (h1▸h2);have gK:=aa ek;have ik:s∉Gw.toList:=ek.1.2.2.2;obtain⟨A0,c6,hv⟩:=h7.form;subst hv;obtain⟨K,hK⟩:∃ K,tV T lo aw=K:=⟨_,rfl⟩;obtain⟨L,hL⟩:∃ L,T.length-lo=L:=⟨_,rfl⟩;have HK:=aa hK;have HL:=aa hL;have VF:(T.drop lo).length=L:=by rw[ql1];exact hL
 have zC:=aa VF;have hL2:L<=4294967296:=ab;have hKL:K<=L:=by unfold tV at hK;omega
 obtain⟨X,hX⟩:∃ X,32-aw.length=X:=⟨_,rfl⟩;have qg:(if 32-(aw.length:Int)<0 then(0:Int)else 32-(aw.length:Int))=(X:Int):=by split <;>omega
 have qgd:(if X<L then(X:Int)else(L:Int))=(K:Int):=by unfold tV at hK;split <;>omega
 rw[hK];clear hN hM hs h2 h3 h4 h5 h6 h7 h9 hi ek hK hL VF h1 hX;go_in;go_wp2_with fail
 refine(mm N M n a c S _ HN.o HM.o ha hc).mono ?_;rintro e w1 ⟨rfl,k1⟩;rw[HS.o];have c0:=k1.af c0;have c2:=k1.af c2;have si:=R4 bu k1.size;unfold ptr;go_wp2_with fail
 refine(Hz sb Gop lo _ _ (H5.o.kept k1) (by rw[zC.o];exact hL2)).mono ?_;rintro e w2 ⟨v',rfl,bA,k2⟩;rw[zC.o]at bA;have c2:=k2.af c2;have iT:=R4 si k2.size;have eb:=aa k2;have e7:=aa bA;have dC:ag (cc w2 Gw (.slice A0 aw.length c6) aw.length 2 (bm T aw)):=(H7.o.kept k1).kept k2;rcases bA.2 with ⟨ft,cW⟩|⟨g,cap,cur,ft,_,hg,om,th,_⟩
 ·subst ft;have cW:L=0:=cW;have Ic:K=0:=ab;subst Ic;clear qgd qg;clear bA;go_wp2_with (at_builtin;refine VD _ rfl _ _ 116 rfl 238 i0 (.agg #[.int .i64 0,.string ⟨#[]⟩]) 2 24 Tryz.underlying116 HI.o a7 aY aW rfl ab Gw _ aw.length 0 (bm T aw) dC.o (pN _ _) rfl none 0 [] rfl rfl (by intro h;omega) ao (by unfold maxLen;omega) ab rfl ?_;intro v6 w6 G6 C0 O6 dw;have jk:ag (w6.heap[s]? =some (.cells #[.pointer (some ⟨sb,0,none⟩),.pointer (some ⟨rb,0,none⟩),.slice A0 aw.length c6] 118 (0,0))):=C0.heap (eb.o.heap (k1.heap H4.o)) ik;have y2:=aI jk.o 2;have c2:=C0.af c2 ik;have eo:=aa O6;have eS:=aa dw;have qJ:=aa C0;obtain⟨A6,cQ,cy⟩:=O6.form;subst cy;clear O6 dw C0)
  all_goals (go_ret;exact⟨rfl,VE (K:=0) H1.o H2.o H3.o H5.o H6.o lx H9.o HK.o ab k1 eb.o qJ.o jk.o ik (by have h:=eo.o;simp only[Nat.add_zero,List.append_nil,List.range_zero,List.map_nil]at h⊢;exact h) eS.o⟩)
 ·subst ft;have om:L<=cap:=om;have th:cap<=9223372036854775807:=by unfold maxLen at th;omega
  have hnw:pk lo (T.drop lo)=pk lo (T.drop lo):=rfl;have gx:ag ((pk lo (T.drop lo)).take (K*2)=bm T ((List.range K).map λi=>lo+i)):=Vt T K lo (by have:=HL.o;omega)
  have HCE:ag (0<K->∃ gQ,(some (⟨g,0,none⟩:Addr))=some gQ/\∀ (U:Nat) u,(bm T ((List.range K).map λi=>lo+i))[U]? =some u->w2.cell? (gQ.add U)=some u):=λh0=>⟨_,rfl,λU u hu=>by
   rw[<- gx.o]at hu;have hj:=(bg hu);rw[qcd]at hj;rw[qlY ab]at hu;have e:((⟨g,0,none⟩:Addr).add U)=⟨g,U,none⟩:=by simp[Addr.add];omega
   rw[e,e7.o.cellAt U ab,hu]⟩
  clear bA hg hnw;go_wp2_with (at_builtin;(refine VD _ rfl _ _ 116 rfl 238 i0 (.agg #[.int .i64 0,.string ⟨#[]⟩]) 2 24 Tryz.underlying116 HI.o a7 aY aW rfl ab Gw _ aw.length K (bm T aw) dC.o (pN _ _) rfl (some ⟨g,0,none⟩) cap (bm T ((List.range K).map λi=>lo+i)) rfl (by rw[pN];simp) HCE.o (DZ _ _) (by unfold maxLen;omega) ab rfl ?_);intro v6 w6 G6 C0 O6 dw;have jk:ag (w6.heap[s]? =some (.cells #[.pointer (some ⟨sb,0,none⟩),.pointer (some ⟨rb,0,none⟩),.slice A0 aw.length c6] 118 (0,0))):=C0.heap (eb.o.heap (k1.heap H4.o)) ik;have y2:=aI jk.o 2;have c2:=C0.af c2 ik;have eo:=aa O6;have eS:=aa dw;have qJ:=aa C0;obtain⟨A6,cQ,cy⟩:=O6.form;subst cy;clear O6 dw C0)
  go_ret;exact⟨rfl,VE (K:=K) H1.o H2.o H3.o H5.o H6.o lx H9.o HK.o (by have:=HL.o;omega) k1 eb.o qJ.o jk.o ik (by rw[H8];exact eo.o) eS.o⟩
end Go.Proofs.YtehaoggjlciobaaGreat

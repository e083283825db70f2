/- Part 19 of 53. -/
import Derived.Test.YtehaoggjlciobaaGreatPar
set_option linter.all false
set_option maxRecDepth 20000
set_option maxHeartbeats 16000000
namespace Go.Proofs.YtehaoggjlciobaaGreat
open Go.RowKit
def kB (w:World) (R:Nat) (s:ByteArray) (a:Nat):Prop:=w.heap[R]? =some (.cells #[.string s,.int .i64 (a:Int),.bool false] 242 (0,0))
theorem kB.but {S:List Nat} {w w2:World} {R:Nat} {s:ByteArray} {a:Nat} (h:kB w R s a) (hk:ah S w w2) (hn:R∉S):kB w2 R s a:=hk.heap h hn
theorem kB.kept {w w2:World} {R:Nat} {s:ByteArray} {a:Nat} (h:kB w R s a) (hk:ad w w2):kB w2 R s a:=hk.heap h
theorem kB.cells {w:World} {R:Nat} {s:ByteArray} {a:Nat} (h:kB w R s a):w.cell? ⟨R,0,none⟩=some (.string s)/\w.cell? ⟨R,1,none⟩=some (.int .i64 (a:Int))/\w.cell? ⟨R,2,none⟩=some (.bool false)/\(∀ o,w.frozen? ⟨R,o,none⟩=false)/\R<w.heap.size:=
 ⟨aE h 0,aE h 1,aE h 2,aI h,(aQ h)⟩
theorem LL (R:Nat) (s:ByteArray) (a b:Nat) (w:World) (h:kB w R s a):
  Calls Tryz.prog 181 #[.pointer (some ⟨R,0,none⟩),.int .i64 (b:Int),.bool true] w λe w'=>e= .returned (.tuple #[])/\kB w' R s b/\ah [R] w w':=by
 obtain⟨c0,c1,c2,hf,an⟩:=h.cells;have f1:=hf 1;have f2:=hf 2;have H:=aa h;clear h hf;go_in;go_wp2_with fail
 go_end0
 refine⟨rfl,?_,by exact hD⟩;have h:=H.o;unfold kB at h⊢;simp[World.setCell,Array.getElem?_modify,h]
theorem Tb (R:Nat) (s k:ByteArray) (a b:Nat) (da:Int) (w:World) (h:kB w R s a) (hs:s.size<=1099511627776) (hp:(eB k).data.toList <+: s.data.toList.drop a) (hm:(k.size:Int)<=da) (gd:da<=9223372036854775807) (hb:a+(eB k).data.toList.length=b):
  Calls Tryz.prog 177 #[.pointer (some ⟨R,0,none⟩),.int .i64 da] w λe w'=>e= .returned (.string k)/\kB w' R s b/\ah [R] w w':=by
 obtain⟨c0,c1,c2,hf,an⟩:=h.cells;have H:=aa h;have HP:=aa hp;have HB:=aa hb;clear h hp hb hf;go_wp2;refine bz (λwB=>ad w wB/\wB.cell? ⟨R,0,none⟩=some (.string s)/\wB.cell? ⟨R,1,none⟩=some (.int .i64 (a:Int))) λwB SS=> ?_;obtain⟨au,aB,aC⟩:=SS.o _ (ad.refl _);repeat(first|(apply DW.ct;(focus (intro wd hI;obtain⟨ae,ai,aj⟩:=SS.o wd hI;go_wp2_with (go_at_call 238;refine(LF s k a da (b:Nat) _ hs HP.o hm gd (by rw[HB.o])).mono ?_;rintro e w5 ⟨rfl,k5⟩);exact aP));refine DW.np ?_)|(refine DW.bt av ?_;intro wd hI;obtain⟨ae,ai,aj⟩:=SS.o wd hI;go_wp2_with (go_at_call 238;refine(LF s k a da (b:Nat) _ hs HP.o hm gd (by rw[HB.o])).mono ?_;rintro e w5 ⟨rfl,k5⟩);refine cu hI SS (λbf SS=> ?_) rfl;obtain⟨au,aB,aC⟩:=SS.o _ (ad.refl _)))
 refine DW.nl SS ?_;rintro wd hI ⟨ae,ai,aj⟩;go_wp2_with fail
 refine(LL R s a b _ (H.o.kept ae)).mono ?_;rintro e w6 ⟨rfl,h6,k6⟩;have H6:=aa h6;clear h6;go_wp2;go_ret;exact⟨rfl,H6.o,(ah.ar ae).trans k6⟩
theorem qdw (R:Nat) (s:ByteArray) (n a b:Nat) (w:World) (h:kB w R s a) (hs:s.size<=1099511627776) (hp:enc n <+: s.data.toList.drop a) (hm:n<=1) (hb:a+(enc n).length=b):
  Calls Tryz.prog 178 #[.pointer (some ⟨R,0,none⟩),.int .u64 1] w λe w'=>e= .returned (.int .i64 n)/\kB w' R s b/\ah [R] w w':=by
 obtain⟨c0,c1,c2,hf,an⟩:=h.cells;have H:=aa h;have HP:=aa hp;have HB:=aa hb;clear h hp hb hf;have mR:(a:Int)+((enc n).length:Nat)=(b:Int):=by rw[<- HB.o];omega
 have hmi:(n:Int)<=1:=ab;have GP:decide ((n:Int)<=1)=true:=ql3 hmi;go_wp2;refine bz (λwB=>ad w wB/\wB.cell? ⟨R,0,none⟩=some (.string s)/\wB.cell? ⟨R,1,none⟩=some (.int .i64 (a:Int))) λwB SS=> ?_;obtain⟨au,aB,aC⟩:=SS.o _ (ad.refl _);repeat(first|(apply DW.ct;(focus (intro wd hI;obtain⟨ae,ai,aj⟩:=SS.o wd hI;go_wp2_with (go_at_call 239;refine(Lt s a a n _ _ hs rfl ab HP.o rfl).mono ?_;rw[mR];rintro e w5 ⟨rfl,k5⟩);exact aP));refine DW.np ?_)|(refine DW.bt av ?_;intro wd hI;obtain⟨ae,ai,aj⟩:=SS.o wd hI;go_wp2_with (go_at_call 239;refine(Lt s a a n _ _ hs rfl ab HP.o rfl).mono ?_;rw[mR];rintro e w5 ⟨rfl,k5⟩);refine cu hI SS (λbf SS=> ?_) rfl;obtain⟨au,aB,aC⟩:=SS.o _ (ad.refl _)))
 refine DW.nl SS ?_;rintro wd hI ⟨ae,ai,aj⟩;go_wp2_with fail
 refine(LL R s a b _ (H.o.kept ae)).mono ?_;rintro e w6 ⟨rfl,h6,k6⟩;obtain⟨y0,y1,y2,_,_⟩:=h6.cells;have H6:=aa h6;clear h6;go_wp2;go_ret;exact⟨by congr 2,H6.o,(ah.ar ae).trans k6⟩
theorem qdx (R:Nat) (s:ByteArray) (a:Nat) (w:World) (h:kB w R s a) (ha:a=s.size):
  Calls Tryz.prog 182 #[.pointer (some ⟨R,0,none⟩)] w λe w'=>e= .returned (.bool true)/\ad w w':=by
 obtain⟨c0,c1,c2,hf,an⟩:=h.cells;subst ha;clear h hf;go_wp2;refine bz (λwB=>ad w wB/\wB.cell? ⟨R,0,none⟩=some (.string s)/\wB.cell? ⟨R,1,none⟩=some (.int .i64 (s.size:Int))/\wB.cell? ⟨R,2,none⟩=some (.bool false)) λwB SS=> ?_;repeat refine DW.dt ?_
 refine DW.nl SS ?_;rintro wd hI ⟨ae,ai,aj,aq⟩;go_wp2;go_ret;exact⟨rfl,ae⟩
theorem qdy {n s:Nat} (h:fu (n:Int) (s:Int)=true):1<=n/\n<=1099511627776/\s<6:=by
 have:=qck h;omega
def VB (w:World) (b:Nat) (x0 x1 x2 x3 x4 x5:Value):Prop:=w.heap[b]? =some (.cells #[x0,x1,x2,x3,x4,x5] 48 (0,0))
theorem VB.cells {w:World} {b:Nat} {x0 x1 x2 x3 x4 x5:Value} (h:VB w b x0 x1 x2 x3 x4 x5):w.cell? ⟨b,0,none⟩=some x0/\w.cell? ⟨b,1,none⟩=some x1/\w.cell? ⟨b,2,none⟩=some x2/\w.cell? ⟨b,3,none⟩=some x3/\w.cell? ⟨b,4,none⟩=some x4/\w.cell? ⟨b,5,none⟩=some x5/\(∀ o,w.frozen? ⟨b,o,none⟩=false)/\b<w.heap.size:=
 ⟨aE h 0,aE h 1,aE h 2,aE h 3,aE h 4,aE h 5,aI h,(aQ h)⟩
theorem VB.but {S:List Nat} {w w2:World} {b:Nat} {x0 x1 x2 x3 x4 x5:Value} (h:VB w b x0 x1 x2 x3 x4 x5) (k:ah S w w2) (hn:b∉S):VB w2 b x0 x1 x2 x3 x4 x5:=k.heap h hn
theorem VB.s0 {w:World} {b:Nat} {x0 x1 x2 x3 x4 x5:Value} (h:VB w b x0 x1 x2 x3 x4 x5) (v:Value):VB (w.setCell ⟨b,0,none⟩ v) b v x1 x2 x3 x4 x5:=by
 unfold VB at h⊢;simp[World.setCell,Array.getElem?_modify,h]
theorem VB.s1 {w:World} {b:Nat} {x0 x1 x2 x3 x4 x5:Value} (h:VB w b x0 x1 x2 x3 x4 x5) (v:Value):VB (w.setCell ⟨b,1,none⟩ v) b x0 v x2 x3 x4 x5:=by
 unfold VB at h⊢;simp[World.setCell,Array.getElem?_modify,h]
theorem VB.s2 {w:World} {b:Nat} {x0 x1 x2 x3 x4 x5:Value} (h:VB w b x0 x1 x2 x3 x4 x5) (v:Value):VB (w.setCell ⟨b,2,none⟩ v) b x0 x1 v x3 x4 x5:=by
 unfold VB at h⊢;simp[World.setCell,Array.getElem?_modify,h]
theorem VB.s3 {w:World} {b:Nat} {x0 x1 x2 x3 x4 x5:Value} (h:VB w b x0 x1 x2 x3 x4 x5) (v:Value):VB (w.setCell ⟨b,3,none⟩ v) b x0 x1 x2 v x4 x5:=by
 unfold VB at h⊢;simp[World.setCell,Array.getElem?_modify,h]
theorem VB.s4 {w:World} {b:Nat} {x0 x1 x2 x3 x4 x5:Value} (h:VB w b x0 x1 x2 x3 x4 x5) (v:Value):VB (w.setCell ⟨b,4,none⟩ v) b x0 x1 x2 x3 v x5:=by
 unfold VB at h⊢;simp[World.setCell,Array.getElem?_modify,h]
theorem VB.zq {w:World} {b:Nat} {x0 x1 x2 x3 x4 x5:Value} (h:VB w b x0 x1 x2 x3 x4 x5) (v:Value):VB (w.setCell ⟨b,5,none⟩ v) b x0 x1 x2 x3 x4 v:=by
 unfold VB at h⊢;simp[World.setCell,Array.getElem?_modify,h]
theorem ah.set {w:World} (b o:Nat) (v:Value):ah [b] w (w.setCell ⟨b,o,none⟩ v):=(ah.refl [b] w).setCell (.inl ao) v
theorem qdz (v:ax) (ds:List aD) (s:ByteArray) (w:World) (hb:s.data.toList=l9 v ds) (hk:Let v.key) (hd:∀ d∈ds,Let d.key) (hc:WC v ds) (hs:s.size<=1099511627776):
  Calls Tryz.prog 108 #[.string s] w λe w'=>∃ pa pn pc,e= .returned (.tuple #[aM {v with pa:=pa,pn:=pn,pc:=pc},.bool true])/\r' w' {v with pa:=pa,pn:=pn,pc:=pc} ds/\ad w w':=by
 obtain⟨key,val,gone,n,st,pa0,pn0,pc0,LB⟩:=v;have aV:=qck hc.1;obtain⟨N,rfl⟩:∃ N:Nat,n=N:=⟨n.toNat,by simp only at aV;omega⟩;obtain⟨M,rfl⟩:∃ M:Nat,st=M:=⟨st.toNat,by simp only at aV;omega⟩;have hN:=qdy hc.1;have kV:key.size=1:=by obtain⟨c,_,_,h⟩:=hk;simp only at h;rw[h];rfl
 have eh:val.size<=32:=hc.2.2.1;have Tc:PC ds:=hc.2.1;simp only[l9]at hb;simp only;simp only[Int.toNat_natCast]at hb;obtain⟨bj,kC⟩:∃ bj,0+(eB key).data.toList.length=bj:=⟨_,rfl⟩;obtain⟨a2,gg⟩:∃ a2,bj+(enc (tv gone)).length=a2:=⟨_,rfl⟩;obtain⟨a3,LM⟩:∃ a3,a2+(eB val).data.toList.length=a3:=⟨_,rfl⟩;obtain⟨a4,LN⟩:∃ a4,a3+(iD N M).length=a4:=⟨_,rfl⟩;obtain⟨a5,Td⟩:∃ a5,a4+(kA ds).length=a5:=⟨_,rfl⟩;have p0:(eB key).data.toList++(enc (tv gone)++((eB val).data.toList++(iD N M++kA ds))) <+: s.data.toList.drop 0:=by rw[List.drop_zero,hb];exact List.prefix_refl _
 have p1:=xF p0;rw[kC]at p1;have p2:=xF p1;rw[gg]at p2;have p3:=xF p2;rw[LM]at p3;have p4:=xF p3;rw[LN]at p4
 have hz:a5=s.size:=by
  have h:=congrArg List.length hb;simp only[qC,Af]at h;have e1:(eB key).data.toList.length=(eB key).size:=rfl;have e2:(eB val).data.toList.length=(eB val).size:=rfl;omega
 have qdA:=aa (vh p0);have qdB:=aa (vh p1);have qdC:=aa (vh p2);have qdD:=aa (vh p3);have qdE:=aa p4;have A1:=aa kC;have A2:=aa gg;have A3:=aa LM;have A4:=aa LN;have A5:=aa Td;have HZ:=aa hz;have HK:=aa hk;have HD:=aa hd;have GQ:=aa Tc;have HC:=aa hc;have o7:tv gone<=1:=by unfold tv;split <;>omega
 have rQ:(((tv gone:Nat):Int)==1)=gone:=by cases gone <;>rfl
 clear hb aV p0 p1 p2 p3 p4 kC gg LM LN Td hz hk hd Tc hc;obtain⟨W0,gh⟩:∃ W0,W0=(w.alloc (.cells #[.string ⟨#[]⟩,.string ⟨#[]⟩,.bool false,.int .i64 0,.int .i64 0,.slice none 0 0] 48)).alloc (.cells #[.string s,.int .i64 0,.bool false] 242):=⟨_,rfl⟩
 have R0:ag (kB W0 (w.heap.size+1) s 0):=by
  have h:=l5 (w.alloc (.cells #[.string ⟨#[]⟩,.string ⟨#[]⟩,.bool false,.int .i64 0,.int .i64 0,.slice none 0 0] 48)) (.cells #[.string s,.int .i64 0,.bool false] 242);rw[World.size_alloc,<- gh]at h;exact h
 have V0:ag (VB W0 w.heap.size (.string ⟨#[]⟩) (.string ⟨#[]⟩) (.bool false) (.int .i64 0) (.int .i64 0) (.slice none 0 0)):=by
  rw[gh];exact((ad.refl _).alloc _).heap (l5 w _)
 have K0:ad w W0:=by rw[gh];exact al
 go_in;go_wp2_with fail
 rw[<- gh];clear gh;refine(Tb (w.heap.size+1) s key 0 bj 32 _ R0.o hs qdA.o ab ab A1.o).mono ?_;rintro e w1 ⟨rfl,h1,k1⟩;obtain⟨y0,y1,y2,Df,qkS⟩:=h1.cells;have H1:=aa h1;have V1:=aa (V0.o.but k1 ao);have K1:ad w w1:=ad.but K0 k1 ao;clear h1 Df k1 K0 R0 V0;obtain⟨B,hB⟩:∃ B,w1.heap.size=B:=⟨_,rfl⟩;have xH:ag (VB (w1.alloc (.cells #[.string key,.string ⟨#[]⟩,.bool false,.int .i64 0,.int .i64 0,.slice none 0 0] 48)) B (.string key) (.string ⟨#[]⟩) (.bool false) (.int .i64 0) (.int .i64 0) (.slice none 0 0)):=by rw[<- hB];exact l5 w1 _
 have Sz:w.heap.size+1<B:=ab;go_wp2_with fail
 obtain⟨W1,eZ⟩:∃ W1,W1=w1.alloc (.cells #[.string key,.string ⟨#[]⟩,.bool false,.int .i64 0,.int .i64 0,.slice none 0 0] 48):=⟨_,rfl⟩;have wX:ad w1 W1:=by rw[eZ];exact(ad.refl w1).alloc _
 rw[<- eZ]at xH⊢;clear eZ y0 y1 y2 hB;refine(qdw (w.heap.size+1) s (tv gone) bj a2 _ (H1.o.kept wX) hs qdB.o o7 A2.o).mono ?_;rintro e w2 ⟨rfl,h2,k2⟩;obtain⟨y0,y1,y2,Df,yl2⟩:=h2.cells;have H2:=aa h2;have V2:=aa ((V1.o.but (ah.ar (S:=[]) wX) ao).but k2 ao);have B2:=xH.o.but k2 (by simp;omega);have K2:ad w w2:=ad.but (K1.call wX) k2 ao;obtain⟨b0,b1,b2,ck,iV,dB,pu,xI⟩:=B2.cells;have bf2:=pu 2;clear h2 Df k2 K1 wX H1 V1 xH pu;go_wp2_with fail
 obtain⟨W2,fw⟩:∃ W2,W2=w2.setCell ⟨B,2,none⟩ (.bool gone):=⟨_,rfl⟩;have b2:ah [B] w2 W2:=by rw[fw];exact ah.set B 2 _
 have LO:=B2.s2 (.bool gone);rw[<- fw]at LO;have Te:=aa (H2.o.but b2 (by simp;omega));have Tf:=aa (V2.o.but b2 (by simp;omega));have Tg:ad w W2:=ad.but K2 b2 (by simp;omega);rw[<- fw];clear fw B2 H2 V2 K2 b0 b1 b2 ck iV dB bf2 xI y0 y1 y2;refine(Tb (w.heap.size+1) s val a2 a3 32 _ Te.o hs qdC.o ab ab A3.o).mono ?_;rintro e w3 ⟨rfl,h3,k3⟩;obtain⟨y0,y1,y2,Df,yl3⟩:=h3.cells;have H3:=aa h3;have V3:=aa (Tf.o.but k3 ao);have B3:=LO.but k3 (by simp;omega);have K3:ad w w3:=ad.but Tg k3 ao;obtain⟨b0,b1,b2,ck,iV,dB,pu,xI⟩:=B3.cells;have bf1:=pu 1;clear h3 Df k3 Tg Te Tf LO pu;go_wp2_with fail
 obtain⟨W3,db⟩:∃ W3,W3=w3.setCell ⟨B,1,none⟩ (.string val):=⟨_,rfl⟩;have ck:ah [B] w3 W3:=by rw[db];exact ah.set B 1 _
 have GR:=B3.s1 (.string val);rw[<- db]at GR;have Th:=aa (H3.o.but ck (by simp;omega));have Ti:=aa (V3.o.but ck (by simp;omega));have Tj:ad w W3:=ad.but K3 ck (by simp;omega);rw[<- db];clear db B3 H3 V3 K3 b0 b1 b2 ck iV dB bf1 xI y0 y1 y2;refine(S8 s a3 N M (a4:Nat) _ hs qdD.o ab ab ab (by rw[A4.o])).mono ?_;rintro e w4 ⟨rfl,k4⟩;have hBl:B<W3.heap.size:=(aQ GR);have H4:=aa (Th.o.kept k4);have V4:=aa (Ti.o.but (ah.ar (S:=[]) k4) ao);have Dg:=GR.but (ah.ar (S:=[]) k4) ao;have K4:ad w w4:=Tj.call k4;have oy:=k4.size;clear k4 Tj Th Ti GR;go_wp2_with fail
 have hT:(w4.alloc (.cells #[.int .i64 N,.int .i64 M] 45)).heap[w4.heap.size]? =some (.cells #[.int .i64 N,.int .i64 M] 45 (0,0)):=l5 w4 _;refine(pread s a4 ds _ hs HD.o GQ.o qdE.o).mono ?_;rintro e w5 ⟨pv,rfl,bU,k5⟩;obtain⟨A,c,rfl,_,_⟩:=bU.form;have LP:=k5.heap hT;have t0:w5.cell? ⟨w4.heap.size,0,none⟩=some (.int .i64 N):=aE LP 0;have t1:w5.cell? ⟨w4.heap.size,1,none⟩=some (.int .i64 M):=aE LP 1;have qM:ad w4 w5:=ad.call ((ad.refl w4).alloc _) k5;have H5:=aa (H4.o.kept qM);have V5:=aa (V4.o.but (ah.ar (S:=[]) qM) ao);have B5:=Dg.but (ah.ar (S:=[]) qM) ao;have K5:ad w w5:=K4.call qM;have pw:=qM.size;have cN:=aa bU;obtain⟨b0,b1,b2,ck,iV,dB,pu,xI⟩:=B5.cells;have bf3:=pu 3;have bf4:=pu 4;have bf5:=pu 5;rw[A5.o];clear hT LP k5 qM K4 H4 V4 Dg bU pu;go_wp2_with fail
 obtain⟨W5,jZ⟩:∃ W5,W5=((w5.setCell ⟨B,3,none⟩ (.int .i64 N)).setCell ⟨B,4,none⟩ (.int .i64 M)).setCell ⟨B,5,none⟩ (.slice A ds.length c):=⟨_,rfl⟩;have dB:ah [B] w5 W5:=by rw[jZ];exact((ah.set B 3 _).trans (ah.set B 4 _)).trans (ah.set B 5 _)
 have LQ:=((B5.s3 (.int .i64 N)).s4 (.int .i64 M)).zq (.slice A ds.length c);rw[<- jZ]at LQ;have LR:=aa (H5.o.but dB (by simp;omega));have Tk:=aa (V5.o.but dB (by simp;omega));have Tl:ad w W5:=ad.but K5 dB (by simp;omega)
 have Tm:=aa (cN.o.fr (Fr.gn (P:=(· =60)) dB (λs hs cur e he=>by
  simp only[At]at hs;rw[hs,show w5.heap[B]? =_ from B5]at he;simp only[Option.some.injEq,Obj.cells.injEq]at he;rw[<- he.2.1];decide)) rfl)
 rw[<- jZ];clear jZ B5 H5 V5 K5 b0 b1 b2 ck iV bf3 bf4 bf5 xI dB cN t0 t1;refine(LL (w.heap.size+1) s a3 a5 _ LR.o).mono ?_;rintro e w6 ⟨rfl,h6,k6⟩;have H6:=aa h6;have V6:=aa (Tk.o.but k6 ao);have B6:=LQ.but k6 (by simp;omega);have K6:ad w w6:=ad.but Tl k6 ao
 have GS:=aa (Tm.o.fr (Fr.gn (P:=(· =60)) k6 (λs hs cur e he=>by
  simp only[At]at hs;rw[hs,show W5.heap[w.heap.size+1]? =_ from LR.o]at he;simp only[Option.some.injEq,Obj.cells.injEq]at he;rw[<- he.2.1];decide)) rfl)
 clear h6 k6 LR Tk LQ Tl Tm;go_wp2_with fail
 refine(qdx (w.heap.size+1) s a5 _ H6.o HZ.o).mono ?_;rintro e w7 ⟨rfl,nr⟩;have V7:=aa (V6.o.but (ah.ar (S:=[]) nr) ao);have B7:=B6.but (ah.ar (S:=[]) nr) ao;have K7:ad w w7:=K6.call nr;have LS:=aa (GS.o.kept nr);obtain⟨b0,b1,b2,ck,iV,dB,pu,xI⟩:=B7.cells;clear nr V6 B6 K6 GS H6 pu;go_wp2_with fail
 refine(C9 ⟨key,val,gone,N,M,A,ds.length,c,LB⟩ ds _ HK.o LS.o HD.o (by have:=GQ.o.2;omega) (by simp only;omega)).mono ?_;rintro e w8 ⟨b,rfl,hb,k8⟩;obtain rfl:b=true:=hb.2 HC.o;have V8:=V7.o.but (ah.ar (S:=[]) k8) ao;have qdF:=B7.but (ah.ar (S:=[]) k8) ao;have K8:ad w w8:=K7.call k8;have qdG:=aa (LS.o.kept k8);obtain⟨c0,c1,c2,c3,c4,c5,Gh,cl⟩:=qdF.cells;obtain⟨v0,v1,v2,v3,v4,v5,xJ,vl⟩:=V8.cells;have vf0:=xJ 0;have vf1:=xJ 1;have vf2:=xJ 2;have vf3:=xJ 3;have vf4:=xJ 4;have vf5:=xJ 5;clear hb k8 K7 LS B7 V7 b0 b1 b2 ck iV dB xI xJ Gh;go_wp2;obtain⟨z0,z1,z2,z3,z4,z5,_,_⟩:=((((((V8.s0 (.string key)).s1 (.string val)).s2 (.bool gone)).s3 (.int .i64 N)).s4 (.int .i64 M)).zq (.slice A ds.length c)).cells
 have jA:ah [w.heap.size] w8 ((((((w8.setCell ⟨w.heap.size,0,none⟩ (.string key)).setCell ⟨w.heap.size,1,none⟩ (.string val)).setCell ⟨w.heap.size,2,none⟩ (.bool gone)).setCell ⟨w.heap.size,3,none⟩ (.int .i64 N)).setCell ⟨w.heap.size,4,none⟩ (.int .i64 M)).setCell ⟨w.heap.size,5,none⟩ (.slice A ds.length c)):=
  (((((ah.set _ 0 _).trans (ah.set _ 1 _)).trans (ah.set _ 2 _)).trans (ah.set _ 3 _)).trans (ah.set _ 4 _)).trans (ah.set _ 5 _)
 refine KV (v:= .tuple #[.agg #[.string key,.string val,.bool gone,.int .i64 N,.int .i64 M,.slice A ds.length c],.bool true]) (by simp[results,Tryz.results108,go_sem,z0,z1,z2,z3,z4,z5]) rfl ?_;refine⟨A,ds.length,c,rfl,?_,ad.but K8 jA ao⟩
 exact qdG.o.fr (Fr.gn (P:=(· =60)) jA (λs hs cur e he=>by
  simp only[At]at hs;rw[hs,show w8.heap[w.heap.size]? =_ from V8]at he;simp only[Option.some.injEq,Obj.cells.injEq]at he;rw[<- he.2.1];decide)) rfl
structure b7 (w:World) (B:Int) (v:ax):Prop where
 key:Let v.key
 n:v.n<=B
 jB:r' w v v.ds
 cg:b9 v.ds
 gR:∀ d∈v.ds,d.n<=B
 wc:WC v v.ds
theorem b7.kept {w w2:World} {B:Int} {v:ax} (h:b7 w B v) (hk:ad w w2):b7 w2 B v:=⟨h.key,h.n,h.jB.kept hk,h.cg,h.gR,h.wc⟩
theorem b7.mono {w:World} {B B2:Int} {v:ax} (h:b7 w B v) (hB:B<=B2):b7 w B2 v:=⟨h.key,Int.le_trans h.n hB,h.jB,h.cg,λd hd=>Int.le_trans (h.gR d hd) hB,h.wc⟩
def lf (a b:ax):Prop:=c8 a.n a.s b.n b.s=true
structure dc (w:World) (B:Int) (k:ByteArray) (v:Value) (l:List ax):Prop where
 row:Rw w 48 6 a8 v l
 iG:∀ x∈l,b7 w B x/\x.key=k
 sd:l.Pairwise lf
theorem dc.kept {w w2:World} {B:Int} {k:ByteArray} {v:Value} {l:List ax} (h:dc w B k v l) (hk:ad w w2):dc w2 B k v l:=
 ⟨h.row.kept hk,λx hx=>⟨(h.iG x hx).1.kept hk,(h.iG x hx).2⟩,h.sd⟩
theorem dc.mono {w:World} {B B2:Int} {k:ByteArray} {v:Value} {l:List ax} (h:dc w B k v l) (hB:B<=B2):dc w B2 k v l:=
 ⟨h.row,λx hx=>⟨(h.iG x hx).1.mono hB,(h.iG x hx).2⟩,h.sd⟩
theorem LU (B:Nat):∀ (l:List ax) (m:Nat),l.Pairwise lf->(∀ x∈l,fu x.n x.s=true/\x.n<=B/\(m:Int)<=x.n*6+x.s)->l.length<=6*B+6-m
 |[],m,_,_=>ao
 |a::t,m,h,hx=>by
  obtain⟨h1,h2⟩:=List.pairwise_cons.1 h;obtain⟨hc,hb,hm⟩:=hx a ao;have hc:=qck hc
  have:=LU B t (a.n*6+a.s+1).toNat h2 λx Tn=>by
   obtain⟨eW,Fv,_⟩:=hx x (qce _ Tn);have hl:=qck (h1 x Tn);have cz:=qck eW;refine⟨eW,Fv,?_⟩;omega
  rw[List.length_cons];omega
theorem dc.len {w:World} {B:Int} {k:ByteArray} {v:Value} {l:List ax} (h:dc w B k v l) (hB:0<=B) (h9:B<=100000000000):l.length<=1000000000000:=by
 have:=LU B.toNat l 0 h.sd λx hx=>by
  have h3:=(h.iG x hx).1;have h2:=h3.n;have hc:=qck h3.wc.1;exact⟨h3.wc.1,ab,ab⟩
 omega
theorem qdH (x:ax) (n s:Int) (P:Nat) (w:World) (c0:w.cell? ⟨P,0,none⟩=some (.int .i64 n)) (c1:w.cell? ⟨P,1,none⟩=some (.int .i64 s)):
  Calls Tryz.prog 307 #[aM x,.pointer (some ⟨P,0,none⟩)] w λe w'=>∃ b,e= .returned (.bool b)/\b= !c8 x.n x.s n s/\ad w w':=by
 have hP:P<w.heap.size:=Aa w _ c0;unfold aM;go_in;go_wp2_with fail
 refine(qw x.n x.s n s _).mono ?_;rintro e w1 ⟨rfl,k1⟩;go_wp2;go_ret;exact⟨_,rfl,rfl,ad.call al k1⟩
structure xK (l:List ax) (n s:Int) (i:Nat):Prop where
 le:i<=l.length
 below:∀ U a,U<i->l[U]? =some a->c8 a.n a.s n s=true
 af:∀ a,l[i]? =some a->c8 a.n a.s n s=false
theorem LV (v:Value) (l:List ax) (n s:Int) (w:World) (hv:Rw w 48 6 a8 v l):
  Calls Tryz.prog 281 #[v,.agg #[.int .i64 n,.int .i64 s]] w λe w'=>∃ i:Nat,e= .returned (.int .i64 i)/\xK l n s i/\ad w w':=by
 obtain⟨A,c,rfl,bl,bQ⟩:=hv.form;have iS:∀ fn first cap w,(Instr.makeFunc fn first cap).run Tryz.prog w= .ok (.func fn first cap) w:=λ_ _ _ _=>rfl
 have HV:=aa hv;clear hv;obtain⟨W,hW⟩:∃ W,W=w.alloc (.cells #[.int .i64 n,.int .i64 s] 45):=⟨_,rfl⟩;have HT:ag (fI [] W 307 #[.pointer (some ⟨w.heap.size,0,none⟩)] aM l (λa b=>b= !c8 a.n a.s n s)):=⟨λargs w=>enters_of Tryz.func307 av rfl args w,λW1 h1 d _=>qdH d n s w.heap.size W1 (h1.kept.af (by rw[hW];go_simp)) (h1.kept.af (by rw[hW];go_simp))⟩;have HK:ag (ad w W):=by rw[hW];exact(ad.refl w).alloc _
 go_in;go_wp2_with fail
 rw[<- hW];refine(FL _ l _ _ _ W (HV.o.kept HK.o) [] HT.o).mono ?_;rintro e w1 ⟨r,rfl,hr,k1⟩
 have b3:(r= -1/\xK l n s l.length)∨∃ i:Nat,r=i/\xK l n s i:=by
  rcases hr with ⟨rfl,h⟩|⟨i,a,rfl,hi,ha,h⟩
  ·refine .inl ⟨rfl,CP _,λU a _ hj=> ?_,λa ha=> ?_⟩
   ·have:=h a (zV hj);simpa using this
   ·have:=(bg ha);omega
  ·refine .inr ⟨i,rfl,Nat.le_of_lt (bg hi),λU b hj hb=> ?_,λb hb=> ?_⟩
   ·have:=h U b hj hb;simpa using this
   ·rw[hi]at hb;injection hb with hb;rw[<- hb];simpa using ha
 clear hr HT iS;rcases b3 with ⟨rfl,hf⟩|⟨i,rfl,hf⟩
 ·have HF:=aa hf;clear hf;go_wp2;go_ret;exact⟨_,rfl,HF.o,HK.o.call k1⟩
 ·have HF:=aa hf;clear hf;have an:decide ((i:Int)<0)=false:=ao;go_wp2;go_ret;exact⟨_,rfl,HF.o,HK.o.call k1⟩
def zeroV:ax:=⟨⟨#[]⟩,⟨#[]⟩,false,0,0,none,0,0,[]⟩
theorem ns (w:World):VB (w.alloc (.cells #[.string ⟨#[]⟩,.string ⟨#[]⟩,.bool false,.int .i64 0,.int .i64 0,.slice none 0 0] 48)) w.heap.size (.string ⟨#[]⟩) (.string ⟨#[]⟩) (.bool false) (.int .i64 0) (.int .i64 0) (.slice none 0 0):=l5 w _
theorem VB.all {w:World} {b:Nat} {x0 x1 x2 x3 x4 x5:Value} (h:VB w b x0 x1 x2 x3 x4 x5) (y0 y1 y2 y3 y4 y5:Value):VB ((((((w.setCell ⟨b,0,none⟩ y0).setCell ⟨b,1,none⟩ y1).setCell ⟨b,2,none⟩ y2).setCell ⟨b,3,none⟩ y3).setCell ⟨b,4,none⟩ y4).setCell ⟨b,5,none⟩ y5) b y0 y1 y2 y3 y4 y5:=(((((h.s0 y0).s1 y1).s2 y2).s3 y3).s4 y4).zq y5
theorem ah.all {w:World} (b:Nat) (y0 y1 y2 y3 y4 y5:Value):ah [b] w ((((((w.setCell ⟨b,0,none⟩ y0).setCell ⟨b,1,none⟩ y1).setCell ⟨b,2,none⟩ y2).setCell ⟨b,3,none⟩ y3).setCell ⟨b,4,none⟩ y4).setCell ⟨b,5,none⟩ y5):=
 (((((ah.set _ 0 _).trans (ah.set _ 1 _)).trans (ah.set _ 2 _)).trans (ah.set _ 3 _)).trans (ah.set _ 4 _)).trans (ah.set _ 5 _)
def Told (l:List ax) (i:Int) (v:ax) (b:Bool):Prop:=(b=true/\∃ U:Nat,i=U/\l[U]? =some v)∨(b=false/\v=zeroV/\∀ U:Nat,i=U->l[U]? =none)
theorem LW (v:Value) (l:List ax) (i:Int) (w:World) (hv:Rw w 48 6 a8 v l):
  Calls Tryz.prog 256 #[v,.int .i64 i] w λe w'=>∃ x b,e= .returned (.tuple #[aM x,.bool b])/\Told l i x b/\ad w w':=by
 obtain⟨A,c,rfl,bl,bQ⟩:=hv.form;have HV:=aa hv;obtain⟨n,hn⟩:∃ n,l.length=n:=⟨_,rfl⟩;have HN:=aa hn;rw[hn]at HV bl⊢;clear hv hn;rcases Decidable.em (i<0)with h0|h0
 ·have hd:decide (i<0)=true:=ql3 h0;go_wp2;obtain⟨z0,z1,z2,z3,z4,z5,_,_⟩:=(ns w).cells;refine KV (v:= .tuple #[aM zeroV,.bool false]) (by simp[results,Tryz.results256,go_sem,aM,zeroV,z0,z1,z2,z3,z4,z5]) rfl ?_;exact⟨zeroV,false,rfl,.inr ⟨rfl,rfl,λU hj=>ab⟩,(ad.refl w).alloc _⟩
 have hd:decide (i<0)=false:=ql4 h0;obtain⟨U,rfl⟩:∃ U:Nat,i=U:=⟨i.toNat,ab⟩;rcases R6 U n with h1|h1
 ·have hU:decide ((n:Int)<=(U:Int))=false:=ql4 ab;obtain⟨x,hx⟩:∃ x,l[U]? =some x:=⟨_,jc (by rw[HN.o];exact h1)⟩;obtain⟨b,off,rfl,hb,hc⟩:=HV.o.af hx;have HX:=aa hx;obtain⟨x0,x1,x2,x3,x4,x5,x6,x7,x8⟩:=x;obtain⟨c0,c1,c2,c3,c4,c5⟩:=o5 hc;clear hx hc;go_wp2;obtain⟨z0,z1,z2,z3,z4,z5,_,_⟩:=((ns w).all (.string x0) (.string x1) (.bool x2) (.int .i64 x3) (.int .i64 x4) (.slice x5 x6 x7)).cells;refine KV (v:= .tuple #[aM ⟨x0,x1,x2,x3,x4,x5,x6,x7,x8⟩,.bool true]) (by simp[results,Tryz.results256,go_sem,aM,z0,z1,z2,z3,z4,z5]) rfl ?_;exact⟨_,.inr ⟨rfl,.inl ⟨rfl,U,rfl,HX.o⟩,al⟩⟩
 ·have hU:decide ((n:Int)<=(U:Int))=true:=ql3 ab;go_in;go_wp2_with fail
  obtain⟨z0,z1,z2,z3,z4,z5,_,_⟩:=(ns w).cells;refine KV (v:= .tuple #[aM zeroV,.bool false]) (by simp[results,Tryz.results256,go_sem,aM,zeroV,z0,z1,z2,z3,z4,z5]) rfl ?_;exact⟨zeroV,.inl ⟨rfl,.inr ⟨rfl,rfl,λk hk=>by rw[List.getElem?_eq_none];rw[HN.o];omega⟩,(ad.refl w).alloc _⟩⟩
theorem To (v:Value) (l:List ax) (w:World) (hv:Rw w 48 6 a8 v l):
  Calls Tryz.prog 200 #[v] w λe w'=>∃ x b,e= .returned (.tuple #[aM x,.bool b])/\Told l ((l.length:Int)-1) x b/\ad w w':=by
 obtain⟨A,c,rfl,bl,bQ⟩:=hv.form;have HV:=aa hv;clear hv;go_in;go_wp2_with fail
 refine(LW _ l _ _ (HV.o.kept al)).mono ?_;rintro e w1 ⟨x,b,rfl,ht,k1⟩;have HT:=aa ht;have VV:=VB.but (ns w) (ah.ar (S:=[]) k1) ao;obtain⟨z0,z1,z2,z3,z4,z5,zf,_⟩:=VV.cells;have K1:ad w w1:=ad.call al k1;have f0:=zf 0;have f1:=zf 1;have f2:=zf 2;have f3:=zf 3;have f4:=zf 4;have f5:=zf 5;obtain⟨x0,x1,x2,x3,x4,x5,x6,x7,x8⟩:=x;unfold aM;clear k1 zf ht;go_wp2;obtain⟨z0,z1,z2,z3,z4,z5,_,_⟩:=(VV.all (.string x0) (.string x1) (.bool x2) (.int .i64 x3) (.int .i64 x4) (.slice x5 x6 x7)).cells;refine KV (v:= .tuple #[aM ⟨x0,x1,x2,x3,x4,x5,x6,x7,x8⟩,.bool b]) (by simp[results,Tryz.results200,go_sem,aM,z0,z1,z2,z3,z4,z5]) rfl ?_;exact⟨_,b,rfl,HT.o,ad.but K1 (ah.all w.heap.size _ _ _ _ _ _) ao⟩
end Go.Proofs.YtehaoggjlciobaaGreat

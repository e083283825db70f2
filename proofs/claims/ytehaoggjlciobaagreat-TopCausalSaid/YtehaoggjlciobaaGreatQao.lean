/- Part 11 of 40. -/
import Derived.Test.YtehaoggjlciobaaGreatQam
import Derived.Maps.Views
import Derived.Maps.Own
import Derived.Maps.OwnSet
import Derived.Maps.RangeWalk
set_option linter.all false
set_option maxRecDepth 20000
set_option maxHeartbeats 16000000
namespace Go.Proofs.YtehaoggjlciobaaGreat
open Go.RowKit Go.Maps Go.Proofs.Tryz
variable {k s:ByteArray} {L:ByteArray->List ax} {D:DataW Value} {B B2:Int} {S X:List Nat} {own:List Rg} {l:List ax} {R a b hb i mb n:Nat} {v x0 x1 x2 x3 x4 x5:Value} {w2:World} {x:ax}
def kB (w:World) (R:Nat) (s:ByteArray) (a:Nat):Prop:=w.heap[R]? =some (.cells #[.string s,.int .i64 (a:Int),.bool false] 242 (0,0))
theorem kB.but {w:World} (h:kB w R s a) (hk:ah S w w2) (hn:R∉S):kB w2 R s a:=hk.heap h hn
theorem kB.kept {w:World} (h:kB w R s a) (hk:ad w w2):kB w2 R s a:=hk.heap h
theorem kB.cells {w:World} (h:kB w R s a):w.cell? ⟨R,0,none⟩=some (.string s)/\w.cell? ⟨R,1,none⟩=some (.int .i64 (a:Int))/\w.cell? ⟨R,2,none⟩=some (.bool false)/\(∀ qD,w.frozen? ⟨R,qD,none⟩=false)/\R<w.heap.size:=
 ⟨aE h 0,aE h 1,aE h 2,aI h,(aQ h)⟩
theorem LL (R:Nat) (s:ByteArray) (a b:Nat) (w:World) (h:kB w R s a):
  Calls prog 181 #[.pointer (some ⟨R,0,none⟩),.int .i64 (b:Int),.bool true] w λe w'=>e= .returned (.tuple #[])/\kB w' R s b/\ah [R] w w':=by
 obtain⟨c0,c1,c2,hf,an⟩:=h.cells;have f1:=hf 1;have f2:=hf 2;have H:=aa h;clear h hf;go_in;go_wp2_with fail
 go_end0
 refine⟨rfl,?_,by exact hD⟩;have h:=H.o;unfold kB at h⊢;simp[World.setCell,Array.getElem?_modify,h]
theorem Tb (R:Nat) (s k:ByteArray) (a b:Nat) (da:Int) (w:World) (h:kB w R s a) (hs:s.size<=1099511627776) (hp:(eB k).data.toList <+: s.data.toList.drop a) (hm:(k.size:Int)<=da) (gd:da<=9223372036854775807) (hb:a+(eB k).data.toList.length=b):
  Calls prog 177 #[.pointer (some ⟨R,0,none⟩),.int .i64 da] w λe w'=>e= .returned (.string k)/\kB w' R s b/\ah [R] w w':=by
 obtain⟨c0,c1,c2,hf,an⟩:=h.cells;have H:=aa h;have HP:=aa hp;have HB:=aa hb;clear h hp hb hf;go_wp2;refine bz (λwB=>ad w wB/\wB.cell? ⟨R,0,none⟩=some (.string s)/\wB.cell? ⟨R,1,none⟩=some (.int .i64 (a:Int))) λwB SS=> ?_;obtain⟨au,aB,aC⟩:=SS.o _ (ad.refl _);repeat(apply DW.ct;(focus (intro wd hI;obtain⟨ae,ai,aj⟩:=SS.o wd hI;go_wp2_with (go_at_call 238;refine(LF s k a da (b:Nat) _ hs HP.o hm gd (by rw[HB.o])).mono ?_;rintro e w5 ⟨rfl,k5⟩);exact aP));refine DW.np ?_)
 refine DW.nl SS ?_;rintro wd hI ⟨ae,ai,aj⟩;go_wp2_with fail
 refine(LL R s a b _ (H.o.kept ae)).mono ?_;rintro e w6 ⟨rfl,h6,k6⟩;have H6:=aa h6;clear h6;go_wp2;go_ret;exact⟨rfl,H6.o,(ah.ar ae).trans k6⟩
theorem qdw (R:Nat) (s:ByteArray) (n a b:Nat) (w:World) (h:kB w R s a) (hs:s.size<=1099511627776) (hp:enc n <+: s.data.toList.drop a) (hm:n<=1) (hb:a+(enc n).length=b):
  Calls prog 178 #[.pointer (some ⟨R,0,none⟩),.int .u64 1] w λe w'=>e= .returned (.int .i64 n)/\kB w' R s b/\ah [R] w w':=by
 obtain⟨c0,c1,c2,hf,an⟩:=h.cells;have H:=aa h;have HP:=aa hp;have HB:=aa hb;clear h hp hb hf;have mR:(a:Int)+((enc n).length:Nat)=(b:Int):=by rw[<- HB.o];omega
 have hmi:(n:Int)<=1:=ab;have GP:decide ((n:Int)<=1)=true:=ql3 hmi;go_wp2;refine bz (λwB=>ad w wB/\wB.cell? ⟨R,0,none⟩=some (.string s)/\wB.cell? ⟨R,1,none⟩=some (.int .i64 (a:Int))) λwB SS=> ?_;obtain⟨au,aB,aC⟩:=SS.o _ (ad.refl _);repeat(apply DW.ct;(focus (intro wd hI;obtain⟨ae,ai,aj⟩:=SS.o wd hI;go_wp2_with (go_at_call 239;refine(Lt s a a n _ _ hs rfl ab HP.o rfl).mono ?_;rw[mR];rintro e w5 ⟨rfl,k5⟩);exact aP));refine DW.np ?_)
 refine DW.nl SS ?_;rintro wd hI ⟨ae,ai,aj⟩;go_wp2_with fail
 refine(LL R s a b _ (H.o.kept ae)).mono ?_;rintro e w6 ⟨rfl,h6,k6⟩;obtain⟨y0,y1,y2,_,_⟩:=h6.cells;have H6:=aa h6;clear h6;go_wp2;go_ret;exact⟨by congr 2,H6.o,(ah.ar ae).trans k6⟩
theorem qdx (R:Nat) (s:ByteArray) (a:Nat) (w:World) (h:kB w R s a) (ha:a=s.size):
  Calls prog 182 #[.pointer (some ⟨R,0,none⟩)] w λe w'=>e= .returned (.bool true)/\ad w w':=by
 obtain⟨c0,c1,c2,hf,an⟩:=h.cells;subst ha;clear h hf;go_wp2;refine bz (λwB=>ad w wB/\wB.cell? ⟨R,0,none⟩=some (.string s)/\wB.cell? ⟨R,1,none⟩=some (.int .i64 (s.size:Int))/\wB.cell? ⟨R,2,none⟩=some (.bool false)) λwB SS=> ?_;repeat refine DW.dt ?_
 refine DW.nl SS ?_;rintro wd hI ⟨ae,ai,aj,aq⟩;go_wp2;go_ret;exact⟨rfl,ae⟩
theorem qdy {s:Nat} (h:fu (n:Int) (s:Int)=true):1<=n/\n<=1099511627776/\s<6:=by
 have:=qck h;omega
def VB (w:World) (b:Nat) (x0 x1 x2 x3 x4 x5:Value):Prop:=w.heap[b]? =some (.cells #[x0,x1,x2,x3,x4,x5] 48 (0,0))
theorem VB.cells {w:World} (h:VB w b x0 x1 x2 x3 x4 x5):w.cell? ⟨b,0,none⟩=some x0/\w.cell? ⟨b,1,none⟩=some x1/\w.cell? ⟨b,2,none⟩=some x2/\w.cell? ⟨b,3,none⟩=some x3/\w.cell? ⟨b,4,none⟩=some x4/\w.cell? ⟨b,5,none⟩=some x5/\(∀ qD,w.frozen? ⟨b,qD,none⟩=false)/\b<w.heap.size:=
 ⟨aE h 0,aE h 1,aE h 2,aE h 3,aE h 4,aE h 5,aI h,(aQ h)⟩
theorem VB.but {w:World} (h:VB w b x0 x1 x2 x3 x4 x5) (k:ah S w w2) (hn:b∉S):VB w2 b x0 x1 x2 x3 x4 x5:=k.heap h hn
theorem VB.s0 {w:World} (h:VB w b x0 x1 x2 x3 x4 x5) (v:Value):VB (w.setCell ⟨b,0,none⟩ v) b v x1 x2 x3 x4 x5:=by
 unfold VB at h⊢;simp[World.setCell,Array.getElem?_modify,h]
theorem VB.s1 {w:World} (h:VB w b x0 x1 x2 x3 x4 x5) (v:Value):VB (w.setCell ⟨b,1,none⟩ v) b x0 v x2 x3 x4 x5:=by
 unfold VB at h⊢;simp[World.setCell,Array.getElem?_modify,h]
theorem VB.s2 {w:World} (h:VB w b x0 x1 x2 x3 x4 x5) (v:Value):VB (w.setCell ⟨b,2,none⟩ v) b x0 x1 v x3 x4 x5:=by
 unfold VB at h⊢;simp[World.setCell,Array.getElem?_modify,h]
theorem VB.s3 {w:World} (h:VB w b x0 x1 x2 x3 x4 x5) (v:Value):VB (w.setCell ⟨b,3,none⟩ v) b x0 x1 x2 v x4 x5:=by
 unfold VB at h⊢;simp[World.setCell,Array.getElem?_modify,h]
theorem VB.s4 {w:World} (h:VB w b x0 x1 x2 x3 x4 x5) (v:Value):VB (w.setCell ⟨b,4,none⟩ v) b x0 x1 x2 x3 v x5:=by
 unfold VB at h⊢;simp[World.setCell,Array.getElem?_modify,h]
theorem VB.zq {w:World} (h:VB w b x0 x1 x2 x3 x4 x5) (v:Value):VB (w.setCell ⟨b,5,none⟩ v) b x0 x1 x2 x3 x4 v:=by
 unfold VB at h⊢;simp[World.setCell,Array.getElem?_modify,h]
theorem ah.set {w:World} (b qD:Nat) (v:Value):ah [b] w (w.setCell ⟨b,qD,none⟩ v):=(ah.refl [b] w).setCell (.inl ao) v
theorem qdz (v:ax) (ds:List aD) (s:ByteArray) (w:World) (hb:s.data.toList=l9 v ds) (hk:Let v.key) (hd:∀ d∈ds,Let d.key) (hc:WC v ds) (hs:s.size<=1099511627776):
  Calls prog 108 #[.string s] w λe w'=>∃ pa pn pc,e= .returned (.tuple #[aM {v with pa:=pa,pn:=pn,pc:=pc},.bool true])/\r' w' {v with pa:=pa,pn:=pn,pc:=pc} ds/\ad w w':=by
 obtain⟨key,val,gone,n,st,pa0,pn0,pc0,LB⟩:=v;have aV:=qck hc.1;obtain⟨N,rfl⟩:∃ N:Nat,n=N:=⟨n.toNat,by simp only at aV;omega⟩;obtain⟨M,rfl⟩:∃ M:Nat,st=M:=⟨st.toNat,by simp only at aV;omega⟩;have hN:=qdy hc.1;have kV:key.size=1:=by obtain⟨c,_,_,h⟩:=hk;simp only at h;rw[h];rfl
 have eh:val.size<=32:=hc.2.2.1;have Tc:PC ds:=hc.2.1;simp only[l9]at hb;simp only;simp only[Int.toNat_natCast]at hb;obtain⟨bj,kC⟩:=eqQ (0+(eB key).data.toList.length);obtain⟨a2,gg⟩:=eqQ (bj+(enc (tv gone)).length);obtain⟨a3,LM⟩:=eqQ (a2+(eB val).data.toList.length);obtain⟨a4,LN⟩:=eqQ (a3+(iD N M).length);obtain⟨a5,Td⟩:=eqQ (a4+(kA ds).length);have p0:(eB key).data.toList++(enc (tv gone)++((eB val).data.toList++(iD N M++kA ds))) <+: s.data.toList.drop 0:=by rw[List.drop_zero,hb];exact List.prefix_refl _
 have p1:=xF p0;rw[kC]at p1;have p2:=xF p1;rw[gg]at p2;have p3:=xF p2;rw[LM]at p3;have p4:=xF p3;rw[LN]at p4
 have hz:a5=s.size:=by
  have h:=congrArg List.length hb;simp only[zH,Af]at h;have e1:(eB key).data.toList.length=(eB key).size:=rfl;have e2:(eB val).data.toList.length=(eB val).size:=rfl;omega
 have qdA:=aa (vh p0);have qdB:=aa (vh p1);have qdC:=aa (vh p2);have qdD:=aa (vh p3);have qdE:=aa p4;have A1:=aa kC;have A2:=aa gg;have A3:=aa LM;have A4:=aa LN;have A5:=aa Td;have HZ:=aa hz;have HK:=aa hk;have HD:=aa hd;have GQ:=aa Tc;have HC:=aa hc;have o7:tv gone<=1:=by unfold tv;split <;>omega
 have rQ:(((tv gone:Nat):Int)==1)=gone:=by cases gone <;>rfl
 clear hb aV p0 p1 p2 p3 p4 kC gg LM LN Td hz hk hd Tc hc;obtain⟨W0,gh⟩:=eqR ((w.alloc (.cells #[.string ⟨#[]⟩,.string ⟨#[]⟩,.bool false,.int .i64 0,.int .i64 0,.slice none 0 0] 48)).alloc (.cells #[.string s,.int .i64 0,.bool false] 242))
 have R0:ag (kB W0 (w.heap.size+1) s 0):=by
  have h:=yY (w.alloc (.cells #[.string ⟨#[]⟩,.string ⟨#[]⟩,.bool false,.int .i64 0,.int .i64 0,.slice none 0 0] 48)) (.cells #[.string s,.int .i64 0,.bool false] 242);rw[World.size_alloc,<- gh]at h;exact h
 have V0:ag (VB W0 w.heap.size (.string ⟨#[]⟩) (.string ⟨#[]⟩) (.bool false) (.int .i64 0) (.int .i64 0) (.slice none 0 0)):=by
  rw[gh];exact((ad.refl _).alloc _).heap (yY w _)
 have K0:ad w W0:=by rw[gh];exact al
 go_in;go_wp2_with fail
 rw[<- gh];clear gh;refine(Tb (w.heap.size+1) s key 0 bj 32 _ R0.o hs qdA.o ab ab A1.o).mono ?_;rintro e w1 ⟨rfl,h1,k1⟩;obtain⟨y0,y1,y2,Df,qkS⟩:=h1.cells;have H1:=aa h1;have V1:=aa (V0.o.but k1 ao);have K1:ad w w1:=ad.but K0 k1 ao;clear h1 Df k1 K0 R0 V0;obtain⟨B,hB⟩:=eqQ w1.heap.size;have xH:ag (VB (w1.alloc (.cells #[.string key,.string ⟨#[]⟩,.bool false,.int .i64 0,.int .i64 0,.slice none 0 0] 48)) B (.string key) (.string ⟨#[]⟩) (.bool false) (.int .i64 0) (.int .i64 0) (.slice none 0 0)):=by rw[<- hB];exact yY w1 _
 have Sz:w.heap.size+1<B:=ab;go_wp2_with fail
 obtain⟨W1,eZ⟩:=eqR (w1.alloc (.cells #[.string key,.string ⟨#[]⟩,.bool false,.int .i64 0,.int .i64 0,.slice none 0 0] 48));have wX:ad w1 W1:=by rw[eZ];exact(ad.refl w1).alloc _
 rw[<- eZ]at xH⊢;clear eZ y0 y1 y2 hB;refine(qdw (w.heap.size+1) s (tv gone) bj a2 _ (H1.o.kept wX) hs qdB.o o7 A2.o).mono ?_;rintro e w2 ⟨rfl,h2,k2⟩;obtain⟨y0,y1,y2,Df,yl2⟩:=h2.cells;have H2:=aa h2;have V2:=aa ((V1.o.but (ah.ar (S:=[]) wX) ao).but k2 ao);have B2:=xH.o.but k2 (by simp;omega);have K2:ad w w2:=ad.but (K1.call wX) k2 ao;obtain⟨b0,b1,b2,ck,iV,dB,pu,xI⟩:=B2.cells;have bf2:=pu 2;clear h2 Df k2 K1 wX H1 V1 xH pu;go_wp2_with fail
 obtain⟨W2,fw⟩:=eqR (w2.setCell ⟨B,2,none⟩ (.bool gone));have b2:ah [B] w2 W2:=by rw[fw];exact ah.set B 2 _
 have LO:=B2.s2 (.bool gone);rw[<- fw]at LO;have Te:=aa (H2.o.but b2 (by simp;omega));have Tf:=aa (V2.o.but b2 (by simp;omega));have Tg:ad w W2:=ad.but K2 b2 (by simp;omega);rw[<- fw];clear fw B2 H2 V2 K2 b0 b1 b2 ck iV dB bf2 xI y0 y1 y2;refine(Tb (w.heap.size+1) s val a2 a3 32 _ Te.o hs qdC.o ab ab A3.o).mono ?_;rintro e w3 ⟨rfl,h3,k3⟩;obtain⟨y0,y1,y2,Df,yl3⟩:=h3.cells;have H3:=aa h3;have V3:=aa (Tf.o.but k3 ao);have B3:=LO.but k3 (by simp;omega);have K3:ad w w3:=ad.but Tg k3 ao;obtain⟨b0,b1,b2,ck,iV,dB,pu,xI⟩:=B3.cells;have bf1:=pu 1;clear h3 Df k3 Tg Te Tf LO pu;go_wp2_with fail
 obtain⟨W3,db⟩:=eqR (w3.setCell ⟨B,1,none⟩ (.string val));have ck:ah [B] w3 W3:=by rw[db];exact ah.set B 1 _
 have GR:=B3.s1 (.string val);rw[<- db]at GR;have Th:=aa (H3.o.but ck (by simp;omega));have Ti:=aa (V3.o.but ck (by simp;omega));have Tj:ad w W3:=ad.but K3 ck (by simp;omega);rw[<- db];clear db B3 H3 V3 K3 b0 b1 b2 ck iV dB bf1 xI y0 y1 y2;refine(S8 s a3 N M (a4:Nat) _ hs qdD.o ab ab ab (by rw[A4.o])).mono ?_;rintro e w4 ⟨rfl,k4⟩;have hBl:B<W3.heap.size:=(aQ GR);have H4:=aa (Th.o.kept k4);have V4:=aa (Ti.o.but (ah.ar (S:=[]) k4) ao);have Dg:=GR.but (ah.ar (S:=[]) k4) ao;have K4:ad w w4:=Tj.call k4;have oy:=k4.size;clear k4 Tj Th Ti GR;go_wp2_with fail
 have hT:(w4.alloc (.cells #[.int .i64 N,.int .i64 M] 45)).heap[w4.heap.size]? =some (.cells #[.int .i64 N,.int .i64 M] 45 (0,0)):=yY w4 _;refine(pread s a4 ds _ hs HD.o GQ.o qdE.o).mono ?_;rintro e w5 ⟨pv,rfl,bU,k5⟩;obtain⟨A,c,rfl,_,_⟩:=bU.form;have LP:=k5.heap hT;have t0:w5.cell? ⟨w4.heap.size,0,none⟩=some (.int .i64 N):=aE LP 0;have t1:w5.cell? ⟨w4.heap.size,1,none⟩=some (.int .i64 M):=aE LP 1;have qM:ad w4 w5:=ad.call ((ad.refl w4).alloc _) k5;have H5:=aa (H4.o.kept qM);have V5:=aa (V4.o.but (ah.ar (S:=[]) qM) ao);have B5:=Dg.but (ah.ar (S:=[]) qM) ao;have K5:ad w w5:=K4.call qM;have pw:=qM.size;have cN:=aa bU;obtain⟨b0,b1,b2,ck,iV,dB,pu,xI⟩:=B5.cells;have bf3:=pu 3;have bf4:=pu 4;have bf5:=pu 5;rw[A5.o];clear hT LP k5 qM K4 H4 V4 Dg bU pu;go_wp2_with fail
 obtain⟨W5,jZ⟩:=eqR (((w5.setCell ⟨B,3,none⟩ (.int .i64 N)).setCell ⟨B,4,none⟩ (.int .i64 M)).setCell ⟨B,5,none⟩ (.slice A ds.length c));have dB:ah [B] w5 W5:=by rw[jZ];exact((ah.set B 3 _).trans (ah.set B 4 _)).trans (ah.set B 5 _)
 have LQ:=((B5.s3 (.int .i64 N)).s4 (.int .i64 M)).zq (.slice A ds.length c);rw[<- jZ]at LQ;have LR:=aa (H5.o.but dB (by simp;omega));have Tk:=aa (V5.o.but dB (by simp;omega));have Tl:ad w W5:=ad.but K5 dB (by simp;omega)
 have Tm:=aa (cN.o.fr (Fr.gn (P:=(· =60)) dB (λs hs cur e he=>by
  simp only[At]at hs;rw[hs,show w5.heap[B]? =_ from B5]at he;simp only[Option.some.injEq,Obj.cells.injEq]at he;rw[<- he.2.1];decide)) rfl)
 rw[<- jZ];clear jZ B5 H5 V5 K5 b0 b1 b2 ck iV bf3 bf4 bf5 xI dB cN t0 t1;refine(LL (w.heap.size+1) s a3 a5 _ LR.o).mono ?_;rintro e w6 ⟨rfl,h6,k6⟩;have H6:=aa h6;have V6:=aa (Tk.o.but k6 ao);have B6:=LQ.but k6 (by simp;omega);have K6:ad w w6:=ad.but Tl k6 ao
 have GS:=aa (Tm.o.fr (Fr.gn (P:=(· =60)) k6 (λs hs cur e he=>by
  simp only[At]at hs;rw[hs,show W5.heap[w.heap.size+1]? =_ from LR.o]at he;simp only[Option.some.injEq,Obj.cells.injEq]at he;rw[<- he.2.1];decide)) rfl)
 clear h6 k6 LR Tk LQ Tl Tm;go_wp2_with fail
 refine(qdx (w.heap.size+1) s a5 _ H6.o HZ.o).mono ?_;rintro e w7 ⟨rfl,nr⟩;have V7:=aa (V6.o.but (ah.ar (S:=[]) nr) ao);have B7:=B6.but (ah.ar (S:=[]) nr) ao;have K7:ad w w7:=K6.call nr;have LS:=aa (GS.o.kept nr);obtain⟨b0,b1,b2,ck,iV,dB,pu,xI⟩:=B7.cells;clear nr V6 B6 K6 GS H6 pu;go_wp2_with fail
 refine(C9 ⟨key,val,gone,N,M,A,ds.length,c,LB⟩ ds _ HK.o LS.o HD.o (by have:=GQ.o.2;omega) (by simp only;omega)).mono ?_;rintro e w8 ⟨b,rfl,hb,k8⟩;obtain rfl:b=true:=hb.2 HC.o;have V8:=V7.o.but (ah.ar (S:=[]) k8) ao;have qdF:=B7.but (ah.ar (S:=[]) k8) ao;have K8:ad w w8:=K7.call k8;have qdG:=aa (LS.o.kept k8);obtain⟨c0,c1,c2,c3,c4,c5,Gh,cl⟩:=qdF.cells;obtain⟨v0,v1,v2,v3,v4,v5,xJ,vl⟩:=V8.cells;have vf0:=xJ 0;have vf1:=xJ 1;have vf2:=xJ 2;have vf3:=xJ 3;have vf4:=xJ 4;have vf5:=xJ 5;clear hb k8 K7 LS B7 V7 b0 b1 b2 ck iV dB xI xJ Gh;go_wp2;obtain⟨z0,z1,z2,z3,z4,z5,_,_⟩:=((((((V8.s0 (.string key)).s1 (.string val)).s2 (.bool gone)).s3 (.int .i64 N)).s4 (.int .i64 M)).zq (.slice A ds.length c)).cells
 have jA:ah [w.heap.size] w8 ((((((w8.setCell ⟨w.heap.size,0,none⟩ (.string key)).setCell ⟨w.heap.size,1,none⟩ (.string val)).setCell ⟨w.heap.size,2,none⟩ (.bool gone)).setCell ⟨w.heap.size,3,none⟩ (.int .i64 N)).setCell ⟨w.heap.size,4,none⟩ (.int .i64 M)).setCell ⟨w.heap.size,5,none⟩ (.slice A ds.length c)):=
  (((((ah.set _ 0 _).trans (ah.set _ 1 _)).trans (ah.set _ 2 _)).trans (ah.set _ 3 _)).trans (ah.set _ 4 _)).trans (ah.set _ 5 _)
 refine KV (v:= .tuple #[.agg #[.string key,.string val,.bool gone,.int .i64 N,.int .i64 M,.slice A ds.length c],.bool true]) (by simp[results,results108,go_sem,z0,z1,z2,z3,z4,z5]) rfl ?_;refine⟨A,ds.length,c,rfl,?_,ad.but K8 jA ao⟩
 exact qdG.o.fr (Fr.gn (P:=(· =60)) jA (λs hs cur e he=>by
  simp only[At]at hs;rw[hs,show w8.heap[w.heap.size]? =_ from V8]at he;simp only[Option.some.injEq,Obj.cells.injEq]at he;rw[<- he.2.1];decide)) rfl
structure b7 (w:World) (B:Int) (v:ax):Prop where
 key:Let v.key
 n:v.n<=B
 jB:r' w v v.ds
 cg:b9 v.ds
 gR:∀ d∈v.ds,d.n<=B
 wc:WC v v.ds
theorem b7.kept {w:World} {v:ax} (h:b7 w B v) (hk:ad w w2):b7 w2 B v:=⟨h.key,h.n,h.jB.kept hk,h.cg,h.gR,h.wc⟩
theorem b7.mono {w:World} {v:ax} (h:b7 w B v) (hB:B<=B2):b7 w B2 v:=⟨h.key,Int.le_trans h.n hB,h.jB,h.cg,λd hd=>Int.le_trans (h.gR d hd) hB,h.wc⟩
def lf (a b:ax):Prop:=c8 a.n a.s b.n b.s=true
structure dc (w:World) (B:Int) (k:ByteArray) (v:Value) (l:List ax):Prop where
 row:Rw w 48 6 a8 v l
 iG:∀ x∈l,b7 w B x/\x.key=k
 sd:l.Pairwise lf
theorem dc.kept {w:World} (h:dc w B k v l) (hk:ad w w2):dc w2 B k v l:=
 ⟨h.row.kept hk,λx hx=>⟨(h.iG x hx).1.kept hk,(h.iG x hx).2⟩,h.sd⟩
theorem dc.mono {w:World} (h:dc w B k v l) (hB:B<=B2):dc w B2 k v l:=
 ⟨h.row,λx hx=>⟨(h.iG x hx).1.mono hB,(h.iG x hx).2⟩,h.sd⟩
theorem LU (B:Nat):∀ (l:List ax) (m:Nat),l.Pairwise lf->(∀ x∈l,fu x.n x.s=true/\x.n<=B/\(m:Int)<=x.n*6+x.s)->l.length<=6*B+6-m
 |[],m,_,_=>ao
 |a::t,m,h,hx=>by
  obtain⟨h1,h2⟩:=List.pairwise_cons.1 h;obtain⟨hc,hb,hm⟩:=hx a ao;have hc:=qck hc
  have:=LU B t (a.n*6+a.s+1).toNat h2 λx Tn=>by
   obtain⟨eW,Fv,_⟩:=hx x (zM _ Tn);have hl:=qck (h1 x Tn);have cz:=qck eW;refine⟨eW,Fv,?_⟩;omega
  rw[List.length_cons];omega
theorem dc.len {w:World} (h:dc w B k v l) (hB:0<=B) (h9:B<=100000000000):l.length<=1000000000000:=by
 have:=LU B.toNat l 0 h.sd λx hx=>by
  have h3:=(h.iG x hx).1;have h2:=h3.n;have hc:=qck h3.wc.1;exact⟨h3.wc.1,ab,ab⟩
 omega
theorem qdH (x:ax) (n s:Int) (P:Nat) (w:World) (c0:w.cell? ⟨P,0,none⟩=some (.int .i64 n)) (c1:w.cell? ⟨P,1,none⟩=some (.int .i64 s)):
  Calls prog 307 #[aM x,.pointer (some ⟨P,0,none⟩)] w λe w'=>∃ b,e= .returned (.bool b)/\b= !c8 x.n x.s n s/\ad w w':=by
 have hP:P<w.heap.size:=Aa w _ c0;unfold aM;go_in;go_wp2_with fail
 refine(qw x.n x.s n s _).mono ?_;rintro e w1 ⟨rfl,k1⟩;go_wp2;go_ret;exact⟨_,rfl,rfl,ad.call al k1⟩
structure xK (l:List ax) (n s:Int) (i:Nat):Prop where
 le:i<=l.length
 below:∀ U a,U<i->l[U]? =some a->c8 a.n a.s n s=true
 af:∀ a,l[i]? =some a->c8 a.n a.s n s=false
theorem LV (v:Value) (l:List ax) (n s:Int) (w:World) (hv:Rw w 48 6 a8 v l):
  Calls prog 281 #[v,.agg #[.int .i64 n,.int .i64 s]] w λe w'=>∃ i:Nat,e= .returned (.int .i64 i)/\xK l n s i/\ad w w':=by
 obtain⟨A,c,rfl,bl,bQ⟩:=hv.form;have iS:∀ fn first cap w,(Instr.makeFunc fn first cap).run prog w= .ok (.func fn first cap) w:=λ_ _ _ _=>rfl
 have HV:=aa hv;clear hv;obtain⟨W,hW⟩:=eqR (w.alloc (.cells #[.int .i64 n,.int .i64 s] 45));have HT:ag (fI [] W 307 #[.pointer (some ⟨w.heap.size,0,none⟩)] aM l (λa b=>b= !c8 a.n a.s n s)):=⟨λargs w=>enters_of func307 av rfl args w,λW1 h1 d _=>qdH d n s w.heap.size W1 (h1.kept.af (by rw[hW];go_simp)) (h1.kept.af (by rw[hW];go_simp))⟩;have HK:ag (ad w W):=by rw[hW];exact(ad.refl w).alloc _
 go_in;go_wp2_with fail
 rw[<- hW];refine(FL _ l _ _ _ W (HV.o.kept HK.o) [] HT.o).mono ?_;rintro e w1 ⟨r,rfl,hr,k1⟩
 have b3:(r= -1/\xK l n s l.length)∨∃ i:Nat,r=i/\xK l n s i:=by
  rcases hr with ⟨rfl,h⟩|⟨i,a,rfl,hi,ha,h⟩
  ·refine .inl ⟨rfl,CP _,λU a _ hj=> ?_,λa ha=> ?_⟩
   ·have:=h a (zV hj);simpa using this
   ·have:=(bg ha);omega
  ·refine .inr ⟨i,rfl,Nat.le_of_lt (bg hi),λU b hj hb=> ?_,λb hb=> ?_⟩
   ·have:=h U b hj hb;simpa using this
   ·rw[hi]at hb;injection hb with hb;rw[<- hb];simpa using ha
 clear hr HT iS;rcases b3 with ⟨rfl,hf⟩|⟨i,rfl,hf⟩
 ·have HF:=aa hf;clear hf;go_wp2;go_ret;exact⟨_,rfl,HF.o,HK.o.call k1⟩
 ·have HF:=aa hf;clear hf;have an:decide ((i:Int)<0)=false:=ao;go_wp2;go_ret;exact⟨_,rfl,HF.o,HK.o.call k1⟩
def zeroV:ax:=⟨⟨#[]⟩,⟨#[]⟩,false,0,0,none,0,0,[]⟩
theorem ns (w:World):VB (w.alloc (.cells #[.string ⟨#[]⟩,.string ⟨#[]⟩,.bool false,.int .i64 0,.int .i64 0,.slice none 0 0] 48)) w.heap.size (.string ⟨#[]⟩) (.string ⟨#[]⟩) (.bool false) (.int .i64 0) (.int .i64 0) (.slice none 0 0):=yY w _
theorem VB.all {w:World} (h:VB w b x0 x1 x2 x3 x4 x5) (y0 y1 y2 y3 y4 y5:Value):VB ((((((w.setCell ⟨b,0,none⟩ y0).setCell ⟨b,1,none⟩ y1).setCell ⟨b,2,none⟩ y2).setCell ⟨b,3,none⟩ y3).setCell ⟨b,4,none⟩ y4).setCell ⟨b,5,none⟩ y5) b y0 y1 y2 y3 y4 y5:=(((((h.s0 y0).s1 y1).s2 y2).s3 y3).s4 y4).zq y5
theorem ah.all {w:World} (b:Nat) (y0 y1 y2 y3 y4 y5:Value):ah [b] w ((((((w.setCell ⟨b,0,none⟩ y0).setCell ⟨b,1,none⟩ y1).setCell ⟨b,2,none⟩ y2).setCell ⟨b,3,none⟩ y3).setCell ⟨b,4,none⟩ y4).setCell ⟨b,5,none⟩ y5):=
 (((((ah.set _ 0 _).trans (ah.set _ 1 _)).trans (ah.set _ 2 _)).trans (ah.set _ 3 _)).trans (ah.set _ 4 _)).trans (ah.set _ 5 _)
def Told (l:List ax) (i:Int) (v:ax) (b:Bool):Prop:=(b=true/\∃ U:Nat,i=U/\l[U]? =some v)∨(b=false/\v=zeroV/\∀ U:Nat,i=U->l[U]? =none)
theorem LW (v:Value) (l:List ax) (i:Int) (w:World) (hv:Rw w 48 6 a8 v l):
  Calls prog 256 #[v,.int .i64 i] w λe w'=>∃ x b,e= .returned (.tuple #[aM x,.bool b])/\Told l i x b/\ad w w':=by
 obtain⟨A,c,rfl,bl,bQ⟩:=hv.form;have HV:=aa hv;obtain⟨n,hn⟩:=eqQ l.length;have HN:=aa hn;rw[hn]at HV bl⊢;clear hv hn;rcases Decidable.em (i<0)with h0|h0
 ·have hd:decide (i<0)=true:=ql3 h0;go_wp2;obtain⟨z0,z1,z2,z3,z4,z5,_,_⟩:=(ns w).cells;refine KV (v:= .tuple #[aM zeroV,.bool false]) (by simp[results,results256,go_sem,aM,zeroV,z0,z1,z2,z3,z4,z5]) rfl ?_;exact⟨zeroV,false,rfl,.inr ⟨rfl,rfl,λU hj=>ab⟩,(ad.refl w).alloc _⟩
 have hd:decide (i<0)=false:=ql4 h0;obtain⟨U,rfl⟩:∃ U:Nat,i=U:=⟨i.toNat,ab⟩;rcases R6 U n with h1|h1
 ·have hU:decide ((n:Int)<=(U:Int))=false:=ql4 ab;obtain⟨x,hx⟩:=exQ l U (by rw[HN.o];exact h1);obtain⟨b,off,rfl,hb,hc⟩:=HV.o.af hx;have HX:=aa hx;obtain⟨x0,x1,x2,x3,x4,x5,x6,x7,x8⟩:=x;obtain⟨c0,c1,c2,c3,c4,c5⟩:=o5 hc;clear hx hc;go_wp2;obtain⟨z0,z1,z2,z3,z4,z5,_,_⟩:=((ns w).all (.string x0) (.string x1) (.bool x2) (.int .i64 x3) (.int .i64 x4) (.slice x5 x6 x7)).cells;refine KV (v:= .tuple #[aM ⟨x0,x1,x2,x3,x4,x5,x6,x7,x8⟩,.bool true]) (by simp[results,results256,go_sem,aM,z0,z1,z2,z3,z4,z5]) rfl ?_;exact⟨_,.inr ⟨rfl,.inl ⟨rfl,U,rfl,HX.o⟩,al⟩⟩
 ·have hU:decide ((n:Int)<=(U:Int))=true:=ql3 ab;go_in;go_wp2_with fail
  obtain⟨z0,z1,z2,z3,z4,z5,_,_⟩:=(ns w).cells;refine KV (v:= .tuple #[aM zeroV,.bool false]) (by simp[results,results256,go_sem,aM,zeroV,z0,z1,z2,z3,z4,z5]) rfl ?_;exact⟨zeroV,.inl ⟨rfl,.inr ⟨rfl,rfl,λk hk=>by rw[List.getElem?_eq_none];rw[HN.o];omega⟩,(ad.refl w).alloc _⟩⟩
theorem To (v:Value) (l:List ax) (w:World) (hv:Rw w 48 6 a8 v l):
  Calls prog 200 #[v] w λe w'=>∃ x b,e= .returned (.tuple #[aM x,.bool b])/\Told l ((l.length:Int)-1) x b/\ad w w':=by
 obtain⟨A,c,rfl,bl,bQ⟩:=hv.form;have HV:=aa hv;clear hv;go_in;go_wp2_with fail
 refine(LW _ l _ _ (HV.o.kept al)).mono ?_;rintro e w1 ⟨x,b,rfl,ht,k1⟩;have HT:=aa ht;have VV:=VB.but (ns w) (ah.ar (S:=[]) k1) ao;obtain⟨z0,z1,z2,z3,z4,z5,zf,_⟩:=VV.cells;have K1:ad w w1:=ad.call al k1;have f0:=zf 0;have f1:=zf 1;have f2:=zf 2;have f3:=zf 3;have f4:=zf 4;have f5:=zf 5;obtain⟨x0,x1,x2,x3,x4,x5,x6,x7,x8⟩:=x;unfold aM;clear k1 zf ht;go_wp2;obtain⟨z0,z1,z2,z3,z4,z5,_,_⟩:=(VV.all (.string x0) (.string x1) (.bool x2) (.int .i64 x3) (.int .i64 x4) (.slice x5 x6 x7)).cells;refine KV (v:= .tuple #[aM ⟨x0,x1,x2,x3,x4,x5,x6,x7,x8⟩,.bool b]) (by simp[results,results200,go_sem,aM,z0,z1,z2,z3,z4,z5]) rfl ?_;exact⟨_,b,rfl,HT.o,ad.but K1 (ah.all w.heap.size _ _ _ _ _ _) ao⟩
theorem qdI {v:ax} (hs:l.Pairwise lf) (hf:xK l v.n v.s i) (aN:∀ a,l[i]? =some a->¬(a.n=v.n/\a.s=v.s)):(l.take i++v::l.drop i).Pairwise lf:=by
 have dp:=hs;rw[<- List.take_append_drop i l,List.pairwise_append]at dp;obtain⟨h1,h2,h3⟩:=dp
 have low:∀ a∈l.take i,lf a v:=λa ha=>by
  obtain⟨U,hj⟩:=qcl.1 ha;have fD:U<i:=by have:=(bg hj);rw[qcd]at this;omega
  rw[qlY fD]at hj;exact hf.below U a fD hj
 have high:∀ b∈l.drop i,lf v b:=λb hb=>by
  obtain⟨U,hj⟩:=qcl.1 hb;rw[List.getElem?_drop]at hj;have iQ:i<l.length:=by have:=(bg hj);omega
  obtain⟨a,ha⟩:=exQ l i iQ;have e1:=of_decide_eq_false (hf.af a ha);have e2:=aN a ha;have e3:lf v a:=by unfold lf c8;rw[decide_eq_true_iff];omega
  cases U with
  |zero=>rw[Nat.add_zero,ha]at hj;injection hj with hj;rw[<- hj];exact e3
  |succ k=>
   have e4:lf a b:=List.pairwise_iff_getElem.1 hs i (i+(k+1)) iQ (bg hj) ab |> λh=>by
    rwa [(pi.1 ha).2,(pi.1 hj).2]at h
   unfold lf c8 at e3 e4⊢;rw[decide_eq_true_iff]at e3 e4⊢;omega
 rw[List.pairwise_append];refine⟨h1,List.pairwise_cons.2 ⟨high,h2⟩,λa ha b hb=> ?_⟩;rcases KX.1 hb with rfl|hb
 ·exact low a ha
 ·exact h3 a ha b hb
def LX (l:List ax) (v:ax) (l':List ax) (b:Bool):Prop:=(b=false/\l'=l/\∃ x∈l,x.n=v.n/\x.s=v.s)∨(b=true/\∃ i,l'=l.take i++v::l.drop i)
theorem dc.put {w:World} {e6 Tp:Value} {v:ax} (h:dc w B v.key e6 l) (hk:ad w w2) (hv:b7 w B v) (hr:Rw w2 48 6 a8 Tp (l.take i++v::l.drop i)) (hf:xK l v.n v.s i) (aN:∀ a,l[i]? =some a->¬(a.n=v.n/\a.s=v.s)):dc w2 B v.key Tp (l.take i++v::l.drop i):=
 ⟨hr,λx hx=>by
  simp only[Pv,KX]at hx;rcases hx with hx|rfl|hx
  ·exact⟨(h.iG x (List.mem_of_mem_take hx)).1.kept hk,(h.iG x (List.mem_of_mem_take hx)).2⟩
  ·exact⟨hv.kept hk,rfl⟩
  ·exact⟨(h.iG x (List.mem_of_mem_drop hx)).1.kept hk,(h.iG x (List.mem_of_mem_drop hx)).2⟩,qdI h.sd hf aN⟩
theorem GU {p:Prop} (h:p:=by
  go_wp2;refine ku [0,2,3,1,4,5,6,7] [none,none,none,some (λu w'=>∃ b0,b0<=w'.heap.size/\w.heap.size<=b0/\w'.ownsRow b0 48 6 u l.length (l.flatMap a8)),some (λu w'=>∃ g,u= .slice (some ⟨g,0,none⟩) 1 1/\w'.heap[g]? =some (.cells (a8 v).toArray 48 (0,0)))] (λwB=>ad w wB/\wB.cell? ⟨w.heap.size,0,none⟩=some (.string v.key)/\wB.cell? ⟨w.heap.size,1,none⟩=some (.string v.val)/\wB.cell? ⟨w.heap.size,2,none⟩=some (.bool v.gone)/\wB.cell? ⟨w.heap.size,3,none⟩=some (.int .i64 v.n)/\wB.cell? ⟨w.heap.size,4,none⟩=some (.int .i64 v.s)/\wB.cell? ⟨w.heap.size,5,none⟩=some (.slice v.pa v.pn v.pc)) λwB SS=> ?_;iterate 3 refine SP.on ?_
  refine SP.ew ?_ λv1=> ?_
  ·intro wd hI hF;obtain⟨ae,ai,aj,aq,az,aK,a1⟩:=SS.o wd hI;clear hF;go_wp2_with ((go_at_call 251;refine(FP _ l _ (HC.o.row.kept ae) ab).mono ?_;rintro e w4 ⟨v4,rfl,h4,k4⟩));exact bn rfl ⟨_,k4.size,ae.size,h4⟩
  refine SP.ew ?_ λv2=> ?_
  ·intro wd hI hF;obtain⟨ae,ai,aj,aq,az,aK,a1⟩:=SS.o wd hI;clear hF;go_wp2;exact bn rfl ⟨_,rfl,yY _ _⟩
  refine SP.ml SS ?_;rintro wd hI hF ⟨ae,ai,aj,aq,az,aK,a1⟩;have h1:=hF.2.1;have h2:=hF.1;clear hF SS;obtain⟨wc,⟨b0,dW,bD,ho⟩,kc⟩:=h1;obtain⟨Ac,⟨g,rfl,hg⟩,tp⟩:=h2;have HB:ag (∀ x,v1.ownBlock=some x->w.heap.size<=x):=λx hx=>qcg bD (ho.lt x hx).1;have HO:=aa (ad.own ho kc);have HG:=aa (tp.heap hg);have rX:b0<=wd.heap.size:=qcg dW kc.size;clear ho hg dW bD;go_wp2_with fail
  refine(qbc b0 v1 l v _ g wd rX HO.o ab HF.o.le HG.o).mono ?_;rintro e w5 ⟨v5,rfl,h5,k5⟩;have Tq:ad w w5:=ad.but ae k5 λx hx=>HB.o x (Option.mem_toList.1 hx);have Uua:=aa (HC.o.put Tq HV.o h5 HF.o se.o);clear h5;go_wp2_with fail
  refine KV (v:= .tuple #[v5,.bool true]) (by simp[results,results259,go_sem]) rfl ?_;exact⟨v5,_,_,rfl,Uua.o,.inr ⟨rfl,_,rfl⟩,Tq⟩):p:=h
theorem qdJ (B:Int) (e6:Value) (l:List ax) (v:ax) (w:World) (hB:0<=B) (h9:B<=100000000000) (hc:dc w B v.key e6 l) (hv:b7 w B v):
  Calls prog 259 #[e6,aM v] w λe w'=>∃ qN l' b,e= .returned (.tuple #[qN,.bool b])/\dc w' B v.key qN l'/\LX l v l' b/\ad w w':=by
 obtain⟨A,c,rfl,bl,bQ⟩:=hc.row.form;have hlen:=hc.len hB h9;have HC:=aa hc;have HV:=aa hv;obtain⟨Tr,hvB,Ts,Dh,xL,tf⟩:=hv;have HVC:=aa tf;have eh:v.val.size<=32:=tf.2.2.1;have dM:v.ds.length<=24:=tf.2.1.2;have HW:ag (∀ W,ad w W->Calls prog 149 #[.agg #[.string v.key,.string v.val,.bool v.gone,.int .i64 v.n,.int .i64 v.s,.slice v.pa v.pn v.pc]] W λe w'=>e= .returned (.bool true)/\ad W w'):=λW hW=>(C9 v v.ds W Tr (Ts.kept hW) (λd hd=>(Dh.ok d hd).1) ab ab).mono λe w' ⟨b,h1,h2,h3⟩=>⟨by rw[h1,h2.2 tf],h3⟩;clear hc Ts Dh Tr tf xL;go_in;unfold aM;go_wp2_with fail
 refine(LV _ l v.n v.s _ (HC.o.row.kept al)).mono ?_;rintro e w1 ⟨i,rfl,hf,k1⟩;have e0:w1.cell? ⟨w.heap.size,0,none⟩=some (.string v.key):=k1.af (by go_simp);have e1:w1.cell? ⟨w.heap.size,1,none⟩=some (.string v.val):=k1.af (by go_simp);have e2:w1.cell? ⟨w.heap.size,2,none⟩=some (.bool v.gone):=k1.af (by go_simp);have e3:w1.cell? ⟨w.heap.size,3,none⟩=some (.int .i64 v.n):=k1.af (by go_simp);have e4:w1.cell? ⟨w.heap.size,4,none⟩=some (.int .i64 v.s):=k1.af (by go_simp);have e5:w1.cell? ⟨w.heap.size,5,none⟩=some (.slice v.pa v.pn v.pc):=k1.af (by go_simp);have K1:ad w w1:=ad.call al k1;have HF:=aa hf;clear k1 hf;rcases Nat.eq_zero_or_pos l.length with ng|ng
 ·have gr:i=0:=by have:=HF.o.le;omega
  subst gr;have se:ag (∀ a,l[0]? =some a->¬(a.n=v.n/\a.s=v.s)):=λa ha=>by have:=(bg ha);omega
  have o4:decide ((0:Int)<(l.length:Int))=false:=ql4 ab;have kq:decide (0<l.length)=false:=ql4 ab;clear ng;go_wp2;refine bz (λwB=>ad w wB/\ad w1 wB/\wB.cell? ⟨w.heap.size,0,none⟩=some (.string v.key)/\wB.cell? ⟨w.heap.size,1,none⟩=some (.string v.val)/\wB.cell? ⟨w.heap.size,2,none⟩=some (.bool v.gone)/\wB.cell? ⟨w.heap.size,3,none⟩=some (.int .i64 v.n)/\wB.cell? ⟨w.heap.size,4,none⟩=some (.int .i64 v.s)/\wB.cell? ⟨w.heap.size,5,none⟩=some (.slice v.pa v.pn v.pc)) λwB SS=> ?_;obtain⟨au,br,aB,aC,aF,aX,bK,fg⟩:=SS.o _ (ad.refl _);repeat(apply DW.ct;(focus (intro wd hI;obtain⟨ae,ay,ai,aj,aq,az,aK,a1⟩:=SS.o wd hI;go_wp2_with (go_at_call 149;refine(HW.o _ (au.call hI)).mono ?_;rintro e w5 ⟨rfl,k5⟩);exact aP));refine DW.np ?_)
  refine DW.nl SS ?_;rintro wd hI ⟨ae,ay,ai,aj,aq,az,aK,a1⟩;clear ay;exact GU
 have o4:decide ((0:Int)<(l.length:Int))=true:=ql3 ab;obtain⟨x,hx⟩:=exQ l 0 ng;obtain⟨b,off,rfl,hb,bL⟩:=HC.o.row.af hx;have Tt:=(HC.o.iG x (zV hx)).2;obtain⟨x0,x1,x2,x3,x4,x5,x6,x7,x8⟩:=x;simp only at Tt;obtain⟨c0,_,_,_,_,_⟩:=o5 λU u hu=>K1.af (bL U u hu);rw[Tt]at c0;have kX:b<w1.heap.size:=Aa w1 _ c0;simp only[Nat.zero_mul,Nat.add_zero]at c0;clear hx bL;rcases R6 i l.length with iQ|iQ
 ·obtain⟨y,hy⟩:=exQ l i iQ;obtain⟨b2,gA,e2,_,cz⟩:=HC.o.row.af hy
  cases e2
  obtain⟨y0,y1,y2,y3,y4,y5,y6,y7,y8⟩:=y;obtain⟨_,_,_,d3,d4,_⟩:=o5 λU u hu=>K1.af (cz U u hu);have HY:=aa hy;have hU:decide ((i:Int)<(l.length:Int))=true:=ql3 ab;clear cz hy;by_cases q1:y3=v.n
  ·subst q1;by_cases q2:y4=v.s
   ·subst q2;go_wp2;refine bz (λwB=>ad w wB/\ad w1 wB/\wB.cell? ⟨w.heap.size,0,none⟩=some (.string v.key)/\wB.cell? ⟨w.heap.size,1,none⟩=some (.string v.val)/\wB.cell? ⟨w.heap.size,2,none⟩=some (.bool v.gone)/\wB.cell? ⟨w.heap.size,3,none⟩=some (.int .i64 v.n)/\wB.cell? ⟨w.heap.size,4,none⟩=some (.int .i64 v.s)/\wB.cell? ⟨w.heap.size,5,none⟩=some (.slice v.pa v.pn v.pc)/\wB.cell? ⟨b,off,none⟩=some (.string v.key)/\wB.cell? ⟨b,off+i*6+3,none⟩=some (.int .i64 v.n)/\wB.cell? ⟨b,off+i*6+4,none⟩=some (.int .i64 v.s)) λwB SS=> ?_;obtain⟨au,br,aB,aC,aF,aX,bK,fg,qO,Di,Dj⟩:=SS.o _ (ad.refl _);repeat(apply DW.ct;(focus (intro wd hI;obtain⟨ae,ay,ai,aj,aq,az,aK,a1,cw,d',jf⟩:=SS.o wd hI;go_wp2_with (go_at_call 149;refine(HW.o _ (au.call hI)).mono ?_;rintro e w5 ⟨rfl,k5⟩);exact aP));refine DW.np ?_)
    refine DW.nl SS ?_;rintro wd hI ⟨ae,ay,ai,aj,aq,az,aK,a1,cw,d',jf⟩;go_wp2;refine KV (v:= .tuple #[.slice (some ⟨b,off,none⟩) l.length c,.bool false]) (by simp[results,results259,go_sem]) rfl ?_;exact⟨_,l,false,rfl,HC.o.kept ae,.inl ⟨rfl,rfl,_,zV HY.o,rfl,rfl⟩,ae⟩
   ·have GV:=aa q2;have se:ag (∀ a,l[i]? =some a->¬(a.n=v.n/\a.s=v.s)):=λa ha=>by rw[HY.o]at ha;injection ha with ha;rw[<- ha];exact λh=>q2 h.2
    go_wp2;refine bz (λwB=>ad w wB/\ad w1 wB/\wB.cell? ⟨w.heap.size,0,none⟩=some (.string v.key)/\wB.cell? ⟨w.heap.size,1,none⟩=some (.string v.val)/\wB.cell? ⟨w.heap.size,2,none⟩=some (.bool v.gone)/\wB.cell? ⟨w.heap.size,3,none⟩=some (.int .i64 v.n)/\wB.cell? ⟨w.heap.size,4,none⟩=some (.int .i64 v.s)/\wB.cell? ⟨w.heap.size,5,none⟩=some (.slice v.pa v.pn v.pc)/\wB.cell? ⟨b,off,none⟩=some (.string v.key)/\wB.cell? ⟨b,off+i*6+3,none⟩=some (.int .i64 v.n)/\wB.cell? ⟨b,off+i*6+4,none⟩=some (.int .i64 y4)) λwB SS=> ?_;obtain⟨au,br,aB,aC,aF,aX,bK,fg,qO,Di,Dj⟩:=SS.o _ (ad.refl _);repeat(apply DW.ct;(focus (intro wd hI;obtain⟨ae,ay,ai,aj,aq,az,aK,a1,cw,d',jf⟩:=SS.o wd hI;go_wp2_with (go_at_call 149;refine(HW.o _ (au.call hI)).mono ?_;rintro e w5 ⟨rfl,k5⟩);exact aP));refine DW.np ?_)
    refine DW.nl SS ?_;rintro wd hI ⟨ae,ay,ai,aj,aq,az,aK,a1,cw,d',jf⟩;clear ay;exact GU
  ·have Dk:=aa q1;have se:ag (∀ a,l[i]? =some a->¬(a.n=v.n/\a.s=v.s)):=λa ha=>by rw[HY.o]at ha;injection ha with ha;rw[<- ha];exact λh=>q1 h.1
   go_wp2;refine bz (λwB=>ad w wB/\ad w1 wB/\wB.cell? ⟨w.heap.size,0,none⟩=some (.string v.key)/\wB.cell? ⟨w.heap.size,1,none⟩=some (.string v.val)/\wB.cell? ⟨w.heap.size,2,none⟩=some (.bool v.gone)/\wB.cell? ⟨w.heap.size,3,none⟩=some (.int .i64 v.n)/\wB.cell? ⟨w.heap.size,4,none⟩=some (.int .i64 v.s)/\wB.cell? ⟨w.heap.size,5,none⟩=some (.slice v.pa v.pn v.pc)/\wB.cell? ⟨b,off,none⟩=some (.string v.key)/\wB.cell? ⟨b,off+i*6+3,none⟩=some (.int .i64 y3)/\wB.cell? ⟨b,off+i*6+4,none⟩=some (.int .i64 y4)) λwB SS=> ?_;obtain⟨au,br,aB,aC,aF,aX,bK,fg,qO,Di,Dj⟩:=SS.o _ (ad.refl _);repeat(apply DW.ct;(focus (intro wd hI;obtain⟨ae,ay,ai,aj,aq,az,aK,a1,cw,d',jf⟩:=SS.o wd hI;go_wp2_with (go_at_call 149;refine(HW.o _ (au.call hI)).mono ?_;rintro e w5 ⟨rfl,k5⟩);exact aP));refine DW.np ?_)
   refine DW.nl SS ?_;rintro wd hI ⟨ae,ay,ai,aj,aq,az,aK,a1,cw,d',jf⟩;clear ay;exact GU
 ·have gr:i=l.length:=by have:=HF.o.le;omega
  subst gr;have se:ag (∀ a,l[l.length]? =some a->¬(a.n=v.n/\a.s=v.s)):=λa ha=>by have:=(bg ha);omega
  have hU:decide ((l.length:Int)<(l.length:Int))=false:=ql4 ab;go_wp2;refine bz (λwB=>ad w wB/\ad w1 wB/\wB.cell? ⟨w.heap.size,0,none⟩=some (.string v.key)/\wB.cell? ⟨w.heap.size,1,none⟩=some (.string v.val)/\wB.cell? ⟨w.heap.size,2,none⟩=some (.bool v.gone)/\wB.cell? ⟨w.heap.size,3,none⟩=some (.int .i64 v.n)/\wB.cell? ⟨w.heap.size,4,none⟩=some (.int .i64 v.s)/\wB.cell? ⟨w.heap.size,5,none⟩=some (.slice v.pa v.pn v.pc)/\wB.cell? ⟨b,off,none⟩=some (.string v.key)) λwB SS=> ?_;obtain⟨au,br,aB,aC,aF,aX,bK,fg,qO⟩:=SS.o _ (ad.refl _);repeat(apply DW.ct;(focus (intro wd hI;obtain⟨ae,ay,ai,aj,aq,az,aK,a1,cw⟩:=SS.o wd hI;go_wp2_with (go_at_call 149;refine(HW.o _ (au.call hI)).mono ?_;rintro e w5 ⟨rfl,k5⟩);exact aP));refine DW.np ?_)
  refine DW.nl SS ?_;rintro wd hI ⟨ae,ay,ai,aj,aq,az,aK,a1,cw⟩;clear ay;exact GU
theorem xM (n:Nat) (C:World->Prop) {P:Program} {ops:Array Oper} {Q:Exit->Act->World->Prop} {qD:Oper} {r:List Oper} {a:Act} {w:World} (ho:qD.dst=some n) (h:C w) (k:∀ W,C W->wpList P ops Q (qD::r) a W):wpList P ops Q (qD::r) a w:=k w h
def GW (l:List ax) (x:ax) (b:Bool):Prop:=(b=true/\x∈l)∨(b=false/\x=zeroV)
theorem Told.one {i:Int} {b:Bool} (h:Told l i x b):GW l x b:=by
 rcases h with ⟨rfl,U,_,hj⟩|⟨rfl,rfl,_⟩
 ·exact .inl ⟨rfl,zV hj⟩
 ·exact .inr ⟨rfl,rfl⟩
def vi (l:List ax) (n s:Int) (x:ax) (b:Bool):Prop:=(b=true/\x∈l/\x.n=n/\x.s=s)∨(b=false/\x=zeroV/\∀ y∈l,¬(y.n=n/\y.s=s))
theorem vi.one {n s:Int} {b:Bool} (h:vi l n s x b):GW l x b:=by
 rcases h with ⟨rfl,h,_⟩|⟨rfl,rfl,_⟩
 ·exact .inl ⟨rfl,h⟩
 ·exact .inr ⟨rfl,rfl⟩
theorem qdK {n s:Int} (hs:l.Pairwise lf) (hf:xK l n s i) (h:∀ a,l[i]? =some a->¬(a.n=n/\a.s=s)):∀ y∈l,¬(y.n=n/\y.s=s):=by
 intro y hy;obtain⟨U,hj⟩:=qcl.1 hy;rcases Nat.lt_trichotomy U i with g|g|g
 ·have:=qck (hf.below U y g hj);omega
 ·subst g;exact h y hj
 ·obtain⟨h2,rfl⟩:=pi.1 hj;have hi:i<l.length:=ab;have h3:=of_decide_eq_false (hf.af _ (vF hi));have h4:=h _ (vF hi);have h5:=qck (List.pairwise_iff_getElem.1 hs i U hi h2 g);omega
theorem Told.no {n s:Int} (h:Told l i x false) (hf:xK l n s i):∀ y∈l,¬(y.n=n/\y.s=s):=by
 rcases h with ⟨h,_⟩|⟨_,_,h⟩
 ·cases h
 intro y hy;obtain⟨U,hj⟩:=qcl.1 hy;have h1:=List.getElem?_eq_none_iff.1 (h i rfl);have h2:=(bg hj);have:=qck (hf.below U y ab hj);omega
theorem Told.af (h:Told l i x true):l[i]? =some x:=by
 rcases h with ⟨_,U,h1,h2⟩|⟨h,_⟩
 ·rw[show i=U by omega];exact h2
 ·cases h
theorem cat (v:Value) (l:List ax) (n s:Int) (w:World) (hv:Rw w 48 6 a8 v l) (hs:l.Pairwise lf):
  Calls prog 301 #[v,.agg #[.int .i64 n,.int .i64 s]] w λe w'=>∃ x b,e= .returned (.tuple #[aM x,.bool b])/\vi l n s x b/\ad w w':=by
 obtain⟨A,c,rfl,bl,bQ⟩:=hv.form;have HV:=aa hv;have HS:=aa hs;clear hv hs;have V0:=(ns (w.alloc (.cells #[.int .i64 n,.int .i64 s] 45)));rw[World.size_alloc]at V0;go_in;go_wp2_with fail
 refine(LV _ l n s _ (HV.o.kept al)).mono ?_;rintro e w1 ⟨i,rfl,Tu,k1⟩;have Tv:=aa Tu;clear Tu;have e0:w1.cell? ⟨w.heap.size,0,none⟩=some (.int .i64 n):=k1.af (by go_simp);have e1:w1.cell? ⟨w.heap.size,1,none⟩=some (.int .i64 s):=k1.af (by go_simp);have V1:=V0.but (ah.ar (S:=[]) k1) ao;have K1:ad w w1:=ad.call al k1;clear k1 V0;go_wp2_with fail
 refine(LW _ l _ _ (HV.o.kept K1)).mono ?_;rintro e w2 ⟨x,b,rfl,ht,k2⟩;have HT:=aa ht;have e0:=k2.af e0;have e1:=k2.af e1;have V2:=V1.but (ah.ar (S:=[]) k2) ao;have K2:=K1.call k2;clear ht k2 K1 V1;obtain⟨x0,x1,x2,x3,x4,x5,x6,x7,x8⟩:=x;have e0:w2.cell? ⟨w.heap.size,0,none⟩=some (.int .i64 n):=e0;unfold aM;have hx:w.heap.size+1<w2.heap.size:=Aa w2 _ V2.cells.1;have lV:w.heap.size<w2.heap.size:=ab;have Tw:=(V2.but (ah.ar (S:=[]) ((ad.refl w2).alloc (.cells #[.string x0,.string x1,.bool x2,.int .i64 x3,.int .i64 x4,.slice x5 x6 x7] 48))) ao);have eY:=aa Tw;clear V2 Tw;have KA:ad w (w2.alloc (.cells #[.string x0,.string x1,.bool x2,.int .i64 x3,.int .i64 x4,.slice x5 x6 x7] 48)):=K2.alloc _
 cases b
 ·have jX:=aa (HT.o.no Tv.o);clear HT e1 e0;go_wp2_with (refine xM 24 (λW=>ag (VB W (w.heap.size+1) (.string ⟨#[]⟩) (.string ⟨#[]⟩) (.bool false) (.int .i64 0) (.int .i64 0) (.slice none 0 0))/\ad w W/\W.cell? ⟨w2.heap.size,0,none⟩=some (.string x0)/\W.cell? ⟨w2.heap.size,1,none⟩=some (.string x1)/\W.cell? ⟨w2.heap.size,2,none⟩=some (.bool x2)/\W.cell? ⟨w2.heap.size,3,none⟩=some (.int .i64 x3)/\W.cell? ⟨w2.heap.size,4,none⟩=some (.int .i64 x4)/\W.cell? ⟨w2.heap.size,5,none⟩=some (.slice x5 x6 x7)) rfl ⟨eY,KA,by go_simp,by go_simp,by go_simp,by go_simp,by go_simp,by go_simp⟩ ?_;rintro W ⟨hv,hk,y0,y1,y2,y3,y4,y5⟩;obtain⟨z0,z1,z2,z3,z4,z5,zf,_⟩:=hv.o.cells;have f0:=zf 0;have f1:=zf 1;have f2:=zf 2;have f3:=zf 3;have f4:=zf 4;have f5:=zf 5;clear zf)
  obtain⟨z0,z1,z2,z3,z4,z5,_,_⟩:=(hv.o.all (.string ⟨#[]⟩) (.string ⟨#[]⟩) (.bool false) (.int .i64 0) (.int .i64 0) (.slice none 0 0)).cells;refine KV (v:= .tuple #[aM zeroV,.bool false]) (by simp[results,results301,go_sem,aM,zeroV,z0,z1,z2,z3,z4,z5]) rfl ?_;exact⟨zeroV,false,rfl,.inr ⟨rfl,rfl,jX.o⟩,ad.but hk (ah.all _ _ _ _ _ _ _) ao⟩
 ·have HM:=aa HT.o.af;have jX:ag (¬(x3=n/\x4=s)->∀ y∈l,¬(y.n=n/\y.s=s)):=λg=>qdK HS.o Tv.o λa ha=>by rw[HM.o]at ha;injection ha with ha;subst ha;exact g
  by_cases q1:x3=n
  ·subst q1;by_cases q2:x4=s
   ·subst q2;clear jX;go_wp2_with (refine xM 25 (λW=>ag (VB W (w.heap.size+1) (.string ⟨#[]⟩) (.string ⟨#[]⟩) (.bool false) (.int .i64 0) (.int .i64 0) (.slice none 0 0))/\ad w W/\W.cell? ⟨w2.heap.size,0,none⟩=some (.string x0)/\W.cell? ⟨w2.heap.size,1,none⟩=some (.string x1)/\W.cell? ⟨w2.heap.size,2,none⟩=some (.bool x2)/\W.cell? ⟨w2.heap.size,3,none⟩=some (.int .i64 x3)/\W.cell? ⟨w2.heap.size,4,none⟩=some (.int .i64 x4)/\W.cell? ⟨w2.heap.size,5,none⟩=some (.slice x5 x6 x7)) rfl ⟨eY,KA,by go_simp,by go_simp,by go_simp,by go_simp,by go_simp,by go_simp⟩ ?_;rintro W ⟨hv,hk,y0,y1,y2,y3,y4,y5⟩;obtain⟨z0,z1,z2,z3,z4,z5,zf,_⟩:=hv.o.cells;have f0:=zf 0;have f1:=zf 1;have f2:=zf 2;have f3:=zf 3;have f4:=zf 4;have f5:=zf 5;clear zf)
    obtain⟨z0,z1,z2,z3,z4,z5,_,_⟩:=(hv.o.all (.string x0) (.string x1) (.bool x2) (.int .i64 x3) (.int .i64 x4) (.slice x5 x6 x7)).cells;refine KV (v:= .tuple #[aM ⟨x0,x1,x2,x3,x4,x5,x6,x7,x8⟩,.bool true]) (by simp[results,results301,go_sem,aM,zeroV,z0,z1,z2,z3,z4,z5]) rfl ?_;exact⟨_,true,rfl,.inl ⟨rfl,zV HM.o,rfl,rfl⟩,ad.but hk (ah.all _ _ _ _ _ _ _) ao⟩
   ·go_wp2_with (refine xM 24 (λW=>ag (VB W (w.heap.size+1) (.string ⟨#[]⟩) (.string ⟨#[]⟩) (.bool false) (.int .i64 0) (.int .i64 0) (.slice none 0 0))/\ad w W/\W.cell? ⟨w2.heap.size,0,none⟩=some (.string x0)/\W.cell? ⟨w2.heap.size,1,none⟩=some (.string x1)/\W.cell? ⟨w2.heap.size,2,none⟩=some (.bool x2)/\W.cell? ⟨w2.heap.size,3,none⟩=some (.int .i64 x3)/\W.cell? ⟨w2.heap.size,4,none⟩=some (.int .i64 x4)/\W.cell? ⟨w2.heap.size,5,none⟩=some (.slice x5 x6 x7)) rfl ⟨eY,KA,by go_simp,by go_simp,by go_simp,by go_simp,by go_simp,by go_simp⟩ ?_;rintro W ⟨hv,hk,y0,y1,y2,y3,y4,y5⟩;obtain⟨z0,z1,z2,z3,z4,z5,zf,_⟩:=hv.o.cells;have f0:=zf 0;have f1:=zf 1;have f2:=zf 2;have f3:=zf 3;have f4:=zf 4;have f5:=zf 5;clear zf)
    obtain⟨z0,z1,z2,z3,z4,z5,_,_⟩:=(hv.o.all (.string ⟨#[]⟩) (.string ⟨#[]⟩) (.bool false) (.int .i64 0) (.int .i64 0) (.slice none 0 0)).cells;refine KV (v:= .tuple #[aM zeroV,.bool false]) (by simp[results,results301,go_sem,aM,zeroV,z0,z1,z2,z3,z4,z5]) rfl ?_;exact⟨zeroV,false,rfl,.inr ⟨rfl,rfl,jX.o λg=>q2 g.2⟩,ad.but hk (ah.all _ _ _ _ _ _ _) ao⟩
  ·go_wp2_with (refine xM 24 (λW=>ag (VB W (w.heap.size+1) (.string ⟨#[]⟩) (.string ⟨#[]⟩) (.bool false) (.int .i64 0) (.int .i64 0) (.slice none 0 0))/\ad w W/\W.cell? ⟨w2.heap.size,0,none⟩=some (.string x0)/\W.cell? ⟨w2.heap.size,1,none⟩=some (.string x1)/\W.cell? ⟨w2.heap.size,2,none⟩=some (.bool x2)/\W.cell? ⟨w2.heap.size,3,none⟩=some (.int .i64 x3)/\W.cell? ⟨w2.heap.size,4,none⟩=some (.int .i64 x4)/\W.cell? ⟨w2.heap.size,5,none⟩=some (.slice x5 x6 x7)) rfl ⟨eY,KA,by go_simp,by go_simp,by go_simp,by go_simp,by go_simp,by go_simp⟩ ?_;rintro W ⟨hv,hk,y0,y1,y2,y3,y4,y5⟩;obtain⟨z0,z1,z2,z3,z4,z5,zf,_⟩:=hv.o.cells;have f0:=zf 0;have f1:=zf 1;have f2:=zf 2;have f3:=zf 3;have f4:=zf 4;have f5:=zf 5;clear zf)
   obtain⟨z0,z1,z2,z3,z4,z5,_,_⟩:=(hv.o.all (.string ⟨#[]⟩) (.string ⟨#[]⟩) (.bool false) (.int .i64 0) (.int .i64 0) (.slice none 0 0)).cells;refine KV (v:= .tuple #[aM zeroV,.bool false]) (by simp[results,results301,go_sem,aM,zeroV,z0,z1,z2,z3,z4,z5]) rfl ?_;exact⟨zeroV,false,rfl,.inr ⟨rfl,rfl,jX.o λg=>q1 g.1⟩,ad.but hk (ah.all _ _ _ _ _ _ _) ao⟩
theorem qdL (v:Value) (l:List ax) (n s:Int) (w:World) (hv:Rw w 48 6 a8 v l) (hs:l.Pairwise lf) (hl:l.length<=1000000000000):
  Calls prog 306 #[v,.agg #[.int .i64 n,.int .i64 s]] w λe w'=>∃ x b,e= .returned (.tuple #[aM x,.bool b])/\GW l x b/\ad w w':=by
 obtain⟨A,c,rfl,bl,bQ⟩:=hv.form;have HV:=aa hv;have HS:=aa hs;clear hv hs;have V0:=(ns (w.alloc (.cells #[.int .i64 n,.int .i64 s] 45)));rw[World.size_alloc]at V0;go_in;go_wp2_with fail
 refine(cat _ l n s _ (HV.o.kept al) HS.o).mono ?_;rintro e w2 ⟨x,b,rfl,ht,k1⟩;have e0:w2.cell? ⟨w.heap.size,0,none⟩=some (.int .i64 n):=k1.af (by go_simp);have e1:w2.cell? ⟨w.heap.size,1,none⟩=some (.int .i64 s):=k1.af (by go_simp);have V2:=V0.but (ah.ar (S:=[]) k1) ao;have K2:ad w w2:=ad.call al k1;have HT:=aa ht.one;clear ht k1 V0;obtain⟨x0,x1,x2,x3,x4,x5,x6,x7,x8⟩:=x;unfold aM;have hx:w.heap.size+1<w2.heap.size:=Aa w2 _ V2.cells.1;have lV:w.heap.size<w2.heap.size:=ab;have eY:=aa (V2.but (ah.ar (S:=[]) ((ad.refl w2).alloc (.cells #[.string x0,.string x1,.bool x2,.int .i64 x3,.int .i64 x4,.slice x5 x6 x7] 48))) ao);clear V2;have KA:ad w (w2.alloc (.cells #[.string x0,.string x1,.bool x2,.int .i64 x3,.int .i64 x4,.slice x5 x6 x7] 48)):=K2.alloc _
 cases b
 ·clear HT;go_wp2_with (refine xM 18 (λW=>ag (VB W (w.heap.size+1) (.string ⟨#[]⟩) (.string ⟨#[]⟩) (.bool false) (.int .i64 0) (.int .i64 0) (.slice none 0 0))/\ad w W/\W.cell? ⟨w.heap.size,0,none⟩=some (.int .i64 n)/\W.cell? ⟨w.heap.size,1,none⟩=some (.int .i64 s)) rfl ⟨eY,KA,by go_simp,by go_simp⟩ ?_;rintro W ⟨Dm,hk,e0,e1⟩)
  refine(LV _ l n s _ (HV.o.kept hk)).mono ?_;rintro e w3 ⟨i,rfl,hi,k3⟩;have iQ:=hi.le;have Tx:=aa (Dm.o.but (ah.ar (S:=[]) k3) ao);have K3:=hk.call k3;clear hi Dm e0 e1 k3;go_wp2_with fail
  refine(LW _ l _ _ (HV.o.kept K3)).mono ?_;rintro e w4 ⟨y,b,rfl,ht,k4⟩;have HT:=aa ht.one;have K4:=K3.call k4;have V4:=Tx.o.but (ah.ar (S:=[]) k4) ao;obtain⟨z0,z1,z2,z3,z4,z5,zf,_⟩:=V4.cells;have f0:=zf 0;have f1:=zf 1;have f2:=zf 2;have f3:=zf 3;have f4:=zf 4;have f5:=zf 5;have LY:=aa V4;clear zf ht k4 Tx V4;obtain⟨y0,y1,y2,y3,y4,y5,y6,y7,y8⟩:=y;unfold aM;go_wp2_with fail
  obtain⟨z0,z1,z2,z3,z4,z5,_,_⟩:=(LY.o.all (.string y0) (.string y1) (.bool y2) (.int .i64 y3) (.int .i64 y4) (.slice y5 y6 y7)).cells;refine KV (v:= .tuple #[aM ⟨y0,y1,y2,y3,y4,y5,y6,y7,y8⟩,.bool b]) (by simp[results,results306,go_sem,aM,z0,z1,z2,z3,z4,z5]) rfl ?_;exact⟨_,b,rfl,HT.o,ad.but K4 (ah.all _ _ _ _ _ _ _) ao⟩
 ·go_wp2_with (refine xM 15 (λW=>ag (VB W (w.heap.size+1) (.string ⟨#[]⟩) (.string ⟨#[]⟩) (.bool false) (.int .i64 0) (.int .i64 0) (.slice none 0 0))/\ad w W/\W.cell? ⟨w2.heap.size,0,none⟩=some (.string x0)/\W.cell? ⟨w2.heap.size,1,none⟩=some (.string x1)/\W.cell? ⟨w2.heap.size,2,none⟩=some (.bool x2)/\W.cell? ⟨w2.heap.size,3,none⟩=some (.int .i64 x3)/\W.cell? ⟨w2.heap.size,4,none⟩=some (.int .i64 x4)/\W.cell? ⟨w2.heap.size,5,none⟩=some (.slice x5 x6 x7)) rfl ⟨eY,KA,by go_simp,by go_simp,by go_simp,by go_simp,by go_simp,by go_simp⟩ ?_;rintro W ⟨hv,hk,y0,y1,y2,y3,y4,y5⟩;obtain⟨z0,z1,z2,z3,z4,z5,zf,_⟩:=hv.o.cells;have f0:=zf 0;have f1:=zf 1;have f2:=zf 2;have f3:=zf 3;have f4:=zf 4;have f5:=zf 5;clear zf)
  obtain⟨z0,z1,z2,z3,z4,z5,_,_⟩:=(hv.o.all (.string x0) (.string x1) (.bool x2) (.int .i64 x3) (.int .i64 x4) (.slice x5 x6 x7)).cells;refine KV (v:= .tuple #[aM ⟨x0,x1,x2,x3,x4,x5,x6,x7,x8⟩,.bool true]) (by simp[results,results306,go_sem,aM,z0,z1,z2,z3,z4,z5]) rfl ?_;exact⟨_,true,rfl,HT.o,ad.but hk (ah.all _ _ _ _ _ _ _) ao⟩
theorem eqd (v v2:Value) (l l2:List aD) (w:World) (hv:Rw w 60 3 aS v l) (cW:Rw w 60 3 aS v2 l2) (hl:l.length<=1000000000000):
  Calls prog 323 #[v,v2] w λe w'=>∃ b,e= .returned (.bool b)/\(l=l2->b=true)/\ad w w':=by
 obtain⟨A,c,rfl,bl,bQ⟩:=hv.form;obtain⟨A2,c2,rfl,qdM,qkT⟩:=cW.form;obtain⟨n,hn⟩:=eqQ l.length;obtain⟨n2,cp⟩:=eqQ l2.length;rw[hn]at hv bl hl⊢;rw[cp]at cW qdM⊢;have HV:=aa hv;have eY:=aa cW;have HN:=aa hn;have lg:=aa cp;clear hv cW hn cp;by_cases aN:n=n2
 ·subst aN;go_wp2;go_loopw [5,13] (λ_ iv wr=>∃ U:Nat,U<=n/\iv= .int .i64 U/\ad w wr) (λ_ iv _=>n-(intOf iv).toNat)
  case atStart=>exact⟨0,ab,rfl,al⟩
  case round=>
   obtain⟨U,hj,rfl,kr⟩:=hrel;by_cases an:U<n
   ·obtain⟨a,ha⟩:=exQ l U (by rw[HN.o];exact an);obtain⟨d,hd⟩:=exQ l2 U (by rw[lg.o];exact an);have GX:ag (l=l2->a=d):=λh=>by rw[h,hd]at ha;injection ha with ha;exact ha.symm
    obtain⟨b,off,rfl,hb,hc⟩:=HV.o.af ha;obtain⟨b2,gA,rfl,bG,cz⟩:=eY.o.af hd;obtain⟨x0,x1,x2⟩:=a;obtain⟨c0,c1,c2⟩:=kQ λU u hu=>kr.af (hc U u hu);obtain⟨y0,y1,y2⟩:=d;obtain⟨d0,d1,d2⟩:=kQ λU u hu=>kr.af (cz U u hu);clear hc cz ha hd;by_cases q0:x0.toList=y0.toList
    ·by_cases q1:x1=y1
     ·by_cases q2:x2=y2
      ·subst q1 q2;clear GX;go_wp2;refine bz (λwB=>ad w wB/\ad wr wB/\wB.cell? ⟨b,off+U*3,none⟩=some (.string x0)/\wB.cell? ⟨b,off+U*3+1,none⟩=some (.int .i64 x1)/\wB.cell? ⟨b,off+U*3+2,none⟩=some (.int .i64 x2)/\wB.cell? ⟨b2,gA+U*3,none⟩=some (.string y0)/\wB.cell? ⟨b2,gA+U*3+1,none⟩=some (.int .i64 x1)/\wB.cell? ⟨b2,gA+U*3+2,none⟩=some (.int .i64 x2)) λwB SS=> ?_;repeat refine DW.dt ?_
       refine DW.nl SS ?_;rintro wd hI ⟨ae,ay,ai,aj,aq,az,aK,a1⟩;go_wp2;go_roundw
       case rel=>exact⟨U+1,ab,aA,ae⟩
       case measure=>exact dY
      ·skip
       go_wp2;refine bz (λwB=>ad w wB/\ad wr wB/\wB.cell? ⟨b,off+U*3,none⟩=some (.string x0)/\wB.cell? ⟨b,off+U*3+1,none⟩=some (.int .i64 x1)/\wB.cell? ⟨b,off+U*3+2,none⟩=some (.int .i64 x2)/\wB.cell? ⟨b2,gA+U*3,none⟩=some (.string y0)/\wB.cell? ⟨b2,gA+U*3+1,none⟩=some (.int .i64 y1)/\wB.cell? ⟨b2,gA+U*3+2,none⟩=some (.int .i64 y2)) λwB SS=> ?_;repeat refine DW.dt ?_
       refine DW.nl SS ?_;rintro wd hI ⟨ae,ay,ai,aj,aq,az,aK,a1⟩;go_wp2;go_ret;exact⟨_,rfl,λh=>by have:=GX.o h;injection this with h0 h1 h2;simp_all,ae⟩
     ·skip
      go_wp2;refine bz (λwB=>ad w wB/\ad wr wB/\wB.cell? ⟨b,off+U*3,none⟩=some (.string x0)/\wB.cell? ⟨b,off+U*3+1,none⟩=some (.int .i64 x1)/\wB.cell? ⟨b,off+U*3+2,none⟩=some (.int .i64 x2)/\wB.cell? ⟨b2,gA+U*3,none⟩=some (.string y0)/\wB.cell? ⟨b2,gA+U*3+1,none⟩=some (.int .i64 y1)/\wB.cell? ⟨b2,gA+U*3+2,none⟩=some (.int .i64 y2)) λwB SS=> ?_;repeat refine DW.dt ?_
      refine DW.nl SS ?_;rintro wd hI ⟨ae,ay,ai,aj,aq,az,aK,a1⟩;go_wp2;go_ret;exact⟨_,rfl,λh=>by have:=GX.o h;injection this with h0 h1 h2;simp_all,ae⟩
    ·skip
     go_wp2;refine bz (λwB=>ad w wB/\ad wr wB/\wB.cell? ⟨b,off+U*3,none⟩=some (.string x0)/\wB.cell? ⟨b,off+U*3+1,none⟩=some (.int .i64 x1)/\wB.cell? ⟨b,off+U*3+2,none⟩=some (.int .i64 x2)/\wB.cell? ⟨b2,gA+U*3,none⟩=some (.string y0)/\wB.cell? ⟨b2,gA+U*3+1,none⟩=some (.int .i64 y1)/\wB.cell? ⟨b2,gA+U*3+2,none⟩=some (.int .i64 y2)) λwB SS=> ?_;repeat refine DW.dt ?_
     refine DW.nl SS ?_;rintro wd hI ⟨ae,ay,ai,aj,aq,az,aK,a1⟩;go_wp2;go_ret;exact⟨_,rfl,λh=>by have:=GX.o h;injection this with h0 h1 h2;simp_all,ae⟩
   ·obtain rfl:U=n:=ab;go_wp2;go_ret;exact⟨_,rfl,λ_=>rfl,kr⟩
 ·have hd:decide ((n:Int)=(n2:Int))=false:=ql4 ab;have hU:¬(n:Int)=(n2:Int):=ab;go_wp2;go_ret;exact⟨_,rfl,λh=>by have h1:=HN.o;have h2:=lg.o;rw[h]at h1;omega,al⟩
theorem qdN (v v2:Value) (l l2:List aD) (w:World) (hv:Rw w 60 3 aS v l) (cW:Rw w 60 3 aS v2 l2) (hl:l.length<=1000000000000):
  Calls prog 319 #[v,v2] w λe w'=>∃ b,e= .returned (.bool b)/\(l=l2->b=true)/\ad w w':=by
 have HV:=aa hv;have eY:=aa cW;clear hv cW;go_in;go_wp2_with fail
 refine(eqd v v2 l l2 _ HV.o eY.o hl).mono ?_;rintro e w1 ⟨b,rfl,hb,k1⟩;have HB:=aa hb;clear hb;go_wp2;go_ret;exact⟨_,rfl,HB.o,k1⟩
theorem qdO (x y:ax) (ds es:List aD) (w:World) (hx:r' w x ds) (hy:r' w y es) (hl:ds.length<=1000000000000):
  Calls prog 304 #[aM x,aM y] w λe w'=>∃ b,e= .returned (.bool b)/\(x=y->ds=es->b=true)/\ad w w':=by
 have HX:=aa hx;have HY:=aa hy;clear hx hy;obtain⟨x0,x1,x2,x3,x4,x5,x6,x7,x8⟩:=x;obtain⟨y0,y1,y2,y3,y4,y5,y6,y7,y8⟩:=y;unfold aM;by_cases q0:x0.toList=y0.toList
 ·by_cases q1:x1.toList=y1.toList
  ·by_cases q2:x2=y2
   ·by_cases q3:x3=y3
    ·by_cases q4:x4=y4
     ·subst q2 q3 q4;go_in;go_wp2_with fail
      refine(qdN _ _ ds es _ (HX.o.kept al) (HY.o.kept al) hl).mono ?_;rintro e w1 ⟨b,rfl,hb,k1⟩;have HB:=aa hb;have K1:ad w w1:=ad.call al k1;clear hb k1;go_wp2;go_ret;exact⟨_,rfl,λ_=>HB.o,K1⟩
     ·skip
      go_wp2;go_ret;exact⟨_,rfl,λh _=>by injection h with h0 h1 h2 h3 h4;simp_all,al⟩
    ·skip
     go_wp2;go_ret;exact⟨_,rfl,λh _=>by injection h with h0 h1 h2 h3 h4;simp_all,al⟩
   ·skip
    go_wp2;go_ret;exact⟨_,rfl,λh _=>by injection h with h0 h1 h2 h3 h4;simp_all,al⟩
  ·skip
   go_wp2;go_ret;exact⟨_,rfl,λh _=>by injection h with h0 h1 h2 h3 h4;simp_all,al⟩
 ·skip
  go_wp2;go_ret;exact⟨_,rfl,λh _=>by injection h with h0 h1 h2 h3 h4;simp_all,al⟩
def kD (x:Int×Int):List Value:=[.int .i64 x.1,.int .i64 x.2]
theorem Aj:∀ a,(kD a).length=2:=λ_=>rfl
theorem LZ:∀ (l:List (Int×Int)),∀ u∈l.flatMap kD,u.oneCell'=true:=λl u hu=>by
 obtain⟨a,_,ha⟩:=List.mem_flatMap.1 hu;simp only[kD,KX,List.not_mem_nil,or_false]at ha;rcases ha with rfl|rfl <;>rfl
theorem Uuh {w:World} {p:Nat} {x y:Value} (h:∀ U u,[x,y][U]? =some u->w.cell? ⟨b,p+U,none⟩=some u):
  w.cell? ⟨b,p,none⟩=some x/\w.cell? ⟨b,p+1,none⟩=some y:=⟨h 0 _ rfl,h 1 _ rfl⟩
theorem qdP (v:Value) (l:List (Int×Int)) (n s:Int) (w:World) (hv:Rw w 45 2 kD v l) (hl:l.length<=1000000000000):
  Calls prog 320 #[v,.agg #[.int .i64 n,.int .i64 s]] w λe w'=>∃ r:Int,e= .returned (.int .i64 r)/\ad w w':=by
 obtain⟨A,c,rfl,bl,bQ⟩:=hv.form;obtain⟨k,hn⟩:=eqQ l.length;rw[hn]at hv bl hl⊢;have HV:=aa hv;have HN:=aa hn;clear hv hn;go_wp2;go_loopw [5,8] (λ_ iv wr=>∃ U:Nat,U<=k/\iv= .int .i64 U/\ad w wr/\wr.cell? ⟨w.heap.size,0,none⟩=some (.int .i64 n)/\wr.cell? ⟨w.heap.size,1,none⟩=some (.int .i64 s)) (λ_ iv _=>k-(intOf iv).toNat)
 case atStart=>exact⟨0,ab,rfl,al,by go_simp,by go_simp⟩
 case round=>
  obtain⟨U,hj,rfl,kr,e0,e1⟩:=hrel;by_cases an:U<k
  ·obtain⟨a,ha⟩:=exQ l U (by rw[HN.o];exact an);obtain⟨b,off,rfl,hb,hc⟩:=HV.o.af ha;obtain⟨x0,x1⟩:=a;obtain⟨c0,c1⟩:=Uuh λU u hu=>kr.af (hc U u hu);clear hc ha;by_cases q0:n=x0
   ·subst q0;by_cases q1:s=x1
    ·subst q1;go_wp2;refine bz (λwB=>ad w wB/\ad wr wB/\wB.cell? ⟨w.heap.size,0,none⟩=some (.int .i64 n)/\wB.cell? ⟨w.heap.size,1,none⟩=some (.int .i64 s)/\wB.cell? ⟨b,off+U*2,none⟩=some (.int .i64 n)/\wB.cell? ⟨b,off+U*2+1,none⟩=some (.int .i64 s)) λwB SS=> ?_;repeat refine DW.dt ?_
     refine DW.nl SS ?_;rintro wd hI ⟨ae,ay,ai,aj,aq,az⟩;go_wp2;go_ret;exact⟨_,rfl,ae⟩
    ·skip
     go_wp2;refine bz (λwB=>ad w wB/\ad wr wB/\wB.cell? ⟨w.heap.size,0,none⟩=some (.int .i64 n)/\wB.cell? ⟨w.heap.size,1,none⟩=some (.int .i64 s)/\wB.cell? ⟨b,off+U*2,none⟩=some (.int .i64 n)/\wB.cell? ⟨b,off+U*2+1,none⟩=some (.int .i64 x1)) λwB SS=> ?_;repeat refine DW.dt ?_
     refine DW.nl SS ?_;rintro wd hI ⟨ae,ay,ai,aj,aq,az⟩;go_wp2;go_roundw
     case rel=>exact⟨U+1,ab,aA,ae,ai,aj⟩
     case measure=>exact dY
   ·skip
    go_wp2;refine bz (λwB=>ad w wB/\ad wr wB/\wB.cell? ⟨w.heap.size,0,none⟩=some (.int .i64 n)/\wB.cell? ⟨w.heap.size,1,none⟩=some (.int .i64 s)/\wB.cell? ⟨b,off+U*2,none⟩=some (.int .i64 x0)/\wB.cell? ⟨b,off+U*2+1,none⟩=some (.int .i64 x1)) λwB SS=> ?_;repeat refine DW.dt ?_
    refine DW.nl SS ?_;rintro wd hI ⟨ae,ay,ai,aj,aq,az⟩;go_wp2;go_roundw
    case rel=>exact⟨U+1,ab,aA,ae,ai,aj⟩
    case measure=>exact dY
  ·obtain rfl:U=k:=ab;go_wp2;go_ret;exact⟨_,rfl,kr⟩
theorem qdQ (v:Value) (l:List (Int×Int)) (n s:Int) (w:World) (hv:Rw w 45 2 kD v l) (hl:l.length<=1000000000000):
  Calls prog 305 #[v,.agg #[.int .i64 n,.int .i64 s]] w λe w'=>∃ b:Bool,e= .returned (.bool b)/\ad w w':=by
 have HV:=aa hv;clear hv;go_in;go_wp2_with fail
 refine(qdP v l n s _ (HV.o.kept al) hl).mono ?_;rintro e w1 ⟨r,rfl,k1⟩;have K1:ad w w1:=ad.call al k1;go_wp2;go_ret;exact⟨decide (0<=r),rfl,K1⟩
def me (w:World) (x:ax):Prop:=r' w x x.ds/\x.ds.length<=1000000000000
theorem me.kept {w:World} (h:me w x) (hk:ad w w2):me w2 x:=⟨h.1.kept hk,h.2⟩
theorem b7.qdR {w:World} (h:b7 w B x):me w x:=⟨h.jB,by have:=h.cg.len;omega⟩
theorem me.zero (w:World):me w zeroV:=⟨Rw.nil w,by simp[zeroV]⟩
theorem Ty (x y:ax) (b:Bool) (P:Nat) (w:World) (hx:me w x) (hy:me w y) (hc:w.heap[P]? =some (.cells (a8 y).toArray 48 (0,0))):
  Calls prog 303 #[aM x,.bool b,.pointer (some ⟨P,0,none⟩)] w λe w'=>∃ b2,e= .returned (.bool b2)/\(b=true->x=y->b2=true)/\ad w w':=by
 have HX:=aa hx;have HY:=aa hy;have hP:P<w.heap.size:=(aQ hc);obtain⟨c0,c1,c2,c3,c4,c5,_,_⟩:=VB.cells (show VB w P _ _ _ _ _ _ from hc);clear hx hy hc;obtain⟨x0,x1,x2,x3,x4,x5,x6,x7,x8⟩:=x;obtain⟨y0,y1,y2,y3,y4,y5,y6,y7,y8⟩:=y;simp only at c0 c1 c2 c3 c4 c5;unfold aM
 cases b
 ·go_wp2;go_ret;exact⟨_,rfl,λh=>(by cases h),al⟩
 ·go_in;go_wp2_with fail
  obtain⟨h1,h2⟩:=HX.o;obtain⟨h3,h4⟩:=HY.o;refine(qdO ⟨x0,x1,x2,x3,x4,x5,x6,x7,x8⟩ ⟨y0,y1,y2,y3,y4,y5,y6,y7,y8⟩ x8 y8 _ (h1.kept al) (h3.kept al) h2).mono ?_;rintro e w1 ⟨b,rfl,hb,k1⟩;have HB:=aa hb;have K1:ad w w1:=ad.call al k1;clear h1 h3 k1 hb h2 h4;go_wp2;go_ret;exact⟨_,rfl,λ_ h=>HB.o h (by injection h),K1⟩
theorem Told.last {y:ax} {b:Bool} (h:Told l ((l.length:Int)-1) x b) (hy:l.getLast?=some y):b=true/\x=y:=by
 rw[List.getLast?_eq_getElem?]at hy;have hl:=(bg hy);rcases h with ⟨rfl,U,h1,h2⟩|⟨_,_,h2⟩
 ·rw[show l.length-1=U by omega,h2]at hy;injection hy with hy;exact⟨rfl,hy⟩
 ·rw[h2 (l.length-1) ab]at hy;cases hy
theorem qdS (e6:Value) (l:List ax) (n s:Int) (pv:Value) (ps:List (Int×Int)) (y:ax) (w:World) (hv:Rw w 48 6 a8 e6 l) (hs:l.Pairwise lf) (hl:l.length<=1000000000000) (hp:Rw w 45 2 kD pv ps) (cO:ps.length<=1000000000000) (b':∀ x∈l,me w x) (hy:me w y):
  Calls prog 277 #[e6,.agg #[.int .i64 n,.int .i64 s],pv,aM y] w λe w'=>∃ b,e= .returned (.bool b)/\(l.getLast?=some y->b=true)/\ad w w':=by
 obtain⟨A,c,rfl,bl,bQ⟩:=hv.form;have iS:∀ fn first cap w,(Instr.makeFunc fn first cap).run prog w= .ok (.func fn first cap) w:=λ_ _ _ _=>rfl
 have HV:=aa hv;have HP:=aa hp;have bX:=aa b';have HY:=aa hy;have HS:=aa hs;clear hv hp b' hy hs
 have gV:∀ (x:ax) (b:Bool),GW l x b->me w x:=λx b h=>by
  rcases h with ⟨_,h⟩|⟨_,rfl⟩
  ·exact bX.o x h
  ·exact me.zero w
 have Tz:=aa gV;clear gV;go_in;unfold aM;go_wp2_with fail
 refine(qdQ pv ps y.n y.s _ (HP.o.kept al) cO).mono ?_;rintro e w1 ⟨b1,rfl,k1⟩;have e0:w1.cell? ⟨w.heap.size,0,none⟩=some (.int .i64 n):=k1.af (by go_simp);have e1:w1.cell? ⟨w.heap.size,1,none⟩=some (.int .i64 s):=k1.af (by go_simp);have bD:w1.heap[w.heap.size+1]? =some (.cells (a8 y).toArray 48 (0,0)):=k1.heap (by have h:=yY (w.alloc (.cells #[.int .i64 n,.int .i64 s] 45)) (.cells (a8 y).toArray 48);rwa [World.size_alloc]at h);obtain⟨c0,c1,c2,c3,c4,c5,_,_⟩:=VB.cells (show VB w1 (w.heap.size+1) _ _ _ _ _ _ from bD);have tw:=aa bD;have K1:ad w w1:=ad.call al k1;clear k1 bD c0 c1 c2 c5
 cases b1
 rotate_left
 ·go_wp2;go_ret;exact⟨_,rfl,λ_=>rfl,K1⟩
 go_wp2_with fail
 refine(qw y.n y.s n s _).mono ?_;rintro e w2 ⟨rfl,k2⟩;have e0:=k2.af e0;have e1:=k2.af e1;have iZ:=aa (k2.heap tw.o);have K2:=K1.call k2;obtain⟨lb,qI⟩:=eqQ (c8 y.n y.s n s);rw[qI];clear k2 K1 tw c3 c4 qI
 cases lb
 ·go_wp2;go_ret;exact⟨_,rfl,λ_=>rfl,K2⟩
 go_wp2_with fail
 refine(To _ l _ (HV.o.kept K2)).mono ?_;rintro e w3 ⟨x,ck,rfl,ht,k3⟩;have HX:=aa (Tz.o x ck ht.one);have L0:ag (l.getLast?=some y->ck=true/\x=y):=λh=>ht.last h;have e0:=k3.af e0;have e1:=k3.af e1;have px:=aa (k3.heap iZ.o);have K3:=K2.call k3;clear k3 K2 iZ ht;unfold aM;go_wp2_with fail
 refine(Ty x y ck (w.heap.size+1) _ (HX.o.kept K3) (HY.o.kept K3) px.o).mono ?_;rintro e w4 ⟨iV,rfl,ga,k4⟩;have CE:ag (l.getLast?=some y->iV=true):=λh=>ga (L0.o h).1 (L0.o h).2;clear ga L0;have e0:=k4.af e0;have e1:=k4.af e1;have GY:=aa (k4.heap px.o);have K4:=K3.call k4;clear k4 K3 px HX
 cases iV
 rotate_left
 ·go_wp2;go_ret;exact⟨_,rfl,λ_=>rfl,K4⟩
 go_wp2_with fail
 refine(qdL _ l n s _ (HV.o.kept K4) HS.o hl).mono ?_;rintro e w5 ⟨x5,dB,rfl,ht,k5⟩;have HX:=aa (Tz.o x5 dB ht);have nt:=aa (k5.heap GY.o);have K5:=K4.call k5;clear k5 K4 GY ht e0 e1;unfold aM;go_wp2_with fail
 refine(Ty x5 y dB (w.heap.size+1) _ (HX.o.kept K5) (HY.o.kept K5) nt.o).mono ?_;rintro e w6 ⟨Uug,rfl,_,k6⟩;have K6:=K5.call k6;go_wp2;go_ret;exact⟨_,rfl,λh=>(by have:=CE.o h;cases this),K6⟩
theorem qdT (e6:Value) (l:List ax) (n s:Int) (pv:Value) (ps:List (Int×Int)) (y:ax) (P Q R:Nat) (w:World) (hv:Rw w 48 6 a8 e6 l) (hs:l.Pairwise lf) (hl:l.length<=1000000000000) (hp:Rw w 45 2 kD pv ps) (cO:ps.length<=1000000000000) (b':∀ x∈l,me w x) (hy:me w y)
  (ff:w.cell? ⟨P,0,none⟩=some e6) (cQ0:w.cell? ⟨Q,0,none⟩=some (.int .i64 n)) (cQ1:w.cell? ⟨Q,1,none⟩=some (.int .i64 s)) (qdU:w.cell? ⟨R,0,none⟩=some pv):
  Calls prog 276 #[aM y,.pointer (some ⟨P,0,none⟩),.pointer (some ⟨Q,0,none⟩),.pointer (some ⟨R,0,none⟩)] w λe w'=>∃ b,e= .returned (.bool b)/\(l.getLast?=some y->b=false)/\ad w w':=by
 obtain⟨A,c,rfl,_,_⟩:=hv.form;obtain⟨A2,c2,rfl,_,_⟩:=hp.form;have HV:=aa hv;have HP:=aa hp;have bX:=aa b';have HY:=aa hy;have HS:=aa hs;have hP:P<w.heap.size:=Aa w _ ff;have o3:Q<w.heap.size:=Aa w _ cQ0;have hR:R<w.heap.size:=Aa w _ qdU;clear hv hp b' hy hs;unfold aM;go_in;go_wp2_with fail
 refine(qdS _ l n s _ ps y _ (HV.o.kept al) HS.o hl (HP.o.kept al) cO (λx hx=>(bX.o x hx).kept al) (HY.o.kept al)).mono ?_;rintro e w1 ⟨b,rfl,hb,k1⟩;have HB:=aa hb;clear hb;have K1:ad w w1:=ad.call al k1;go_wp2;go_ret;exact⟨_,rfl,λh=>by rw[HB.o h];rfl,K1⟩
theorem qdV {m:List ax} (h:cK (λy b=>l.getLast?=some y->b=false) l m):m.getLast?=l.getLast?:=by
 have gen:∀ (l m:List ax) (z:Option ax),cK (λy b=>z=some y->b=false) l m->l.getLast?=z->m.getLast?=z:=by
  intro l m z h
  induction h with
  |nil=>exact id
  |keep h1 h2 ih=>
   rename_i a l m
   intro hz
   cases l with
   |nil=>cases h2;exact hz
   |cons b t=>
    have:=ih (by rw[List.getLast?_cons_cons]at hz;exact hz);rw[List.getLast?_cons,this];rw[List.getLast?_cons_cons,List.getLast?_cons]at hz;rw[<- hz];rfl
  |drop h1 h2 ih=>
   rename_i a l m
   intro hz
   cases l with
   |nil=>
    have:=h1 (by rw[<- hz];rfl)
    cases this
   |cons b t=>exact ih (by rw[List.getLast?_cons_cons]at hz;exact hz)
 exact gen l m _ h rfl
theorem qdW (e6:Value) (l:List ax) (n s:Int) (pv:Value) (ps:List (Int×Int)) (w:World) (hv:Rw w 48 6 a8 e6 l) (hs:l.Pairwise lf) (hl:l.length<=1000000000000) (hp:Rw w 45 2 kD pv ps) (cO:ps.length<=1000000000000) (b':∀ x∈l,me w x):
  Calls prog 245 #[e6,.agg #[.int .i64 n,.int .i64 s],pv] w λe w'=>∃ v' l',e= .returned v'/\Rw w' 48 6 a8 v' l'/\l'.Sublist l/\l'.getLast?=l.getLast?/\ad w w':=by
 obtain⟨A,c,rfl,_,_⟩:=hv.form;obtain⟨A2,c2,rfl,_,_⟩:=hp.form;have iS:∀ fn first cap w,(Instr.makeFunc fn first cap).run prog w= .ok (.func fn first cap) w:=λ_ _ _ _=>rfl
 have HV:=aa hv;have HP:=aa hp;have bX:=aa b';have HS:=aa hs;clear hv hp b' hs;go_in;go_wp2_with fail
 refine(FP _ l _ (HV.o.kept al) hl).mono ?_;rintro e w1 ⟨v1,rfl,ho,k1⟩;have K1:ad w w1:=ad.call al k1;have d0:w1.cell? ⟨w.heap.size,0,none⟩=some (.slice A l.length c):=k1.af (by go_simp);have d1:w1.cell? ⟨w.heap.size+1,0,none⟩=some (.int .i64 n):=k1.af (by go_simp);have d2:w1.cell? ⟨w.heap.size+1,1,none⟩=some (.int .i64 s):=k1.af (by go_simp);have d3:w1.cell? ⟨w.heap.size+1+1,0,none⟩=some (.slice A2 ps.length c2):=k1.af (by go_simp);have an:w.heap.size+1+1<w1.heap.size:=Aa w1 _ d3;have HO:=aa ho;have HB:ag (∀ g,v1.ownBlock=some g->w.heap.size+3<=g):=λg hg=>by have:=(ho.lt g hg).1;simpa using this
 have hn:∀ (k:Nat),k<3->w.heap.size+k∉v1.ownBlock.toList:=λk hk hx=>by have:w.heap.size+3<=w.heap.size+k:=HB.o _ (Option.mem_toList.1 hx);omega
 have HT:ag (fI v1.ownBlock.toList w1 276 #[.pointer (some ⟨w.heap.size,0,none⟩),.pointer (some ⟨w.heap.size+1,0,none⟩),.pointer (some ⟨w.heap.size+1+1,0,none⟩)] aM l (λy b=>l.getLast?=some y->b=false)):=⟨λargs w=>enters_of func276 av rfl args w,λW1 h1 y hy=>by
  have KW:ad w W1:=ad.but K1 h1 λx hx=>by have:w.heap.size+3<=x:=HB.o x (Option.mem_toList.1 hx);omega
  exact qdT _ l n s _ ps y _ _ _ W1 (HV.o.kept KW) HS.o hl (HP.o.kept KW) cO (λx hx=>(bX.o x hx).kept KW) ((bX.o y hy).kept KW) (h1.af d0 (hn 0 ab)) (h1.af d1 (hn 1 ab)) (h1.af d2 (hn 1 ab)) (h1.af d3 (hn 2 ab))⟩
 clear ho k1 hn d0 d1 d2 d3;go_wp2_with fail
 refine(QO _ v1 l _ _ _ w1 (by simp;omega) HO.o HT.o).mono ?_;rintro e w2 ⟨v2,l2,rfl,h1,h2,h3⟩;have H1:=aa h1;have H2:=aa h2;clear h1 h2;go_wp2;go_ret;exact⟨v2,l2,rfl,Rw.bp H1.o gp ak,cK.sub H2.o,qdV H2.o,ad.but K1 h3 λx hx=>by have:=HB.o x (Option.mem_toList.1 hx);omega⟩
theorem dc.sub {w:World} {v2:Value} {l2:List ax} (h:dc w B k v l) (hk:ad w w2) (hs:l2.Sublist l) (hr:Rw w2 48 6 a8 v2 l2):dc w2 B k v2 l2:=
 ⟨hr,λx hx=>⟨(h.iG x (hs.subset hx)).1.kept hk,(h.iG x (hs.subset hx)).2⟩,h.sd.sublist hs⟩
theorem Ak:Keyed prog 9:=string_keyed underlying9
def RV (v:Value):Option (DataW Value×List MemPlace):=some (.held v,[])
def ig (k:ByteArray):Lit:= .string k.data.toList
theorem GZ (h:Let k):keyOf prog 9 (.string k)=some (ig k):=by
 obtain⟨c,_,_,rfl⟩:=h;exact Go.WideMaps.keyOf_string_mk underlying9 (by show 1<=maxLen;decide)
theorem TA {a b:ByteArray} (h:ig a=ig b):a=b:=by
 unfold ig at h;injection h with h;exact C7 h
abbrev Ch:=ByteArray->Option Value
def MapAt (w:World) (b:Nat) (C:Ch):Prop:=∃ D,w.ownsMap prog 9 RV b (Maps.size D) D/\Maps.size D<=8/\
 (∀ k,Let k->∀ z,D.atKey (ig k) z=match C k with|some v=> .held v|none=>z)/\
 (∀ kl,Maps.has D kl=true->∃ k v,Let k/\C k=some v/\kl=ig k)
theorem TB {w:World} (h:w.ownsMap prog 9 RV b n D):w.ownsMap prog 9 RV b (Maps.size D) D:=by
 obtain⟨es,clock,hb,F,hs,ja⟩:=h;refine⟨es,clock,hb,F,?_,ja⟩;rw[ja,size_eq,length_sorted,List.length_map];simp
theorem L3:∀ (n:Nat) (l:List Nat),l.Nodup->(∀ x∈l,x<n)->l.length<=n
 |0,l,_,h=>by
  cases l with
  |nil=>simp
  |cons a t=>exact absurd (h a ao) ab
 |n+1,l,hd,h=>by
  have h1:=L3 n (l.filter (· ≠n)) (hd.filter _) (λx hx=>by
   have:=h x (List.mem_filter.1 hx).1;have h2:=(List.mem_filter.1 hx).2;simp at h2;omega)
  have h3:l.length<=(l.filter (· ≠n)).length+1:=by
   have:=hd;clear h h1
   induction l with
   |nil=>simp
   |cons a t ih=>
    obtain⟨h4,h5⟩:=List.nodup_cons.1 this;by_cases e:a=n
    ·subst e;have:t.filter (· ≠a)=t:=List.filter_eq_self.2 λx hx=>by simp;rintro rfl;exact h4 hx
     rw[List.filter_cons_of_neg ao,this];simp
    ·have:=ih (by exact h5) h5;rw[List.filter_cons_of_pos (by simpa using e)];simp only[List.length_cons];omega
  omega
theorem TC {w:World} {C:Ch} (h:w.ownsMap prog 9 RV b n D) (h2:∀ kl,Maps.has D kl=true->∃ k v,Let k/\C k=some v/\kl=ig k):Maps.size D<=8:=by
 obtain⟨es,rfl,hp⟩:=h.tidy Ak;rw[size_eq]
 have hk:∀ p∈es,∃ c:Nat,97<=c/\c<105/\p.1=ig (ch c):=λp hp=>by
  obtain⟨k,v,⟨c,h3,h4,rfl⟩,_,e⟩:=h2 p.1 (by
   rw[has_eq,List.any_eq_true]
   exact⟨p,hp,by
    have mf:=(h.keysOf);obtain⟨aH,he,bb⟩:=mf;injection he with he;subst he;obtain⟨x,hx⟩:=bb p hp;obtain⟨s,_,hs,_⟩:=Maps.keyOf_str underlying9 hx;rw[hs];simp[Lit.sameKey]⟩)
  exact⟨c,h3,h4,e⟩
 have code:∃ f:Lit->Nat,∀ c:Nat,97<=c->c<105->f (ig (ch c))=c-97:=⟨λl=>match l with| .string (x::_)=>x.toNat-97|_=>0,λc h1 h2=>by
  show(UInt8.ofNat c).toNat-97=_
  simp;omega⟩
 obtain⟨f,hf⟩:=code
 have h3:(es.map λp=>f p.1).Nodup:=List.pairwise_map.2 (hp.imp_of_mem λ{p q} iH py aN e=>aN (by
  obtain⟨c,h4,h5,h6⟩:=hk p iH;obtain⟨d,h7,h8,h9⟩:=hk q py;rw[h6,h9,hf c h4 h5,hf d h7 h8]at e;rw[h6,h9,show c=d by omega]))
 have:=L3 8 _ h3 λx hx=>by
  obtain⟨p,iH,rfl⟩:=List.mem_map.1 hx;obtain⟨c,h4,h5,h6⟩:=hk p iH;rw[h6,hf c h4 h5];omega
 simpa using this
theorem MapAt.lt {w:World} {C:Ch} (h:MapAt w b C):b<w.heap.size:=by
 obtain⟨D,h1,_⟩:=h;exact h1.lt
theorem MapAt.but {w:World} {C:Ch} (h:MapAt w b C) (hb:ah X w w2) (hn:b∉X):MapAt w2 b C:=by
 obtain⟨D,⟨es,clock,h1,h2⟩,h3⟩:=h;exact⟨D,⟨es,clock,hb.heap h1 hn,h2⟩,h3⟩
theorem MapAt.keep {w:World} {C:Ch} (h:MapAt w b C) (hk:ad w w2):MapAt w2 b C:=h.but (.ar (S:=[]) hk) ao
theorem MapAt.new (w:World):MapAt (w.alloc (.map #[] 0)) w.heap.size (λ_=>none):=
 ⟨.map [],World.ownsMap_made w _ _ _,by simp[size_eq],λk _ z=>rfl,λk h=>by simp[Maps.has]at h⟩
theorem TD (w:World):(zeroValue 33).run prog w= .ok (.slice none 0 0) w:=av
def jC (qD:Option Value):Value:=qD.getD (.slice none 0 0)
theorem MapAt.look {w:World} {C:Ch} (h:MapAt w b C) (hk:Let k):
  (Instr.lookup 146 (.map (some b)) (.string k) false).run prog w= .ok (jC (C k)) w:=by
 obtain⟨D,h1,_,h2,_⟩:=h;obtain⟨v,ps,cr,hv⟩:=h1.lookup Ak underlying146 (TD w) (show RV _=some (_,_)from rfl) (GZ hk);rw[cr];rw[h2 k hk]at hv;unfold RV at hv;unfold jC
 cases hc:C k with
 |none=>rw[hc]at hv;simp at hv;rw[hv.1];rfl
 |some s=>rw[hc]at hv;simp at hv;rw[hv.1];rfl
def xN (C:Ch) (k:ByteArray) (v:Value):Ch:=λx=>if x=k then some v else C x
def Al (C:Ch) (k:ByteArray):Ch:=λx=>if x=k then none else C x
theorem MapAt.put {w:World} {C:Ch} (h:MapAt w b C) (hk:Let k) (v:Value):
  ∃ w',(Instr.mapUpdate 146 (.map (some b)) (.string k) v).run prog w= .ok () w'/\MapAt w' b (xN C k v)/\ah [b] w w':=by
 obtain⟨D,h1,h8,h2,h3⟩:=h;obtain⟨w',cr,ho,hg⟩:=h1.update Ak underlying146 (by unfold maxLen;omega) (GZ hk) (show RV v=some (_,_)from rfl);have hm:IsMap D:=h1.isMap
 have h4:∀ kl,Maps.has (D.put (ig k) (.held v)) kl=true->∃ k2 v2,Let k2/\xN C k v k2=some v2/\kl=ig k2:=λkl gC=>by
  by_cases e:kl=ig k
  ·exact⟨k,v,hk,by simp[xN],e⟩
  ·rw[has_put_other e]at gC;obtain⟨k2,v2,h5,h6,rfl⟩:=h3 kl gC;exact⟨k2,v2,h5,by unfold xN;rw[if_neg];exact h6;rintro rfl;exact e rfl,rfl⟩
 refine⟨w',cr,⟨_,TB ho,TC ho h4,λx hx z=> ?_,h4⟩,(ah.refl [b] w).grown hg (λg hg=>by injection hg with hg;exact .inl (by simp[hg]))⟩;unfold xN;by_cases e:x=k
 ·subst e;rw[if_pos rfl,atKey_put_same hm (Ak.key (GZ hx))]
 ·rw[if_neg e,atKey_put_other (λg=>e (TA g)),h2 x hx]
theorem MapAt.drop {w:World} {C:Ch} (h:MapAt w b C) (hk:Let k) (ty:TypeId):
  ∃ w',(Builtin.delete_ #[146,9] ty #[.map (some b),.string k]).run prog w= .ok (.tuple #[]) w'/\MapAt w' b (Al C k)/\ah [b] w w':=by
 obtain⟨D,h1,h8,h2,h3⟩:=h;obtain⟨w',cr,ho,ht⟩:=h1.drop Ak underlying146 (GZ hk) ty
 have h4:∀ kl,Maps.has (D.del (ig k)) kl=true->∃ k2 v2,Let k2/\Al C k k2=some v2/\kl=ig k2:=λkl gC=>by
  by_cases e:kl=ig k
  ·rw[e,has_del_same]at gC;cases gC
  ·rw[has_del_other e]at gC;obtain⟨k2,v2,h5,h6,rfl⟩:=h3 kl gC;exact⟨k2,v2,h5,by unfold Al;rw[if_neg];exact h6;rintro rfl;exact e rfl,rfl⟩
 refine⟨w',cr,⟨_,TB ho,TC ho h4,λx hx z=> ?_,h4⟩,?_⟩
 ·unfold Al;by_cases e:x=k
  ·subst e;rw[if_pos rfl,atKey_del_same]
  ·rw[if_neg e,atKey_del_other (λg=>e (TA g)),h2 x hx]
 ·obtain⟨es,clock,vj,qdX,hb,rfl⟩:=ht;exact⟨rfl,rfl,rfl,by simp[Go.ChangeMaps.setBlock],λi _ hi=>Go.ChangeMaps.heap_setBlock_other hb _ (by simpa using hi)⟩
def bq (e:TypeId):Prop:=e=48∨e=60∨e=63∨e=3∨e=9∨e=166∨e=83
instance:DecidablePred bq:=λe=>by unfold bq;infer_instance
theorem b7.fr {w:World} {v:ax} (h:b7 w B v) (hk:Fr bq w w2):b7 w2 B v:=⟨h.key,h.n,h.jB.fr hk (.inr (.inl rfl)),h.cg,h.gR,h.wc⟩
theorem dc.fr {w:World} (h:dc w B k v l) (hk:Fr bq w w2):dc w2 B k v l:=
 ⟨h.row.fr hk (.inl rfl),λx hx=>⟨(h.iG x hx).1.fr hk,(h.iG x hx).2⟩,h.sd⟩
theorem dc.nil (w:World) (B:Int) (k:ByteArray):dc w B k (.slice none 0 0) []:=⟨Rw.nil w,λx hx=>(by cases hx),List.Pairwise.nil⟩
structure cP (w:World) (B:Int) (hb mb:Nat) (own:List Rg) (L:ByteArray->List ax):Prop where
 bB:∃ v,w.heap[hb]? =some (.cells #[v,.map (some mb)] 148 (0,0))/\Rw w 63 2 bZ v own
 bx:own.length<=1000
 fz:∃ C,MapAt w mb C/\∀ k,Let k->dc w B k (jC (C k)) (L k)/\(C k≠none->b4 own k/\L k≠[])
theorem cP.apart {w:World} (h:cP w B hb mb own L):hb≠mb:=by
 rintro rfl;obtain⟨v,h1,_⟩:=h.bB;obtain⟨C,⟨D,⟨es,clock,h2,_⟩,_⟩,_⟩:=h.fz;rw[h1]at h2;cases h2
theorem cP.but {w:World} (h:cP w B hb mb own L) (hk:ah X w w2) (hf:Fr bq w w2) (h1:hb∉X) (h2:mb∉X):cP w2 B hb mb own L:=by
 obtain⟨v,h3,h4⟩:=h.bB;obtain⟨C,h5,h6⟩:=h.fz;exact⟨⟨v,hk.heap h3 h1,h4.fr hf (.inr (.inr (.inl rfl)))⟩,h.bx,C,h5.but hk h2,λk bb=>⟨(h6 k bb).1.fr hf,(h6 k bb).2⟩⟩
theorem cP.kept {w:World} (h:cP w B hb mb own L) (hk:ad w w2):cP w2 B hb mb own L:=
 h.but (X:=[]) (.ar hk) (.ar hk) ao ao
theorem cP.mono {w:World} (h:cP w B hb mb own L) (hB:B<=B2):cP w B2 hb mb own L:=by
 obtain⟨C,h5,h6⟩:=h.fz;exact⟨h.bB,h.bx,C,h5,λk bb=>⟨(h6 k bb).1.mono hB,(h6 k bb).2⟩⟩
theorem qdY (B:Int) (v:Value) (rs:List Rg) (w:World) (hv:Rw w 63 2 bZ v rs) (hb:rs.length<=1000):
  Calls prog 53 #[v] w λe w'=>∃ hb mb,e= .returned (.pointer (some ⟨hb,0,none⟩))/\cP w' B hb mb rs (λ_=>[])/\w.heap.size<=hb/\w.heap.size<=mb/\ad w w':=by
 have z':=λW=>run_makeMap (P:=prog) 146 W;have HV:=aa hv;clear hv;go_in;go_wp2_with fail
 refine(FQ v rs _ HV.o ab).mono ?_;rintro e w1 ⟨v1,rfl,ho,k1⟩;have HR:=aa (Rw.bp ho nZ ak);clear ho;obtain⟨A1,c1,rfl,_,_⟩:=HR.o.form;go_wp2;go_ret;have hm:=(MapAt.new w1);have hz:=k1.size;have K2:ad w1 ((w1.alloc (.map #[] 0)).alloc (.cells #[.slice A1 rs.length c1,.map (some w1.heap.size)] 148)):=((ad.refl w1).alloc _).alloc _;refine⟨w1.heap.size+1,w1.heap.size,rfl,⟨⟨_,?_,HR.o.kept K2⟩,hb,_,hm.keep ((ad.refl _).alloc _),λk _=>⟨dc.nil _ _ _,λh=>absurd rfl h⟩⟩,ab,hz,k1.call K2⟩;have h:=yY (w1.alloc (.map #[] 0)) (.cells #[.slice A1 rs.length c1,.map (some w1.heap.size)] 148);rwa [World.size_alloc]at h
def eH (v:Value) (i:Nat):Value:=match v with| .tuple a=>a[i]?.getD undef|_=>undef
theorem tz (a b:Value):eH (.tuple #[a,b]) 0=a:=rfl
theorem tA (a b:Value):eH (.tuple #[a,b]) 1=b:=rfl
theorem L4 (a b c:Value):eH (.tuple #[a,b,c]) 0=a:=rfl
theorem L5 (a b c:Value):eH (.tuple #[a,b,c]) 1=b:=rfl
theorem L6 (a b c:Value):eH (.tuple #[a,b,c]) 2=c:=rfl
theorem xO {w:World} (h:w.heap[hb]? =some (.cells #[v,.map (some mb)] 148 (0,0))):w.cell? ⟨hb,0,none⟩=some v/\w.cell? ⟨hb,1,none⟩=some (.map (some mb))/\(∀ qD,w.frozen? ⟨hb,qD,none⟩=false)/\hb<w.heap.size:=
 ⟨aE h 0,aE h 1,aI h,(aQ h)⟩
theorem qdZ (B:Int) (hb mb:Nat) (own:List Rg) (L:ByteArray->List ax) (w:World) (h:cP w B hb mb own L):
  Calls prog 141 #[.pointer (some ⟨hb,0,none⟩)] w λe w'=>∃ v',e= .returned v'/\Rw w' 63 2 bZ v' own/\ad w w':=by
 obtain⟨v,h1,h2⟩:=h.bB;obtain⟨c0,c1,_,an⟩:=xO h1;have cX:=h.bx;have HR:=aa h2;clear h h1 h2;go_in;go_wp2_with fail
 refine(FQ v own _ HR.o ab).mono ?_;rintro e w1 ⟨v1,rfl,ho,k1⟩;have HO:=aa ho;clear ho;go_wp2;go_ret;exact⟨v1,rfl,Rw.bp HO.o nZ ak,k1⟩
theorem L7 (B:Int) (hb mb:Nat) (own:List Rg) (L:ByteArray->List ax) (k:ByteArray) (w:World) (h:cP w B hb mb own L) (hk:Let k) (hB:0<=B) (h9:B<=100000000000):
  Calls prog 194 #[.pointer (some ⟨hb,0,none⟩),.string k] w λe w'=>∃ v',e= .returned v'/\dc w' B k v' (L k)/\ad w w':=by
 obtain⟨v,h1,h2⟩:=h.bB;obtain⟨c0,c1,_,an⟩:=xO h1;obtain⟨C,hm,hc⟩:=h.fz;have cr:=hm.look hk;obtain⟨e6,gF⟩:=eqQ (jC (C k));have eu:=(hc k hk).1;have hlen:=eu.len hB h9;rw[gF]at cr eu;have HC:=aa eu;clear h h1 h2 hc eu hm gF;go_in;go_wp2_with fail
 refine(FP e6 (L k) _ HC.o.row hlen).mono ?_;rintro e w1 ⟨v1,rfl,ho,k1⟩;have HO:=aa ho;clear ho;go_wp2;go_ret;exact⟨v1,rfl,HC.o.sub k1 (List.Sublist.refl _) (Rw.bp HO.o gp ak),k1⟩
theorem TF (B:Int) (hb mb:Nat) (own:List Rg) (L:ByteArray->List ax) (k:ByteArray) (w:World) (h:cP w B hb mb own L) (hk:Let k) (hB:0<=B) (h9:B<=100000000000):
  Calls prog 131 #[.pointer (some ⟨hb,0,none⟩),.string k] w λe w'=>∃ x b,e= .returned (.tuple #[aM x,.bool b])/\Told (L k) (((L k).length:Int)-1) x b/\ad w w':=by
 have HH:=aa h;clear h;go_in;go_wp2_with fail
 refine(L7 B hb mb own L k _ (HH.o.kept al) hk hB h9).mono ?_;rintro e w1 ⟨v1,rfl,hc,k1⟩;have HC:=aa hc;have V1:=aa (VB.but (ns w) (ah.ar (S:=[]) k1) ao);have K1:ad w w1:=ad.call al k1;clear k1 hc;go_wp2_with fail
 refine(To v1 (L k) _ HC.o.row).mono ?_;rintro e w2 ⟨x,b,rfl,ht,k2⟩;have HT:=aa ht;have VV:=V1.o.but (ah.ar (S:=[]) k2) ao;have K2:=K1.call k2;obtain⟨z0,z1,z2,z3,z4,z5,zf,_⟩:=VV.cells;have f0:=zf 0;have f1:=zf 1;have f2:=zf 2;have f3:=zf 3;have f4:=zf 4;have f5:=zf 5;have qP:=aa VV;obtain⟨x0,x1,x2,x3,x4,x5,x6,x7,x8⟩:=x;unfold aM;clear k2 zf ht VV V1;go_wp2_with fail
 obtain⟨z0,z1,z2,z3,z4,z5,_,_⟩:=(qP.o.all (.string x0) (.string x1) (.bool x2) (.int .i64 x3) (.int .i64 x4) (.slice x5 x6 x7)).cells;refine KV (v:= .tuple #[aM ⟨x0,x1,x2,x3,x4,x5,x6,x7,x8⟩,.bool b]) (by simp[results,results131,go_sem,aM,z0,z1,z2,z3,z4,z5]) rfl ?_;exact⟨_,b,rfl,HT.o,ad.but K2 (ah.all w.heap.size _ _ _ _ _ _) ao⟩
theorem qd0 (B:Int) (hb mb:Nat) (own:List Rg) (L:ByteArray->List ax) (k:ByteArray) (n s:Int) (w:World) (h:cP w B hb mb own L) (hk:Let k) (hB:0<=B) (h9:B<=100000000000):
  Calls prog 274 #[.pointer (some ⟨hb,0,none⟩),.string k,.agg #[.int .i64 n,.int .i64 s]] w λe w'=>∃ x b,e= .returned (.tuple #[aM x,.bool b])/\vi (L k) n s x b/\ad w w':=by
 have HH:=aa h;clear h;obtain⟨W,hW⟩:=eqR ((w.alloc (.cells #[.int .i64 n,.int .i64 s] 45)).alloc (.cells #[.string ⟨#[]⟩,.string ⟨#[]⟩,.bool false,.int .i64 0,.int .i64 0,.slice none 0 0] 48));have V0:=(ns (w.alloc (.cells #[.int .i64 n,.int .i64 s] 45)));rw[World.size_alloc,<- hW]at V0;have G0:=aa V0;have e0:W.cell? ⟨w.heap.size,0,none⟩=some (.int .i64 n):=by rw[hW];go_simp
 have e1:W.cell? ⟨w.heap.size,1,none⟩=some (.int .i64 s):=by rw[hW];go_simp
 have KW:ad w W:=by rw[hW];exact al
 clear V0;go_wp2;rw[<- hW];clear hW;refine ku [0,1,3,2,4,5,6,7,8] [none,none,none,some (λu w'=>dc w' B k u (L k)),some (λu w'=>∃ x b,u= .tuple #[aM x,.bool b]/\vi (L k) n s x b),none,none] (λwB=>ad w wB/\ad W wB/\wB.cell? ⟨w.heap.size,0,none⟩=some (.int .i64 n)/\wB.cell? ⟨w.heap.size,1,none⟩=some (.int .i64 s)) λwB SS=> ?_;iterate 3 refine SP.on ?_
 refine SP.ew ?_ λv1=> ?_
 ·intro wd hI hF;obtain⟨ae,ay,ai,aj⟩:=SS.o wd hI;clear hF;go_wp2_with ((go_at_call 194;refine(L7 B hb mb own L k _ (HH.o.kept ae) hk hB h9).mono ?_;rintro e w4 ⟨v4,rfl,h4,k4⟩));exact bn rfl h4
 refine SP.ew ?_ λv2=> ?_
 ·intro wd hI hF;obtain⟨ae,ay,ai,aj⟩:=SS.o wd hI;have h1:=hF.1 av;clear hF;go_wp2_with ((go_at_call 301;obtain⟨wc,hc,kc⟩:=h1;refine(cat _ (L k) n s _ (hc.kept kc).row hc.sd).mono ?_;rintro e w2 ⟨x,b,rfl,ht,k2⟩));exact bn rfl ⟨x,b,rfl,ht⟩
 refine SP.oe (v:=eH v2 0) ?_ ?_
 ·intro wd hI hF;obtain⟨ae,ay,ai,aj⟩:=SS.o wd hI;have h2:=hF.1;clear hF;(obtain⟨w9,⟨x,b,rfl,_⟩,_⟩:=h2);go_wp2;exact aP
 refine SP.oe (v:=eH v2 1) ?_ ?_
 ·intro wd hI hF;obtain⟨ae,ay,ai,aj⟩:=SS.o wd hI;have h2:=hF.1;clear hF;(obtain⟨w9,⟨x,b,rfl,_⟩,_⟩:=h2);go_wp2;exact aP
 refine SP.ml SS ?_;rintro wd hI hF ⟨ae,ay,ai,aj⟩;have h2:=hF.1;clear hF SS;obtain⟨w9,⟨x,b,rfl,ht⟩,_⟩:=h2;simp only[tz,tA];have HT:=aa ht;have VV:=G0.o.but (ah.ar (S:=[]) ay) ao;have K2:=ae;obtain⟨z0,z1,z2,z3,z4,z5,zf,_⟩:=VV.cells;have f0:=zf 0;have f1:=zf 1;have f2:=zf 2;have f3:=zf 3;have f4:=zf 4;have f5:=zf 5;have qP:=aa VV;obtain⟨x0,x1,x2,x3,x4,x5,x6,x7,x8⟩:=x;unfold aM;clear zf ht VV G0;go_wp2;obtain⟨z0,z1,z2,z3,z4,z5,_,_⟩:=(qP.o.all (.string x0) (.string x1) (.bool x2) (.int .i64 x3) (.int .i64 x4) (.slice x5 x6 x7)).cells;refine KV (v:= .tuple #[aM ⟨x0,x1,x2,x3,x4,x5,x6,x7,x8⟩,.bool b]) (by simp[results,results274,go_sem,aM,z0,z1,z2,z3,z4,z5]) rfl ?_;exact⟨_,b,rfl,HT.o,ad.but K2 (ah.all _ _ _ _ _ _ _) ao⟩
def lh (L:ByteArray->List ax) (k:ByteArray) (l:List ax):ByteArray->List ax:=λx=>if x=k then l else L x
theorem L8 (L:ByteArray->List ax) (k:ByteArray) (l:List ax):lh L k l k=l:=by simp[lh]
theorem TG {x:ByteArray} (h:x≠k):lh L k l x=L x:=by simp[lh,h]
theorem qd1 (h:l=L k):lh L k l=L:=by
 funext x;unfold lh;split
 ·rename_i e;rw[h,e]
 ·rfl
theorem Dn {w:World} {C:Ch} (hm:MapAt w mb C) (h:ah [mb] w w2):Fr bq w w2:=
 Fr.gn h λs hs cur e he=>by
  simp only[At]at hs;obtain⟨D,⟨es,clock,h1,_⟩,_⟩:=hm;rw[hs,h1]at he;cases he
theorem cP.pz {w:World} (h:cP w B hb mb own L) {C:Ch} (hC:∀ k,Let k->dc w B k (jC (C k)) (L k)/\(C k≠none->b4 own k/\L k≠[])) (L9:MapAt w mb C) (hk:Let k) (hm:MapAt w2 mb (xN C k v)) (bG:ah [mb] w w2) (hc:dc w2 B k v l) (ho:b4 own k) (hl:l≠[]):cP w2 B hb mb own (lh L k l):=by
 have hf:=Dn L9 bG;obtain⟨u,h3,h4⟩:=h.bB;refine⟨⟨u,bG.heap h3 (by simp;exact h.apart),h4.fr hf (.inr (.inr (.inl rfl)))⟩,h.bx,_,hm,λx hx=> ?_⟩;unfold xN lh;by_cases e:x=k
 ·subst e;rw[if_pos rfl,if_pos rfl];exact⟨hc,λ_=>⟨ho,hl⟩⟩
 ·rw[if_neg e,if_neg e];exact⟨(hC x hx).1.fr hf,(hC x hx).2⟩
def xP (own:List Rg) (L:ByteArray->List ax) (v:ax) (L':ByteArray->List ax) (b:Bool):Prop:=(¬b4 own v.key/\L'=L/\b=false)∨(b4 own v.key/\∃ l',L'=lh L v.key l'/\LX (L v.key) v l' b)
theorem qd2 (B:Int) (hb mb:Nat) (own:List Rg) (L:ByteArray->List ax) (v:ax) (w:World) (h:cP w B hb mb own L) (hv:b7 w B v) (hB:0<=B) (h9:B<=100000000000):
  Calls prog 208 #[.pointer (some ⟨hb,0,none⟩),aM v] w λe w'=>∃ b L',e= .returned (.bool b)/\cP w' B hb mb own L'/\xP own L v L' b/\ah [mb] w w'/\Fr bq w w':=by
 obtain⟨rv,h1,h2⟩:=h.bB;obtain⟨c0,c1,_,an⟩:=xO h1;obtain⟨C,hm,hc⟩:=h.fz;have hk:=hv.1;obtain⟨e6,gF⟩:=eqQ (jC (C v.key));have eu:=(hc v.key hk).1;rw[gF]at eu;have HS:=aa h;have HM:=aa hm;have jD:=aa gF;have HC:=aa eu;have pA:=aa hc;have HV:=aa hv;obtain⟨A,c,rfl,_,_⟩:=h2.form;have HR:=aa h2.rows;have xQ:=h.apart;clear h h1 h2 hm gF eu hc hv;go_in;unfold aM;go_wp2;refine ey [none,none,none,none,none,none,none,none,none,some (λu w'=>∃ r:Int,u= .int .i64 r/\uI own v.key r)] (λwB=>ad w wB/\wB.cell? ⟨hb,0,none⟩=some (.slice A own.length c)/\wB.cell? ⟨hb,1,none⟩=some (.map (some mb))/\wB.cell? ⟨w.heap.size,0,none⟩=some (.string v.key)/\wB.cell? ⟨w.heap.size,1,none⟩=some (.string v.val)/\wB.cell? ⟨w.heap.size,2,none⟩=some (.bool v.gone)/\wB.cell? ⟨w.heap.size,3,none⟩=some (.int .i64 v.n)/\wB.cell? ⟨w.heap.size,4,none⟩=some (.int .i64 v.s)/\wB.cell? ⟨w.heap.size,5,none⟩=some (.slice v.pa v.pn v.pc)) λwB SS=> ?_;iterate 9 refine SP.on ?_
 refine SP.ew ?_ λv1=> ?_
 ·intro wd hI hF;obtain⟨ae,ai,aj,aq,az,aK,a1,cw,d'⟩:=SS.o wd hI;clear hF;go_wp2_with ((go_at_call 84;refine(wI A _ c own v.key _ (HR.o.keep ae)).mono ?_;rintro e w4 ⟨r,rfl,h4,k4⟩));exact bn rfl ⟨r,rfl,h4⟩
 refine SP.ml SS ?_;rintro wd hI hF ⟨ae,ai,aj,aq,az,aK,a1,cw,d'⟩;have h1:=hF.1;clear hF SS;obtain⟨wc,⟨r,rfl,hr⟩,_⟩:=h1;have ej:=Ab hr;rcases Decidable.em (r<0)with od|od
 ·have bW:¬b4 own v.key:=λh=>by have:=ej.2 h;omega
  have hd:decide (r<0)=true:=ql3 od;have jX:=aa bW;clear bW ej hr;go_wp2;go_ret;exact⟨false,L,rfl,HS.o.kept ae,.inl ⟨jX.o,rfl,rfl⟩,.ar ae,.ar ae⟩
 have lZ:b4 own v.key:=ej.1 ab;have hd:decide (r<0)=false:=ql4 od;have Dp:=aa lZ;clear lZ ej hr;go_wp2;refine ey [none,none,none,none,none,none,none,none,some (λu w'=>∃ qN l' b,u= .tuple #[qN,.bool b]/\dc w' B v.key qN l'/\LX (L v.key) v l' b),none,none,none,none,none] (λwB=>ad w wB/\wB.cell? ⟨hb,0,none⟩=some (.slice A own.length c)/\wB.cell? ⟨hb,1,none⟩=some (.map (some mb))/\wB.cell? ⟨w.heap.size,0,none⟩=some (.string v.key)/\wB.cell? ⟨w.heap.size,1,none⟩=some (.string v.val)/\wB.cell? ⟨w.heap.size,2,none⟩=some (.bool v.gone)/\wB.cell? ⟨w.heap.size,3,none⟩=some (.int .i64 v.n)/\wB.cell? ⟨w.heap.size,4,none⟩=some (.int .i64 v.s)/\wB.cell? ⟨w.heap.size,5,none⟩=some (.slice v.pa v.pn v.pc)) λwB SS=> ?_;iterate 8 (apply SP.one av;(focus (intro wd hI hF;clear hF;obtain⟨ae,ai,aj,aq,az,aK,a1,cw,d'⟩:=SS.o wd hI;(try have cr:=(HM.o.keep ae).look hk;rw[jD.o]at cr);go_wp2_with (fail);exact aP));refine SP.np ?_)
 refine SP.ew ?_ λv1=> ?_
 ·intro wd hI hF;obtain⟨ae,ai,aj,aq,az,aK,a1,cw,d'⟩:=SS.o wd hI;clear hF;(try have cr:=(HM.o.keep ae).look hk;rw[jD.o]at cr);go_wp2_with ((go_at_call 259;refine(qdJ B e6 (L v.key) v _ hB h9 (HC.o.kept ae) (HV.o.kept ae)).mono ?_;rintro e w4 ⟨qN,l',b,rfl,h4,h5,k4⟩));exact bn rfl ⟨qN,l',b,rfl,h4,h5⟩
 refine SP.oe (v:=v1) ?_ ?_
 ·intro wd hI hF;obtain⟨ae,ai,aj,aq,az,aK,a1,cw,d'⟩:=SS.o wd hI;clear hF;(try have cr:=(HM.o.keep ae).look hk;rw[jD.o]at cr);go_wp2;exact aP
 refine SP.oe (v:=eH v1 0) ?_ ?_
 ·intro wd hI hF;obtain⟨ae,ai,aj,aq,az,aK,a1,cw,d'⟩:=SS.o wd hI;have h1:=hF.1;clear hF;(try have cr:=(HM.o.keep ae).look hk;rw[jD.o]at cr);(obtain⟨w9,⟨qN,l',b,rfl,_⟩,_⟩:=h1);go_wp2;exact aP
 refine SP.oe (v:=eH v1 1) ?_ ?_
 ·intro wd hI hF;obtain⟨ae,ai,aj,aq,az,aK,a1,cw,d'⟩:=SS.o wd hI;have h1:=hF.1;clear hF;(try have cr:=(HM.o.keep ae).look hk;rw[jD.o]at cr);(obtain⟨w9,⟨qN,l',b,rfl,_⟩,_⟩:=h1);go_wp2;exact aP
 iterate 2 (apply SP.one av;(focus (intro wd hI hF;clear hF;obtain⟨ae,ai,aj,aq,az,aK,a1,cw,d'⟩:=SS.o wd hI;(try have cr:=(HM.o.keep ae).look hk;rw[jD.o]at cr);go_wp2;exact aP));refine SP.np ?_)
 refine SP.nil av λwd hI hF=> ?_;obtain⟨ae,ai,aj,aq,az,aK,a1,cw,d'⟩:=SS.o wd hI;have h1:=hF.1;clear hF SS;obtain⟨w9,⟨qN,l',b,rfl,eW,iH⟩,k9⟩:=h1;simp only[tz,tA];have HC':=aa (eW.kept k9);have G1:=aa iH;clear eW iH
 cases b
 ·go_wp2;go_ret
  have hl:l'=L v.key:=by
   rcases G1.o with ⟨_,h,_⟩|⟨h,_⟩
   ·exact h
   ·cases h
  exact⟨false,L,rfl,HS.o.kept ae,.inr ⟨Dp.o,l',(qd1 hl).symm,G1.o⟩,.ar ae,.ar ae⟩
 ·have jg:=aa ae;go_wp2;refine bz (λwB=>ad w wB/\ad wd wB/\wB.cell? ⟨hb,0,none⟩=some (.slice A own.length c)/\wB.cell? ⟨hb,1,none⟩=some (.map (some mb))/\wB.cell? ⟨w.heap.size,0,none⟩=some (.string v.key)) λwB SS=> ?_;obtain⟨au,br,aB,aC,aF⟩:=SS.o _ (ad.refl _);iterate 7 (first|refine DW.dt ?_|(refine DW.bt av ?_;intro wd hI;obtain⟨ae,ay,ai,aj,aq⟩:=SS.o wd hI;go_wp2;refine cu hI SS (λbf SS=> ?_) rfl;obtain⟨au,br,aB,aC,aF⟩:=SS.o _ (ad.refl _)))
  refine DW.tail av λwd hI=> ?_;obtain⟨ae,ay,ai,aj,aq⟩:=SS.o wd hI;clear SS;obtain⟨w5,cr,xR,cF⟩:=(HM.o.keep ae).put hk qN;go_wp2;go_ret;have hc5:=HC'.o;have hf:=Dn (HM.o.keep ae) cF;have cL:ah [mb] w w5:=(ah.ar ae).trans cF
  have rO:l'≠[]:=by
   rcases G1.o with ⟨h,_⟩|⟨_,i,h⟩
   ·cases h
   ·rw[h];simp
  refine⟨true,lh L v.key l',rfl,?_,.inr ⟨Dp.o,l',rfl,G1.o⟩,cL,(Fr.ar ae).trans hf⟩;exact(HS.o.kept ae).pz (λk hk=>⟨(pA.o k hk).1.kept ae,(pA.o k hk).2⟩) (HM.o.keep ae) hk xR cF ((hc5.kept ay).fr hf) Dp.o rO
structure KeysOf (ks:List ByteArray) (C:Ch):Prop where
 up:ks.Pairwise λa b=>hv a<hv b
 mem:∀ k,k∈ks↔Let k/\C k≠none
theorem TH (k:ByteArray):strOf (ig k)=k.data.toList:=rfl
theorem qd3 {a b:ByteArray} (ha:Let a) (hb:Let b) (h:a.data.toList<=b.data.toList):hv a<=hv b:=by
 obtain⟨c,h1,h2,rfl⟩:=ha;obtain⟨d,h3,h4,rfl⟩:=hb;rw[kg ab,kg ab];have e:∀ n,(ch n).data.toList=[UInt8.ofNat n]:=λn=>rfl;rw[e,e]at h;rcases R6 d c with g|g
 ·exfalso
  refine List.not_le.2 ?_ h;refine List.Lex.rel ?_;rw[UInt8.lt_iff_toNat_lt];simp;omega
 ·omega
theorem qd4 {w:World} {C:Ch} {ss:List (List UInt8)} (ho:w.ownsMap prog 9 RV b (Maps.size D) D) (h2:∀ k,Let k->∀ z,D.atKey (ig k) z=match C k with|some v=> .held v|none=>z) (h3:∀ kl,Maps.has D kl=true->∃ k v,Let k/\C k=some v/\kl=ig k) (hp:ss.Perm (strKeys D)):
  ∃ ks:List ByteArray,ks.flatMap cd=(ss.mergeSort leB).map encStr/\ks.length=ss.length/\ks.length=Maps.size D/\KeysOf ks C:=by
 obtain⟨es,rfl,aN⟩:=ho.tidy Ak
 have G3:∀ p∈es,∃ k v,Let k/\C k=some v/\p.1=ig k:=λp hp=>h3 p.1 (by
  rw[has_eq,List.any_eq_true];obtain⟨aH,he,bb⟩:=ho.keysOf;injection he with he;subst he;obtain⟨x,hx⟩:=bb p hp;obtain⟨s,_,hs,_⟩:=Maps.keyOf_str underlying9 hx;exact⟨p,hp,by rw[hs];simp[Lit.sameKey]⟩)
 have rP:∀ l,l∈ss↔∃ k,Let k/\C k≠none/\l=k.data.toList:=λl=>by
  rw[hp.mem_iff];show l∈es.map (λp=>strOf p.1)↔_
  rw[List.mem_map];constructor
  ·rintro⟨p,iH,rfl⟩;obtain⟨k,v,hk,lP,he⟩:=G3 p iH;exact⟨k,hk,by rw[lP];simp,by rw[he];rfl⟩
  ·rintro⟨k,hk,hc,rfl⟩;obtain⟨v,lP⟩:=Option.ne_none_iff_exists'.1 hc;have:=has_true_of_atKey (k:=ig k) (D:= .map es) λz=>by rw[h2 k hk z,lP]
   rw[has_eq,List.any_eq_true]at this;obtain⟨p,iH,hs⟩:=this;obtain⟨k2,v2,bb,_,he⟩:=G3 p iH;refine⟨p,iH,?_⟩;rw[he]at hs⊢;simpa [Lit.sameKey,ig,strOf]using hs
 have ek:ss.Nodup:=by
  refine hp.nodup_iff.2 ?_;show(es.map λp=>strOf p.1).Nodup
  refine List.pairwise_map.2 (aN.imp_of_mem λ{p q} iH py aN e=>aN ?_);obtain⟨a,_,_,_,ha⟩:=G3 p iH;obtain⟨b,_,_,_,hb⟩:=G3 q py;rw[ha,hb,TH,TH]at e;rw[ha,hb];unfold ig;rw[e]
 have tr:∀ a b c:List UInt8,leB a b=true->leB b c=true->leB a c=true:=λa b c h1 h2=>by simp only[leB,decide_eq_true_eq]at*;exact List.le_trans h1 h2
 have to:∀ a b:List UInt8,(leB a b||leB b a)=true:=λa b=>by simp only[leB,Bool.or_eq_true,decide_eq_true_eq];exact List.le_total a b
 have TI:=List.pairwise_mergeSort tr to ss;have lT:∀ l,l∈ss.mergeSort leB↔l∈ss:=λl=>(List.mergeSort_perm ss leB).mem_iff;have qd5:(ss.mergeSort leB).Nodup:=(List.mergeSort_perm ss leB).nodup_iff.2 ek;refine⟨(ss.mergeSort leB).map λl=>⟨l.toArray⟩,?_,ao,?_,?_,λk=> ?_⟩
 ·rw[List.flatMap_map];exact(List.map_eq_flatMap ..).symm
 ·rw[List.length_map,(List.mergeSort_perm ss leB).length_eq,hp.length_eq];show(es.map _).length=_
  rw[List.length_map,size_eq]
 ·refine List.pairwise_map.2 ((TI.and qd5).imp_of_mem λ{a b} ha hb ib=> ?_);obtain⟨k,hk,_,rfl⟩:=(rP a).1 ((lT a).1 ha);obtain⟨k2,bb,_,rfl⟩:=(rP b).1 ((lT b).1 hb);have h4:k.data.toList<=k2.data.toList:=by simpa [leB]using ib.1
  have h5:=qd3 hk bb h4;have h6:hv k≠hv k2:=λe=>ib.2 (by rw[hk.ext bb e]);show hv k<hv k2
  omega
 ·rw[List.mem_map];constructor
  ·rintro⟨l,hl,rfl⟩;obtain⟨k,hk,hc,rfl⟩:=(rP l).1 ((lT l).1 hl);exact⟨hk,hc⟩
  ·rintro⟨hk,hc⟩;exact⟨k.data.toList,(lT _).2 ((rP _).2 ⟨k,hk,hc,rfl⟩),rfl⟩
structure Am (ks:List ByteArray) (L:ByteArray->List ax):Prop where
 up:ks.Pairwise λa b=>hv a<hv b
 mem:∀ k,k∈ks↔Let k/\L k≠[]
theorem cP.none {w:World} (h:dc w B k (jC none) l):l=[]:=by
 obtain⟨A,c,hv,_,_,h3,_⟩:=h.row;injection hv with h1 h2 _;exact(h3 h1.symm).1
theorem Am.bx {ks:List ByteArray} (h:Am ks L):ks.length<=8:=by
 have gen:∀ (l:List ByteArray) (m:Int),(l.Pairwise λa b=>hv a<hv b)->(∀ k∈l,m<=hv k/\hv k<105)->(l.length:Int)<=max 0 (105-m):=by
  intro l
  induction l with
  |nil=>intro m _ _;simp;omega
  |cons a t ih=>
   intro m h hx;obtain⟨h1,h2⟩:=List.pairwise_cons.1 h;have ha:=hx a ao;have:=ih (hv a+1) h2 λd hd=>⟨by have:=h1 d hd;omega,(hx d (zM _ hd)).2⟩;rw[List.length_cons];omega
 have:=gen ks 97 h.up λk hk=>((h.mem k).1 hk).1.hv;omega
structure qQ (w:World) (B:Int) (hb mb:Nat) (own:List Rg) (L:ByteArray->List ax):Prop where
 bB:∃ v,w.heap[hb]? =some (.cells #[v,.map (some mb)] 148 (0,0))/\Rw w 63 2 bZ v own
 bx:own.length<=1000
 fz:∃ C,MapAt w mb C/\∀ k,Let k->dc w B k (jC (C k)) (L k)/\(C k≠none->L k≠[])
theorem cP.w {w:World} (h:cP w B hb mb own L):qQ w B hb mb own L:=by
 obtain⟨C,h1,h2⟩:=h.fz;exact⟨h.bB,h.bx,C,h1,λk hk=>⟨(h2 k hk).1,λg=>((h2 k hk).2 g).2⟩⟩
theorem Ma (B:Int) (hb mb:Nat) (own:List Rg) (L:ByteArray->List ax) (w:World) (h:qQ w B hb mb own L):
  Calls prog 130 #[.pointer (some ⟨hb,0,none⟩)] w λe w'=>∃ v' ks,e= .returned v'/\Rw w' 9 1 cd v' ks/\Am ks L/\ad w w':=by
 obtain⟨rv,h1,h2⟩:=h.bB;obtain⟨c0,c1,_,an⟩:=xO h1;obtain⟨C,⟨D,o4,hU,uR,Mb⟩,hc⟩:=h.fz
 have HC:ag (∀ k,Let k->(C k≠none↔L k≠[])):=λk hk=>by
  refine⟨λg=>(hc k hk).2 g,λg e=>g ?_⟩;have:=(hc k hk).1;rw[e]at this;exact cP.none this
 have HD:=aa o4;have Mc:=aa uR;have HD4:=aa Mb;clear h h1 h2 hc o4 uR Mb;go_in;go_wp2_with (go_at_call 199;refine(Calls.mono (callsIn_wide.1 (maps_Keys_199 (some mb) _))) ?_;rintro e w1 ⟨rfl,rfl⟩)
 refine(callsIn_wide.1 (slices_Sorted_keys_159_199 mb _ D RV w HD.o (by unfold maxLen;omega) ab)).mono ?_;rintro e w2 ⟨v,ss,rfl,hp,bA,_,dZ⟩;obtain⟨ks,eN,bb,lj,Md⟩:=qd4 HD.o Mc.o HD4.o hp;have HK:ag (Am ks L):=⟨Md.up,λk=>(Md.mem k).trans ⟨λg=>⟨g.1,(HC.o k g.1).1 g.2⟩,λg=>⟨g.1,(HC.o k g.1).2 g.2⟩⟩⟩;rw[<- eN,<- bb]at bA;have HO:=aa bA;have K2:ad w w2:=Below.trans ((ad.refl w).alloc _) (Below.mono dZ ao);clear hp bA dZ eN bb lj Md;go_wp2;go_ret;exact⟨v,ks,rfl,Rw.bp HO.o jU ak,HK.o,K2⟩
end Go.Proofs.YtehaoggjlciobaaGreat

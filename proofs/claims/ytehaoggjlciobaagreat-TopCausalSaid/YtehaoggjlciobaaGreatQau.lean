/- Part 15 of 40. -/
import Derived.Test.YtehaoggjlciobaaGreatQat
set_option linter.all false
set_option maxRecDepth 20000
set_option maxHeartbeats 16000000
namespace Go.Proofs.YtehaoggjlciobaaGreat
open Go.Maps Go.RowKit Go.Proofs.Tryz
variable {B cn cs:Int} {wv:Value} {w w2:World}
def Ax (hb:Nat):Value:= .agg #[.pointer (some ⟨hb,0,none⟩)]
structure cZ where
 sb:Nat
 hb:Nat
 mb:Nat
structure ci where
 own:List Rg
 L:ByteArray->List ax
 wait:List ax
 cn:Int
 cs:Int
def Ay (w:World) (p:cZ) (id:Int) (wv:Value) (cn cs:Int):Prop:=w.heap[p.sb]? =some (.cells #[.pointer (some ⟨p.hb,0,none⟩),.int .i64 id,wv,.int .i64 cn,.int .i64 cs] 126 (0,0))
structure ba (w:World) (B:Int) (p:cZ) (id:Int) (σ:ci):Prop where
 bB:∃ A c,Ay w p id (.slice A σ.wait.length c) σ.cn σ.cs/\Rw w 48 6 a8 (.slice A σ.wait.length c) σ.wait
 sh:cP w B p.hb p.mb σ.own σ.L
 jH:∀ v∈σ.wait,b7 w B v/\b4 σ.own v.key
 bx:σ.wait.length<=24
 pF:0<=σ.cn/\σ.cn<=B/\0<=σ.cs/\σ.cs<6
theorem Ay.cells {p:cZ} {id:Int} (h:Ay w p id wv cn cs):w.cell? ⟨p.sb,0,none⟩=some (.pointer (some ⟨p.hb,0,none⟩))/\w.cell? ⟨p.sb,1,none⟩=some (.int .i64 id)/\w.cell? ⟨p.sb,2,none⟩=some wv/\w.cell? ⟨p.sb,3,none⟩=some (.int .i64 cn)/\w.cell? ⟨p.sb,4,none⟩=some (.int .i64 cs)/\(∀ qD,w.frozen? ⟨p.sb,qD,none⟩=false)/\p.sb<w.heap.size:=
 ⟨aE h 0,aE h 1,aE h 2,aE h 3,aE h 4,aI h,(aQ h)⟩
theorem ba.apart {p:cZ} {id:Int} {σ:ci} (h:ba w B p id σ):p.sb≠p.hb/\p.sb≠p.mb/\p.hb≠p.mb:=by
 obtain⟨A,c,h1,_⟩:=h.bB;unfold Ay at h1;refine⟨λe=> ?_,λe=> ?_,h.sh.apart⟩
 ·obtain⟨v,h2,_⟩:=h.sh.bB;rw[<- e,h1]at h2;simp only[Option.some.injEq,Obj.cells.injEq]at h2;exact absurd h2.2.1 ak
 ·obtain⟨C,⟨D,⟨es,clock,h2,_⟩,_⟩,_⟩:=h.sh.fz;rw[<- e,h1]at h2;cases h2
theorem ba.but {p:cZ} {id:Int} {σ:ci} {X:List Nat} (h:ba w B p id σ) (hk:ah X w w2) (hf:Fr bq w w2) (h1:p.sb∉X) (h2:p.hb∉X) (h3:p.mb∉X):ba w2 B p id σ:=by
 obtain⟨A,c,h4,h5⟩:=h.bB;exact⟨⟨A,c,hk.heap h4 h1,h5.fr hf (.inl rfl)⟩,h.sh.but hk hf h2 h3,λv hv=>⟨(h.jH v hv).1.fr hf,(h.jH v hv).2⟩,h.bx,h.pF⟩
theorem ba.kept {p:cZ} {id:Int} {σ:ci} (h:ba w B p id σ) (hk:ad w w2):ba w2 B p id σ:=
 h.but (X:=[]) (.ar hk) (.ar hk) ao ao ao
theorem ba.mono {B2:Int} {p:cZ} {id:Int} {σ:ci} (h:ba w B p id σ) (hB:B<=B2):ba w B2 p id σ:=
 ⟨h.bB,h.sh.mono hB,λv hv=>⟨(h.jH v hv).1.mono hB,(h.jH v hv).2⟩,h.bx,⟨h.pF.1,Int.le_trans h.pF.2.1 hB,h.pF.2.2⟩⟩
theorem Mt (B:Int) (hb mb:Nat) (own:List Rg) (L:ByteArray->List ax) (v:ax) (w:World) (h:cP w B hb mb own L) (hv:b7 w B v) (hB:0<=B) (h9:B<=100000000000):
  Calls prog 150 #[Ax hb,aM v] w λe w'=>∃ b L',e= .returned (.bool b)/\cP w' B hb mb own L'/\xP own L v L' b/\ah [mb] w w'/\Fr bq w w':=by
 have HH:=aa h;have HV:=aa hv;have HP:=λW (K:ad w W)=>qd2 B hb mb own L v W (HH.o.kept K) (HV.o.kept K) hB h9;have l8:=aa HP;clear h hv HP;unfold Ax;unfold aM at*;go_in;go_wp2_with fail
 refine(l8.o _ al).mono ?_;rintro e w1 ⟨b,L',rfl,h1,h2,h3,h4⟩;have K0:ad w ((w.alloc (.cells #[.pointer (some ⟨hb,0,none⟩)] 124)).alloc (.cells #[.string v.key,.string v.val,.bool v.gone,.int .i64 v.n,.int .i64 v.s,.slice v.pa v.pn v.pc] 48)):=al;have H1:=aa h1;have H2:=aa h2;have H3:=aa ((ah.ar K0).trans h3);have H4:=aa ((Fr.ar K0).trans h4);clear h1 h2 h3 h4 K0;go_wp2;go_ret;exact⟨b,L',rfl,H1.o,H2.o,H3.o,H4.o⟩
theorem qes (B:Int) (hb mb:Nat) (own:List Rg) (L:ByteArray->List ax) (k:ByteArray) (w:World) (h:cP w B hb mb own L) (hk:Let k) (hB:0<=B) (h9:B<=100000000000):
  Calls prog 153 #[Ax hb,.string k] w λe w'=>∃ x b,e= .returned (.tuple #[aM x,.bool b])/\Told (L k) (((L k).length:Int)-1) x b/\ad w w':=by
 have HH:=aa h;clear h;unfold Ax;go_in;go_wp2_with fail
 refine(TF B hb mb own L k _ (HH.o.kept al) hk hB h9).mono ?_;rintro e w1 ⟨x,b,rfl,ht,k1⟩;have HT:=aa ht;have VV:=VB.but (ns (w.alloc (.cells #[.pointer (some ⟨hb,0,none⟩)] 124))) (ah.ar (S:=[]) k1) ao;rw[World.size_alloc]at VV;obtain⟨z0,z1,z2,z3,z4,z5,zf,_⟩:=VV.cells;have K1:ad w w1:=ad.call al k1;have f0:=zf 0;have f1:=zf 1;have f2:=zf 2;have f3:=zf 3;have f4:=zf 4;have f5:=zf 5;have qP:=aa VV;obtain⟨x0,x1,x2,x3,x4,x5,x6,x7,x8⟩:=x;unfold aM;clear k1 zf ht VV;go_wp2_with fail
 obtain⟨z0,z1,z2,z3,z4,z5,_,_⟩:=(qP.o.all (.string x0) (.string x1) (.bool x2) (.int .i64 x3) (.int .i64 x4) (.slice x5 x6 x7)).cells;refine KV (v:= .tuple #[aM ⟨x0,x1,x2,x3,x4,x5,x6,x7,x8⟩,.bool b]) (by simp[results,results153,go_sem,aM,z0,z1,z2,z3,z4,z5]) rfl ?_;exact⟨_,b,rfl,HT.o,ad.but K1 (ah.all _ _ _ _ _ _ _) ao⟩
theorem qet (B:Int) (hb mb:Nat) (own:List Rg) (L:ByteArray->List ax) (k:ByteArray) (n s:Int) (w:World) (h:cP w B hb mb own L) (hk:Let k) (hB:0<=B) (h9:B<=100000000000):
  Calls prog 240 #[Ax hb,.string k,.agg #[.int .i64 n,.int .i64 s]] w λe w'=>∃ x b,e= .returned (.tuple #[aM x,.bool b])/\vi (L k) n s x b/\ad w w':=by
 have HH:=aa h;clear h;unfold Ax;go_in;go_wp2_with fail
 refine(qd0 B hb mb own L k n s _ (HH.o.kept al) hk hB h9).mono ?_;rintro e w1 ⟨x,b,rfl,ht,k1⟩;have HT:=aa ht;have VV:=VB.but (ns ((w.alloc (.cells #[.pointer (some ⟨hb,0,none⟩)] 124)).alloc (.cells #[.int .i64 n,.int .i64 s] 45))) (ah.ar (S:=[]) k1) ao;rw[World.size_alloc,World.size_alloc]at VV;obtain⟨z0,z1,z2,z3,z4,z5,zf,_⟩:=VV.cells;have K1:ad w w1:=ad.call al k1;have f0:=zf 0;have f1:=zf 1;have f2:=zf 2;have f3:=zf 3;have f4:=zf 4;have f5:=zf 5;have qP:=aa VV;obtain⟨x0,x1,x2,x3,x4,x5,x6,x7,x8⟩:=x;unfold aM;clear k1 zf ht VV;go_wp2_with fail
 obtain⟨z0,z1,z2,z3,z4,z5,_,_⟩:=(qP.o.all (.string x0) (.string x1) (.bool x2) (.int .i64 x3) (.int .i64 x4) (.slice x5 x6 x7)).cells;refine KV (v:= .tuple #[aM ⟨x0,x1,x2,x3,x4,x5,x6,x7,x8⟩,.bool b]) (by simp[results,results240,go_sem,aM,z0,z1,z2,z3,z4,z5]) rfl ?_;exact⟨_,b,rfl,HT.o,ad.but K1 (ah.all _ _ _ _ _ _ _) (by simp;omega)⟩
section
variable (B:Int) (p:cZ) (id:Int) (σ:ci) (w:World) (h:ba w B p id σ) (hB:0<=B) (h9:B<=100000000000)
include h
theorem tD:Calls prog 85 #[.pointer (some ⟨p.sb,0,none⟩)] w λe w'=>∃ v',e= .returned v'/\Rw w' 63 2 bZ v' σ.own/\ad w w':=by
 obtain⟨WA,wc,hb,hw⟩:=h.bB;obtain⟨s0,s1,s2,s3,s4,sf,sl⟩:=hb.cells;have HH:=aa h;have iI:=aa hw;clear sf hb hw h;go_in;go_wp2_with fail
 refine(qdZ B p.hb p.mb σ.own σ.L _ HH.o.sh).mono ?_;rintro e w1 ⟨v1,rfl,h1,k1⟩;have H1:=aa h1;clear h1;go_wp2;go_ret;exact⟨v1,rfl,H1.o,k1⟩
theorem Mu (k:ByteArray):Calls prog 145 #[.pointer (some ⟨p.sb,0,none⟩),.string k] w λe w'=>∃ b,e= .returned (.bool b)/\(b=true↔b4 σ.own k)/\ad w w':=by
 have HO:=aa (tD B p id σ w h);clear h;go_in;go_wp2_with fail
 refine HO.o.mono ?_;rintro e w1 ⟨v1,rfl,h1,k1⟩;obtain⟨A,c,rfl,_,_⟩:=h1.form;have H1:=aa h1.rows;clear h1;go_wp2_with fail
 refine(wI A _ c σ.own k _ H1.o).mono ?_;rintro e w2 ⟨r,rfl,hr,k2⟩;have HR:ag (decide (0<=r)=true↔b4 σ.own k):=by unfold ag;rw[decide_eq_true_iff];exact Ab hr
 clear hr;go_wp2;go_ret;exact⟨_,rfl,HR.o,k1.call k2⟩
theorem Uc:Calls prog 113 #[.pointer (some ⟨p.sb,0,none⟩)] w λe w'=>e= .returned (.agg #[.int .i64 σ.cn,.int .i64 σ.cs])/\ad w w':=by
 obtain⟨WA,wc,hb,hw⟩:=h.bB;obtain⟨s0,s1,s2,s3,s4,sf,sl⟩:=hb.cells;have HH:=aa h;have iI:=aa hw;clear sf hb hw h;go_in;go_wp2_with fail
 have y0:(w.alloc (.cells #[.int .i64 σ.cn,.int .i64 σ.cs] 45)).cell? ⟨w.heap.size,0,none⟩=some (.int .i64 σ.cn):=by go_simp
 have y1:(w.alloc (.cells #[.int .i64 σ.cn,.int .i64 σ.cs] 45)).cell? ⟨w.heap.size,1,none⟩=some (.int .i64 σ.cs):=by go_simp
 refine KV (v:= .agg #[.int .i64 σ.cn,.int .i64 σ.cs]) (by simp[results,results113,go_sem,y0,y1]) rfl ?_;exact⟨rfl,al⟩
theorem Ud:Calls prog 109 #[.pointer (some ⟨p.sb,0,none⟩)] w λe w'=>e= .returned (.int .i64 (σ.wait.length:Int))/\ad w w':=by
 obtain⟨WA,wc,hb,hw⟩:=h.bB;obtain⟨s0,s1,s2,s3,s4,sf,sl⟩:=hb.cells;have HH:=aa h;have iI:=aa hw;clear sf hb hw h;go_wp2;go_ret;exact⟨rfl,al⟩
include hB h9
theorem DC:Calls prog 46 #[.pointer (some ⟨p.sb,0,none⟩)] w λe w'=>∃ v' l,e= .returned v'/\Rw w' 60 3 aS v' l/\j0 σ.L l/\ad w w':=by
 obtain⟨WA,wc,hb,hw⟩:=h.bB;obtain⟨s0,s1,s2,s3,s4,sf,sl⟩:=hb.cells;have HH:=aa h;have iI:=aa hw;clear sf hb hw h;go_in;go_wp2_with fail
 refine(qd6 B p.hb p.mb σ.own σ.L _ HH.o.sh hB h9).mono ?_;rintro e w1 ⟨v1,l,rfl,h1,h2,k1⟩;have H1:=aa h1;have H2:=aa h2;clear h1 h2;go_wp2;go_ret;exact⟨v1,l,rfl,H1.o,H2.o,k1⟩
theorem Ue (k:ByteArray) (hk:Let k):Calls prog 123 #[.pointer (some ⟨p.sb,0,none⟩),.string k] w λe w'=>∃ v',e= .returned v'/\dc w' B k v' (σ.L k)/\ad w w':=by
 obtain⟨WA,wc,hb,hw⟩:=h.bB;obtain⟨s0,s1,s2,s3,s4,sf,sl⟩:=hb.cells;have HH:=aa h;have iI:=aa hw;clear sf hb hw h;go_in;go_wp2_with fail
 refine(L7 B p.hb p.mb σ.own σ.L k _ HH.o.sh hk hB h9).mono ?_;rintro e w1 ⟨v1,rfl,h1,k1⟩;have H1:=aa h1;clear h1;go_wp2;go_ret;exact⟨v1,rfl,H1.o,k1⟩
def Uf (σ:ci) (k:ByteArray) (x:ax) (b:Bool) (er:Int):Prop:=(er=0/\b4 σ.own k/\Told (σ.L k) (((σ.L k).length:Int)-1) x b)∨(er=14/\¬b4 σ.own k/\x=zeroV/\b=false)
theorem Ug (k:ByteArray) (hk:Let k):Calls prog 92 #[.pointer (some ⟨p.sb,0,none⟩),.string k] w λe w'=>∃ x b er,e= .returned (.tuple #[aM x,.bool b,.int .i64 er])/\Uf σ k x b er/\ad w w':=by
 have HO:=aa (λw1 (K:ad w w1)=>Mu B p id σ w1 (h.kept K) k);obtain⟨WA,wc,hb,hw⟩:=h.bB;obtain⟨s0,s1,s2,s3,s4,sf,sl⟩:=hb.cells;have HH:=aa h;have iI:=aa hw;clear sf hb hw h;go_in;go_wp2_with fail
 refine(HO.o _ al).mono ?_;rintro e w1 ⟨b1,rfl,bD,k1⟩;have tw:=aa bD;have VV:=VB.but (ns w) (ah.ar (S:=[]) k1) ao;have K1:ad w w1:=ad.call al k1;have s0:=K1.af s0;have Cq:=K1.size;have qP:=aa VV;clear bD s1 s2 s3 s4 HO k1
 cases b1
 ·obtain⟨z0,z1,z2,z3,z4,z5,zf,_⟩:=VV.cells;have f0:=zf 0;have f1:=zf 1;have f2:=zf 2;have f3:=zf 3;have f4:=zf 4;have f5:=zf 5;clear zf VV;go_wp2;obtain⟨y0,y1,y2,y3,y4,y5,_,_⟩:=(qP.o.all (.string ⟨#[]⟩) (.string ⟨#[]⟩) (.bool false) (.int .i64 0) (.int .i64 0) (.slice none 0 0)).cells;refine KV (v:= .tuple #[aM zeroV,.bool false,.int .i64 14]) (by simp[results,results92,go_sem,aM,zeroV,y0,y1,y2,y3,y4,y5]) rfl ?_;exact⟨zeroV,false,14,rfl,.inr ⟨rfl,(λg=>by have:=tw.o.2 g;cases this),rfl,rfl⟩,ad.but K1 (ah.all _ _ _ _ _ _ _) ao⟩
 ·have e7:=aa (tw.o.1 rfl);clear VV;go_wp2_with fail
  refine(qes B p.hb p.mb σ.own σ.L k _ (HH.o.sh.kept K1) hk hB h9).mono ?_;rintro e w2 ⟨x,b,rfl,ht,k2⟩;have HT:=aa ht;have K2:=K1.call k2;have V2:=qP.o.but (ah.ar (S:=[]) k2) ao;obtain⟨x0,x1,x2,x3,x4,x5,x6,x7,x8⟩:=x;have V3:=V2.but (ah.ar (S:=[]) ((ad.refl w2).alloc (.cells #[.string x0,.string x1,.bool x2,.int .i64 x3,.int .i64 x4,.slice x5 x6 x7] 48))) ao;have KA:=K2.alloc (.cells #[.string x0,.string x1,.bool x2,.int .i64 x3,.int .i64 x4,.slice x5 x6 x7] 48);have H3:=aa V3;have lV:w.heap.size<w2.heap.size:=V2.cells.2.2.2.2.2.2.2;unfold aM;clear ht V2 V3 k2 qP K1 Cq;go_wp2_with (refine xM 28 (λW=>ag (VB W w.heap.size (.string ⟨#[]⟩) (.string ⟨#[]⟩) (.bool false) (.int .i64 0) (.int .i64 0) (.slice none 0 0))/\ad w W/\W.cell? ⟨w2.heap.size,0,none⟩=some (.string x0)/\W.cell? ⟨w2.heap.size,1,none⟩=some (.string x1)/\W.cell? ⟨w2.heap.size,2,none⟩=some (.bool x2)/\W.cell? ⟨w2.heap.size,3,none⟩=some (.int .i64 x3)/\W.cell? ⟨w2.heap.size,4,none⟩=some (.int .i64 x4)/\W.cell? ⟨w2.heap.size,5,none⟩=some (.slice x5 x6 x7)) rfl ⟨H3,KA,by go_simp,by go_simp,by go_simp,by go_simp,by go_simp,by go_simp⟩ ?_;rintro W ⟨Dm,bb,y0,y1,y2,y3,y4,y5⟩;obtain⟨z0,z1,z2,z3,z4,z5,zf,_⟩:=Dm.o.cells;have f0:=zf 0;have f1:=zf 1;have f2:=zf 2;have f3:=zf 3;have f4:=zf 4;have f5:=zf 5;clear zf)
  obtain⟨y0,y1,y2,y3,y4,y5,_,_⟩:=(Dm.o.all (.string x0) (.string x1) (.bool x2) (.int .i64 x3) (.int .i64 x4) (.slice x5 x6 x7)).cells;refine KV (v:= .tuple #[aM ⟨x0,x1,x2,x3,x4,x5,x6,x7,x8⟩,.bool b,.int .i64 0]) (by simp[results,results92,go_sem,aM,y0,y1,y2,y3,y4,y5]) rfl ?_;exact⟨_,b,0,rfl,.inl ⟨rfl,e7.o,HT.o⟩,ad.but bb (ah.all _ _ _ _ _ _ _) ao⟩
end
def Hd (x v:ax):Prop:=x.key=v.key/\x.n=v.n/\x.s=v.s
theorem qeu (x v:ax) (P:Nat) (w:World) (hc:w.heap[P]? =some (.cells (a8 v).toArray 48 (0,0))):
  Calls prog 242 #[aM x,.pointer (some ⟨P,0,none⟩)] w λe w'=>∃ b,e= .returned (.bool b)/\(b=true↔Hd x v)/\ad w w':=by
 have hP:P<w.heap.size:=(aQ hc);obtain⟨c0,c1,c2,c3,c4,c5,_,_⟩:=VB.cells (show VB w P _ _ _ _ _ _ from hc);clear hc;obtain⟨x0,x1,x2,x3,x4,x5,x6,x7,x8⟩:=x;obtain⟨y0,y1,y2,y3,y4,y5,y6,y7,y8⟩:=v;unfold aM Hd;simp only at c0 c1 c2 c3 c4 c5⊢;by_cases q0:x0.toList=y0.toList
 ·have e0:x0=y0:=by rw[ByteArray.toList_eq,ByteArray.toList_eq]at q0;exact C7 q0
  have hq:(x0.toList==y0.toList)=true:=by simp[q0]
  have E0:=aa e0;clear q0 e0;by_cases q1:x3=y3
  ·by_cases q2:x4=y4
   ·subst q1 q2;go_wp2;go_ret;exact⟨true,rfl,by simp[E0.o],al⟩
   ·go_wp2;go_ret;exact⟨false,rfl,by simp[q2],al⟩
  ·go_wp2;go_ret;exact⟨false,rfl,by simp[q1],al⟩
 ·have hq:(x0.toList==y0.toList)=false:=by simp[q0]
  have E0:ag (x0≠y0):=λe=>q0 (by rw[e]);clear q0;go_wp2;go_ret;exact⟨false,rfl,by simp[show x0≠y0 from E0.o],al⟩
def xW (σ:ci) (v:ax):Prop:=(∃ x∈σ.L v.key,x.n=v.n/\x.s=v.s)∨∃ x∈σ.wait,Hd x v
def He (b:Bool) (p:Prop):Prop:=b=true↔p
theorem qev (B:Int) (p:cZ) (id:Int) (σ:ci) (v:ax) (w:World) (h:ba w B p id σ) (hk:Let v.key) (hB:0<=B) (h9:B<=100000000000):
  Calls prog 183 #[.pointer (some ⟨p.sb,0,none⟩),aM v] w λe w'=>∃ b,e= .returned (.bool b)/\He b (xW σ v)/\ad w w':=by
 have iS:∀ fn first cap w,(Instr.makeFunc fn first cap).run prog w= .ok (.func fn first cap) w:=λ_ _ _ _=>rfl
 obtain⟨WA,wc,hb,hw⟩:=h.bB;obtain⟨s0,s1,s2,s3,s4,sf,sl⟩:=hb.cells;have HH:=aa h;have iI:=aa hw;have cX:=h.bx;clear sf hb hw h s1 s3 s4;unfold aM;go_wp2;refine ey [none,none,none,none,none,none,none,none,some (λu w'=>∃ x b,u= .tuple #[aM x,.bool b]/\vi (σ.L v.key) v.n v.s x b),none,none,none,some (λu w'=>∃ q,u= .pointer (some ⟨q,0,none⟩)/\w.heap.size+1<=q/\w'.heap[q]? =some (.cells #[.string ⟨#[]⟩,.string ⟨#[]⟩,.bool false,.int .i64 0,.int .i64 0,.slice none 0 0] 48 (0,0)))] (λwB=>ad w wB/\ad (w.alloc (.cells #[.string v.key,.string v.val,.bool v.gone,.int .i64 v.n,.int .i64 v.s,.slice v.pa v.pn v.pc] 48)) wB/\wB.cell? ⟨p.sb,0,none⟩=some (.pointer (some ⟨p.hb,0,none⟩))/\wB.cell? ⟨p.sb,2,none⟩=some (.slice WA σ.wait.length wc)/\wB.cell? ⟨w.heap.size,0,none⟩=some (.string v.key)/\wB.cell? ⟨w.heap.size,1,none⟩=some (.string v.val)/\wB.cell? ⟨w.heap.size,2,none⟩=some (.bool v.gone)/\wB.cell? ⟨w.heap.size,3,none⟩=some (.int .i64 v.n)/\wB.cell? ⟨w.heap.size,4,none⟩=some (.int .i64 v.s)/\wB.cell? ⟨w.heap.size,5,none⟩=some (.slice v.pa v.pn v.pc)) λwB SS=> ?_;obtain⟨au,br,_⟩:=SS.o _ (ad.refl _);iterate 8 refine SP.on ?_
 refine SP.ew ?_ λv1=> ?_
 ·intro wd hI hF;obtain⟨ae,ay,ai,aj,aq,az,aK,a1,cw,d'⟩:=SS.o wd hI;clear hF;go_wp2_with ((go_at_call 240;refine(qet B p.hb p.mb σ.own σ.L v.key v.n v.s _ (HH.o.sh.kept ae) hk hB h9).mono ?_;rintro e w4 ⟨x,b,rfl,h4,k4⟩));exact bn rfl ⟨x,b,rfl,h4⟩
 refine SP.on (v:=v1) ?_;refine SP.oe (v:=eH v1 0) ?_ ?_
 ·intro wd hI hF;obtain⟨ae,ay,ai,aj,aq,az,aK,a1,cw,d'⟩:=SS.o wd hI;have h1:=hF.1;clear hF;(obtain⟨w9,⟨x,b,rfl,_⟩,_⟩:=h1);go_wp2;exact aP
 refine SP.oe (v:=eH v1 1) ?_ ?_
 ·intro wd hI hF;obtain⟨ae,ay,ai,aj,aq,az,aK,a1,cw,d'⟩:=SS.o wd hI;have h1:=hF.1;clear hF;(obtain⟨w9,⟨x,b,rfl,_⟩,_⟩:=h1);go_wp2;exact aP
 refine SP.ew ?_ λv2=> ?_
 ·intro wd hI hF;obtain⟨ae,ay,ai,aj,aq,az,aK,a1,cw,d'⟩:=SS.o wd hI;clear hF;go_wp2;exact bn rfl ⟨_,rfl,by have:=ay.size;simpa using this,yY _ _⟩
 refine SP.late [11] av av ?_;intro wd hI hF;obtain⟨ae,ay,ai,aj,aq,az,aK,a1,cw,d'⟩:=SS.o wd hI;have h1:=hF.2.1;have h2:=hF.1;clear hF SS;obtain⟨w9,⟨x,b,rfl,ha⟩,k9⟩:=h1;obtain⟨w8,⟨q,rfl,ko,hq⟩,k8⟩:=h2;simp only[tz,tA]
 have HA:ag (b=true↔∃ x∈σ.L v.key,x.n=v.n/\x.s=v.s):=by
  unfold ag;rcases ha with ⟨rfl,h1,h2⟩|⟨rfl,_,h1⟩
  ·exact⟨λ_=>⟨_,h1,h2⟩,λ_=>rfl⟩
  ·exact⟨(λh=>by cases h),λ⟨x,hx,hs⟩=>absurd hs (h1 x hx)⟩
 obtain⟨x0,x1,x2,x3,x4,x5,x6,x7,x8⟩:=x;unfold aM;have V2:VB wd q (.string ⟨#[]⟩) (.string ⟨#[]⟩) (.bool false) (.int .i64 0) (.int .i64 0) (.slice none 0 0):=k8.heap hq;obtain⟨z0,z1,z2,z3,z4,z5,zf,zl⟩:=V2.cells;have f0:=zf 0;have f1:=zf 1;have f2:=zf 2;have f3:=zf 3;have f4:=zf 4;have f5:=zf 5;clear ha k9 k8 hq V2 zf;refine TL.go ?_;refine TL.go ?_;refine TL.nil ?_;obtain⟨W3,db⟩:=eqR ((((((wd.setCell ⟨q,0,none⟩ (.string x0)).setCell ⟨q,1,none⟩ (.string x1)).setCell ⟨q,2,none⟩ (.bool x2)).setCell ⟨q,3,none⟩ (.int .i64 x3)).setCell ⟨q,4,none⟩ (.int .i64 x4)).setCell ⟨q,5,none⟩ (.slice x5 x6 x7));have ck:ah [q] wd W3:=by rw[db];exact ah.all q _ _ _ _ _ _
 have K3:ad w W3:=ad.but ae ck (by simp;omega);have px:ag (W3.heap[w.heap.size]? =some (.cells (a8 v).toArray 48 (0,0))):=ck.heap (ay.heap (yY w _)) (by simp;omega);have s2:=K3.af s2;rw[<- db];clear db ck z0 z1 z2 z3 z4 z5 f0 f1 f2 f3 f4 f5 zl ae ay au br
 cases b
 ·have HT:ag (fI [] W3 242 #[.pointer (some ⟨w.heap.size,0,none⟩)] aM σ.wait (λx b=>b=true↔Hd x v)):=⟨λargs w=>enters_of func242 av rfl args w,λW1 h1 y _=>qeu y v _ W1 (h1.kept.heap px.o)⟩;go_wp2_with fail
  refine(qaU _ σ.wait _ _ _ W3 (iI.o.kept K3) [] HT.o).mono ?_;rintro e w5 ⟨dB,rfl,h1,h2,k5⟩
  have HR:ag (He dB (xW σ v)):=by
   refine⟨λh=> ?_,λh=> ?_⟩
   ·obtain⟨a,ha,hs⟩:=h1 h;exact .inr ⟨a,ha,hs.1 rfl⟩
   ·rcases h with h|⟨x,hx,hs⟩
    ·have:=HA.o.2 h;cases this
    ·cases dB
     ·exact(h2 rfl x hx).2 hs
     ·rfl
  clear h1 h2;go_wp2;go_ret;exact⟨_,rfl,HR.o,K3.call k5⟩
 ·have HR:ag (He true (xW σ v)):=⟨λ_=> .inl (HA.o.1 rfl),λ_=>rfl⟩;go_wp2;go_ret;exact .inr ⟨rfl,HR.o,K3⟩
def fj (a b:Int×Int):Int×Int:=maxOf [a,b]
theorem qew (a b:Int×Int):fj a b=(0,0)∨fj a b=a∨fj a b=b:=by
 unfold fj maxOf;simp only[List.foldl_cons,List.foldl_nil,zz];split <;>split <;>simp
def Uh (σ:ci) (v:ax) (er:Int) (σ':ci):Prop:=
 (er=0/\¬b4 σ.own v.key/\σ'={σ with cn:=(fj (σ.cn,σ.cs) (v.n,v.s)).1,cs:=(fj (σ.cn,σ.cs) (v.n,v.s)).2})∨
 (er=0/\b4 σ.own v.key/\¬xW σ v/\σ.wait.length<24/\σ'={σ with wait:=σ.wait++[v],cn:=(fj (σ.cn,σ.cs) (v.n,v.s)).1,cs:=(fj (σ.cn,σ.cs) (v.n,v.s)).2})∨
 (er≠0/\b4 σ.own v.key/\(xW σ v∨24<=σ.wait.length)/\σ'=σ)
theorem ba.clock {p:cZ} {id:Int} {σ:ci} {v:ax} (h:ba w B p id σ) (hv:b7 w B v):0<=(fj (σ.cn,σ.cs) (v.n,v.s)).1/\(fj (σ.cn,σ.cs) (v.n,v.s)).1<=B/\0<=(fj (σ.cn,σ.cs) (v.n,v.s)).2/\(fj (σ.cn,σ.cs) (v.n,v.s)).2<6:=by
 have h1:=h.pF;have h2:=qck hv.wc.1;have h3:=hv.n;rcases qew (σ.cn,σ.cs) (v.n,v.s)with e|e|e <;>rw[e] <;>simp only <;>omega
theorem Mw {p:cZ} {id:Int} (h:Ay w p id wv cn cs) (hb:ah [p.sb] w w2):Fr bq w w2:=Fr.gn hb λx hx cur e he=>by
 simp only[At]at hx;rw[hx,show w.heap[p.sb]? =_ from h]at he;simp only[Option.some.injEq,Obj.cells.injEq]at he;rw[<- he.2.1];decide
theorem ba.Hf {p:cZ} {id:Int} {σ:ci} (h:ba w B p id σ) (m1 m2:Int) (hm:0<=m1/\m1<=B/\0<=m2/\m2<6):
  ba ((w.setCell ⟨p.sb,3,none⟩ (.int .i64 m1)).setCell ⟨p.sb,4,none⟩ (.int .i64 m2)) B p id {σ with cn:=m1,cs:=m2}/\ah [p.sb] w ((w.setCell ⟨p.sb,3,none⟩ (.int .i64 m1)).setCell ⟨p.sb,4,none⟩ (.int .i64 m2))/\Fr bq w ((w.setCell ⟨p.sb,3,none⟩ (.int .i64 m1)).setCell ⟨p.sb,4,none⟩ (.int .i64 m2)):=by
 obtain⟨A,c,h1,h2⟩:=h.bB;have hb:ah [p.sb] w ((w.setCell ⟨p.sb,3,none⟩ (.int .i64 m1)).setCell ⟨p.sb,4,none⟩ (.int .i64 m2)):=(ah.set _ 3 _).trans (ah.set _ 4 _);have hf:=Mw h1 hb;obtain⟨bj,a2,_⟩:=h.apart;exact⟨⟨⟨A,c,Ok _ _ 4 _ _ _ (Ok _ _ 3 _ _ _ h1),h2.fr hf (.inl rfl)⟩,h.sh.but hb hf (by simp;exact Ne.symm bj) (by simp;exact Ne.symm a2),λv hv=>⟨(h.jH v hv).1.fr hf,(h.jH v hv).2⟩,h.bx,hm⟩,hb,hf⟩
theorem ba.Ui {p:cZ} {id:Int} {σ:ci} (h:ba w B p id σ) (A:Option Addr) (c:Nat) (l:List ax) (hr:Rw w 48 6 a8 (.slice A l.length c) l) (hl:∀ v∈l,b7 w B v/\b4 σ.own v.key) (hn:l.length<=24):
  ba (w.setCell ⟨p.sb,2,none⟩ (.slice A l.length c)) B p id {σ with wait:=l}/\ah [p.sb] w (w.setCell ⟨p.sb,2,none⟩ (.slice A l.length c))/\Fr bq w (w.setCell ⟨p.sb,2,none⟩ (.slice A l.length c)):=by
 obtain⟨A0,c0,h1,h2⟩:=h.bB;have hb:ah [p.sb] w (w.setCell ⟨p.sb,2,none⟩ (.slice A l.length c)):=ah.set _ 2 _;have hf:=Mw h1 hb;obtain⟨bj,a2,_⟩:=h.apart;exact⟨⟨⟨A,c,Ok _ _ 2 _ _ _ h1,hr.fr hf (.inl rfl)⟩,h.sh.but hb hf (by simp;exact Ne.symm bj) (by simp;exact Ne.symm a2),λv hv=>⟨(hl v hv).1.fr hf,(hl v hv).2⟩,hn,h.pF⟩,hb,hf⟩
theorem qex (B:Int) (p:cZ) (id:Int) (σ:ci) (v:ax) (w:World) (h:ba w B p id σ) (hv:b7 w B v) (hB:0<=B) (h9:B<=100000000000):
  Calls prog 110 #[.pointer (some ⟨p.sb,0,none⟩),aM v] w λe w'=>∃ er σ',e= .returned (.int .i64 er)/\ba w' B p id σ'/\Uh σ v er σ'/\ah [p.sb] w w'/\Fr bq w w':=by
 obtain⟨WA,wc,hb,hw⟩:=h.bB;obtain⟨s0,s1,s2,s3,s4,sf,sl⟩:=hb.cells;have HH:=aa h;have Aq:=aa hb;have iI:=aa hw;have HV:=aa hv;have fy:=hv.check;have hk:=hv.key;have cX:=h.bx;have f2:=sf 2;have f3:=sf 3;have f4:=sf 4;clear sf hb hw h hv s0 s1;have HO:=aa (λw1 (K:ad w w1)=>Mu B p id σ w1 (HH.o.kept K) v.key);have HTH:ag (∀ w1,ad w w1->Calls prog 183 #[.pointer (some ⟨p.sb,0,none⟩),.agg #[.string v.key,.string v.val,.bool v.gone,.int .i64 v.n,.int .i64 v.s,.slice v.pa v.pn v.pc]] w1 λe w'=>∃ b,e= .returned (.bool b)/\He b (xW σ v)/\ad w1 w'):=λw1 K=>qev B p id σ v w1 (HH.o.kept K) hk hB h9;unfold aM;go_in;go_wp2_with fail
 refine(fy.o _ al).mono ?_;rintro e w1 ⟨rfl,k1⟩;have e0:w1.cell? ⟨w.heap.size,0,none⟩=some (.string v.key):=k1.af (by go_simp);have e1:w1.cell? ⟨w.heap.size,1,none⟩=some (.string v.val):=k1.af (by go_simp);have e2:w1.cell? ⟨w.heap.size,2,none⟩=some (.bool v.gone):=k1.af (by go_simp);have e3:w1.cell? ⟨w.heap.size,3,none⟩=some (.int .i64 v.n):=k1.af (by go_simp);have e4:w1.cell? ⟨w.heap.size,4,none⟩=some (.int .i64 v.s):=k1.af (by go_simp);have e5:w1.cell? ⟨w.heap.size,5,none⟩=some (.slice v.pa v.pn v.pc):=k1.af (by go_simp);have K1:ad w w1:=ad.call al k1;clear k1;go_wp2_with fail
 refine(HO.o _ K1).mono ?_;rintro e w2 ⟨b2,rfl,bG,k2⟩;have e0:=k2.af e0;have e1:=k2.af e1;have e2:=k2.af e2;have e3:=k2.af e3;have e4:=k2.af e4;have e5:=k2.af e5;have K2:=K1.call k2;have iZ:=aa bG;clear K1 k2 bG
 cases b2
 ·have s3:=K2.af s3;have s4:=K2.af s4;go_wp2;refine ey [none,none,none,none,none,none,none,some (λu w'=>∃ q,u= .slice (some ⟨q,0,none⟩) 2 2/\w'.heap[q]? =some (.cells #[.int .i64 σ.cn,.int .i64 σ.cs,.int .i64 v.n,.int .i64 v.s] 45 (0,0))),none,none,none] (λwB=>ad w wB/\ad w2 wB/\wB.cell? ⟨p.sb,3,none⟩=some (.int .i64 σ.cn)/\wB.cell? ⟨p.sb,4,none⟩=some (.int .i64 σ.cs)/\wB.cell? ⟨w.heap.size,3,none⟩=some (.int .i64 v.n)/\wB.cell? ⟨w.heap.size,4,none⟩=some (.int .i64 v.s)) λwB SS=> ?_;iterate 7 refine SP.on ?_
  refine SP.ew ?_ λv1=> ?_
  ·intro wd hI hF;obtain⟨ae,ay,ai,aj,aq,az⟩:=SS.o wd hI;clear hF;go_wp2_with (fail);exact bn rfl ⟨_,rfl,yY _ _⟩
  apply SP.one av
  ·intro wd hI hF;obtain⟨ae,ay,ai,aj,aq,az⟩:=SS.o wd hI;have h1:=hF.1;clear hF;go_wp2_with ((go_at_call 146;obtain⟨wq,⟨q,rfl,hq⟩,xC⟩:=h1;refine(zA _ 2 2 [(σ.cn,σ.cs),(v.n,v.s)] wd (CR (xC.heap hq))).mono ?_;rintro e w5 ⟨rfl,k5⟩));exact aP
  refine SP.np ?_;iterate 2 refine SP.on ?_
  refine SP.ml SS ?_;rintro wd hI hF ⟨ae,ay,ai,aj,aq,az⟩;clear hF SS;have jX:ag (¬b4 σ.own v.key):=λg=>by have:=iZ.o.2 g;cases this
  have f3:=(ae.frozen p.sb 3 sl).trans f3;have f4:=(ae.frozen p.sb 4 sl).trans f4;obtain⟨⟨m1,m2⟩,dn⟩:=eqQ (fj (σ.cn,σ.cs) (v.n,v.s));have oD:=aa dn;have bL:=HH.o.clock HV.o;rw[dn]at bL;have dQ:=aa ((HH.o.kept ae).Hf m1 m2 bL);unfold fj at dn;rw[dn];clear dn bL;go_wp2;go_ret;exact⟨0,_,rfl,dQ.o.1,.inl ⟨rfl,jX.o,by rw[oD.o]⟩,(ah.ar ae).trans dQ.o.2.1,(Fr.ar ae).trans dQ.o.2.2⟩
 ·have e7:=aa (iZ.o.1 rfl);go_wp2_with fail
  refine(HTH.o _ K2).mono ?_;rintro e w3 ⟨ck,rfl,dO,k3⟩;have e0:=k3.af e0;have e1:=k3.af e1;have e2:=k3.af e2;have e3:=k3.af e3;have e4:=k3.af e4;have e5:=k3.af e5;have K3:=K2.call k3;have px:=aa dO;clear K2 k3 dO
  cases ck
  rotate_left
  ·have HTT:=aa (px.o.1 rfl);go_wp2;go_ret;exact⟨13,σ,rfl,HH.o.kept K3,.inr (.inr ⟨ak,e7.o,.inl HTT.o,rfl⟩),.ar K3,.ar K3⟩
  have HNT:ag (¬xW σ v):=λg=>by have:=px.o.2 g;cases this
  have s2:=K3.af s2;go_wp2;refine ey [none,none,none,none,none,some (λu w'=>∃ v' er,u= .tuple #[v',.int .i64 er]/\TV w' σ.wait v v' er),none,none,none,none,none] (λwB=>ad w wB/\ad w3 wB/\wB.cell? ⟨p.sb,2,none⟩=some (.slice WA σ.wait.length wc)/\wB.cell? ⟨w.heap.size,0,none⟩=some (.string v.key)/\wB.cell? ⟨w.heap.size,1,none⟩=some (.string v.val)/\wB.cell? ⟨w.heap.size,2,none⟩=some (.bool v.gone)/\wB.cell? ⟨w.heap.size,3,none⟩=some (.int .i64 v.n)/\wB.cell? ⟨w.heap.size,4,none⟩=some (.int .i64 v.s)/\wB.cell? ⟨w.heap.size,5,none⟩=some (.slice v.pa v.pn v.pc)) λwB SS=> ?_;iterate 5 refine SP.on ?_
  refine SP.ew ?_ λv1=> ?_
  ·intro wd hI hF;obtain⟨ae,ay,ai,aj,aq,az,aK,a1,cw⟩:=SS.o wd hI;clear hF;go_wp2_with ((go_at_call 184;refine(qee B _ σ.wait v _ (iI.o.kept ae) ab (HV.o.kept ae)).mono ?_;rintro e w4 ⟨v',er,rfl,h4,k4⟩));exact bn rfl ⟨v',er,rfl,h4⟩
  refine SP.on (v:=v1) ?_;refine SP.oe (v:=eH v1 0) ?_ ?_
  ·intro wd hI hF;obtain⟨ae,ay,ai,aj,aq,az,aK,a1,cw⟩:=SS.o wd hI;have h1:=hF.1;clear hF;(obtain⟨w9,⟨v',er,rfl,_⟩,_⟩:=h1);go_wp2;exact aP
  refine SP.oe (v:=eH v1 1) ?_ ?_
  ·intro wd hI hF;obtain⟨ae,ay,ai,aj,aq,az,aK,a1,cw⟩:=SS.o wd hI;have h1:=hF.1;clear hF;(obtain⟨w9,⟨v',er,rfl,_⟩,_⟩:=h1);go_wp2;exact aP
  iterate 2 refine SP.on ?_
  refine SP.nil av λwd hI hF=> ?_;obtain⟨ae,ay,ai,aj,aq,az,aK,a1,cw⟩:=SS.o wd hI;have h1:=hF.1;clear hF SS;obtain⟨w9,⟨v',er,rfl,mX⟩,k9⟩:=h1;simp only[tz,tA];rcases mX with ⟨vn,rfl⟩|⟨vn,rfl,bU⟩
  ·have H24:=aa vn;go_wp2;go_ret;exact⟨15,σ,rfl,HH.o.kept ae,.inr (.inr ⟨ak,e7.o,.inr H24.o,rfl⟩),.ar ae,.ar ae⟩
  ·have oC:=bU.kept k9;obtain⟨A9,lQ,rfl,_,_⟩:=oC.form
   obtain⟨h1,h2,h3⟩:=(HH.o.kept ae).Ui A9 lQ (σ.wait++[v]) oC (λx hx=>by
    rcases Pv.1 hx with g|g
    ·exact⟨(HH.o.jH x g).1.kept ae,(HH.o.jH x g).2⟩
    ·simp only[At]at g;subst g;exact⟨HV.o.kept ae,e7.o⟩) (by simp;omega)
   have f2:=(ae.frozen p.sb 2 sl).trans f2;have hL:(σ.wait++[v]).length=σ.wait.length+1:=ao;rw[hL]at h1 h2 h3;have an:=(HH.o.kept ae).bB;obtain⟨_,_,an,_⟩:=an;have an:=an.cells.2.2.2.2.2.2;have aN:w.heap.size∉[p.sb]:=by simp;omega
   have e3:=h2.af aK aN;have e4:=h2.af a1 aN;go_wp2;revert e3 e4 h1 h2 h3
   generalize wd.setCell ⟨p.sb,2,none⟩ (.slice A9 (σ.wait.length+1) lQ)=W6;intro h1 h2 h3 e3 e4;have jV:=aa h1;have HBU:=aa h2;have Uue:=aa h3;have jg:=aa ae;have qU:=aa (h1.clock (HV.o.fr ((Fr.ar ae).trans h3)));obtain⟨qey,wcB,hb,_⟩:=h1.bB;obtain⟨_,_,_,s3,s4,sf,_⟩:=hb.cells;have f3:=sf 3;have f4:=sf 4;have sl:=hb.cells.2.2.2.2.2.2;clear sf hb h1 h2 h3 ae ay an aN;clear K3;go_wp2;refine ey [none,none,none,none,none,none,none,some (λu w'=>∃ q,u= .slice (some ⟨q,0,none⟩) 2 2/\w'.heap[q]? =some (.cells #[.int .i64 σ.cn,.int .i64 σ.cs,.int .i64 v.n,.int .i64 v.s] 45 (0,0))),none,none,none] (λwB=>ad W6 wB/\wB.cell? ⟨p.sb,3,none⟩=some (.int .i64 σ.cn)/\wB.cell? ⟨p.sb,4,none⟩=some (.int .i64 σ.cs)/\wB.cell? ⟨w.heap.size,3,none⟩=some (.int .i64 v.n)/\wB.cell? ⟨w.heap.size,4,none⟩=some (.int .i64 v.s)) λwB SS=> ?_;iterate 7 refine SP.on ?_
   refine SP.ew ?_ λv1=> ?_
   ·intro wd hI hF;obtain⟨ae,ai,aj,aq,az⟩:=SS.o wd hI;clear hF;go_wp2_with (fail);exact bn rfl ⟨_,rfl,yY _ _⟩
   apply SP.one av
   ·intro wd hI hF;obtain⟨ae,ai,aj,aq,az⟩:=SS.o wd hI;have h1:=hF.1;clear hF;go_wp2_with ((go_at_call 146;obtain⟨wq,⟨q,rfl,hq⟩,xC⟩:=h1;refine(zA _ 2 2 [(σ.cn,σ.cs),(v.n,v.s)] wd (CR (xC.heap hq))).mono ?_;rintro e w5 ⟨rfl,k5⟩));exact aP
   refine SP.np ?_;iterate 2 refine SP.on ?_
   refine SP.ml SS ?_;rintro wd hI hF ⟨ae,ai,aj,aq,az⟩;clear hF SS;have f3:=(ae.frozen p.sb 3 sl).trans f3;have f4:=(ae.frozen p.sb 4 sl).trans f4;have bL:=qU.o;obtain⟨⟨m1,m2⟩,dn⟩:=eqQ (fj (σ.cn,σ.cs) (v.n,v.s));have oD:=aa dn;rw[dn]at bL;have dQ:=aa ((jV.o.kept ae).Hf m1 m2 bL);unfold fj at dn;rw[dn];clear dn bL;have aR:=aa ae;go_wp2;go_ret;exact⟨0,rfl,_,dQ.o.1,.inr (.inl ⟨rfl,e7.o,HNT.o,vn,by rw[oD.o]⟩),((ah.ar jg.o).trans HBU.o).trans ((ah.ar aR.o).trans dQ.o.2.1),((Fr.ar jg.o).trans Uue.o).trans ((Fr.ar aR.o).trans dQ.o.2.2)⟩
end Go.Proofs.YtehaoggjlciobaaGreat

/- Part 32 of 53. -/
import Derived.Test.YtehaoggjlciobaaGreatPad
import Derived.Maps.Views
import Derived.Maps.Own
import Derived.Maps.RangeWalk
import Derived.DeepKeys4
set_option linter.all false
set_option maxRecDepth 20000
set_option maxHeartbeats 16000000
namespace Go.Proofs.YtehaoggjlciobaaGreat
open Go.RowKit Go.Maps
def Vk (w w2:World) (G G2:Option Nat):Prop:=G2=G∨∃ g,G2=some g/\w.heap.size<=g/\g<w2.heap.size
theorem qfD (s:Nat) (G:Option Nat) (A:Option Addr) (cap N lo n:Nat) (ds:List ByteArray) (d:ByteArray) (w:World) (hn:n=ds.length) (hN:N=lo+n) (h8:n<8) (gX:N<4611686018427387904)
  (h2:w.heap[s]? =some (.cells #[.int .i64 N,.slice A n cap] 143 (0,0)))
  (ho:jT w G (.slice A n cap) n (pk lo ds)) (Vl:s∉G.toList) (Hw:∀ g∈G.toList,g<w.heap.size):
  Calls Tryz.prog 209 #[.pointer (some ⟨s,0,none⟩),.string d] w λe w'=>e= .returned (.tuple #[.agg #[.int .i64 N,.string d],.int .i64 0])/\
   ∃ G2,Vk w w' G G2/\fZ w' s G2 lo (ds++[d])/\ah (s::G.toList) w w':=by
 have hs:s<w.heap.size:=(aQ h2);obtain⟨c0,c1,f0,f1⟩:=FI h2;have H2:=aa h2;have HO:=aa ho;have HN:=aa hn;have gB:=aa hN;have HGl:=aa Hw;have n1:s∉G.toList:=Vl;have n2:w.heap.size∉G.toList:=λh=>by have:=Hw _ h;omega
 have n3:w.heap.size+1∉G.toList:=λh=>by have:=Hw _ h;omega
 clear h2 ho hn hN Vl Hw;go_wp2
 refine oY (oS G.toList) (λwB=>ah [s] w wB/\wB.heap[s]? =some (.cells #[.int .i64 ((N:Int)+1),.slice A n cap] 143 (0,0))/\
   wB.heap[w.heap.size]? =some (.cells #[.int .i64 0,.string ⟨#[]⟩] 238 (0,0))/\wB.heap[w.heap.size+1]? =some (.cells #[.int .i64 N,.string d] 238 (0,0))/\
   jT wB G (.slice A n cap) n (pk lo ds)) ?_ av av _ rfl ?_
 ·have e1:ah [s] w (w.setCell ⟨s,0,none⟩ (.int .i64 ((N:Int)+1))):=(ah.refl _ _).setCell ao _
  have e2:(w.setCell ⟨s,0,none⟩ (.int .i64 ((N:Int)+1))).heap[s]? =some (.cells #[.int .i64 ((N:Int)+1),.slice A n cap] 143 (0,0)):=by
   have:=H2.o;simp[World.setCell,Array.getElem?_modify,this]
  have e3:∀ o1 o2,ad (w.setCell ⟨s,0,none⟩ (.int .i64 ((N:Int)+1))) (((w.setCell ⟨s,0,none⟩ (.int .i64 ((N:Int)+1))).alloc o1).alloc o2):=λo1 o2=>((ad.refl _).alloc _).alloc _;refine⟨e1.trans (.ar (e3 _ _)),(e3 _ _).heap e2,?_,?_,(HO.o.but e1 (λg hg=>by rintro h;simp at h;subst h;exact n1 (by simp[hg]))).but (.ar (S:=[]) (e3 _ _)) ao⟩
  ·have:=l5 (w.setCell ⟨s,0,none⟩ (.int .i64 ((N:Int)+1))) (.cells #[.int .i64 0,.string ⟨#[]⟩] 238);simp only[World.size_setCell]at this;exact((ad.refl _).alloc _).heap this
  ·have:=l5 ((w.setCell ⟨s,0,none⟩ (.int .i64 ((N:Int)+1))).alloc (.cells #[.int .i64 0,.string ⟨#[]⟩] 238)) (.cells #[.int .i64 N,.string d] 238);simp only[World.size_setCell,World.size_alloc]at this;exact this
 rintro wB ⟨hB,MS,B2,B3,Dg⟩;have GY:=aa Dg;have HBz:=aa (aQ B3);clear Dg;iterate 6 (apply DW.ct;(focus (intro wd hI;have x1:=aE (hI.heap MS n1) 1;have x2:=aE (hI.heap B3 n3) 0;have x3:=aE (hI.heap B3 n3) 1;simp only[List.getElem?_toArray,List.getElem?_cons_zero,List.getElem?_cons_succ]at x1 x2 x3;go_wp2;refine bd.mk _ rfl ⟨rfl,?_⟩;exact al));simp only[Act.put,List.setIfInBounds_toArray,List.set_cons_succ,List.set_cons_zero])
 refine DW.bt av ?_;intro wd hI;go_wp2;refine bd.bt _ rfl (by exact hD) (λbf=> ?_);simp only[Act.put,List.setIfInBounds_toArray,List.set_cons_succ,List.set_cons_zero];clear bf;refine DW.bt av ?_;intro Hy kK;have tP:ad wB Hy:=(hI.alloc _).call kK;have O5:=GY.o.but (.ar (S:=[]) tP) ao;have B5:=tP.heap MS;have B6:=tP.heap B3;have B7:=tP.heap B2;have Vm:Hy.heap[wd.heap.size]? =some (.cells #[.int .i64 N,.string d] 238 (0,0)):=kK.heap (l5 wd _);obtain⟨i0,hi,a7,aY,aW⟩:=ql0 uL;have tC:(pk lo ds).length=n*2:=by rw[Qz,<- HN.o]
 refine qaQ Hy rfl _ _ 116 rfl 238 i0 (.agg #[.int .i64 0,.string ⟨#[]⟩]) 24 Tryz.underlying116 hi a7 aY aW rfl G _ n (pk lo ds) O5 tC rfl ⟨wd.heap.size,0,none⟩ 1 [.int .i64 N,.string d] rfl rfl
  (JZ Vm) (J0 _ _) (by unfold maxLen;omega) ab rfl ?_
 intro v6 w6 G6 C0 O6 dw;have Vn:=C0.heap B5 n1;have Vo:=C0.heap B6 n3;have Vp:=C0.heap B7 n2;have eo:=aa O6;have eS:=aa dw;have qJ:=aa C0;refine bd.bt _ rfl C0 (λ_=> ?_);simp only[Act.put,List.setIfInBounds_toArray,List.set_cons_succ,List.set_cons_zero];clear O5 B5 B6 B7 Vm hi a7 aY aW tC O6 dw C0;iterate 2 (apply DW.ct;(focus (intro Ac hG;go_wp2;refine bd.mk _ rfl ⟨rfl,?_⟩;exact al));simp only[Act.put,List.setIfInBounds_toArray,List.set_cons_succ,List.set_cons_zero])
 refine DW.tail av ?_;intro wf hF;have D5:=hF.heap Vn;have MT:=hF.heap Vo;have D7:=hF.heap Vp;have x1:=ap D5 1;have x2:=ap MT 0;have x3:=ap MT 1;have x4:=ap D7 0;have x5:=ap D7 1;have y1:=aI D5 1;have y4:=aI D7 0;have y5:=aI D7 1;have HD:=aa D5;clear D5 MT D7 Vn Vo Vp MS B2 B3 c0 c1 f0 f1
 obtain⟨A6,gu,cy⟩:∃ A6 gu,v6= .slice A6 (n+1) gu:=by
  rcases eo.o with ⟨_,h,_⟩|⟨b,off,cap,hv,_⟩
  ·omega
  ·exact⟨_,_,hv⟩
 have HV:=aa cy;rw[cy];clear cy;have MU:w.heap.size≠s:=ab;go_wp2;have k1:ah (s::G.toList) w wf:=(((hB.mono ao).trans (.ar tP)).trans (qJ.o.mono (λx hx=>qce _ hx))).trans (.ar hF)
 have hz:w.heap.size+1<Hy.heap.size:=by
  have:=tP.size;have:=hB.size;have hBz:w.heap.size+1<wB.heap.size:=HBz.o;omega
 have g1:∀ g,G6=some g->g≠s/\g≠w.heap.size/\g<wf.heap.size:=by
  intro g hg;rcases eS.o with h|⟨g',h,h3,h4⟩
  ·have iX:g∈G.toList:=by rw[<- h,hg];simp
   exact⟨λe=>n1 (e▸iX),λe=>n2 (e▸iX),by have:=HGl.o g iX;have:=k1.size;omega⟩
  ·rw[hg]at h;injection h with h;subst h;exact⟨ab,ab,by have:=hF.size;omega⟩
 refine KV (v:= .tuple #[.agg #[.int .i64 N,.string d],.int .i64 0]) (by simp[results,Tryz.results209,go_sem,x4,x5,MU]) rfl ⟨rfl,G6,?_,?_,?_⟩
 ·rcases eS.o with h|⟨g,h,h3,h4⟩
  ·exact .inl h
  ·exact .inr ⟨g,h,ab,by have:=hF.size;simp;omega⟩
 ·refine⟨.slice A6 (n+1) gu,?_,?_,?_,?_⟩
  ·have:=HD.o;have e:(N:Int)+1=((lo+(ds++[d]).length:Nat):Int):=by have:=HN.o;have:=gB.o;simp;omega
   rw[<- e];simp[World.setCell,Array.getElem?_modify,this,MU,Ne.symm MU]
  ·have e:(ds++[d]).length=n+1:=by have:=HN.o;simp;omega
   have e2:pk lo (ds++[d])=pk lo ds++[.int .i64 N,.string d]:=by rw[QA,<- HN.o,<- gB.o]
   rw[e,e2,<- HV.o]
   have:=eo.o.but (S:=[s,w.heap.size]) (w2:=((wf.setCell ⟨s,1,none⟩ v6).setCell ⟨w.heap.size,0,none⟩ (.int .i64 N)).setCell ⟨w.heap.size,1,none⟩ (.string d))
    ((((ah.ar hF).setCell ao _).setCell ao _).setCell ao _) (λg hg=>by have:=g1 g hg;simp;omega)
   exact this
  ·intro h;exact(g1 s h).1 rfl
  ·intro g hg;have:=(g1 g hg).2.2;simpa using this
 ·exact(((k1.setCell ao _).setCell ao _).setCell ao _)
theorem qfE (s:Nat) (G:Option Nat) (lo:Nat) (ds:List ByteArray) (d:ByteArray) (w:World) (h:fZ w s G lo ds) (h8:ds.length<8) (gX:lo+ds.length<4611686018427387904):
  Calls Tryz.prog 209 #[.pointer (some ⟨s,0,none⟩),.string d] w λe w'=>e= .returned (.tuple #[.agg #[.int .i64 ((lo+ds.length:Nat):Int),.string d],.int .i64 0])/\
   ∃ G2,Vk w w' G G2/\fZ w' s G2 lo (ds++[d])/\ah (s::G.toList) w w':=by
 obtain⟨v,h2,h3,h4,h5⟩:=h
 obtain⟨A,c,rfl⟩:∃ A c,v= .slice A ds.length c:=by
  rcases h3 with ⟨rfl,h,_⟩|⟨b,off,cap,hv,_⟩
  ·exact⟨none,0,by rw[h]⟩
  ·exact⟨_,_,hv⟩
 exact qfD s G A c (lo+ds.length) lo ds.length ds d w rfl rfl h8 gX h2 h3 (by simpa using h4) (λg hg=>h5 g (by simpa using hg))
theorem qfF (s b off cap N lo n k:Nat) (q:Int) (w:World) (hn:0<n) (kU:n<=cap) (iR:cap<=9223372036854775807) (hN:N=lo+n) (gX:N<4611686018427387904)
  (hk:k<=n) (eN:0<k->(lo:Int)+k<=q) (bb:q<=(lo:Int)+k)
  (h2:w.heap[s]? =some (.cells #[.int .i64 N,.slice (some ⟨b,off,none⟩) n cap] 143 (0,0)))
  (hc:∀ i,i<n->w.cell? ⟨b,off+i*2,none⟩=some (.int .i64 ((lo+i:Nat):Int))):
  Calls Tryz.prog 176 #[.pointer (some ⟨s,0,none⟩),.int .i64 q] w λe w'=>e= .returned (.int .i64 k)/\
   ∃ v,w'.heap[s]? =some (.cells #[.int .i64 N,v] 143 (0,0))/\v= .slice (some (if n=k then⟨b,off,none⟩else⟨b,off+k*2,none⟩)) (n-k) (n-k)/\ah [s] w w':=by
 have hs:s<w.heap.size:=(aQ h2);obtain⟨c0,c1,f0,f1⟩:=FI h2;have H2:=aa h2;have HC:=aa hc;have HN:=aa hN;have hqN:q<=(N:Int):=ab;clear h2 hc hN;go_wp2;go_loop [5] (λi=>∃ U:Nat,U<=k/\i= .int .i64 U) (λi=>k-(intOf i).toNat)
 case atStart=>exact⟨0,ab,rfl⟩
 case round=>
  obtain⟨U,hj,rfl⟩:=hrel;by_cases DV:U<n
  ·have du:=HC.o U DV;by_cases an:U<k
   ·have ht:(((lo+U:Nat):Int)<q):=ab;go_wp2;go_round
    case rel=>exact⟨U+1,ab,aA⟩
    case measure=>simp[intOf];omega
   ·obtain rfl:U=k:=ab;have ht:¬(((lo+U:Nat):Int)<q):=ab;go_wp2;refine bz (λwB=>ad w wB/\wB.cell? ⟨s,0,none⟩=some (.int .i64 N)/\wB.cell? ⟨s,1,none⟩=some (.slice (some ⟨b,off,none⟩) n cap)) λwB SS=> ?_;repeat refine DW.dt ?_
    refine DW.tail av λwd hI=> ?_;obtain⟨ae,ai,aj⟩:=SS.o wd hI;clear SS;have D5:=ae.heap H2.o;have y1:=aI D5 1;have HD:=aa D5;clear D5;go_wp2;go_ret;refine⟨rfl,.slice (some ⟨b,off+U*2,none⟩) (n-U) (n-U),by have:=HD.o;simp[World.setCell,Array.getElem?_modify,this],?_,(ah.ar ae).setCell ao _⟩;simp;try omega
  ·obtain rfl:U=k:=ab;go_wp2;refine bz (λwB=>ad w wB/\wB.cell? ⟨s,0,none⟩=some (.int .i64 N)/\wB.cell? ⟨s,1,none⟩=some (.slice (some ⟨b,off,none⟩) n cap)) λwB SS=> ?_;repeat refine DW.dt ?_
   refine DW.tail av λwd hI=> ?_;obtain⟨ae,ai,aj⟩:=SS.o wd hI;clear SS;have D5:=ae.heap H2.o;have y1:=aI D5 1;have HD:=aa D5;clear D5;go_wp2;go_ret;refine⟨rfl,.slice (some ⟨b,off,none⟩) 0 0,by have:=HD.o;simp[World.setCell,Array.getElem?_modify,this],?_,(ah.ar ae).setCell ao _⟩;simp;try omega
theorem Vq (s N cap:Nat) (A:Option Addr) (q:Int) (w:World) (hq:q<=(N:Int)) (iR:cap<=9223372036854775807) (hA:A=none->cap=0)
  (h2:w.heap[s]? =some (.cells #[.int .i64 N,.slice A 0 cap] 143 (0,0))):
  Calls Tryz.prog 176 #[.pointer (some ⟨s,0,none⟩),.int .i64 q] w λe w'=>e= .returned (.int .i64 0)/\
   w'.heap[s]? =some (.cells #[.int .i64 N,.slice A 0 0] 143 (0,0))/\ah [s] w w':=by
 have hs:s<w.heap.size:=(aQ h2);obtain⟨c0,c1,f0,f1⟩:=FI h2;have H2:=aa h2;clear h2
 cases A with
 |none=>
  obtain rfl:=hA rfl;clear hA;go_wp2;go_rounds 1
  refine bz (λwB=>ad w wB/\wB.cell? ⟨s,0,none⟩=some (.int .i64 N)/\wB.cell? ⟨s,1,none⟩=some (.slice none 0 0)) λwB SS=> ?_;repeat refine DW.dt ?_
  refine DW.tail av λwd hI=> ?_;obtain⟨ae,ai,aj⟩:=SS.o wd hI;clear SS;have D5:=ae.heap H2.o;have y1:=aI D5 1;have HD:=aa D5;clear D5;go_wp2;go_ret;exact⟨rfl,by have:=HD.o;simp[World.setCell,Array.getElem?_modify,this],(ah.ar ae).setCell ao _⟩
 |some a=>
  clear hA;go_wp2;go_rounds 1
  refine bz (λwB=>ad w wB/\wB.cell? ⟨s,0,none⟩=some (.int .i64 N)/\wB.cell? ⟨s,1,none⟩=some (.slice (some a) 0 cap)) λwB SS=> ?_;repeat refine DW.dt ?_
  refine DW.tail av λwd hI=> ?_;obtain⟨ae,ai,aj⟩:=SS.o wd hI;clear SS;have D5:=ae.heap H2.o;have y1:=aI D5 1;have HD:=aa D5;clear D5;go_wp2;go_ret;exact⟨rfl,by have:=HD.o;simp[World.setCell,Array.getElem?_modify,this],(ah.ar ae).setCell ao _⟩
theorem qfG (s:Nat) (G:Option Nat) (lo:Nat) (ds:List ByteArray) (q:Int) (k:Nat) (w:World) (h:fZ w s G lo ds) (gX:lo+ds.length<4611686018427387904) (hk:k<=ds.length)
  (eN:0<k->(lo:Int)+k<=q) (bb:q<=(lo:Int)+k):
  Calls Tryz.prog 176 #[.pointer (some ⟨s,0,none⟩),.int .i64 q] w λe w'=>e= .returned (.int .i64 k)/\fZ w' s G (lo+k) (ds.drop k)/\ah [s] w w':=by
 obtain⟨v,h2,h3,h4,h5⟩:=h;have hlen:(ds.drop k).length=ds.length-k:=ao;have C5:lo+k+(ds.length-k)=lo+ds.length:=ab;have s9:=QC k lo ds hk;rcases h3 with ⟨rfl,h0,hG0⟩|⟨b,off,cap,rfl,hG,p1,p2,p3,p4,p5,p6⟩
 ·obtain rfl:ds=[]:=ql2 h0;obtain rfl:k=0:=by simpa using hk
  refine(Vq s lo 0 none q w ab ab (λ_=>rfl) h2).mono λe w' ⟨he,hh,hb⟩=>⟨he,⟨_,hh,.inl ⟨rfl,rfl,hG0⟩,h4,λg hg=>R4 (h5 g hg) hb.size⟩,hb⟩
 ·have qL:b≠s:=λe=>h4 (by rw[hG,e]);unfold maxLen at p2
  have keep:∀ w',ah [s] w w'->(∀ U,U<cap*2->(w'.cell? ⟨b,off+U,none⟩).isSome=true/\w'.frozen? ⟨b,off+U,none⟩=false)/\∀ U u,(pk lo ds)[U]? =some u->w'.cell? ⟨b,off+U,none⟩=some u:=by
   intro w' hb;refine⟨λU hj=> ?_,λU u hu=>hb.af (p5 U u hu) (by simpa using qL)⟩;obtain⟨e1,e2⟩:=p4 U hj;obtain⟨u,hu⟩:=Option.isSome_iff_exists.1 e1;exact⟨by rw[hb.af hu (by simpa using qL)];rfl,by rw[hb.frozen (Aa w _ hu) (by simpa using qL)];exact e2⟩
  rcases Nat.eq_zero_or_pos ds.length with h0|h0
  ·obtain rfl:ds=[]:=ql2 h0;obtain rfl:k=0:=by simpa using hk
   refine(Vq s lo cap (some ⟨b,off,none⟩) q w ab p2 (λh=>by cases h) h2).mono λe w' ⟨he,hh,hb⟩=>⟨he,⟨_,hh,.inr ⟨b,off,0,rfl,hG,CP _,ak,rfl,λU hj=>ab,λU u hu=>by simp[pk]at hu,p6.but hb (by simpa using qL)⟩,h4,λg hg=>R4 (h5 g hg) hb.size⟩,hb⟩
  ·refine(qfF s b off cap (lo+ds.length) lo ds.length k q w h0 p1 p2 rfl gX hk eN bb h2 (λi hi=>p5 (i*2) _ (QB lo ds i hi).1)).mono λe w' ⟨he,v,hh,hv,hb⟩=>⟨he,⟨v,?_,?_,h4,λg hg=>R4 (h5 g hg) hb.size⟩,hb⟩
   ·rw[hlen,C5];exact hh
   ·rw[hlen,<- s9];obtain⟨k1,k2⟩:=keep w' hb;by_cases zK:ds.length=k
    ·rw[hv,if_pos zK];refine .inr ⟨b,off,_,rfl,hG,CP _,by unfold maxLen;omega,by rw[ql1,p3,Nat.sub_mul],λU hj=>ab,λU u hu=> ?_,p6.but hb (by simpa using qL)⟩;have:=(bg hu);rw[ql1,p3]at this;omega
    ·rw[hv,if_neg zK];refine .inr ⟨b,off+k*2,_,rfl,hG,CP _,by unfold maxLen;omega,by rw[ql1,p3,Nat.sub_mul],λU hj=> ?_,λU u hu=> ?_,p6.but hb (by simpa using qL)⟩
     ·have:=k1 (k*2+U) ab;rwa [<- Nat.add_assoc]at this
     ·rw[List.getElem?_drop]at hu;have:=k2 _ u hu;rwa [<- Nat.add_assoc]at this
theorem qfH (G:Option Nat) (b off cap n:Nat) (xs:List Value) (w:World) (hb:n<=4294967296) (h1:∀ u∈xs,u.oneCell'=true) (hl:xs.length=n*2)
  (h:∀ U u,xs[U]? =some u->w.cell? ⟨b,off+U,none⟩=some u):
  Calls Tryz.prog 173 #[.slice (some ⟨b,off,none⟩) n cap] w λe w'=>∃ v',e= .returned v'/\w'.ownsRow w.heap.size 238 2 v' n xs/\ad w w':=by
 have H:=aa h;clear h;obtain⟨i0,hi,a7,aY,aW⟩:=ql0 uL;have bA:(w.alloc (.cells #[] 238)).ownsRow w.heap.size 238 2 (.slice (some ⟨w.heap.size,0,none⟩) 0 0) 0 []:=BK w 238 [] 0 2 rfl ak
 have H2:ag (∀ U u,xs[U]? =some u->(w.alloc (.cells #[] 238)).cell? ((⟨b,off,none⟩:Addr).add U)=some u):=by
  intro U u hu;have e:((⟨b,off,none⟩:Addr).add U)=⟨b,off+U,none⟩:=by simp[Addr.add]
  rw[e];exact((ad.refl w).alloc _).af (H.o U u hu)
 have hq:=λW=>Lib.run_eql_slice_nil (P:=Tryz.prog) W 116 238 (some ⟨b,off,none⟩) n cap 0 0 Tryz.underlying116;go_in;go_wp2_with (at_builtin;refine wpList_append_own _ rfl _ _ 116 rfl w.heap.size 238 i0 (.agg #[.int .i64 0,.string ⟨#[]⟩]) 2 24 Tryz.underlying116 hi a7 aY aW rfl ak _ 0 [] rfl bA ⟨b,off,none⟩ n cap xs rfl hl H2.o h1 (by unfold maxLen;omega) ab ao ?_;intro v3 w3 bE cD _)
 simp only[Nat.zero_add,List.nil_append]at bE;go_ret;exact⟨v3,rfl,bE,((ad.refl w).alloc _).grown cD (by intro g hg;have h9:some w.heap.size=some g:=hg;injection h9 with h9;exact Nat.le_of_eq h9)⟩
theorem qfI (w:World):
  Calls Tryz.prog 173 #[.slice none 0 0] w λe w'=>e= .returned (.slice none 0 0)/\ad w w':=by
 have hq:=λW=>Lib.run_eql_slice_nil (P:=Tryz.prog) W 116 238 none 0 0 0 0 Tryz.underlying116;go_wp2;go_ret;exact⟨rfl,al⟩
theorem Vr (G:Option Nat) (v:Value) (n:Nat) (xs:List Value) (w:World) (hv:jT w G v n xs) (hx:n=0->xs=[]) (hb:n<=4294967296) (h1:∀ u∈xs,u.oneCell'=true):
  Calls Tryz.prog 173 #[v] w λe w'=>∃ v',e= .returned v'/\w'.ownsRow w.heap.size 238 2 v' n xs/\ad w w':=by
 rcases hv with ⟨rfl,rfl,_⟩|⟨b,off,cap,rfl,_,_,_,p3,_,p5,_⟩
 ·obtain rfl:=hx rfl;exact(qfI w).mono λe w' ⟨he,hk⟩=>⟨_,he,qcb _ _ _ _,hk⟩
 ·exact qfH G b off cap n xs w hb h1 p3 p5
theorem Hz (s:Nat) (G:Option Nat) (lo:Nat) (ds:List ByteArray) (w:World) (h:fZ w s G lo ds) (hb:ds.length<=4294967296):
  Calls Tryz.prog 185 #[.pointer (some ⟨s,0,none⟩)] w λe w'=>∃ v',e= .returned v'/\w'.ownsRow w.heap.size 238 2 v' ds.length (pk lo ds)/\ad w w':=by
 obtain⟨v,h2,h3,_⟩:=h;have hc:=ap h2 1;have HO:=aa h3;have HX:ag (ds.length=0->pk lo ds=[]):=λh0=>by obtain rfl:ds=[]:=ql2 h0;rfl
 clear h2 h3;go_in;go_wp2_with (go_at_call 173;refine(Vr G v ds.length (pk lo ds) _ HO.o HX.o hb (qaO lo ds)).mono ?_;rintro e w2 ⟨v2,rfl,qfJ,bb⟩)
 go_ret;exact⟨v2,rfl,qfJ,bb⟩
def Row (w:World) (A:Option Addr) (n c lo:Nat) (ds:List ByteArray):Prop:=
 n=ds.length/\n<=c/\(0<n->∃ g,A=some ⟨g,0,none⟩/\g<w.heap.size/\∀ i,i<n->w.cell? ⟨g,i*2,none⟩=some (.int .i64 ((lo+i:Nat):Int))/\w.cell? ⟨g,i*2+1,none⟩=some (.string (ds[i]?.getD ⟨#[]⟩)))
theorem Row.kept {w w2:World} {A:Option Addr} {n c lo:Nat} {ds:List ByteArray} (h:Row w A n c lo ds) (hk:ad w w2):Row w2 A n c lo ds:=
 ⟨h.1,h.2.1,λh0=>by obtain⟨g,h1,h2,h3⟩:=h.2.2 h0;exact⟨g,h1,R4 h2 hk.size,λi hi=>⟨hk.af (h3 i hi).1,hk.af (h3 i hi).2⟩⟩⟩
theorem qfK:laidOutB Tryz.prog=true:=av
theorem qfL:(120:TypeId)<Tryz.prog.types.size:=qck av
theorem qfM:(match Tryz.prog.underlying 120 with|some (.array _ _)|some (.struct _)=>true|_=>false)=true:=by rw[Tryz.underlying120]
theorem AL:Keyed Tryz.prog 120:=Keyed.of_law (deep_law_laid qfK (m:=2) ab qfL av qfM)
def DX (a c:Nat):Value:= .agg #[.int .i64 (a:Int),.int .i64 (c:Int)]
theorem qfN:∀ a c:Fin 6,(keyOf Tryz.prog 120 (DX a c)).isSome=true:=qck av
noncomputable def kl (a c:Nat):Lit:=(keyOf Tryz.prog 120 (DX a c)).getD (.bool false)
theorem DY {a c:Nat} (ha:a<6) (hc:c<6):keyOf Tryz.prog 120 (DX a c)=some (kl a c):=by
 have h:=qfN ⟨a,ha⟩ ⟨c,hc⟩;unfold kl;obtain⟨x,hx⟩:=Option.isSome_iff_exists.1 h;simp only at hx;rw[hx];rfl
theorem qfO {a c:Nat} (ha:a<6) (hc:c<6):WideAt.IsKeyLit (kl a c):=AL.key (DY ha hc)
theorem Vs {a c b d:Nat} (ha:a<6) (hc:c<6) (hb:b<6) (hd:d<6) (h:kl a c=kl b d):a=b/\c=d:=by
 have h1:=DY ha hc;have h2:=DY hb hd;rw[<- h]at h2;have h3:=AL.inj h1 h2;unfold DX at h3;simp at h3;omega
def Rp (v:Value):Option (DataW Unit×List MemPlace):=
 match v with
 | .pointer none=>some (.nil,[])
 | .pointer (some ⟨b,0,none⟩)=>some (.lit (.int .i64 (b:Int)),[])
 |_=>none
theorem qfP (s:Nat):Rp (.pointer (some ⟨s,0,none⟩))=some (.lit (.int .i64 (s:Int)),[]):=by simp[Rp]
theorem qfQ:Rp (.pointer none)=some (.nil,[]):=rfl
theorem qfR {v:Value} {s:Nat} {ps:List MemPlace} (h:Rp v=some (.lit (.int .i64 (s:Int)),ps)):v= .pointer (some ⟨s,0,none⟩):=by
 unfold Rp at h;split at h
 ·simp at h
 ·rename_i b
  simp at h;have:b=s:=ab;rw[this]
 ·cases h
theorem qfS {v:Value} {ps:List MemPlace} (h:Rp v=some (.nil,ps)):v= .pointer none:=by
 unfold Rp at h;split at h
 ·rfl
 ·simp at h
 ·cases h
abbrev dR:=Nat->Nat->Option Nat
def PM (w:World) (b n:Nat) (S:dR):Prop:=∃ D,w.ownsMap Tryz.prog 120 Rp b n D/\
 (∀ a c,a<6->c<6->∀ z,D.atKey (kl a c) z=match S a c with|some s=> .lit (.int .i64 (s:Int))|none=>z)/\
 (∀ k,Maps.has D k=true->∃ a c s,a<6/\c<6/\S a c=some s/\k=kl a c)
theorem PM.new (w:World):PM (w.alloc (.map #[] 0)) w.heap.size 0 (λ_ _=>none):=
 ⟨_,World.ownsMap_made w _ _ _,λa c _ _ z=>rfl,λk h=>by simp[Maps.has]at h⟩
theorem PM.lt {w:World} {b n:Nat} {S:dR} (h:PM w b n S):b<w.heap.size:=by
 obtain⟨D,h1,_⟩:=h;exact h1.lt
theorem PM.but {w w2:World} {b n:Nat} {S:dR} {X:List Nat} (h:PM w b n S) (hb:ah X w w2) (hn:b∉X):PM w2 b n S:=by
 obtain⟨D,⟨es,clock,h1,h2⟩,h3⟩:=h;exact⟨D,⟨es,clock,hb.heap h1 hn,h2⟩,h3⟩
theorem PM.keep {w w2:World} {b n:Nat} {S:dR} (h:PM w b n S) (hk:ad w w2):PM w2 b n S:=h.but (.ar (S:=[]) hk) ao
theorem qfT (w:World):(zeroValue 111).run Tryz.prog w= .ok (.pointer none) w:=av
def ptr (o:Option Nat):Value:=match o with|some s=> .pointer (some ⟨s,0,none⟩)|none=> .pointer none
theorem PM.look {w:World} {b n:Nat} {S:dR} (h:PM w b n S) {a c:Nat} (ha:a<6) (hc:c<6):
  (Instr.lookup 108 (.map (some b)) (.agg #[.int .i64 (a:Int),.int .i64 (c:Int)]) false).run Tryz.prog w= .ok (ptr (S a c)) w:=by
 obtain⟨D,h1,h2,_⟩:=h;obtain⟨v,ps,cr,hv⟩:=h1.lookup AL Tryz.underlying108 (qfT w) qfQ (DY ha hc);rw[show(Value.agg #[.int .i64 (a:Int),.int .i64 (c:Int)])=DX a c from rfl,cr];rw[h2 a c ha hc]at hv;unfold ptr
 cases hs:S a c with
 |none=>rw[hs]at hv;rw[qfS hv]
 |some s=>rw[hs]at hv;rw[qfR hv]
def pz (S:dR) (a c s:Nat):dR:=λx y=>if x=a/\y=c then some s else S x y
theorem PM.put {w:World} {b n:Nat} {S:dR} (h:PM w b n S) {a c:Nat} (ha:a<6) (hc:c<6) (s:Nat) (hn:n<maxLen):
  ∃ w',(Instr.mapUpdate 108 (.map (some b)) (.agg #[.int .i64 (a:Int),.int .i64 (c:Int)]) (.pointer (some ⟨s,0,none⟩))).run Tryz.prog w= .ok () w'/\PM w' b (n+1) (pz S a c s)/\w.grownBy w' (some b):=by
 obtain⟨D,h1,h2,h3⟩:=h;obtain⟨w',cr,ho,hg⟩:=h1.update AL Tryz.underlying108 hn (DY ha hc) (qfP s)
 have hm:IsMap D:=by
  obtain⟨es,clock,_,_,_,ja⟩:=h1;exact⟨_,ja⟩
 refine⟨w',cr,⟨_,ho,λx y hx hy z=> ?_,λk hk=> ?_⟩,hg⟩
 ·unfold pz;by_cases e:x=a/\y=c
  ·obtain⟨rfl,rfl⟩:=e;rw[if_pos ⟨rfl,rfl⟩,atKey_put_same hm (qfO hx hy)]
  ·rw[if_neg e,atKey_put_other (λg=>e (Vs hx hy ha hc g)),h2 x y hx hy]
 ·by_cases e:k=kl a c
  ·exact⟨a,c,s,ha,hc,by simp[pz],e⟩
  ·rw[has_put_other e]at hk;obtain⟨x,y,t,hx,hy,hs,rfl⟩:=h3 k hk;exact⟨x,y,t,hx,hy,by unfold pz;rw[if_neg];exact hs;rintro⟨rfl,rfl⟩;exact e rfl,rfl⟩
theorem ad.tQ {S:List Nat} {w:World} {o:Obj} (_:ah S w (w.alloc o)):ad w (w.alloc o):=(ad.refl w).alloc o
theorem ad.tR {S:List Nat} {w:World} (_:ah S w w):ad w w:=ad.refl w
theorem cc.qfU {w:World} {b off n cap k m:Nat} {xs:List Value} (h:cc w (some b) (.slice (some ⟨b,off,none⟩) n cap) n k xs) (news:List Value) (hn:news.length=m*k) (hc:n+m<=cap):
  cc (w.setCells b (off+n*k) news) (some b) (.slice (some ⟨b,off,none⟩) (n+m) cap) (n+m) k (xs++news):=by
 rcases h with ⟨h,_⟩|⟨nY,qj,kP,hv,hG,h1,h2,h3,h4,h5,h6⟩
 ·cases h
 injection hv with ft cW wM;injection ft with ft;injection ft with e1 e2 _;subst e1 e2 wM;have eu:n*k+m*k<=cap*k:=by have:=Nat.mul_le_mul_right k hc;rw[Nat.add_mul]at this;exact this
 have c7:∀ U,U<news.length->(w.cell? ⟨b,off+n*k+U,none⟩).isSome=true:=λU hj=>by
  have:=(h4 (n*k+U) ab).1;rwa [<- Nat.add_assoc]at this
 refine .inr ⟨b,off,cap,rfl,rfl,hc,h2,by rw[qC,h3,hn,Nat.add_mul],λU hj=> ?_,λU u hu=> ?_,h6.setCells _ _ _⟩
 ·rw[World.frozen?_setCells];exact⟨World.isSome_setCells b _ _ w _ (h4 U hj).1,(h4 U hj).2⟩
 ·rcases R6 U (n*k)with hj|hj
  ·rw[qlZ ab]at hu;rw[World.cell?_setCells_out b _ _ w _ (λ_ _=> .inl (by show off+U<off+n*k;omega))];exact h5 U u hu
  ·rw[List.getElem?_append_right ab,h3]at hu;obtain⟨an,wN⟩:=pi.1 hu;have:=World.cell?_setCells_in b news (off+n*k) w c7 (U-n*k) an;rw[show off+n*k+(U-n*k)=off+U by omega]at this;rw[this];exact congrArg some wN
theorem AM {P:Program} (w:World) {ops:Array Oper} {rest:List Oper} {o:Oper} {a:Act} {Q:Exit->Act->World->Prop} (hg:o.guard=none) (s x:Operand) (t:TypeId)
  (uM:o.op=Op.call {callee:=Callee.builtin Builtin.append,args:= #[s,x],argTypes:= #[t,t]}) (e:TypeId) (i:TypeInfo) (z:Value) (k bytes:Nat) (h1:P.underlying t=some (.slice e)) (h2:P.info? e=some i)
  (h3:i.zero=some z) (h4:i.size=k) (h5:i.bytes=bytes) (h6:z.cells.size=k) (hk:1<=k) (G:Option Nat) (v:Value) (n m:Nat) (olds:List Value) (hv:cc w G v n k olds) (ho:olds.length=n*k) (hs:a.eval s=v)
  (gQ:Addr) (c:Nat) (news:List Value) (hx:a.eval x= .slice (some gQ) m c) (hn:news.length=m*k) (hc:∀ (U:Nat) u,news[U]? =some u->w.cell? (gQ.add U)=some u) (wO:∀ u∈news,u.oneCell'=true)
  (b1:n+m<=maxLen) (b2:(n+m)*bytes<=140737488355328)
  (he:e=238) (h:∀ v' w' G',ah G.toList w w'->cc w' G' v' (n+m) k (olds++news)->(G'=G∨∃ g,G'=some g/\w.heap.size<=g/\g<w'.heap.size)->wpList P ops Q rest (a.put o.dst v') w'):wpList P ops Q (o::rest) a w:=by
 rcases hv with ⟨rfl,rfl,rfl⟩|⟨b,off,cap,rfl,rfl,p1,p2,p3,p4,p5,p6⟩
 ·have eK:olds=[]:=ql2 (by simpa using ho);subst eK;have bA:w.ownsRow w.heap.size e k (.slice none 0 0) 0 []:=⟨ao,.inl ⟨rfl,rfl⟩⟩;refine wpList_append_own w hg s x t uM w.heap.size e i z k bytes h1 h2 h3 h4 h5 h6 hk _ 0 [] hs bA gQ m c news hx hn hc wO b1 b2 (CP _) λv' w' dk te _=> ?_;have fk:ah [] w w':=(ah.refl _ _).grown te (by simp[Value.ownBlock]);obtain⟨e1,e2⟩:=cc.bp he dk;rcases dk.2 with ⟨bH,h0⟩|⟨g,cap,cur,rfl,_⟩
  ·exact h v' w' none (fk.mono ao) (.inl ⟨bH,h0,rfl⟩) (.inl rfl)
  ·exact h _ w' _ (fk.mono ao) e1 (.inr ⟨g,rfl,e2 g rfl⟩)
 ·have O:cc w (some b) (.slice (some ⟨b,off,none⟩) n cap) n k olds:= .inr ⟨b,off,cap,rfl,rfl,p1,p2,p3,p4,p5,p6⟩
  refine wpList_append_arg w hg s x t uM e i z k bytes h1 h2 h3 h4 h5 h6 hk b off n cap olds hs ho p5 gQ m c news hx hn hc wO
   (λhr U hj=>by
    have eu:n*k+m*k<=cap*k:=by have:=Nat.mul_le_mul_right k hr;rw[Nat.add_mul]at this;exact this
    have:=p4 (n*k+U) ab;rwa [<- Nat.add_assoc]at this) b1 b2 (λhr=> ?_) (λhr v' w' dk te=> ?_)
  ·exact h _ _ (some b) (ah.setCells b _ _) (O.qfU news hn hr) (.inl rfl)
  ·obtain⟨e1,e2⟩:=cc.bp he dk;have fk:ah [] w w':=(ah.refl _ _).grown te ao;rcases dk.2 with ⟨bH,h0⟩|⟨g,cap,cur,rfl,_⟩
   ·omega
   ·exact h _ w' _ (fk.mono ao) e1 (.inr ⟨g,rfl,e2 g rfl⟩)
def tx (T:List ByteArray) (q:Nat):ByteArray:=T[q]?.getD ⟨#[]⟩
def bm (T:List ByteArray) (l:List Nat):List Value:=l.flatMap λq:Nat=>[.int .i64 (q:Int),.string (tx T q)]
theorem pN (T:List ByteArray):∀ l:List Nat,(bm T l).length=l.length*2
 |[]=>rfl
 |q::l=>by
  have:=pN T l;unfold bm at this⊢;rw[List.flatMap_cons,qC,this];simp;omega
theorem H8 (T:List ByteArray) (l m:List Nat):bm T (l++m)=bm T l++bm T m:=by simp[bm]
theorem DZ (T:List ByteArray) (l:List Nat):∀ u∈bm T l,u.oneCell'=true:=by
 intro u hu;obtain⟨q,_,h⟩:=List.mem_flatMap.1 hu;simp at h;rcases h with rfl|rfl <;>simp[Value.oneCell']
theorem AN (T:List ByteArray):∀ (l:List Nat) (i q:Nat),l[i]? =some q->(bm T l)[i*2]? =some (.int .i64 (q:Int))/\(bm T l)[i*2+1]? =some (.string (tx T q))
 |[],_,_,h=>by simp at h
 |p::l,0,q,h=>by
  obtain rfl:p=q:=by simpa using h
  simp[bm]
 |p::l,i+1,q,h=>by
  have:=AN T l i q (by simpa using h);have e:bm T (p::l)= .int .i64 (p:Int):: .string (tx T p)::bm T l:=by simp[bm]
  rw[e,show(i+1)*2=i*2+1+1 by omega];simpa using this
theorem qfV (T:List ByteArray) (l:List Nat) (k:Nat):(bm T l).drop (k*2)=bm T (l.drop k):=by
 induction k generalizing l with
 |zero=>simp
 |succ k ih=>
  cases l with
  |nil=>simp[bm]
  |cons q l=>
   have e:bm T (q::l)= .int .i64 (q:Int):: .string (tx T q)::bm T l:=by simp[bm]
   rw[e,show(k+1)*2=k*2+1+1 by omega];simpa using ih l
theorem qfW (T:List ByteArray) (l:List Nat) (k:Nat):(bm T l).take (k*2)=bm T (l.take k):=by
 induction k generalizing l with
 |zero=>simp[bm]
 |succ k ih=>
  cases l with
  |nil=>simp[bm]
  |cons q l=>
   have e:bm T (q::l)= .int .i64 (q:Int):: .string (tx T q)::bm T l:=by simp[bm]
   have e2:bm T ((q::l).take (k+1))= .int .i64 (q:Int):: .string (tx T q)::bm T (l.take k):=by simp[bm]
   rw[e,e2,show(k+1)*2=k*2+1+1 by omega];simpa using ih l
theorem qfX {T:List ByteArray} {q:Nat} (d:ByteArray) (h:q<T.length):tx (T++[d]) q=tx T q:=by unfold tx;rw[qlZ h]
theorem qfY (T:List ByteArray) (d:ByteArray):tx (T++[d]) T.length=d:=by simp[tx]
theorem qfZ {T:List ByteArray} {l:List Nat} (d:ByteArray) (h:∀ q∈l,q<T.length):bm (T++[d]) l=bm T l:=by
 induction l with
 |nil=>rfl
 |cons q l ih=>
  have e:∀ T,bm T (q::l)= .int .i64 (q:Int):: .string (tx T q)::bm T l:=λT=>by simp[bm]
  rw[e,e,qfX d (h q ao),ih λx hx=>h x (by simp[hx])]
theorem Vt (T:List ByteArray):∀ (k lo:Nat),lo+k<=T.length->(pk lo (T.drop lo)).take (k*2)=bm T ((List.range k).map λi=>lo+i)
 |0,lo,_=>by simp[bm]
 |k+1,lo,h=>by
  have e:T.drop lo=tx T lo::T.drop (lo+1):=by
   rw[List.drop_eq_getElem_cons (show lo<T.length by omega)];unfold tx;rw[jc (show lo<T.length by omega)];rfl
  have ih:=Vt T k (lo+1) ab;have e2:pk lo (tx T lo::T.drop (lo+1))= .int .i64 (lo:Int):: .string (tx T lo)::pk (lo+1) (T.drop (lo+1)):=by simp[pk]
  have e3:((List.range (k+1)).map λi=>lo+i)=lo::(List.range k).map λi=>lo+1+i:=by
   rw[List.range_succ_eq_map];simp[Function.comp_def,Nat.add_assoc,Nat.add_comm 1]
  rw[e,e2,e3,show(k+1)*2=k*2+1+1 by omega,List.take_succ_cons,List.take_succ_cons,ih];simp[bm]
def fS (w:World) (F:List Nat) (s:Nat) (T:List ByteArray) (lo:Nat) (aw:List Nat):Prop:=
 ∃ (sb rb:Nat) (Gop Gw:Option Nat) (v:Value),F=[s,sb,rb]++Gop.toList++Gw.toList/\F.Nodup/\(∀ x∈F,x<w.heap.size)/\
  w.heap[s]? =some (.cells #[.pointer (some ⟨sb,0,none⟩),.pointer (some ⟨rb,0,none⟩),v] 118 (0,0))/\
  fZ w sb Gop lo (T.drop lo)/\Recv w rb lo/\cc w Gw v aw.length 2 (bm T aw)/\lo<=T.length/\(∀ q∈aw,q<T.length)
theorem fS.but {w w2:World} {F X:List Nat} {s lo:Nat} {T:List ByteArray} {aw:List Nat} (h:fS w F s T lo aw) (hb:ah X w w2) (hn:∀ x∈F,x∉X):fS w2 F s T lo aw:=by
 obtain⟨sb,rb,Gop,Gw,v,h1,h2,h3,h4,h5,h6,h7,h8⟩:=h;subst h1;refine⟨sb,rb,Gop,Gw,v,rfl,h2,λx hx=>R4 (h3 x hx) hb.size,hb.heap h4 (hn _ ao),h5.but hb (hn _ ao) (λg hg=>hn g (by simp[hg])),h6.but hb (hn _ ao),h7.but hb (λg hg=>hn g (by simp[hg])),h8⟩
theorem fS.keep {w w2:World} {F:List Nat} {s lo:Nat} {T:List ByteArray} {aw:List Nat} (h:fS w F s T lo aw) (hk:ad w w2):fS w2 F s T lo aw:=h.but (.ar (S:=[]) hk) ao
def iJ (w:World) (N M:Nat):Prop:=w.heap[N]? =some (.cells #[.map (some M)] 110 (0,0))
theorem iJ.but {w w2:World} {X:List Nat} {N M:Nat} (h:iJ w N M) (hb:ah X w w2) (hn:N∉X):iJ w2 N M:=hb.heap h hn
theorem iJ.keep {w w2:World} {N M:Nat} (h:iJ w N M) (hk:ad w w2):iJ w2 N M:=hk.heap h
theorem mm (N M n a c:Nat) (S:dR) (w:World) (hN:iJ w N M) (hM:PM w M n S) (ha:a<6) (hc:c<6):
  Calls Tryz.prog 172 #[.pointer (some ⟨N,0,none⟩),.int .i64 a,.int .i64 c] w λe w'=>e= .returned (ptr (S a c))/\ad w w':=by
 have c0:=ap hN 0;have hl:=hM.look ha hc;clear hN hM;generalize ptr (S a c)=v at*;go_wp2;go_ret;exact⟨rfl,al⟩
theorem cc.at2 {w:World} {G:Option Nat} {v:Value} {n:Nat} {xs:List Value} (h:cc w G v n 2 xs):jT w G v n xs:=h
theorem lu {t:TypeId} {w:World} {g:Nat} {a b c:Value} (h:w.heap[g]? =some (.cells #[a,b,c] t (0,0))):w.cell? ⟨g,0,none⟩=some a/\w.cell? ⟨g,1,none⟩=some b/\w.cell? ⟨g,2,none⟩=some c/\w.frozen? ⟨g,2,none⟩=false:=by
 have c0:=aE h 0;have c1:=aE h 1;have c2:=aE h 2;simp at c0 c1 c2;exact⟨c0,c1,c2,aI h 2⟩
theorem qf0 (N M n a c s lo:Nat) (F:List Nat) (S:dR) (T:List ByteArray) (aw:List Nat) (w:World) (hN:iJ w N M) (hM:PM w M n S) (ha:a<6) (hc:c<6) (hs:S a c=some s) (h:fS w F s T lo aw) (hT:T.length<=4294967296):
  Calls Tryz.prog 144 #[.pointer (some ⟨N,0,none⟩),.int .i64 a,.int .i64 c] w λe w'=>e= .returned (.int .i64 ((T.length-lo:Nat):Int))/\ad w w':=by
 obtain⟨sb,rb,Gop,Gw,v,h1,h2,h3,h4,h5,h6,h7,h8,h9⟩:=h;obtain⟨c0,c1,c2,_⟩:=lu h4;have HN:=aa hN;have HM:=aa hM;have HS:=aa hs;have H5:=aa h5;clear hN hM hs h1 h2 h3 h4 h5 h6 h7 h9;go_in;go_wp2_with fail
 refine(mm N M n a c S _ HN.o HM.o ha hc).mono ?_;rintro e w1 ⟨rfl,k1⟩;rw[HS.o];have c0:=k1.af c0;unfold ptr;go_wp2_with fail
 refine(Hz sb Gop lo _ _ (H5.o.kept k1) (by rw[ql1];omega)).mono ?_;rintro e w2 ⟨v',rfl,bA,k2⟩;obtain⟨A,ni,rfl⟩:=(cc.bp rfl bA).1.form;have hl:ag ((T.drop lo).length=T.length-lo):=ql1;rw[hl.o];clear bA;go_wp2;go_ret;exact⟨rfl,k1.call k2⟩
theorem qf1 (N M n a c s lo:Nat) (F:List Nat) (S:dR) (T:List ByteArray) (aw:List Nat) (w:World) (hN:iJ w N M) (hM:PM w M n S) (ha:a<6) (hc:c<6) (hs:S a c=some s) (h:fS w F s T lo aw) (hT:aw.length<=4294967296):
  Calls Tryz.prog 105 #[.pointer (some ⟨N,0,none⟩),.int .i64 a,.int .i64 c] w λe w'=>∃ v',e= .returned v'/\w'.ownsRow w.heap.size 238 2 v' aw.length (bm T aw)/\ad w w':=by
 obtain⟨sb,rb,Gop,Gw,v,h1,h2,h3,h4,h5,h6,h7,h8,h9⟩:=h;obtain⟨c0,c1,c2,_⟩:=lu h4;have HN:=aa hN;have HM:=aa hM;have HS:=aa hs;have H7:=aa h7;clear hN hM hs h1 h2 h3 h4 h5 h6 h7 h9;go_in;go_wp2_with fail
 refine(mm N M n a c S _ HN.o HM.o ha hc).mono ?_;rintro e w1 ⟨rfl,k1⟩;rw[HS.o];have c2:=k1.af c2;unfold ptr;go_wp2_with fail
 refine(Vr Gw v aw.length (bm T aw) _ (H7.o.kept k1).at2 (λh0=>by rw[ql2 h0];rfl) hT (DZ T aw)).mono ?_;rintro e w2 ⟨v',rfl,bA,k2⟩;have HO:=aa bA;have hz:=k1.size;clear bA;go_wp2;go_ret;exact⟨v',rfl,⟨HO.o.1,HO.o.2.imp id λ⟨g,cap,cur,e1,e2,r⟩=>⟨g,cap,cur,e1,ab,r⟩⟩,k1.call k2⟩
end Go.Proofs.YtehaoggjlciobaaGreat

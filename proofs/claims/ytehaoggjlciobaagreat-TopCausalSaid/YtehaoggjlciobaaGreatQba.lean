/- Part 19 of 40. -/
import Derived.Test.YtehaoggjlciobaaGreatQac
import Derived.Maps.Views
import Derived.Maps.Own
import Derived.Maps.RangeWalk
import Derived.DeepKeys4
set_option linter.all false
set_option maxRecDepth 20000
set_option maxHeartbeats 16000000
namespace Go.Proofs.YtehaoggjlciobaaGreat
open Go.RowKit Go.Maps Go.Proofs.Tryz
variable {ps:List MemPlace} {F S X tT:List Nat} {xs:List Value} {M N a b c cap k lo n off rb s sb:Nat} {A B G G6 Gop Gw:Option Nat} {t:TypeId} {v v6:Value} {w w' w2:World}
def Vk (w w2:World) (G G2:Option Nat):Prop:=G2=G∨∃ g,G2=some g/\w.heap.size<=g/\g<w2.heap.size
theorem qfD (s:Nat) (G:Option Nat) (A:Option Addr) (cap N lo n:Nat) (ds:List ByteArray) (d:ByteArray) (w:World) (hn:n=ds.length) (hN:N=lo+n) (h8:n<8) (gX:N<4611686018427387904)
  (h2:w.heap[s]? =some (.cells #[.int .i64 N,.slice A n cap] 143 (0,0)))
  (ho:jT w G (.slice A n cap) n (pk lo ds)) (Vl:s∉G.toList) (Hw:∀ g∈G.toList,g<w.heap.size):
  Calls prog 209 #[.pointer (some ⟨s,0,none⟩),.string d] w λe w'=>e= .returned (.tuple #[.agg #[.int .i64 N,.string d],.int .i64 0])/\
   ∃ G2,Vk w w' G G2/\fZ w' s G2 lo (ds++[d])/\ah (s::G.toList) w w':=by
 have hs:s<w.heap.size:=(aQ h2);obtain⟨c0,c1,f0,f1⟩:=FI h2;have H2:=aa h2;have HO:=aa ho;have HN:=aa hn;have gB:=aa hN;have HGl:=aa Hw;have n1:s∉G.toList:=Vl;have n2:w.heap.size∉G.toList:=λh=>by have:=Hw _ h;omega
 have n3:w.heap.size+1∉G.toList:=λh=>by have:=Hw _ h;omega
 clear h2 ho hn hN Vl Hw;go_wp2
 refine oY (oS G.toList) (λwB=>ah [s] w wB/\wB.heap[s]? =some (.cells #[.int .i64 ((N:Int)+1),.slice A n cap] 143 (0,0))/\
   wB.heap[w.heap.size]? =some (.cells #[.int .i64 0,.string ⟨#[]⟩] 238 (0,0))/\wB.heap[w.heap.size+1]? =some (.cells #[.int .i64 N,.string d] 238 (0,0))/\
   jT wB G (.slice A n cap) n (pk lo ds)) ?_ av av _ rfl ?_
 ·have e1:ah [s] w (w.setCell ⟨s,0,none⟩ (.int .i64 ((N:Int)+1))):=(ah.refl _ _).setCell ao _
  have e2:(w.setCell ⟨s,0,none⟩ (.int .i64 ((N:Int)+1))).heap[s]? =some (.cells #[.int .i64 ((N:Int)+1),.slice A n cap] 143 (0,0)):=by
   have:=H2.o;simp[World.setCell,Array.getElem?_modify,this]
  have e3:∀ o1 o2,ad (w.setCell ⟨s,0,none⟩ (.int .i64 ((N:Int)+1))) (((w.setCell ⟨s,0,none⟩ (.int .i64 ((N:Int)+1))).alloc o1).alloc o2):=λo1 o2=>((ad.refl _).alloc _).alloc _;refine⟨e1.trans (.ar (e3 _ _)),(e3 _ _).heap e2,?_,?_,(HO.o.but e1 (λg hg=>by rintro h;simp at h;subst h;exact n1 (by simp[hg]))).but (.ar (S:=[]) (e3 _ _)) ao⟩
  ·have:=yY (w.setCell ⟨s,0,none⟩ (.int .i64 ((N:Int)+1))) (.cells #[.int .i64 0,.string ⟨#[]⟩] 238);simp only[World.size_setCell]at this;exact((ad.refl _).alloc _).heap this
  ·have:=yY ((w.setCell ⟨s,0,none⟩ (.int .i64 ((N:Int)+1))).alloc (.cells #[.int .i64 0,.string ⟨#[]⟩] 238)) (.cells #[.int .i64 N,.string d] 238);simp only[World.size_setCell,World.size_alloc]at this;exact this
 rintro wB ⟨hB,MS,B2,B3,Dg⟩;have GY:=aa Dg;have HBz:=aa (aQ B3);clear Dg;iterate 6 (apply DW.ct;(focus (intro wd hI;have x1:=aE (hI.heap MS n1) 1;have x2:=aE (hI.heap B3 n3) 0;have x3:=aE (hI.heap B3 n3) 1;simp only[List.getElem?_toArray,List.getElem?_cons_zero,List.getElem?_cons_succ]at x1 x2 x3;go_wp2;refine bd.mk _ rfl ⟨rfl,?_⟩;exact al));simp only[Act.put,List.setIfInBounds_toArray,List.set_cons_succ,List.set_cons_zero])
 refine DW.bt av ?_;intro wd hI;go_wp2;refine bd.bt _ rfl (by exact hD) (λbf=> ?_);simp only[Act.put,List.setIfInBounds_toArray,List.set_cons_succ,List.set_cons_zero];clear bf;refine DW.bt av ?_;intro Hy kK;have tP:ad wB Hy:=(hI.alloc _).call kK;have O5:=GY.o.but (.ar (S:=[]) tP) ao;have B5:=tP.heap MS;have B6:=tP.heap B3;have B7:=tP.heap B2;have Vm:Hy.heap[wd.heap.size]? =some (.cells #[.int .i64 N,.string d] 238 (0,0)):=kK.heap (yY wd _);obtain⟨i0,hi,a7,aY,aW⟩:=ql0 uL;have tC:(pk lo ds).length=n*2:=by rw[Qz,<- HN.o]
 refine qaQ Hy rfl _ _ 116 rfl 238 i0 (.agg #[.int .i64 0,.string ⟨#[]⟩]) 24 underlying116 hi a7 aY aW rfl G _ n (pk lo ds) O5 tC rfl ⟨wd.heap.size,0,none⟩ 1 [.int .i64 N,.string d] rfl rfl
  (JZ Vm) (J0 _ _) (by unfold maxLen;omega) ab rfl ?_
 intro v6 w6 G6 C0 O6 dw;have Vn:=C0.heap B5 n1;have Vo:=C0.heap B6 n3;have Vp:=C0.heap B7 n2;have eo:=aa O6;have eS:=aa dw;have qJ:=aa C0;refine bd.bt _ rfl C0 (λ_=> ?_);simp only[Act.put,List.setIfInBounds_toArray,List.set_cons_succ,List.set_cons_zero];clear O5 B5 B6 B7 Vm hi a7 aY aW tC O6 dw C0;iterate 2 (apply DW.ct;(focus (intro Ac hG;go_wp2;refine bd.mk _ rfl ⟨rfl,?_⟩;exact al));simp only[Act.put,List.setIfInBounds_toArray,List.set_cons_succ,List.set_cons_zero])
 refine DW.tail av ?_;intro wf hF;have D5:=hF.heap Vn;have MT:=hF.heap Vo;have D7:=hF.heap Vp;have x1:=ap D5 1;have x2:=ap MT 0;have x3:=ap MT 1;have x4:=ap D7 0;have x5:=ap D7 1;have y1:=aI D5 1;have y4:=aI D7 0;have y5:=aI D7 1;have HD:=aa D5;clear D5 MT D7 Vn Vo Vp MS B2 B3 c0 c1 f0 f1
 obtain⟨A6,gu,cy⟩:∃ A6 gu,v6= .slice A6 (n+1) gu:=by
  rcases eo.o with ⟨_,h,_⟩|⟨b,off,cap,hv,_⟩
  ·omega
  ·exact⟨_,_,hv⟩
 have HV:=aa cy;rw[cy];clear cy;have MU:w.heap.size≠s:=ab;go_wp2;have k1:ah (s::G.toList) w wf:=(((hB.mono ao).trans (.ar tP)).trans (qJ.o.mono (λx hx=>zM _ hx))).trans (.ar hF)
 have hz:w.heap.size+1<Hy.heap.size:=by
  have:=tP.size;have:=hB.size;have hBz:w.heap.size+1<wB.heap.size:=HBz.o;omega
 have g1:∀ g,G6=some g->g≠s/\g≠w.heap.size/\g<wf.heap.size:=by
  intro g hg;rcases eS.o with h|⟨g',h,h3,h4⟩
  ·have iX:g∈G.toList:=by rw[<- h,hg];simp
   exact⟨λe=>n1 (e▸iX),λe=>n2 (e▸iX),by have:=HGl.o g iX;have:=k1.size;omega⟩
  ·rw[hg]at h;injection h with h;subst h;exact⟨ab,ab,by have:=hF.size;omega⟩
 refine KV (v:= .tuple #[.agg #[.int .i64 N,.string d],.int .i64 0]) (by simp[results,results209,go_sem,x4,x5,MU]) rfl ⟨rfl,G6,?_,?_,?_⟩
 ·rcases eS.o with h|⟨g,h,h3,h4⟩
  ·exact .inl h
  ·exact .inr ⟨g,h,ab,by have:=hF.size;simp;omega⟩
 ·refine⟨.slice A6 (n+1) gu,?_,?_,?_,?_⟩
  ·have:=HD.o;have e:(N:Int)+1=((lo+(ds++[d]).length:Nat):Int):=by have:=HN.o;have:=gB.o;simp;omega
   rw[<- e];simp[World.setCell,Array.getElem?_modify,this,MU,Ne.symm MU]
  ·have e:(ds++[d]).length=n+1:=by have:=HN.o;simp;omega
   have e2:pk lo (ds++[d])=pk lo ds++[.int .i64 N,.string d]:=by rw[QA,<- HN.o,<- gB.o]
   rw[e,e2,<- HV.o]
   have:=eo.o.but (S:=[s,w.heap.size]) (w2:=((wf.setCell ⟨s,1,none⟩ v6).setCell ⟨w.heap.size,0,none⟩ (.int .i64 N)).setCell ⟨w.heap.size,1,none⟩ (.string d))
    ((((ah.ar hF).setCell ao _).setCell ao _).setCell ao _) (λg hg=>by have:=g1 g hg;simp;omega)
   exact this
  ·intro h;exact(g1 s h).1 rfl
  ·intro g hg;have:=(g1 g hg).2.2;simpa using this
 ·exact(((k1.setCell ao _).setCell ao _).setCell ao _)
theorem qfE (s:Nat) (G:Option Nat) (lo:Nat) (ds:List ByteArray) (d:ByteArray) (w:World) (h:fZ w s G lo ds) (h8:ds.length<8) (gX:lo+ds.length<4611686018427387904):
  Calls prog 209 #[.pointer (some ⟨s,0,none⟩),.string d] w λe w'=>e= .returned (.tuple #[.agg #[.int .i64 ((lo+ds.length:Nat):Int),.string d],.int .i64 0])/\
   ∃ G2,Vk w w' G G2/\fZ w' s G2 lo (ds++[d])/\ah (s::G.toList) w w':=by
 obtain⟨v,h2,h3,h4,h5⟩:=h
 obtain⟨A,c,rfl⟩:∃ A c,v= .slice A ds.length c:=by
  rcases h3 with ⟨rfl,h,_⟩|⟨b,off,cap,hv,_⟩
  ·exact⟨none,0,by rw[h]⟩
  ·exact⟨_,_,hv⟩
 exact qfD s G A c (lo+ds.length) lo ds.length ds d w rfl rfl h8 gX h2 h3 (by simpa using h4) (λg hg=>h5 g (by simpa using hg))
theorem qfF (s b off cap N lo n k:Nat) (q:Int) (w:World) (hn:0<n) (kU:n<=cap) (iR:cap<=9223372036854775807) (hN:N=lo+n) (gX:N<4611686018427387904)
  (hk:k<=n) (eN:0<k->(lo:Int)+k<=q) (bb:q<=(lo:Int)+k)
  (h2:w.heap[s]? =some (.cells #[.int .i64 N,.slice (some ⟨b,off,none⟩) n cap] 143 (0,0)))
  (hc:∀ i,i<n->w.cell? ⟨b,off+i*2,none⟩=some (.int .i64 ((lo+i:Nat):Int))):
  Calls prog 176 #[.pointer (some ⟨s,0,none⟩),.int .i64 q] w λe w'=>e= .returned (.int .i64 k)/\
   ∃ v,w'.heap[s]? =some (.cells #[.int .i64 N,v] 143 (0,0))/\v= .slice (some (if n=k then⟨b,off,none⟩else⟨b,off+k*2,none⟩)) (n-k) (n-k)/\ah [s] w w':=by
 have hs:s<w.heap.size:=(aQ h2);obtain⟨c0,c1,f0,f1⟩:=FI h2;have H2:=aa h2;have HC:=aa hc;have HN:=aa hN;have hqN:q<=(N:Int):=ab;clear h2 hc hN;go_wp2;go_loop [5] (λi=>∃ U:Nat,U<=k/\i= .int .i64 U) (λi=>k-(intOf i).toNat)
 case atStart=>exact⟨0,ab,rfl⟩
 case round=>
  obtain⟨U,hj,rfl⟩:=hrel;by_cases DV:U<n
  ·have du:=HC.o U DV;by_cases an:U<k
   ·have ht:(((lo+U:Nat):Int)<q):=ab;go_wp2;go_round
    case rel=>exact⟨U+1,ab,aA⟩
    case measure=>exact dY
   ·obtain rfl:U=k:=ab;have ht:¬(((lo+U:Nat):Int)<q):=ab;go_wp2;refine bz (λwB=>ad w wB/\wB.cell? ⟨s,0,none⟩=some (.int .i64 N)/\wB.cell? ⟨s,1,none⟩=some (.slice (some ⟨b,off,none⟩) n cap)) λwB SS=> ?_;repeat refine DW.dt ?_
    refine DW.tail av λwd hI=> ?_;obtain⟨ae,ai,aj⟩:=SS.o wd hI;clear SS;have D5:=ae.heap H2.o;have y1:=aI D5 1;have HD:=aa D5;clear D5;go_wp2;go_ret;refine⟨rfl,.slice (some ⟨b,off+U*2,none⟩) (n-U) (n-U),by have:=HD.o;simp[World.setCell,Array.getElem?_modify,this],?_,(ah.ar ae).setCell ao _⟩;simp;try omega
  ·obtain rfl:U=k:=ab;go_wp2;refine bz (λwB=>ad w wB/\wB.cell? ⟨s,0,none⟩=some (.int .i64 N)/\wB.cell? ⟨s,1,none⟩=some (.slice (some ⟨b,off,none⟩) n cap)) λwB SS=> ?_;repeat refine DW.dt ?_
   refine DW.tail av λwd hI=> ?_;obtain⟨ae,ai,aj⟩:=SS.o wd hI;clear SS;have D5:=ae.heap H2.o;have y1:=aI D5 1;have HD:=aa D5;clear D5;go_wp2;go_ret;refine⟨rfl,.slice (some ⟨b,off,none⟩) 0 0,by have:=HD.o;simp[World.setCell,Array.getElem?_modify,this],?_,(ah.ar ae).setCell ao _⟩;simp;try omega
theorem Vq (s N cap:Nat) (A:Option Addr) (q:Int) (w:World) (hq:q<=(N:Int)) (iR:cap<=9223372036854775807) (hA:A=none->cap=0)
  (h2:w.heap[s]? =some (.cells #[.int .i64 N,.slice A 0 cap] 143 (0,0))):
  Calls prog 176 #[.pointer (some ⟨s,0,none⟩),.int .i64 q] w λe w'=>e= .returned (.int .i64 0)/\
   w'.heap[s]? =some (.cells #[.int .i64 N,.slice A 0 0] 143 (0,0))/\ah [s] w w':=by
 have hs:s<w.heap.size:=(aQ h2);obtain⟨c0,c1,f0,f1⟩:=FI h2;have H2:=aa h2;clear h2
 cases A with
 |none=>
  obtain rfl:=hA rfl;clear hA;go_wp2;go_rounds 1
  refine bz (λwB=>ad w wB/\wB.cell? ⟨s,0,none⟩=some (.int .i64 N)/\wB.cell? ⟨s,1,none⟩=some (.slice none 0 0)) λwB SS=> ?_;repeat refine DW.dt ?_
  refine DW.tail av λwd hI=> ?_;obtain⟨ae,ai,aj⟩:=SS.o wd hI;clear SS;have D5:=ae.heap H2.o;have y1:=aI D5 1;have HD:=aa D5;clear D5;go_wp2;go_ret;exact⟨rfl,by have:=HD.o;simp[World.setCell,Array.getElem?_modify,this],(ah.ar ae).setCell ao _⟩
 |some a=>
  clear hA;go_wp2;go_rounds 1
  refine bz (λwB=>ad w wB/\wB.cell? ⟨s,0,none⟩=some (.int .i64 N)/\wB.cell? ⟨s,1,none⟩=some (.slice (some a) 0 cap)) λwB SS=> ?_;repeat refine DW.dt ?_
  refine DW.tail av λwd hI=> ?_;obtain⟨ae,ai,aj⟩:=SS.o wd hI;clear SS;have D5:=ae.heap H2.o;have y1:=aI D5 1;have HD:=aa D5;clear D5;go_wp2;go_ret;exact⟨rfl,by have:=HD.o;simp[World.setCell,Array.getElem?_modify,this],(ah.ar ae).setCell ao _⟩
theorem qfG (s:Nat) (G:Option Nat) (lo:Nat) (ds:List ByteArray) (q:Int) (k:Nat) (w:World) (h:fZ w s G lo ds) (gX:lo+ds.length<4611686018427387904) (hk:k<=ds.length)
  (eN:0<k->(lo:Int)+k<=q) (bb:q<=(lo:Int)+k):
  Calls prog 176 #[.pointer (some ⟨s,0,none⟩),.int .i64 q] w λe w'=>e= .returned (.int .i64 k)/\fZ w' s G (lo+k) (ds.drop k)/\ah [s] w w':=by
 obtain⟨v,h2,h3,h4,h5⟩:=h;have hlen:(ds.drop k).length=ds.length-k:=ao;have C5:lo+k+(ds.length-k)=lo+ds.length:=ab;have s9:=QC k lo ds hk;rcases h3 with ⟨rfl,h0,hG0⟩|⟨b,off,cap,rfl,hG,p1,p2,p3,p4,p5,p6⟩
 ·obtain rfl:ds=[]:=ql2 h0;obtain rfl:k=0:=by simpa using hk
  refine(Vq s lo 0 none q w ab ab (λ_=>rfl) h2).mono λe w' ⟨he,hh,hb⟩=>⟨he,⟨_,hh,.inl ⟨rfl,rfl,hG0⟩,h4,λg hg=>R4 (h5 g hg) hb.size⟩,hb⟩
 ·have qL:b≠s:=λe=>h4 (by rw[hG,e]);unfold maxLen at p2
  have keep:∀ w',ah [s] w w'->(∀ U,U<cap*2->(w'.cell? ⟨b,off+U,none⟩).isSome=true/\w'.frozen? ⟨b,off+U,none⟩=false)/\∀ U u,(pk lo ds)[U]? =some u->w'.cell? ⟨b,off+U,none⟩=some u:=by
   intro w' hb;refine⟨λU hj=> ?_,λU u hu=>hb.af (p5 U u hu) (by simpa using qL)⟩;obtain⟨e1,e2⟩:=p4 U hj;obtain⟨u,hu⟩:=Option.isSome_iff_exists.1 e1;exact⟨by rw[hb.af hu (by simpa using qL)];rfl,by rw[hb.frozen (Aa w _ hu) (by simpa using qL)];exact e2⟩
  rcases Nat.eq_zero_or_pos ds.length with h0|h0
  ·obtain rfl:ds=[]:=ql2 h0;obtain rfl:k=0:=by simpa using hk
   refine(Vq s lo cap (some ⟨b,off,none⟩) q w ab p2 (λh=>by cases h) h2).mono λe w' ⟨he,hh,hb⟩=>⟨he,⟨_,hh,.inr ⟨b,off,0,rfl,hG,CP _,ak,rfl,λU hj=>ab,λU u hu=>by simp[pk]at hu,p6.but hb (by simpa using qL)⟩,h4,λg hg=>R4 (h5 g hg) hb.size⟩,hb⟩
  ·refine(qfF s b off cap (lo+ds.length) lo ds.length k q w h0 p1 p2 rfl gX hk eN bb h2 (λi hi=>p5 (i*2) _ (QB lo ds i hi).1)).mono λe w' ⟨he,v,hh,hv,hb⟩=>⟨he,⟨v,?_,?_,h4,λg hg=>R4 (h5 g hg) hb.size⟩,hb⟩
   ·rw[hlen,C5];exact hh
   ·rw[hlen,<- s9];obtain⟨k1,k2⟩:=keep w' hb;by_cases zK:ds.length=k
    ·rw[hv,if_pos zK];refine .inr ⟨b,off,_,rfl,hG,CP _,by unfold maxLen;omega,by rw[ql1,p3,Nat.sub_mul],λU hj=>ab,λU u hu=> ?_,p6.but hb (by simpa using qL)⟩;have:=(bg hu);rw[ql1,p3]at this;omega
    ·rw[hv,if_neg zK];refine .inr ⟨b,off+k*2,_,rfl,hG,CP _,by unfold maxLen;omega,by rw[ql1,p3,Nat.sub_mul],λU hj=> ?_,λU u hu=> ?_,p6.but hb (by simpa using qL)⟩
     ·have:=k1 (k*2+U) ab;rwa [<- Nat.add_assoc]at this
     ·rw[List.getElem?_drop]at hu;have:=k2 _ u hu;rwa [<- Nat.add_assoc]at this
theorem qfH (G:Option Nat) (b off cap n:Nat) (xs:List Value) (w:World) (hb:n<=4294967296) (h1:∀ u∈xs,u.oneCell'=true) (hl:xs.length=n*2)
  (h:∀ U u,xs[U]? =some u->w.cell? ⟨b,off+U,none⟩=some u):
  Calls prog 173 #[.slice (some ⟨b,off,none⟩) n cap] w λe w'=>∃ v',e= .returned v'/\w'.ownsRow w.heap.size 238 2 v' n xs/\ad w w':=by
 have H:=aa h;clear h;obtain⟨i0,hi,a7,aY,aW⟩:=ql0 uL;have bA:(w.alloc (.cells #[] 238)).ownsRow w.heap.size 238 2 (.slice (some ⟨w.heap.size,0,none⟩) 0 0) 0 []:=BK w 238 [] 0 2 rfl ak
 have H2:ag (∀ U u,xs[U]? =some u->(w.alloc (.cells #[] 238)).cell? ((⟨b,off,none⟩:Addr).add U)=some u):=by
  intro U u hu;have e:((⟨b,off,none⟩:Addr).add U)=⟨b,off+U,none⟩:=by simp[Addr.add]
  rw[e];exact((ad.refl w).alloc _).af (H.o U u hu)
 have hq:=λW=>Lib.run_eql_slice_nil (P:=prog) W 116 238 (some ⟨b,off,none⟩) n cap 0 0 underlying116;go_in;go_wp2_with (at_builtin;refine wpList_append_own _ rfl _ _ 116 rfl w.heap.size 238 i0 (.agg #[.int .i64 0,.string ⟨#[]⟩]) 2 24 underlying116 hi a7 aY aW rfl ak _ 0 [] rfl bA ⟨b,off,none⟩ n cap xs rfl hl H2.o h1 (by unfold maxLen;omega) ab ao ?_;intro v3 w3 bE cD _)
 simp only[Nat.zero_add,List.nil_append]at bE;go_ret;exact⟨v3,rfl,bE,((ad.refl w).alloc _).grown cD (by intro g hg;have h9:some w.heap.size=some g:=hg;injection h9 with h9;exact Nat.le_of_eq h9)⟩
theorem qfI (w:World):
  Calls prog 173 #[.slice none 0 0] w λe w'=>e= .returned (.slice none 0 0)/\ad w w':=by
 have hq:=λW=>Lib.run_eql_slice_nil (P:=prog) W 116 238 none 0 0 0 0 underlying116;go_wp2;go_ret;exact⟨rfl,al⟩
theorem Vr (G:Option Nat) (v:Value) (n:Nat) (xs:List Value) (w:World) (hv:jT w G v n xs) (hx:n=0->xs=[]) (hb:n<=4294967296) (h1:∀ u∈xs,u.oneCell'=true):
  Calls prog 173 #[v] w λe w'=>∃ v',e= .returned v'/\w'.ownsRow w.heap.size 238 2 v' n xs/\ad w w':=by
 rcases hv with ⟨rfl,rfl,_⟩|⟨b,off,cap,rfl,_,_,_,p3,_,p5,_⟩
 ·obtain rfl:=hx rfl;exact(qfI w).mono λe w' ⟨he,hk⟩=>⟨_,he,qcb _ _ _ _,hk⟩
 ·exact qfH G b off cap n xs w hb h1 p3 p5
theorem Hz (s:Nat) (G:Option Nat) (lo:Nat) (ds:List ByteArray) (w:World) (h:fZ w s G lo ds) (hb:ds.length<=4294967296):
  Calls prog 185 #[.pointer (some ⟨s,0,none⟩)] w λe w'=>∃ v',e= .returned v'/\w'.ownsRow w.heap.size 238 2 v' ds.length (pk lo ds)/\ad w w':=by
 obtain⟨v,h2,h3,_⟩:=h;have hc:=ap h2 1;have HO:=aa h3;have HX:ag (ds.length=0->pk lo ds=[]):=λh0=>by obtain rfl:ds=[]:=ql2 h0;rfl
 clear h2 h3;go_in;go_wp2_with (go_at_call 173;refine(Vr G v ds.length (pk lo ds) _ HO.o HX.o hb (qaO lo ds)).mono ?_;rintro e w2 ⟨v2,rfl,qfJ,bb⟩)
 go_ret;exact⟨v2,rfl,qfJ,bb⟩
def Row (w:World) (A:Option Addr) (n c lo:Nat) (ds:List ByteArray):Prop:=
 n=ds.length/\n<=c/\(0<n->∃ g,A=some ⟨g,0,none⟩/\g<w.heap.size/\∀ i,i<n->w.cell? ⟨g,i*2,none⟩=some (.int .i64 ((lo+i:Nat):Int))/\w.cell? ⟨g,i*2+1,none⟩=some (.string (ds[i]?.getD ⟨#[]⟩)))
theorem Row.kept {A:Option Addr} {ds:List ByteArray} (h:Row w A n c lo ds) (hk:ad w w2):Row w2 A n c lo ds:=
 ⟨h.1,h.2.1,λh0=>by obtain⟨g,h1,h2,h3⟩:=h.2.2 h0;exact⟨g,h1,R4 h2 hk.size,λi hi=>⟨hk.af (h3 i hi).1,hk.af (h3 i hi).2⟩⟩⟩
theorem qfK:laidOutB prog=true:=av
theorem qfL:(120:TypeId)<prog.types.size:=qck av
theorem qfM:(match prog.underlying 120 with|some (.array _ _)|some (.struct _)=>true|_=>false)=true:=by rw[underlying120]
theorem AL:Keyed prog 120:=Keyed.of_law (deep_law_laid qfK (m:=2) ab qfL av qfM)
def DX (a c:Nat):Value:= .agg #[.int .i64 (a:Int),.int .i64 (c:Int)]
theorem qfN:∀ a c:Fin 6,(keyOf prog 120 (DX a c)).isSome=true:=qck av
noncomputable def kl (a c:Nat):Lit:=(keyOf prog 120 (DX a c)).getD (.bool false)
theorem DY (ha:a<6) (hc:c<6):keyOf prog 120 (DX a c)=some (kl a c):=by
 have h:=qfN ⟨a,ha⟩ ⟨c,hc⟩;unfold kl;obtain⟨x,hx⟩:=Option.isSome_iff_exists.1 h;simp only at hx;rw[hx];rfl
theorem qfO (ha:a<6) (hc:c<6):WideAt.IsKeyLit (kl a c):=AL.key (DY ha hc)
theorem Vs {d:Nat} (ha:a<6) (hc:c<6) (hb:b<6) (hd:d<6) (h:kl a c=kl b d):a=b/\c=d:=by
 have h1:=DY ha hc;have h2:=DY hb hd;rw[<- h]at h2;have h3:=AL.inj h1 h2;unfold DX at h3;simp at h3;omega
def Rp (v:Value):Option (DataW Unit×List MemPlace):=
 match v with
 | .pointer none=>some (.nil,[])
 | .pointer (some ⟨b,0,none⟩)=>some (.lit (.int .i64 (b:Int)),[])
 |_=>none
theorem qfP (s:Nat):Rp (.pointer (some ⟨s,0,none⟩))=some (.lit (.int .i64 (s:Int)),[]):=by simp[Rp]
theorem qfQ:Rp (.pointer none)=some (.nil,[]):=rfl
theorem qfR (h:Rp v=some (.lit (.int .i64 (s:Int)),ps)):v= .pointer (some ⟨s,0,none⟩):=by
 unfold Rp at h;split at h
 ·simp at h
 ·rename_i b
  simp at h;have:b=s:=ab;rw[this]
 ·cases h
theorem qfS (h:Rp v=some (.nil,ps)):v= .pointer none:=by
 unfold Rp at h;split at h
 ·rfl
 ·simp at h
 ·cases h
abbrev dR:=Nat->Nat->Option Nat
def PM (w:World) (b n:Nat) (S:dR):Prop:=∃ D,w.ownsMap prog 120 Rp b n D/\
 (∀ a c,a<6->c<6->∀ z,D.atKey (kl a c) z=match S a c with|some s=> .lit (.int .i64 (s:Int))|none=>z)/\
 (∀ k,Maps.has D k=true->∃ a c s,a<6/\c<6/\S a c=some s/\k=kl a c)
theorem PM.new (w:World):PM (w.alloc (.map #[] 0)) w.heap.size 0 (λ_ _=>none):=
 ⟨_,World.ownsMap_made w _ _ _,λa c _ _ z=>rfl,λk h=>by simp[Maps.has]at h⟩
theorem PM.lt {S:dR} (h:PM w b n S):b<w.heap.size:=by
 obtain⟨D,h1,_⟩:=h;exact h1.lt
theorem PM.but {S:dR} (h:PM w b n S) (hb:ah X w w2) (hn:b∉X):PM w2 b n S:=by
 obtain⟨D,⟨es,clock,h1,h2⟩,h3⟩:=h;exact⟨D,⟨es,clock,hb.heap h1 hn,h2⟩,h3⟩
theorem PM.keep {S:dR} (h:PM w b n S) (hk:ad w w2):PM w2 b n S:=h.but (.ar (S:=[]) hk) ao
theorem qfT (w:World):(zeroValue 111).run prog w= .ok (.pointer none) w:=av
def ptr (qD:Option Nat):Value:=match qD with|some s=> .pointer (some ⟨s,0,none⟩)|none=> .pointer none
theorem PM.look {S:dR} (h:PM w b n S) (ha:a<6) (hc:c<6):
  (Instr.lookup 108 (.map (some b)) (.agg #[.int .i64 (a:Int),.int .i64 (c:Int)]) false).run prog w= .ok (ptr (S a c)) w:=by
 obtain⟨D,h1,h2,_⟩:=h;obtain⟨v,ps,cr,hv⟩:=h1.lookup AL underlying108 (qfT w) qfQ (DY ha hc);rw[show(Value.agg #[.int .i64 (a:Int),.int .i64 (c:Int)])=DX a c from rfl,cr];rw[h2 a c ha hc]at hv;unfold ptr
 cases hs:S a c with
 |none=>rw[hs]at hv;rw[qfS hv]
 |some s=>rw[hs]at hv;rw[qfR hv]
def pz (S:dR) (a c s:Nat):dR:=λx y=>if x=a/\y=c then some s else S x y
theorem PM.put {S:dR} (h:PM w b n S) (ha:a<6) (hc:c<6) (s:Nat) (hn:n<maxLen):
  ∃ w',(Instr.mapUpdate 108 (.map (some b)) (.agg #[.int .i64 (a:Int),.int .i64 (c:Int)]) (.pointer (some ⟨s,0,none⟩))).run prog w= .ok () w'/\PM w' b (n+1) (pz S a c s)/\w.grownBy w' (some b):=by
 obtain⟨D,h1,h2,h3⟩:=h;obtain⟨w',cr,ho,hg⟩:=h1.update AL underlying108 hn (DY ha hc) (qfP s)
 have hm:IsMap D:=by
  obtain⟨es,clock,_,_,_,ja⟩:=h1;exact⟨_,ja⟩
 refine⟨w',cr,⟨_,ho,λx y hx hy z=> ?_,λk hk=> ?_⟩,hg⟩
 ·unfold pz;by_cases e:x=a/\y=c
  ·obtain⟨rfl,rfl⟩:=e;rw[if_pos ⟨rfl,rfl⟩,atKey_put_same hm (qfO hx hy)]
  ·rw[if_neg e,atKey_put_other (λg=>e (Vs hx hy ha hc g)),h2 x y hx hy]
 ·by_cases e:k=kl a c
  ·exact⟨a,c,s,ha,hc,by simp[pz],e⟩
  ·rw[has_put_other e]at hk;obtain⟨x,y,t,hx,hy,hs,rfl⟩:=h3 k hk;exact⟨x,y,t,hx,hy,by unfold pz;rw[if_neg];exact hs;rintro⟨rfl,rfl⟩;exact e rfl,rfl⟩
theorem ad.tQ {qD:Obj} (_:ah S w (w.alloc qD)):ad w (w.alloc qD):=(ad.refl w).alloc qD
theorem ad.tR (_:ah S w w):ad w w:=ad.refl w
theorem cc.qfU {m:Nat} (h:cc w (some b) (.slice (some ⟨b,off,none⟩) n cap) n k xs) (news:List Value) (hn:news.length=m*k) (hc:n+m<=cap):
  cc (w.setCells b (off+n*k) news) (some b) (.slice (some ⟨b,off,none⟩) (n+m) cap) (n+m) k (xs++news):=by
 rcases h with ⟨h,_⟩|⟨nY,qj,kP,hv,hG,h1,h2,h3,h4,h5,h6⟩
 ·cases h
 injection hv with ft cW wM;injection ft with ft;injection ft with e1 e2 _;subst e1 e2 wM;have eu:n*k+m*k<=cap*k:=by have:=Nat.mul_le_mul_right k hc;rw[Nat.add_mul]at this;exact this
 have c7:∀ U,U<news.length->(w.cell? ⟨b,off+n*k+U,none⟩).isSome=true:=λU hj=>by
  have:=(h4 (n*k+U) ab).1;rwa [<- Nat.add_assoc]at this
 refine .inr ⟨b,off,cap,rfl,rfl,hc,h2,by rw[zH,h3,hn,Nat.add_mul],λU hj=> ?_,λU u hu=> ?_,h6.setCells _ _ _⟩
 ·rw[World.frozen?_setCells];exact⟨World.isSome_setCells b _ _ w _ (h4 U hj).1,(h4 U hj).2⟩
 ·rcases R6 U (n*k)with hj|hj
  ·rw[qlZ ab]at hu;rw[World.cell?_setCells_out b _ _ w _ (λ_ _=> .inl (by show off+U<off+n*k;omega))];exact h5 U u hu
  ·rw[List.getElem?_append_right ab,h3]at hu;obtain⟨an,wN⟩:=pi.1 hu;have:=World.cell?_setCells_in b news (off+n*k) w c7 (U-n*k) an;rw[show off+n*k+(U-n*k)=off+U by omega]at this;rw[this];exact congrArg some wN
theorem AM {P:Program} (w:World) {ops:Array Oper} {rest:List Oper} {qD:Oper} {a:Act} {Q:Exit->Act->World->Prop} (hg:qD.guard=none) (s x:Operand) (t:TypeId)
  (uM:qD.op=Op.call {callee:=Callee.builtin Builtin.append,args:= #[s,x],argTypes:= #[t,t]}) (e:TypeId) (i:TypeInfo) (z:Value) (k bytes:Nat) (h1:P.underlying t=some (.slice e)) (h2:P.info? e=some i)
  (h3:i.zero=some z) (h4:i.size=k) (h5:i.bytes=bytes) (h6:z.cells.size=k) (hk:1<=k) (G:Option Nat) (v:Value) (n m:Nat) (olds:List Value) (hv:cc w G v n k olds) (ho:olds.length=n*k) (hs:a.eval s=v)
  (gQ:Addr) (c:Nat) (news:List Value) (hx:a.eval x= .slice (some gQ) m c) (hn:news.length=m*k) (hc:∀ (U:Nat) u,news[U]? =some u->w.cell? (gQ.add U)=some u) (wO:∀ u∈news,u.oneCell'=true)
  (b1:n+m<=maxLen) (b2:(n+m)*bytes<=140737488355328)
  (he:e=238) (h:∀ v' w' G',ah G.toList w w'->cc w' G' v' (n+m) k (olds++news)->(G'=G∨∃ g,G'=some g/\w.heap.size<=g/\g<w'.heap.size)->wpList P ops Q rest (a.put qD.dst v') w'):wpList P ops Q (qD::rest) a w:=by
 rcases hv with ⟨rfl,rfl,rfl⟩|⟨b,off,cap,rfl,rfl,p1,p2,p3,p4,p5,p6⟩
 ·have eK:olds=[]:=ql2 (by simpa using ho);subst eK;have bA:w.ownsRow w.heap.size e k (.slice none 0 0) 0 []:=⟨ao,.inl ⟨rfl,rfl⟩⟩;refine wpList_append_own w hg s x t uM w.heap.size e i z k bytes h1 h2 h3 h4 h5 h6 hk _ 0 [] hs bA gQ m c news hx hn hc wO b1 b2 (CP _) λv' w' dk te _=> ?_;have fk:ah [] w w':=(ah.refl _ _).grown te (by simp[Value.ownBlock]);obtain⟨e1,e2⟩:=cc.bp he dk;rcases dk.2 with ⟨bH,h0⟩|⟨g,cap,cur,rfl,_⟩
  ·exact h v' w' none (fk.mono ao) (.inl ⟨bH,h0,rfl⟩) (.inl rfl)
  ·exact h _ w' _ (fk.mono ao) e1 (.inr ⟨g,rfl,e2 g rfl⟩)
 ·have O:cc w (some b) (.slice (some ⟨b,off,none⟩) n cap) n k olds:= .inr ⟨b,off,cap,rfl,rfl,p1,p2,p3,p4,p5,p6⟩
  refine wpList_append_arg w hg s x t uM e i z k bytes h1 h2 h3 h4 h5 h6 hk b off n cap olds hs ho p5 gQ m c news hx hn hc wO
   (λhr U hj=>by
    have eu:n*k+m*k<=cap*k:=by have:=Nat.mul_le_mul_right k hr;rw[Nat.add_mul]at this;exact this
    have:=p4 (n*k+U) ab;rwa [<- Nat.add_assoc]at this) b1 b2 (λhr=> ?_) (λhr v' w' dk te=> ?_)
  ·exact h _ _ (some b) (ah.setCells b _ _) (O.qfU news hn hr) (.inl rfl)
  ·obtain⟨e1,e2⟩:=cc.bp he dk;have fk:ah [] w w':=(ah.refl _ _).grown te ao;rcases dk.2 with ⟨bH,h0⟩|⟨g,cap,cur,rfl,_⟩
   ·omega
   ·exact h _ w' _ (fk.mono ao) e1 (.inr ⟨g,rfl,e2 g rfl⟩)
def tx (T:List ByteArray) (q:Nat):ByteArray:=T[q]?.getD ⟨#[]⟩
def bm (T:List ByteArray) (l:List Nat):List Value:=l.flatMap λq:Nat=>[.int .i64 (q:Int),.string (tx T q)]
theorem pN (T:List ByteArray):∀ l:List Nat,(bm T l).length=l.length*2
 |[]=>rfl
 |q::l=>by
  have:=pN T l;unfold bm at this⊢;rw[List.flatMap_cons,zH,this];simp;omega
theorem H8 (T:List ByteArray) (l m:List Nat):bm T (l++m)=bm T l++bm T m:=by simp[bm]
theorem DZ (T:List ByteArray) (l:List Nat):∀ u∈bm T l,u.oneCell'=true:=by
 intro u hu;obtain⟨q,_,h⟩:=List.mem_flatMap.1 hu;simp at h;rcases h with rfl|rfl <;>simp[Value.oneCell']
theorem AN (T:List ByteArray):∀ (l:List Nat) (i q:Nat),l[i]? =some q->(bm T l)[i*2]? =some (.int .i64 (q:Int))/\(bm T l)[i*2+1]? =some (.string (tx T q))
 |[],_,_,h=>by simp at h
 |p::l,0,q,h=>by
  obtain rfl:p=q:=by simpa using h
  simp[bm]
 |p::l,i+1,q,h=>by
  have:=AN T l i q (by simpa using h);have e:bm T (p::l)= .int .i64 (p:Int):: .string (tx T p)::bm T l:=by simp[bm]
  rw[e,show(i+1)*2=i*2+1+1 by omega];simpa using this
theorem qfV (T:List ByteArray) (l:List Nat) (k:Nat):(bm T l).drop (k*2)=bm T (l.drop k):=by
 induction k generalizing l with
 |zero=>simp
 |succ k ih=>
  cases l with
  |nil=>simp[bm]
  |cons q l=>
   have e:bm T (q::l)= .int .i64 (q:Int):: .string (tx T q)::bm T l:=by simp[bm]
   rw[e,show(k+1)*2=k*2+1+1 by omega];simpa using ih l
theorem qfW (T:List ByteArray) (l:List Nat) (k:Nat):(bm T l).take (k*2)=bm T (l.take k):=by
 induction k generalizing l with
 |zero=>simp[bm]
 |succ k ih=>
  cases l with
  |nil=>simp[bm]
  |cons q l=>
   have e:bm T (q::l)= .int .i64 (q:Int):: .string (tx T q)::bm T l:=by simp[bm]
   have e2:bm T ((q::l).take (k+1))= .int .i64 (q:Int):: .string (tx T q)::bm T (l.take k):=by simp[bm]
   rw[e,e2,show(k+1)*2=k*2+1+1 by omega];simpa using ih l
theorem qfX {T:List ByteArray} {q:Nat} (d:ByteArray) (h:q<T.length):tx (T++[d]) q=tx T q:=by unfold tx;rw[qlZ h]
theorem qfY (T:List ByteArray) (d:ByteArray):tx (T++[d]) T.length=d:=by simp[tx]
theorem qfZ {T:List ByteArray} {l:List Nat} (d:ByteArray) (h:∀ q∈l,q<T.length):bm (T++[d]) l=bm T l:=by
 induction l with
 |nil=>rfl
 |cons q l ih=>
  have e:∀ T,bm T (q::l)= .int .i64 (q:Int):: .string (tx T q)::bm T l:=λT=>by simp[bm]
  rw[e,e,qfX d (h q ao),ih λx hx=>h x (by simp[hx])]
theorem Vt (T:List ByteArray):∀ (k lo:Nat),lo+k<=T.length->(pk lo (T.drop lo)).take (k*2)=bm T ((List.range k).map λi=>lo+i)
 |0,lo,_=>by simp[bm]
 |k+1,lo,h=>by
  have e:T.drop lo=tx T lo::T.drop (lo+1):=by
   rw[List.drop_eq_getElem_cons (show lo<T.length by omega)];unfold tx;rw[vF (show lo<T.length by omega)];rfl
  have ih:=Vt T k (lo+1) ab;have e2:pk lo (tx T lo::T.drop (lo+1))= .int .i64 (lo:Int):: .string (tx T lo)::pk (lo+1) (T.drop (lo+1)):=by simp[pk]
  have e3:((List.range (k+1)).map λi=>lo+i)=lo::(List.range k).map λi=>lo+1+i:=by
   rw[List.range_succ_eq_map];simp[Function.comp_def,Nat.add_assoc,Nat.add_comm 1]
  rw[e,e2,e3,show(k+1)*2=k*2+1+1 by omega,List.take_succ_cons,List.take_succ_cons,ih];simp[bm]
def fS (w:World) (F:List Nat) (s:Nat) (T:List ByteArray) (lo:Nat) (aw:List Nat):Prop:=
 ∃ (sb rb:Nat) (Gop Gw:Option Nat) (v:Value),F=[s,sb,rb]++Gop.toList++Gw.toList/\F.Nodup/\(∀ x∈F,x<w.heap.size)/\
  w.heap[s]? =some (.cells #[.pointer (some ⟨sb,0,none⟩),.pointer (some ⟨rb,0,none⟩),v] 118 (0,0))/\
  fZ w sb Gop lo (T.drop lo)/\Recv w rb lo/\cc w Gw v aw.length 2 (bm T aw)/\lo<=T.length/\(∀ q∈aw,q<T.length)
theorem fS.but {T:List ByteArray} {aw:List Nat} (h:fS w F s T lo aw) (hb:ah X w w2) (hn:∀ x∈F,x∉X):fS w2 F s T lo aw:=by
 obtain⟨sb,rb,Gop,Gw,v,h1,h2,h3,h4,h5,h6,h7,h8⟩:=h;subst h1;refine⟨sb,rb,Gop,Gw,v,rfl,h2,λx hx=>R4 (h3 x hx) hb.size,hb.heap h4 (hn _ ao),h5.but hb (hn _ ao) (λg hg=>hn g (by simp[hg])),h6.but hb (hn _ ao),h7.but hb (λg hg=>hn g (by simp[hg])),h8⟩
theorem fS.keep {T:List ByteArray} {aw:List Nat} (h:fS w F s T lo aw) (hk:ad w w2):fS w2 F s T lo aw:=h.but (.ar (S:=[]) hk) ao
def iJ (w:World) (N M:Nat):Prop:=w.heap[N]? =some (.cells #[.map (some M)] 110 (0,0))
theorem iJ.but (h:iJ w N M) (hb:ah X w w2) (hn:N∉X):iJ w2 N M:=hb.heap h hn
theorem iJ.keep (h:iJ w N M) (hk:ad w w2):iJ w2 N M:=hk.heap h
theorem mm (N M n a c:Nat) (S:dR) (w:World) (hN:iJ w N M) (hM:PM w M n S) (ha:a<6) (hc:c<6):
  Calls prog 172 #[.pointer (some ⟨N,0,none⟩),.int .i64 a,.int .i64 c] w λe w'=>e= .returned (ptr (S a c))/\ad w w':=by
 have c0:=ap hN 0;have hl:=hM.look ha hc;clear hN hM;generalize ptr (S a c)=v at*;go_wp2;go_ret;exact⟨rfl,al⟩
theorem cc.at2 (h:cc w G v n 2 xs):jT w G v n xs:=h
theorem lu {g:Nat} {a b c:Value} (h:w.heap[g]? =some (.cells #[a,b,c] t (0,0))):w.cell? ⟨g,0,none⟩=some a/\w.cell? ⟨g,1,none⟩=some b/\w.cell? ⟨g,2,none⟩=some c/\w.frozen? ⟨g,2,none⟩=false:=by
 have c0:=aE h 0;have c1:=aE h 1;have c2:=aE h 2;simp at c0 c1 c2;exact⟨c0,c1,c2,aI h 2⟩
theorem qf0 (N M n a c s lo:Nat) (F:List Nat) (S:dR) (T:List ByteArray) (aw:List Nat) (w:World) (hN:iJ w N M) (hM:PM w M n S) (ha:a<6) (hc:c<6) (hs:S a c=some s) (h:fS w F s T lo aw) (hT:T.length<=4294967296):
  Calls prog 144 #[.pointer (some ⟨N,0,none⟩),.int .i64 a,.int .i64 c] w λe w'=>e= .returned (.int .i64 ((T.length-lo:Nat):Int))/\ad w w':=by
 obtain⟨sb,rb,Gop,Gw,v,h1,h2,h3,h4,h5,h6,h7,h8,h9⟩:=h;obtain⟨c0,c1,c2,_⟩:=lu h4;have HN:=aa hN;have HM:=aa hM;have HS:=aa hs;have H5:=aa h5;clear hN hM hs h1 h2 h3 h4 h5 h6 h7 h9;go_in;go_wp2_with fail
 refine(mm N M n a c S _ HN.o HM.o ha hc).mono ?_;rintro e w1 ⟨rfl,k1⟩;rw[HS.o];have c0:=k1.af c0;unfold ptr;go_wp2_with fail
 refine(Hz sb Gop lo _ _ (H5.o.kept k1) (by rw[ql1];omega)).mono ?_;rintro e w2 ⟨v',rfl,bA,k2⟩;obtain⟨A,ni,rfl⟩:=(cc.bp rfl bA).1.form;have hl:ag ((T.drop lo).length=T.length-lo):=ql1;rw[hl.o];clear bA;go_wp2;go_ret;exact⟨rfl,k1.call k2⟩
theorem qf1 (N M n a c s lo:Nat) (F:List Nat) (S:dR) (T:List ByteArray) (aw:List Nat) (w:World) (hN:iJ w N M) (hM:PM w M n S) (ha:a<6) (hc:c<6) (hs:S a c=some s) (h:fS w F s T lo aw) (hT:aw.length<=4294967296):
  Calls prog 105 #[.pointer (some ⟨N,0,none⟩),.int .i64 a,.int .i64 c] w λe w'=>∃ v',e= .returned v'/\w'.ownsRow w.heap.size 238 2 v' aw.length (bm T aw)/\ad w w':=by
 obtain⟨sb,rb,Gop,Gw,v,h1,h2,h3,h4,h5,h6,h7,h8,h9⟩:=h;obtain⟨c0,c1,c2,_⟩:=lu h4;have HN:=aa hN;have HM:=aa hM;have HS:=aa hs;have H7:=aa h7;clear hN hM hs h1 h2 h3 h4 h5 h6 h7 h9;go_in;go_wp2_with fail
 refine(mm N M n a c S _ HN.o HM.o ha hc).mono ?_;rintro e w1 ⟨rfl,k1⟩;rw[HS.o];have c2:=k1.af c2;unfold ptr;go_wp2_with fail
 refine(Vr Gw v aw.length (bm T aw) _ (H7.o.kept k1).at2 (λh0=>by rw[ql2 h0];rfl) hT (DZ T aw)).mono ?_;rintro e w2 ⟨v',rfl,bA,k2⟩;have HO:=aa bA;have hz:=k1.size;clear bA;go_wp2;go_ret;exact⟨v',rfl,⟨HO.o.1,HO.o.2.imp id λ⟨g,cap,cur,e1,e2,r⟩=>⟨g,cap,cur,e1,ab,r⟩⟩,k1.call k2⟩
theorem Vu {w0 wd:World} {x y:Value} (h:ad (w0.alloc (.cells #[x,y] t)) wd):∀ (U:Nat) (u:Value),[x,y][U]? =some u->wd.cell? ((⟨w0.heap.size,0,none⟩:Addr).add U)=some u:=
 JZ (h.heap (yY _ _))
theorem vz (h2:([s,sb,rb]++A.toList++B.toList).Nodup):(s≠sb/\s≠rb/\s∉A.toList/\s∉B.toList)/\(sb≠rb/\sb∉A.toList/\sb∉B.toList)/\(rb∉A.toList/\rb∉B.toList)/\∀ x∈A.toList,x∉B.toList:=by
 simp only[List.cons_append,List.nil_append,List.nodup_cons,KX,Pv,List.nodup_append,not_or]at h2;obtain⟨⟨bj,a2,a3,a4⟩,⟨b1,b2,ck⟩,⟨d1,d2⟩,e1,e2,e3⟩:=h2;exact⟨⟨bj,a2,a3,a4⟩,⟨b1,b2,ck⟩,⟨d1,d2⟩,λx hx hy=>e3 x hx x hy rfl⟩
theorem MV (h1:s≠sb/\s≠rb/\sb≠rb) (hA:∀ x∈A.toList,x≠s/\x≠sb/\x≠rb) (hB:∀ x∈B.toList,x≠s/\x≠sb/\x≠rb) (hAB:∀ x∈A.toList,x∉B.toList):([s,sb,rb]++A.toList++B.toList).Nodup:=by
 have qf2:A.toList.Nodup:=by cases A <;>simp
 have qf3:B.toList.Nodup:=by cases B <;>simp
 simp only[List.cons_append,List.nil_append,List.nodup_cons,KX,Pv,List.nodup_append,not_or];exact⟨⟨h1.1,h1.2.1,λh=>(hA s h).1 rfl,λh=>(hB s h).1 rfl⟩,⟨h1.2.2,λh=>(hA sb h).2.1 rfl,λh=>(hB sb h).2.1 rfl⟩,⟨λh=>(hA rb h).2.2 rfl,λh=>(hB rb h).2.2 rfl⟩,qf2,qf3,λa ha b hb e=>hAB a ha (e▸hb)⟩
def gJ (w w':World) (F:List Nat) (s:Nat) (T:List ByteArray) (lo:Nat) (aw:List Nat):Prop:=
 ∃ F',fS w' F' s T lo aw/\ah F w w'/\∀ x∈F',x∈F∨w.heap.size<=x
theorem qf4 (N M n a c s lo:Nat) (F:List Nat) (S:dR) (T:List ByteArray) (aw:List Nat) (d:ByteArray) (w:World) (hN:iJ w N M) (hM:PM w M n S) (ha:a<6) (hc:c<6) (hs:S a c=some s) (h:fS w F s T lo aw) (h8:8<=T.length-lo):
  Calls prog 151 #[.pointer (some ⟨N,0,none⟩),.int .i64 a,.int .i64 c,.string d] w λe w'=>e= .returned (.int .i64 15)/\ad w w':=by
 obtain⟨sb,rb,Gop,Gw,v,h1,h2,h3,h4,h5,h6,h7,lx,h9⟩:=h;obtain⟨c0,c1,c2,_⟩:=lu h4;have HN:=aa hN;have HM:=aa hM;have HS:=aa hs;have H5:=aa h5;clear hN hM hs h1 h2 h3 h4 h5 h6 h7 h9;go_in;go_wp2_with fail
 refine(mm N M n a c S _ HN.o HM.o ha hc).mono ?_;rintro e w1 ⟨rfl,k1⟩;rw[HS.o];have c0:=k1.af c0;unfold ptr;go_wp2_with fail
 refine(qaP sb Gop lo _ d _ (H5.o.kept k1) (by rw[ql1];exact h8)).mono ?_;rintro e w2 ⟨rfl,k2⟩;go_wp2;go_ret;exact⟨rfl,al⟩
theorem qf5 (N M n a c s lo:Nat) (F:List Nat) (S:dR) (T:List ByteArray) (aw:List Nat) (d:ByteArray) (w:World) (hN:iJ w N M) (hM:PM w M n S) (ha:a<6) (hc:c<6) (hs:S a c=some s) (h:fS w F s T lo aw) (h8:T.length-lo<8) (hT:T.length<=4294967296) (hw:aw.length<=4294967296):
  Calls prog 151 #[.pointer (some ⟨N,0,none⟩),.int .i64 a,.int .i64 c,.string d] w λe w'=>e= .returned (.int .i64 0)/\gJ w w' F s (T++[d]) lo (aw++[T.length]):=by
 obtain⟨sb,rb,Gop,Gw,v,h1,h2,h3,h4,h5,h6,h7,lx,h9⟩:=h;obtain⟨i0,hi,a7,aY,aW⟩:=ql0 uL;have HI:=aa hi;have H1:=aa h1;have H2:=aa h2;have H3:=aa h3;have H4:=aa h4;have H6:=aa h6;have H7:=aa h7;have H9:=aa h9;obtain⟨c0,c1,c2,f2⟩:=lu h4;have HN:=aa hN;have HM:=aa hM;have HS:=aa hs;have H5:=aa h5;have bu:s<w.heap.size:=(aQ h4);subst h1;have ek:=vz h2;have gK:=aa ek;have ik:s∉Gw.toList:=ek.1.2.2.2;clear hN hM hs h2 h3 h4 h5 h6 h7 h9 hi ek;go_in;go_wp2_with fail
 refine(mm N M n a c S _ HN.o HM.o ha hc).mono ?_;rintro e w1 ⟨rfl,k1⟩;rw[HS.o];have c0:=k1.af c0;unfold ptr;go_wp2_with fail
 refine(qfE sb Gop lo _ d _ (H5.o.kept k1) (by rw[ql1];exact h8) (by rw[ql1];omega)).mono ?_;rintro e w2 ⟨rfl,G2,yh,dp,bG⟩;have nB:ag (((lo+(T.drop lo).length:Nat):Int)=(T.length:Int)):=by unfold ag;rw[ql1];omega
 rw[nB.o];have iZ:=aa bG;have vA:=aa yh;have vB:=aa dp;have Vv:s∉(sb::Gop.toList):=by simp only[KX,not_or];exact⟨gK.o.1.1,gK.o.1.2.2.1⟩
 have c2:=bG.af (k1.af c2) Vv;have qk6:s<w2.heap.size:=Aa w2 _ c2
 have dC:ag (cc w2 Gw v aw.length 2 (bm T aw)):=(H7.o.kept k1).but bG (λg hg=>by
  have iX:g∈Gw.toList:=by rw[hg];simp
  simp only[KX,not_or];exact⟨λe=>gK.o.2.1.2.2 (e▸iX),λhx=>gK.o.2.2.2 g hx iX⟩)
 have qf6:ag (∀ g,Gw=some g->g<w2.heap.size):=λg hg=>R4 (H3.o g (by rw[hg];simp)) (qcg k1.size bG.size)
 have H':w2.heap.size∉Gw.toList:=λhx=>by
  have:=qf6.o w2.heap.size (by simpa using hx);omega
 clear dp bG yh;obtain⟨A0,c6,hv⟩:=dC.o.form;have HV:=aa hv;subst hv;go_wp2;have tS:ag (cc (w2.alloc (.cells #[.int .i64 T.length,.string d] 238)) Gw (.slice A0 aw.length c6) aw.length 2 (bm T aw)):=dC.o.kept ((ad.refl w2).alloc _);obtain⟨xs,bP⟩:=eqQ (bm T aw);have ly:=aa bP;have dN:xs.length=aw.length*2:=by rw[<- bP];exact pN T aw
 have pO:=aa dN;rw[bP]at tS;clear bP dN;refine oY (oS (Gw.toList)) (λwB=>ah (Gw.toList) w2 wB/\wB.cell? ⟨s,2,none⟩=some (.slice A0 aw.length c6)/\wB.cell? ⟨w2.heap.size,0,none⟩=some (.int .i64 T.length)/\wB.cell? ⟨w2.heap.size,1,none⟩=some (.string d)/\ag (cc wB Gw (.slice A0 aw.length c6) aw.length 2 xs)) ?_ av av _ (by(try simp only[List.append_eq,List.cons_append,List.nil_append,List.toList_toArray]);exact rfl) ?_
 ·exact⟨by exact hD,by first|assumption|go_simp,by first|assumption|go_simp,by first|assumption|go_simp,by first|assumption|skip⟩
 rintro wB ⟨au,aB,aC,aF,HX⟩;repeat((first|(apply DW.ct;(focus (intro wd hI;have ae:=au.trans hI;have ai:=hI.af aB bk;have aj:=hI.af aC bk;have aq:=hI.af aF bk;go_wp2_with (fail);refine bd.mk _ rfl ⟨rfl,?_⟩;exact al)))|(refine DW.bt av ?_;intro wd hI;have ae:=au.trans (ah.ar hI);have ai:=hI.af aB;have aj:=hI.af aC;have aq:=hI.af aF;go_wp2_with (at_builtin;refine AM _ rfl _ _ 116 rfl 238 i0 (.agg #[.int .i64 0,.string ⟨#[]⟩]) 2 24 underlying116 HI.o a7 aY aW rfl ab Gw _ aw.length 1 xs (HX.o.kept hI) pO.o rfl _ 1 [.int .i64 T.length,.string d] rfl rfl (Vu hI) (J0 _ _) (by unfold maxLen;omega) ab rfl ?_;intro v6 w6 G6 C0 O6 dw;have dw:(G6=Gw∨∃ g,G6=some g/\w2.heap.size<=g/\g<w6.heap.size):=dw.imp id (λ⟨g,h,h3,h4⟩=>⟨g,h,qcg ae.size h3,h4⟩));refine bd.bt _ rfl (by exact hD) (λbf=> ?_);have b5:=(ah.ar (S:=Gw.toList) hI).trans bf;have au:=au.trans b5;have aB:=b5.af aB bk;have aC:=b5.af aC bk;have aF:=b5.af aF bk;(first|have HX:=aa (HX.o.kept (ad.call hI (ad.tQ bf)))|have HX:=aa (HX.o.kept (ad.call hI (ad.tR bf)))|skip)));simp only[Act.put,List.setIfInBounds_toArray,List.set_cons_succ,List.set_cons_zero])
 refine DW.tail av ?_;intro wd hI;have ae:=au.trans (ah.ar hI);have ai:=hI.af aB;have aj:=hI.af aC;have aq:=hI.af aF;have jk:ag (wd.heap[s]? =some (.cells #[.pointer (some ⟨sb,0,none⟩),.pointer (some ⟨rb,0,none⟩),.slice A0 aw.length c6] 118 (0,0))):=ae.heap (iZ.o.heap (k1.heap H4.o) Vv) ik;have y1:=ai;have y2:=aI jk.o 2;have eo:=aa (O6.kept hI);have eS:=aa dw;obtain⟨A6,cQ,cy⟩:=O6.form;subst cy;clear O6 dw C0 HX;go_wp2;go_ret
 have D0:∀ g∈G2.toList,g∈Gop.toList∨(w.heap.size<=g/\g<w2.heap.size):=λg hg=>by
  rcases vA.o with h|⟨g',h,h3,h4⟩
  ·exact .inl (h▸hg)
  ·rw[h]at hg;have:g=g':=by simpa using hg
   exact .inr ⟨by have:=k1.size;omega,ab⟩
 have GJ:w.heap.size<=w2.heap.size:=qcg k1.size iZ.o.size
 have mn:∀ g∈G6.toList,g∈Gw.toList∨(w2.heap.size<=g/\g<wd.heap.size):=λg hg=>by
  rcases eS.o with h|⟨g',h,h3,h4⟩
  ·exact .inl (h▸hg)
  ·rw[h]at hg;have:g=g':=by simpa using hg
   have h5:=hI.size;exact .inr ⟨ab,ab⟩
 have an:∀ x∈([s,sb,rb]++Gop.toList++Gw.toList),x<w.heap.size:=H3.o;have pP:=an sb ao;have D4:=an rb ao;obtain⟨⟨q1,q2,q3,q4⟩,⟨q5,q6,q7⟩,⟨q8,q9⟩,nH⟩:=gK.o;have hwd:w2.heap.size<=wd.heap.size:=ae.size;have vC:∀ g∈Gop.toList,g<w.heap.size:=λg hg=>an g (by simp at hg⊢;simp[hg]);have yi:∀ g∈Gw.toList,g<w.heap.size:=λg hg=>an g (by simp at hg⊢;simp[hg]);refine⟨rfl,[s,sb,rb]++G2.toList++G6.toList,⟨sb,rb,G2,G6,.slice A6 (aw.length+1) cQ,rfl,MV ⟨q1,q2,q5⟩ (λx hx=> ?_) (λx hx=> ?_) (λx hx hy=> ?_),λx hx=> ?_,?_,?_,?_,?_,?_,?_⟩,?_,λx hx=> ?_⟩
 ·rcases D0 x hx with h|⟨h,_⟩
  ·exact⟨λe=>q3 (e▸h),λe=>q6 (e▸h),λe=>q8 (e▸h)⟩
  ·exact⟨ab,ab,ab⟩
 ·rcases mn x hx with h|⟨h,_⟩
  ·exact⟨λe=>q4 (e▸h),λe=>q7 (e▸h),λe=>q9 (e▸h)⟩
  ·exact⟨ab,ab,ab⟩
 ·rcases D0 x hx with h|⟨h,h'⟩ <;>rcases mn x hy with g|⟨g,g'⟩
  ·exact nH x h g
  ·have:=vC x h;omega
  ·have:=yi x g;omega
  ·omega
 ·rw[World.size_setCell];simp only[List.cons_append,List.nil_append,KX,Pv]at hx;rcases hx with rfl|rfl|rfl|hx|hx
  ·omega
  ·omega
  ·omega
  ·rcases D0 x hx with h|⟨h,h'⟩
   ·have:=vC x h;omega
   ·omega
  ·rcases mn x hx with h|⟨h,h'⟩
   ·have:=yi x h;omega
   ·omega
 ·have:=jk.o;simp[World.setCell,Array.getElem?_modify,this]
 ·rw[List.drop_append_of_le_length lx];have bS:ah (s::Gw.toList) w2 (wd.setCell ⟨s,2,none⟩ (.slice A6 (aw.length+1) cQ)):=(ae.mono (λx hx=>zM _ hx)).setCell (.inl ao) _;refine vB.o.but bS (by simp only[KX,not_or];exact⟨λe=>q1 e.symm,q7⟩) (λg hg=> ?_);have iX:g∈G2.toList:=by rw[hg];simp
  simp only[KX,not_or];rcases D0 g iX with h|⟨h,h'⟩
  ·exact⟨λe=>q3 (e▸h),λhx=>nH g h hx⟩
  ·exact⟨ab,λhx=>by have:=yi g hx;omega⟩
 ·have bS:ah (s::sb::Gop.toList++Gw.toList) w1 (wd.setCell ⟨s,2,none⟩ (.slice A6 (aw.length+1) cQ)):=((iZ.o.mono (λx hx=>by simp only[KX,Pv,List.cons_append]at hx⊢;rcases hx with h|h;exact .inr (.inl h);exact .inr (.inr (.inl h)))).trans (ae.mono (λx hx=>by simp only[KX,Pv,List.cons_append];exact .inr (.inr (.inr hx))))).setCell (.inl ao) _;refine(H6.o.kept k1).but bS ?_;simp only[List.cons_append,KX,Pv,not_or];exact⟨λe=>q2 e.symm,λe=>q5 e.symm,q8,q9⟩
 ·have e:bm (T++[d]) (aw++[T.length])=xs++[.int .i64 T.length,.string d]:=by
   rw[H8,qfZ d H9.o,ly.o];simp[bm,qfY]
  rw[e,zH];refine eo.o.but ((ah.refl _ _).setCell (.inl (At.2 rfl)) _) (λg hg=> ?_);have iX:g∈G6.toList:=by rw[hg];simp
  rw[At];intro e;have e:g=s:=e;rcases mn g iX with h|⟨h,_⟩
  ·exact q4 (e▸h)
  ·omega
 ·simp;omega
 ·intro q hq;rcases Pv.1 hq with hq|hq
  ·have:=H9.o q hq;simp;omega
  ·simp at hq;simp;omega
 ·refine(((ah.ar k1).trans (iZ.o.mono (λx hx=> ?_))).trans (ae.mono (λx hx=> ?_))).setCell (.inl ao) _
  ·simp only[KX,Pv,List.cons_append,List.nil_append]at hx⊢;rcases hx with h|h
   ·exact .inr (.inl h)
   ·exact .inr (.inr (.inr (.inl h)))
  ·simp only[KX,Pv,List.cons_append,List.nil_append];exact .inr (.inr (.inr (.inr hx)))
 ·simp only[List.cons_append,List.nil_append,KX,Pv]at hx⊢;rcases hx with h|h|h|hx|hx
  ·exact .inl (.inl h)
  ·exact .inl (.inr (.inl h))
  ·exact .inl (.inr (.inr (.inl h)))
  ·rcases D0 x hx with h|⟨h,h'⟩
   ·exact .inl (.inr (.inr (.inr (.inl h))))
   ·exact .inr h
  ·rcases mn x hx with h|⟨h,h'⟩
   ·exact .inl (.inr (.inr (.inr (.inr h))))
   ·exact .inr ab
theorem gJ.aw {T:List ByteArray} (hF:F=[s,sb,rb]++Gop.toList++Gw.toList) (ek:F.Nodup) (an:∀ x∈F,x<w.heap.size)
  (hS:fZ w sb Gop lo (T.drop lo)) (hR:Recv w rb lo) (gX:lo<=T.length) (hb:ah (s::Gw.toList) w w') (hh:w'.heap[s]? =some (.cells #[.pointer (some ⟨sb,0,none⟩),.pointer (some ⟨rb,0,none⟩),v6] 118 (0,0)))
  (hO:cc w' G6 v6 tT.length 2 (bm T tT)) (hG:G6=Gw∨∃ g,G6=some g/\w.heap.size<=g/\g<w'.heap.size) (hq:∀ q∈tT,q<T.length):gJ w w' F s T lo tT:=by
 subst hF;obtain⟨⟨q1,q2,q3,q4⟩,⟨q5,q6,q7⟩,⟨q8,q9⟩,nH⟩:=vz ek
 have mn:∀ g∈G6.toList,g∈Gw.toList∨(w.heap.size<=g/\g<w'.heap.size):=λg hg=>by
  rcases hG with h|⟨g',h,h3,h4⟩
  ·exact .inl (h▸hg)
  ·rw[h]at hg;have:g=g':=by simpa using hg
   exact .inr ⟨ab,ab⟩
 have hs:=an s ao;have pP:=an sb ao;have D4:=an rb ao;have vC:∀ g∈Gop.toList,g<w.heap.size:=λg hg=>an g (by simp at hg⊢;simp[hg]);have yi:∀ g∈Gw.toList,g<w.heap.size:=λg hg=>an g (by simp at hg⊢;simp[hg]);have hz:=hb.size;refine⟨[s,sb,rb]++Gop.toList++G6.toList,⟨sb,rb,Gop,G6,v6,rfl,MV ⟨q1,q2,q5⟩ (λx hx=> ?_) (λx hx=> ?_) (λx hx hy=> ?_),λx hx=> ?_,hh,?_,?_,hO,gX,hq⟩,?_,λx hx=> ?_⟩
 ·exact⟨λe=>q3 (e▸hx),λe=>q6 (e▸hx),λe=>q8 (e▸hx)⟩
 ·rcases mn x hx with h|⟨h,_⟩
  ·exact⟨λe=>q4 (e▸h),λe=>q7 (e▸h),λe=>q9 (e▸h)⟩
  ·exact⟨ab,ab,ab⟩
 ·rcases mn x hy with g|⟨g,g'⟩
  ·exact nH x hx g
  ·have:=vC x hx;omega
 ·simp only[List.cons_append,List.nil_append,KX,Pv]at hx;rcases hx with rfl|rfl|rfl|hx|hx
  ·omega
  ·omega
  ·omega
  ·have:=vC x hx;omega
  ·rcases mn x hx with h|⟨h,h'⟩
   ·have:=yi x h;omega
   ·omega
 ·refine hS.but hb (by simp only[KX,not_or];exact⟨λe=>q1 e.symm,q7⟩) (λg hg=> ?_);have iX:g∈Gop.toList:=by rw[hg];simp
  simp only[KX,not_or];exact⟨λe=>q3 (e▸iX),λhx=>nH g iX hx⟩
 ·exact hR.but hb (by simp only[KX,not_or];exact⟨λe=>q2 e.symm,q9⟩)
 ·refine hb.mono (λx hx=> ?_);simp only[KX,Pv,List.cons_append,List.nil_append]at hx⊢;rcases hx with h|h
  ·exact .inl h
  ·exact .inr (.inr (.inr (.inr h)))
 ·simp only[List.cons_append,List.nil_append,KX,Pv]at hx⊢;rcases hx with h|h|h|hx|hx
  ·exact .inl (.inl h)
  ·exact .inl (.inr (.inl h))
  ·exact .inl (.inr (.inr (.inl h)))
  ·exact .inl (.inr (.inr (.inr (.inl hx))))
  ·rcases mn x hx with h|⟨h,h'⟩
   ·exact .inl (.inr (.inr (.inr (.inr h))))
   ·exact .inr h
theorem cc.pre {U:Nat} (h:cc w G (.slice (some ⟨b,off,none⟩) n cap) n k xs) (hj:U<=n):cc w G (.slice (some ⟨b,off,none⟩) U U) U k (xs.take (U*k)):=by
 rcases h with ⟨h,_⟩|⟨nY,qj,kP,hv,hG,h1,h2,h3,h4,h5,h6⟩
 ·cases h
 ·injection hv with ft cW wM;injection ft with ft;injection ft with e1 e2 _;subst e1 e2 wM;have hjk:U*k<=n*k:=Nat.mul_le_mul_right k hj;have zK:n*k<=cap*k:=Nat.mul_le_mul_right k h1;refine .inr ⟨b,off,U,rfl,hG,CP _,ab,by rw[qcd];omega,λi hi=>h4 i ab,λi u hu=>h5 i u ?_,h6⟩;have hi:=(bg hu);rw[qcd]at hi;rwa [qlY ab]at hu
theorem qf7 (N M n a c s lo:Nat) (F:List Nat) (S:dR) (T:List ByteArray) (aw:List Nat) (af eT:Int) (w:World) (hN:iJ w N M) (hM:PM w M n S) (ha:a<6) (hc:c<6) (hs:S a c=some s) (h:fS w F s T lo aw) (hw:aw.length<=4294967296) (ho:af<0∨(aw.length:Int)<=af):
  Calls prog 107 #[.pointer (some ⟨N,0,none⟩),.int .i64 a,.int .i64 c,.int .i64 af,.int .i64 eT] w λe w'=>e= .returned (.tuple #[.string ⟨#[]⟩,.bool false])/\ad w w':=by
 obtain⟨sb,rb,Gop,Gw,v,h1,h2,h3,h4,h5,h6,h7,lx,h9⟩:=h;obtain⟨c0,c1,c2,_⟩:=lu h4;have HN:=aa hN;have HM:=aa hM;have HS:=aa hs;obtain⟨A0,c6,rfl⟩:=h7.form
 have hd:decide (af<0)=true∨(decide (af<0)=false/\decide ((aw.length:Int)<=af)=true):=by
  by_cases h0:af<0
  ·exact .inl (ql3 h0)
  ·exact .inr ⟨ql4 h0,ql3 ab⟩
 clear hN hM hs h1 h2 h3 h4 h5 h6 h7 h9 ho;rcases hd with hd|⟨hd,hU⟩
 all_goals
  (go_in
   go_wp2_with fail
   refine(mm N M n a c S _ HN.o HM.o ha hc).mono ?_;rintro e w1 ⟨rfl,k1⟩;rw[HS.o];have c2:=k1.af c2;unfold ptr;go_wp2;go_ret2
   exact⟨rfl,k1⟩)
theorem qf8 (N M n a c s lo af q:Nat) (F:List Nat) (S:dR) (T:List ByteArray) (aw:List Nat) (eT:Int) (w:World) (hN:iJ w N M) (hM:PM w M n S) (ha:a<6) (hc:c<6) (hs:S a c=some s) (h:fS w F s T lo aw) (hw:aw.length<=4294967296) (hq:aw[af]? =some q) (hh:bits .and .i64 eT 3=2):
  Calls prog 107 #[.pointer (some ⟨N,0,none⟩),.int .i64 a,.int .i64 c,.int .i64 af,.int .i64 eT] w λe w'=>e= .returned (.tuple #[.string ⟨#[]⟩,.bool false])/\gJ w w' F s T lo (if aw.length<32 then aw++[q]else aw):=by
 obtain⟨sb,rb,Gop,Gw,v,h1,h2,h3,h4,h5,h6,h7,lx,h9⟩:=h;obtain⟨i0,hi,a7,aY,aW⟩:=ql0 uL;have HI:=aa hi;have H1:=aa h1;have H2:=aa h2;have H3:=aa h3;have H4:=aa h4;have H5:=aa h5;have H6:=aa h6;have H7:=aa h7;have H9:=aa h9;have HQ:=aa hq;obtain⟨c0,c1,c2,f2⟩:=lu h4;have HN:=aa hN;have HM:=aa hM;have HS:=aa hs;have bu:s<w.heap.size:=(aQ h4);have ek:=vz (h1▸h2);have ik:s∉Gw.toList:=ek.1.2.2.2;have yj:af<aw.length:=(bg hq);obtain⟨f',fM⟩:=AN T aw af q hq;obtain⟨A0,c6,hv⟩:=h7.form;subst hv;obtain⟨b,off,tU,nf,kU,iR,du⟩:=h7.cells ab;subst tU;have z1:w.cell? ⟨b,off+af*2,none⟩=some (.int .i64 (q:Int)):=du _ _ f';have z2:w.cell? ⟨b,off+af*2+1,none⟩=some (.string (tx T q)):=by have:=du _ _ fM;rwa [<- Nat.add_assoc]at this
 unfold maxLen at iR;have nC:b<w.heap.size:=Aa w _ z1;have kq:decide ((af:Int)<0)=false:=by first|(simp;done)|(simp;omega)
 have o4:decide ((aw.length:Int)<=(af:Int))=false:=by first|(simp;done)|(simp;omega)
 clear hN hM hs h2 h3 h4 h5 h6 h7 h9 hi hq f' fM du ek nf;by_cases Vw:aw.length<32
 ·have hU:decide ((aw.length:Int)<32)=true:=by simp;omega
  rw[if_pos Vw];go_in;go_wp2_with fail
  refine(mm N M n a c S _ HN.o HM.o ha hc).mono ?_;rintro e w1 ⟨rfl,k1⟩;rw[HS.o];have c2:=k1.af c2;have z1:=k1.af z1;have z2:=k1.af z2;have si:=R4 bu k1.size;have Ia:=R4 nC k1.size
  have H':w1.heap.size∉Gw.toList:=λhx=>by
   have:=H3.o w1.heap.size (by rw[H1.o];simp only[Pv];exact .inr hx);have:=k1.size;omega
  unfold ptr;go_wp2;have tS:ag (cc (w1.alloc (.cells #[.int .i64 q,.string (tx T q)] 238)) Gw (.slice (some ⟨b,off,none⟩) aw.length c6) aw.length 2 (bm T aw)):=(H7.o.kept k1).kept ((ad.refl w1).alloc _);obtain⟨xs,bP⟩:=eqQ (bm T aw);have ly:=aa bP;have dN:xs.length=aw.length*2:=by rw[<- bP];exact pN T aw
  have pO:=aa dN;rw[bP]at tS;clear bP dN;refine oY (oS (Gw.toList)) (λwB=>ah (Gw.toList) w1 wB/\wB.cell? ⟨s,2,none⟩=some (.slice (some ⟨b,off,none⟩) aw.length c6)/\wB.cell? ⟨w1.heap.size,0,none⟩=some (.int .i64 q)/\wB.cell? ⟨w1.heap.size,1,none⟩=some (.string (tx T q))/\ag (cc wB Gw (.slice (some ⟨b,off,none⟩) aw.length c6) aw.length 2 xs)) ?_ av av _ (by(try simp only[List.append_eq,List.cons_append,List.nil_append,List.toList_toArray]);exact rfl) ?_
  ·exact⟨by exact hD,by first|assumption|go_simp,by first|assumption|go_simp,by first|assumption|go_simp,by first|assumption|skip⟩
  rintro wB ⟨au,aB,aC,aF,HX⟩;repeat((first|(apply DW.ct;(focus (intro wd hI;have ae:=au.trans hI;have ai:=hI.af aB bk;have aj:=hI.af aC bk;have aq:=hI.af aF bk;go_wp2_with (fail);refine bd.mk _ rfl ⟨rfl,?_⟩;exact al)))|(refine DW.bt av ?_;intro wd hI;have ae:=au.trans (ah.ar hI);have ai:=hI.af aB;have aj:=hI.af aC;have aq:=hI.af aF;go_wp2_with (at_builtin;refine AM _ rfl _ _ 116 rfl 238 i0 (.agg #[.int .i64 0,.string ⟨#[]⟩]) 2 24 underlying116 HI.o a7 aY aW rfl ab Gw _ aw.length 1 xs (HX.o.kept hI) pO.o rfl _ 1 [.int .i64 q,.string (tx T q)] rfl rfl (Vu hI) (J0 _ _) (by unfold maxLen;omega) ab rfl ?_;intro v6 w6 G6 C0 O6 dw;have dw:(G6=Gw∨∃ g,G6=some g/\w1.heap.size<=g/\g<w6.heap.size):=dw.imp id (λ⟨g,h,h3,h4⟩=>⟨g,h,qcg ae.size h3,h4⟩));refine bd.bt _ rfl (by exact hD) (λbf=> ?_);have b5:=(ah.ar (S:=Gw.toList) hI).trans bf;have au:=au.trans b5;have aB:=b5.af aB bk;have aC:=b5.af aC bk;have aF:=b5.af aF bk;(first|have HX:=aa (HX.o.kept (ad.call hI (ad.tQ bf)))|have HX:=aa (HX.o.kept (ad.call hI (ad.tR bf)))|skip)));simp only[Act.put,List.setIfInBounds_toArray,List.set_cons_succ,List.set_cons_zero])
  refine DW.tail av ?_;intro wd hI;have ae:=au.trans (ah.ar hI);have ai:=hI.af aB;have aj:=hI.af aC;have aq:=hI.af aF;have jk:ag (wd.heap[s]? =some (.cells #[.pointer (some ⟨sb,0,none⟩),.pointer (some ⟨rb,0,none⟩),.slice (some ⟨b,off,none⟩) aw.length c6] 118 (0,0))):=ae.heap (k1.heap H4.o) ik;have y1:=ai;have y2:=aI jk.o 2;have eo:=aa (O6.kept hI);have eS:=aa dw;obtain⟨A6,cQ,cy⟩:=O6.form;subst cy;clear O6 dw C0 HX;go_wp2;go_ret2
  refine⟨rfl,gJ.aw H1.o H2.o H3.o H5.o H6.o lx (v6:= .slice A6 (aw.length+1) cQ) (G6:=G6) ?_ ?_ ?_ ?_ ?_⟩
  ·exact(((ah.ar k1).trans (ae.mono λx hx=>zM _ hx))).setCell (.inl ao) _
  ·have:=jk.o;simp[World.setCell,Array.getElem?_modify,this]
  ·have e:bm T (aw++[q])=xs++[.int .i64 q,.string (tx T q)]:=by
    rw[H8,ly.o];simp[bm]
   rw[e,zH];refine eo.o.but ((ah.refl _ _).setCell (.inl (At.2 rfl)) _) (λg hg=> ?_);rw[At];intro e;have e:g=s:=e;rcases eS.o with h|⟨g',h,h3,h4⟩
   ·exact ik (by rw[<- h,hg,e];simp)
   ·rw[hg]at h;injection h with h;omega
  ·exact eS.o.imp id λ⟨g,h,h3,h4⟩=>⟨g,h,by have:=k1.size;omega,by rw[World.size_setCell];have:=hI.size;omega⟩
  ·intro x hx;rcases Pv.1 hx with hx|hx
   ·exact H9.o x hx
   ·have:x=q:=by simpa using hx
    rw[this];exact H9.o q (zV HQ.o)
 ·have hU:decide ((aw.length:Int)<32)=false:=by simp;omega
  rw[if_neg Vw];go_in;go_wp2_with fail
  refine(mm N M n a c S _ HN.o HM.o ha hc).mono ?_;rintro e w1 ⟨rfl,k1⟩;rw[HS.o];have c2:=k1.af c2;have z1:=k1.af z1;have z2:=k1.af z2;have si:=R4 bu k1.size;have Ia:=R4 nC k1.size;unfold ptr;go_wp2;go_ret2
  have bb:ad w (w1.alloc (.cells #[.int .i64 q,.string (tx T q)] 238)):=k1.alloc _;exact⟨rfl,F,fS.keep (show fS w F s T lo aw from⟨sb,rb,Gop,Gw,_,H1.o,H2.o,H3.o,H4.o,H5.o,H6.o,H7.o,lx,H9.o⟩) bb,.ar bb,λx hx=> .inl hx⟩
theorem gJ.all {T:List ByteArray} (hF:F=[s,sb,rb]++Gop.toList++Gw.toList) (ek:F.Nodup) (an:∀ x∈F,x<w.heap.size)
  (hS:fZ w' sb Gop lo (T.drop lo)) (hR:Recv w' rb lo) (gX:lo<=T.length) (hb:ah F w w') (hh:w'.heap[s]? =some (.cells #[.pointer (some ⟨sb,0,none⟩),.pointer (some ⟨rb,0,none⟩),v6] 118 (0,0)))
  (hO:cc w' G6 v6 tT.length 2 (bm T tT)) (hG:G6=Gw∨∃ g,G6=some g/\w.heap.size<=g/\g<w'.heap.size) (hq:∀ q∈tT,q<T.length):gJ w w' F s T lo tT:=by
 subst hF;obtain⟨⟨q1,q2,q3,q4⟩,⟨q5,q6,q7⟩,⟨q8,q9⟩,nH⟩:=vz ek
 have mn:∀ g∈G6.toList,g∈Gw.toList∨(w.heap.size<=g/\g<w'.heap.size):=λg hg=>by
  rcases hG with h|⟨g',h,h3,h4⟩
  ·exact .inl (h▸hg)
  ·rw[h]at hg;have:g=g':=by simpa using hg
   exact .inr ⟨ab,ab⟩
 have hs:=an s ao;have pP:=an sb ao;have D4:=an rb ao;have vC:∀ g∈Gop.toList,g<w.heap.size:=λg hg=>an g (by simp at hg⊢;simp[hg]);have yi:∀ g∈Gw.toList,g<w.heap.size:=λg hg=>an g (by simp at hg⊢;simp[hg]);have hz:=hb.size;refine⟨[s,sb,rb]++Gop.toList++G6.toList,⟨sb,rb,Gop,G6,v6,rfl,MV ⟨q1,q2,q5⟩ (λx hx=> ?_) (λx hx=> ?_) (λx hx hy=> ?_),λx hx=> ?_,hh,hS,hR,hO,gX,hq⟩,hb,λx hx=> ?_⟩
 ·exact⟨λe=>q3 (e▸hx),λe=>q6 (e▸hx),λe=>q8 (e▸hx)⟩
 ·rcases mn x hx with h|⟨h,_⟩
  ·exact⟨λe=>q4 (e▸h),λe=>q7 (e▸h),λe=>q9 (e▸h)⟩
  ·exact⟨ab,ab,ab⟩
 ·rcases mn x hy with g|⟨g,g'⟩
  ·exact nH x hx g
  ·have:=vC x hx;omega
 ·simp only[List.cons_append,List.nil_append,KX,Pv]at hx;rcases hx with rfl|rfl|rfl|hx|hx
  ·omega
  ·omega
  ·omega
  ·have:=vC x hx;omega
  ·rcases mn x hx with h|⟨h,h'⟩
   ·have:=yi x h;omega
   ·omega
 ·simp only[List.cons_append,List.nil_append,KX,Pv]at hx⊢;rcases hx with h|h|h|hx|hx
  ·exact .inl (.inl h)
  ·exact .inl (.inr (.inl h))
  ·exact .inl (.inr (.inr (.inl h)))
  ·exact .inl (.inr (.inr (.inr (.inl hx))))
  ·rcases mn x hx with h|⟨h,h'⟩
   ·exact .inl (.inr (.inr (.inr (.inr h))))
   ·exact .inr h
theorem MW (T:List ByteArray) (aw:List Nat) (k:Nat) (hk:k<aw.length):(bm T aw).take (k*2)++bm T (aw.drop (k+1))=bm T (aw.eraseIdx k)/\k+(aw.length-(k+1))=(aw.eraseIdx k).length:=by
 rw[qfW,<- H8,<- List.eraseIdx_eq_take_drop_succ];exact⟨rfl,by rw[List.length_eraseIdx,if_pos hk];omega⟩
theorem MX {ni:Nat} {T:List ByteArray} {aw:List Nat} (h:cc w G (.slice (some ⟨b,off,none⟩) n ni) n 2 xs) (hx:bm T aw=xs) (hk:k<n):
  ∀ (U:Nat) (u:Value),(bm T (aw.drop (k+1)))[U]? =some u->w.cell? ((⟨b,off+(k+1)*2,none⟩:Addr).add U)=some u:=by
 intro U u hu;obtain⟨nY,qj,e,_,_,_,hc⟩:=h.cells ab;injection e with e;injection e with e1 e2;subst e1 e2;rw[<- qfV,List.getElem?_drop]at hu;have:=hc _ _ (hx▸hu);have e:((⟨b,off+(k+1)*2,none⟩:Addr).add U)=⟨b,off+((k+1)*2+U),none⟩:=by simp[Addr.add,Nat.add_assoc]
 rw[e];exact this
theorem qf9 (N M n a c s lo af q:Nat) (F:List Nat) (S:dR) (T:List ByteArray) (aw:List Nat) (eT:Int) (w:World) (hN:iJ w N M) (hM:PM w M n S) (ha:a<6) (hc:c<6) (hs:S a c=some s) (h:fS w F s T lo aw) (hw:aw.length<=4294967296) (hq:aw[af]? =some q) (hh:bits .and .i64 eT 3=1):
  Calls prog 107 #[.pointer (some ⟨N,0,none⟩),.int .i64 a,.int .i64 c,.int .i64 af,.int .i64 eT] w λe w'=>e= .returned (.tuple #[.string ⟨#[]⟩,.bool false])/\gJ w w' F s T lo (aw.eraseIdx af):=by
 obtain⟨sb,rb,Gop,Gw,v,h1,h2,h3,h4,h5,h6,h7,lx,h9⟩:=h;obtain⟨i0,hi,a7,aY,aW⟩:=ql0 uL;have HI:=aa hi;have H1:=aa h1;have H2:=aa h2;have H3:=aa h3;have H4:=aa h4;have H5:=aa h5;have H6:=aa h6;have H7:=aa h7;have H9:=aa h9;have HQ:=aa hq;obtain⟨c0,c1,c2,f2⟩:=lu h4;have HN:=aa hN;have HM:=aa hM;have HS:=aa hs;have bu:s<w.heap.size:=(aQ h4);have ek:=vz (h1▸h2);have gK:=aa ek;have ik:s∉Gw.toList:=ek.1.2.2.2;have yj:af<aw.length:=(bg hq);obtain⟨f',fM⟩:=AN T aw af q hq;obtain⟨A0,c6,hv⟩:=h7.form;subst hv;obtain⟨b,off,tU,nf,kU,iR,du⟩:=h7.cells ab;subst tU;have z1:w.cell? ⟨b,off+af*2,none⟩=some (.int .i64 (q:Int)):=du _ _ f';have z2:w.cell? ⟨b,off+af*2+1,none⟩=some (.string (tx T q)):=by have:=du _ _ fM;rwa [<- Nat.add_assoc]at this
 unfold maxLen at iR;have nC:b<w.heap.size:=Aa w _ z1;have kq:decide ((af:Int)<0)=false:=by first|(simp;done)|(simp;omega)
 have o4:decide ((aw.length:Int)<=(af:Int))=false:=by first|(simp;done)|(simp;omega)
 have Vx:=aa nf;have eK:c6=af+1->bm T (aw.drop (af+1))=[]:=λe=>by rw[List.drop_eq_nil_of_le ab];rfl
 have yk:=aa eK;have hlen:aw.length-(af+1)=(aw.drop (af+1)).length:=ao;have k0:=aa hlen;clear hN hM hs h2 h3 h4 h5 h6 h7 h9 hi hq f' fM du ek nf eK hlen;rcases Decidable.em (c6=af+1)with vD|vD
 all_goals
  (go_in
   go_wp2_with fail
   refine(mm N M n a c S _ HN.o HM.o ha hc).mono ?_;rintro e w1 ⟨rfl,k1⟩;rw[HS.o];have c0:=k1.af c0;have c1:=k1.af c1;have c2:=k1.af c2;have z1:=k1.af z1;have z2:=k1.af z2;have si:=R4 bu k1.size;have Ia:=R4 nC k1.size
   have H':w1.heap.size∉Gw.toList:=λhx=>by
    have:=H3.o w1.heap.size (by rw[H1.o];simp only[Pv];exact .inr hx);have:=k1.size;omega
   unfold ptr;go_wp2;have tS:ag (cc (w1.alloc (.cells #[.int .i64 q,.string (tx T q)] 238)) Gw (.slice (some ⟨b,off,none⟩) aw.length c6) aw.length 2 (bm T aw)):=(H7.o.kept k1).kept ((ad.refl w1).alloc _);obtain⟨xs,bP⟩:=eqQ (bm T aw);have ly:=aa bP;have dN:xs.length=aw.length*2:=by rw[<- bP];exact pN T aw
   have pO:=aa dN;rw[bP]at tS;clear bP dN;refine oY (oS (Gw.toList)) (λwB=>ah (Gw.toList) w1 wB/\wB.cell? ⟨s,0,none⟩=some (.pointer (some ⟨sb,0,none⟩))/\wB.cell? ⟨s,1,none⟩=some (.pointer (some ⟨rb,0,none⟩))/\wB.cell? ⟨s,2,none⟩=some (.slice (some ⟨b,off,none⟩) aw.length c6)/\wB.cell? ⟨w1.heap.size,0,none⟩=some (.int .i64 q)/\wB.cell? ⟨w1.heap.size,1,none⟩=some (.string (tx T q))/\ag (cc wB Gw (.slice (some ⟨b,off,none⟩) aw.length c6) aw.length 2 xs)) ?_ av av _ (by(try simp only[List.append_eq,List.cons_append,List.nil_append,List.toList_toArray]);exact rfl) ?_
   ·exact⟨by exact hD,by first|assumption|go_simp,by first|assumption|go_simp,by first|assumption|go_simp,by first|assumption|go_simp,by first|assumption|go_simp,by first|assumption|skip⟩
   rintro wB ⟨au,aB,aC,aF,aX,bK,HX⟩;repeat((first|(apply DW.ct;(focus (intro wd hI;have ae:=au.trans hI;have ai:=hI.af aB bk;have aj:=hI.af aC bk;have aq:=hI.af aF bk;have az:=hI.af aX bk;have aK:=hI.af bK bk;go_wp2_with (fail);refine bd.mk _ rfl ⟨rfl,?_⟩;exact al)))|(refine DW.bt av ?_;intro wd hI;have ae:=au.trans (ah.ar hI);have ai:=hI.af aB;have aj:=hI.af aC;have aq:=hI.af aF;have az:=hI.af aX;have aK:=hI.af bK;go_wp2_with (at_builtin;refine AM _ rfl _ _ 116 rfl 238 i0 (.agg #[.int .i64 0,.string ⟨#[]⟩]) 2 24 underlying116 HI.o a7 aY aW rfl ab Gw _ af (aw.length-(af+1)) (xs.take (af*2)) ((HX.o.kept hI).pre ab) (by rw[qcd,pO.o];omega) rfl _ _ (bm T (aw.drop (af+1))) rfl (by rw[pN,k0.o]) (by first|exact MX (HX.o.kept hI) ly.o ab|(rw[yk.o vD];intro U u hu;simp at hu;done)) (DZ _ _) (by unfold maxLen;omega) ab rfl ?_;intro v6 w6 G6 C0 O6 dw;have dw:(G6=Gw∨∃ g,G6=some g/\w1.heap.size<=g/\g<w6.heap.size):=dw.imp id (λ⟨g,h,h3,h4⟩=>⟨g,h,qcg ae.size h3,h4⟩));refine bd.bt _ rfl (by exact hD) (λbf=> ?_);have b5:=(ah.ar (S:=Gw.toList) hI).trans bf;have au:=au.trans b5;have aB:=b5.af aB bk;have aC:=b5.af aC bk;have aF:=b5.af aF bk;have aX:=b5.af aX bk;have bK:=b5.af bK bk;(first|have HX:=aa (HX.o.kept (ad.call hI (ad.tQ bf)))|have HX:=aa (HX.o.kept (ad.call hI (ad.tR bf)))|skip)));simp only[Act.put,List.setIfInBounds_toArray,List.set_cons_succ,List.set_cons_zero])
   refine DW.tail av ?_;intro wd hI;have ae:=au.trans (ah.ar hI);have ai:=hI.af aB;have aj:=hI.af aC;have aq:=hI.af aF;have az:=hI.af aX;have aK:=hI.af bK;have jk:ag (wd.heap[s]? =some (.cells #[.pointer (some ⟨sb,0,none⟩),.pointer (some ⟨rb,0,none⟩),.slice (some ⟨b,off,none⟩) aw.length c6] 118 (0,0))):=ae.heap (k1.heap H4.o) ik;have y2:=aI jk.o 2;have eo:=aa (O6.kept hI);have eS:=aa dw;have Vy:=aa hI;have jg:=aa ae;obtain⟨A6,cQ,cy⟩:=O6.form;subst cy;clear O6 dw C0 HX;obtain⟨m6,j3⟩:=eqQ (af+(aw.length-(af+1)));rw[j3]at eo;simp only[j3]
   have gw:ag (ah (s::Gw.toList) w (wd.setCell ⟨s,2,none⟩ (.slice A6 m6 cQ))/\(wd.setCell ⟨s,2,none⟩ (.slice A6 m6 cQ)).heap[s]? =some (.cells #[.pointer (some ⟨sb,0,none⟩),.pointer (some ⟨rb,0,none⟩),.slice A6 m6 cQ] 118 (0,0))/\
     cc (wd.setCell ⟨s,2,none⟩ (.slice A6 m6 cQ)) G6 (.slice A6 m6 cQ) (aw.eraseIdx af).length 2 (bm T (aw.eraseIdx af))/\(G6=Gw∨∃ g,G6=some g/\w.heap.size<=g/\g<(wd.setCell ⟨s,2,none⟩ (.slice A6 m6 cQ)).heap.size)):=by
    refine⟨(((ah.ar k1).trans (ae.mono λx hx=>zM _ hx))).setCell (.inl ao) _,?_,?_,?_⟩
    ·have:=jk.o;simp[World.setCell,Array.getElem?_modify,this]
    ·obtain⟨e1,e2⟩:=MW T aw af yj;rw[<- e1,<- e2,j3,ly.o];refine eo.o.but ((ah.refl _ _).setCell (.inl (At.2 rfl)) _) (λg hg=> ?_);rw[At];intro e;have e:g=s:=e;rcases eS.o with h|⟨g',h,h3,h4⟩
     ·exact ik (by rw[<- h,hg,e];simp)
     ·rw[hg]at h;injection h with h;omega
    ·exact eS.o.imp id λ⟨g,h,h3,h4⟩=>⟨g,h,by have:=k1.size;omega,by rw[World.size_setCell];have:=hI.size;omega⟩
   clear j3;go_wp2;go_ret2
   exact⟨rfl,gJ.aw H1.o H2.o H3.o H5.o H6.o lx gw.o.1 gw.o.2.1 gw.o.2.2.1 gw.o.2.2.2 λx hx=>H9.o x (List.mem_of_mem_eraseIdx hx)⟩)
end Go.Proofs.YtehaoggjlciobaaGreat

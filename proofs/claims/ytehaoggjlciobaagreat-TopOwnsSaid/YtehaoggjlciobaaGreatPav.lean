/- Part 22 of 53. -/
import Derived.Test.YtehaoggjlciobaaGreatPau
set_option linter.all false
set_option maxRecDepth 20000
set_option maxHeartbeats 16000000
namespace Go.Proofs.YtehaoggjlciobaaGreat
open Go.Maps Go.RowKit
def lh (L:ByteArray->List ax) (k:ByteArray) (l:List ax):ByteArray->List ax:=λx=>if x=k then l else L x
theorem L8 (L:ByteArray->List ax) (k:ByteArray) (l:List ax):lh L k l k=l:=by simp[lh]
theorem TG {L:ByteArray->List ax} {k x:ByteArray} {l:List ax} (h:x≠k):lh L k l x=L x:=by simp[lh,h]
theorem qd1 {L:ByteArray->List ax} {k:ByteArray} {l:List ax} (h:l=L k):lh L k l=L:=by
 funext x;unfold lh;split
 ·rename_i e;rw[h,e]
 ·rfl
theorem Dn {w w2:World} {mb:Nat} {C:Ch} (hm:MapAt w mb C) (h:ah [mb] w w2):Fr bq w w2:=
 Fr.gn h λs hs cur e he=>by
  simp only[At]at hs;obtain⟨D,⟨es,clock,h1,_⟩,_⟩:=hm;rw[hs,h1]at he;cases he
theorem cP.pz {w w2:World} {B:Int} {hb mb:Nat} {own:List Rg} {L:ByteArray->List ax} (h:cP w B hb mb own L) {C:Ch} (hC:∀ k,Let k->dc w B k (jC (C k)) (L k)/\(C k≠none->b4 own k/\L k≠[])) (L9:MapAt w mb C) {k:ByteArray} (hk:Let k) {v:Value} {l:List ax} (hm:MapAt w2 mb (xN C k v)) (bG:ah [mb] w w2) (hc:dc w2 B k v l) (ho:b4 own k) (hl:l≠[]):cP w2 B hb mb own (lh L k l):=by
 have hf:=Dn L9 bG;obtain⟨u,h3,h4⟩:=h.bB;refine⟨⟨u,bG.heap h3 (by simp;exact h.apart),h4.fr hf (.inr (.inr (.inl rfl)))⟩,h.bx,_,hm,λx hx=> ?_⟩;unfold xN lh;by_cases e:x=k
 ·subst e;rw[if_pos rfl,if_pos rfl];exact⟨hc,λ_=>⟨ho,hl⟩⟩
 ·rw[if_neg e,if_neg e];exact⟨(hC x hx).1.fr hf,(hC x hx).2⟩
def xP (own:List Rg) (L:ByteArray->List ax) (v:ax) (L':ByteArray->List ax) (b:Bool):Prop:=(¬b4 own v.key/\L'=L/\b=false)∨(b4 own v.key/\∃ l',L'=lh L v.key l'/\LX (L v.key) v l' b)
theorem qd2 (B:Int) (hb mb:Nat) (own:List Rg) (L:ByteArray->List ax) (v:ax) (w:World) (h:cP w B hb mb own L) (hv:b7 w B v) (hB:0<=B) (h9:B<=100000000000):
  Calls Tryz.prog 208 #[.pointer (some ⟨hb,0,none⟩),aM v] w λe w'=>∃ b L',e= .returned (.bool b)/\cP w' B hb mb own L'/\xP own L v L' b/\ah [mb] w w'/\Fr bq w w':=by
 obtain⟨rv,h1,h2⟩:=h.bB;obtain⟨c0,c1,_,an⟩:=xO h1;obtain⟨C,hm,hc⟩:=h.fz;have hk:=hv.1;obtain⟨e6,gF⟩:∃ e6,jC (C v.key)=e6:=⟨_,rfl⟩;have eu:=(hc v.key hk).1;rw[gF]at eu;have HS:=aa h;have HM:=aa hm;have jD:=aa gF;have HC:=aa eu;have pA:=aa hc;have HV:=aa hv;obtain⟨A,c,rfl,_,_⟩:=h2.form;have HR:=aa h2.rows;have xQ:=h.apart;clear h h1 h2 hm gF eu hc hv;go_in;unfold aM;go_wp2;refine ey [none,none,none,none,none,none,none,none,none,some (λu w'=>∃ r:Int,u= .int .i64 r/\uI own v.key r)] (λwB=>ad w wB/\wB.cell? ⟨hb,0,none⟩=some (.slice A own.length c)/\wB.cell? ⟨hb,1,none⟩=some (.map (some mb))/\wB.cell? ⟨w.heap.size,0,none⟩=some (.string v.key)/\wB.cell? ⟨w.heap.size,1,none⟩=some (.string v.val)/\wB.cell? ⟨w.heap.size,2,none⟩=some (.bool v.gone)/\wB.cell? ⟨w.heap.size,3,none⟩=some (.int .i64 v.n)/\wB.cell? ⟨w.heap.size,4,none⟩=some (.int .i64 v.s)/\wB.cell? ⟨w.heap.size,5,none⟩=some (.slice v.pa v.pn v.pc)) λwB SS=> ?_;iterate 9 refine SP.on ?_
 refine SP.ew ?_ λv1=> ?_
 ·intro wd hI hF;obtain⟨ae,ai,aj,aq,az,aK,a1,cw,d'⟩:=SS.o wd hI;clear hF;go_wp2_with ((go_at_call 84;refine(wI A _ c own v.key _ (HR.o.keep ae)).mono ?_;rintro e w4 ⟨r,rfl,h4,k4⟩));exact bn rfl ⟨r,rfl,h4⟩
 refine SP.ml SS ?_;rintro wd hI hF ⟨ae,ai,aj,aq,az,aK,a1,cw,d'⟩;have h1:=hF.1;clear hF SS;obtain⟨wc,⟨r,rfl,hr⟩,_⟩:=h1;have ej:=Ab hr;rcases Decidable.em (r<0)with od|od
 ·have bW:¬b4 own v.key:=λh=>by have:=ej.2 h;omega
  have hd:decide (r<0)=true:=ql3 od;have jX:=aa bW;clear bW ej hr;go_wp2;go_ret;exact⟨false,L,rfl,HS.o.kept ae,.inl ⟨jX.o,rfl,rfl⟩,.ar ae,.ar ae⟩
 have lZ:b4 own v.key:=ej.1 ab;have hd:decide (r<0)=false:=ql4 od;have Dp:=aa lZ;clear lZ ej hr;go_wp2;refine ey [none,none,none,none,none,none,none,none,some (λu w'=>∃ qN l' b,u= .tuple #[qN,.bool b]/\dc w' B v.key qN l'/\LX (L v.key) v l' b),none,none,none,none,none] (λwB=>ad w wB/\wB.cell? ⟨hb,0,none⟩=some (.slice A own.length c)/\wB.cell? ⟨hb,1,none⟩=some (.map (some mb))/\wB.cell? ⟨w.heap.size,0,none⟩=some (.string v.key)/\wB.cell? ⟨w.heap.size,1,none⟩=some (.string v.val)/\wB.cell? ⟨w.heap.size,2,none⟩=some (.bool v.gone)/\wB.cell? ⟨w.heap.size,3,none⟩=some (.int .i64 v.n)/\wB.cell? ⟨w.heap.size,4,none⟩=some (.int .i64 v.s)/\wB.cell? ⟨w.heap.size,5,none⟩=some (.slice v.pa v.pn v.pc)) λwB SS=> ?_;iterate 8 (apply SP.one av;(focus (intro wd hI hF;clear hF;obtain⟨ae,ai,aj,aq,az,aK,a1,cw,d'⟩:=SS.o wd hI;(try have cr:=(HM.o.keep ae).look hk;rw[jD.o]at cr);go_wp2_with (fail);exact aP));refine SP.np ?_)
 refine SP.ew ?_ λv1=> ?_
 ·intro wd hI hF;obtain⟨ae,ai,aj,aq,az,aK,a1,cw,d'⟩:=SS.o wd hI;clear hF;(try have cr:=(HM.o.keep ae).look hk;rw[jD.o]at cr);go_wp2_with ((go_at_call 259;refine(qdJ B e6 (L v.key) v _ hB h9 (HC.o.kept ae) (HV.o.kept ae)).mono ?_;rintro e w4 ⟨qN,l',b,rfl,h4,h5,k4⟩));exact bn rfl ⟨qN,l',b,rfl,h4,h5⟩
 refine SP.oe (v:=v1) ?_ ?_
 ·intro wd hI hF;obtain⟨ae,ai,aj,aq,az,aK,a1,cw,d'⟩:=SS.o wd hI;clear hF;(try have cr:=(HM.o.keep ae).look hk;rw[jD.o]at cr);go_wp2;exact aP
 refine SP.oe (v:=eH v1 0) ?_ ?_
 ·intro wd hI hF;obtain⟨ae,ai,aj,aq,az,aK,a1,cw,d'⟩:=SS.o wd hI;have h1:=hF.1;clear hF;(try have cr:=(HM.o.keep ae).look hk;rw[jD.o]at cr);(obtain⟨w9,⟨qN,l',b,rfl,_⟩,_⟩:=h1);go_wp2;exact aP
 refine SP.oe (v:=eH v1 1) ?_ ?_
 ·intro wd hI hF;obtain⟨ae,ai,aj,aq,az,aK,a1,cw,d'⟩:=SS.o wd hI;have h1:=hF.1;clear hF;(try have cr:=(HM.o.keep ae).look hk;rw[jD.o]at cr);(obtain⟨w9,⟨qN,l',b,rfl,_⟩,_⟩:=h1);go_wp2;exact aP
 iterate 2 (apply SP.one av;(focus (intro wd hI hF;clear hF;obtain⟨ae,ai,aj,aq,az,aK,a1,cw,d'⟩:=SS.o wd hI;(try have cr:=(HM.o.keep ae).look hk;rw[jD.o]at cr);go_wp2;exact aP));refine SP.np ?_)
 refine SP.nil av λwd hI hF=> ?_;obtain⟨ae,ai,aj,aq,az,aK,a1,cw,d'⟩:=SS.o wd hI;have h1:=hF.1;clear hF SS;obtain⟨w9,⟨qN,l',b,rfl,eW,iH⟩,k9⟩:=h1;simp only[tz,tA];have HC':=aa (eW.kept k9);have G1:=aa iH;clear eW iH
 cases b
 ·go_wp2;go_ret
  have hl:l'=L v.key:=by
   rcases G1.o with ⟨_,h,_⟩|⟨h,_⟩
   ·exact h
   ·cases h
  exact⟨false,L,rfl,HS.o.kept ae,.inr ⟨Dp.o,l',(qd1 hl).symm,G1.o⟩,.ar ae,.ar ae⟩
 ·have jg:=aa ae;go_wp2;refine bz (λwB=>ad w wB/\ad wd wB/\wB.cell? ⟨hb,0,none⟩=some (.slice A own.length c)/\wB.cell? ⟨hb,1,none⟩=some (.map (some mb))/\wB.cell? ⟨w.heap.size,0,none⟩=some (.string v.key)) λwB SS=> ?_;obtain⟨au,br,aB,aC,aF⟩:=SS.o _ (ad.refl _);iterate 7 (first|refine DW.dt ?_|(refine DW.bt av ?_;intro wd hI;obtain⟨ae,ay,ai,aj,aq⟩:=SS.o wd hI;go_wp2;refine cu hI SS (λbf SS=> ?_) rfl;obtain⟨au,br,aB,aC,aF⟩:=SS.o _ (ad.refl _)))
  refine DW.tail av λwd hI=> ?_;obtain⟨ae,ay,ai,aj,aq⟩:=SS.o wd hI;clear SS;obtain⟨w5,cr,xR,cF⟩:=(HM.o.keep ae).put hk qN;go_wp2;go_ret;have hc5:=HC'.o;have hf:=Dn (HM.o.keep ae) cF;have cL:ah [mb] w w5:=(ah.ar ae).trans cF
  have rO:l'≠[]:=by
   rcases G1.o with ⟨h,_⟩|⟨_,i,h⟩
   ·cases h
   ·rw[h];simp
  refine⟨true,lh L v.key l',rfl,?_,.inr ⟨Dp.o,l',rfl,G1.o⟩,cL,(Fr.ar ae).trans hf⟩;exact(HS.o.kept ae).pz (λk hk=>⟨(pA.o k hk).1.kept ae,(pA.o k hk).2⟩) (HM.o.keep ae) hk xR cF ((hc5.kept ay).fr hf) Dp.o rO
structure KeysOf (ks:List ByteArray) (C:Ch):Prop where
 up:ks.Pairwise λa b=>hv a<hv b
 mem:∀ k,k∈ks↔Let k/\C k≠none
theorem TH (k:ByteArray):strOf (ig k)=k.data.toList:=rfl
theorem qd3 {a b:ByteArray} (ha:Let a) (hb:Let b) (h:a.data.toList<=b.data.toList):hv a<=hv b:=by
 obtain⟨c,h1,h2,rfl⟩:=ha;obtain⟨d,h3,h4,rfl⟩:=hb;rw[kg ab,kg ab];have e:∀ n,(ch n).data.toList=[UInt8.ofNat n]:=λn=>rfl;rw[e,e]at h;rcases R6 d c with g|g
 ·exfalso
  refine List.not_le.2 ?_ h;refine List.Lex.rel ?_;rw[UInt8.lt_iff_toNat_lt];simp;omega
 ·omega
theorem qd4 {w:World} {b:Nat} {D:DataW Value} {C:Ch} {ss:List (List UInt8)} (ho:w.ownsMap Tryz.prog 9 RV b (Maps.size D) D) (h2:∀ k,Let k->∀ z,D.atKey (ig k) z=match C k with|some v=> .held v|none=>z) (h3:∀ kl,Maps.has D kl=true->∃ k v,Let k/\C k=some v/\kl=ig k) (hp:ss.Perm (strKeys D)):
  ∃ ks:List ByteArray,ks.flatMap cd=(ss.mergeSort leB).map encStr/\ks.length=ss.length/\ks.length=Maps.size D/\KeysOf ks C:=by
 obtain⟨es,rfl,aN⟩:=ho.tidy Ak
 have G3:∀ p∈es,∃ k v,Let k/\C k=some v/\p.1=ig k:=λp hp=>h3 p.1 (by
  rw[has_eq,List.any_eq_true];obtain⟨aH,he,bb⟩:=ho.keysOf;injection he with he;subst he;obtain⟨x,hx⟩:=bb p hp;obtain⟨s,_,hs,_⟩:=Maps.keyOf_str Tryz.underlying9 hx;exact⟨p,hp,by rw[hs];simp[Lit.sameKey]⟩)
 have rP:∀ l,l∈ss↔∃ k,Let k/\C k≠none/\l=k.data.toList:=λl=>by
  rw[hp.mem_iff];show l∈es.map (λp=>strOf p.1)↔_
  rw[List.mem_map];constructor
  ·rintro⟨p,iH,rfl⟩;obtain⟨k,v,hk,lP,he⟩:=G3 p iH;exact⟨k,hk,by rw[lP];simp,by rw[he];rfl⟩
  ·rintro⟨k,hk,hc,rfl⟩;obtain⟨v,lP⟩:=Option.ne_none_iff_exists'.1 hc;have:=has_true_of_atKey (k:=ig k) (D:= .map es) λz=>by rw[h2 k hk z,lP]
   rw[has_eq,List.any_eq_true]at this;obtain⟨p,iH,hs⟩:=this;obtain⟨k2,v2,bb,_,he⟩:=G3 p iH;refine⟨p,iH,?_⟩;rw[he]at hs⊢;simpa [Lit.sameKey,ig,strOf]using hs
 have ek:ss.Nodup:=by
  refine hp.nodup_iff.2 ?_;show(es.map λp=>strOf p.1).Nodup
  refine List.pairwise_map.2 (aN.imp_of_mem λ{p q} iH py aN e=>aN ?_);obtain⟨a,_,_,_,ha⟩:=G3 p iH;obtain⟨b,_,_,_,hb⟩:=G3 q py;rw[ha,hb,TH,TH]at e;rw[ha,hb];unfold ig;rw[e]
 have tr:∀ a b c:List UInt8,leB a b=true->leB b c=true->leB a c=true:=λa b c h1 h2=>by simp only[leB,decide_eq_true_eq]at*;exact List.le_trans h1 h2
 have to:∀ a b:List UInt8,(leB a b||leB b a)=true:=λa b=>by simp only[leB,Bool.or_eq_true,decide_eq_true_eq];exact List.le_total a b
 have TI:=List.pairwise_mergeSort tr to ss;have lT:∀ l,l∈ss.mergeSort leB↔l∈ss:=λl=>(List.mergeSort_perm ss leB).mem_iff;have qd5:(ss.mergeSort leB).Nodup:=(List.mergeSort_perm ss leB).nodup_iff.2 ek;refine⟨(ss.mergeSort leB).map λl=>⟨l.toArray⟩,?_,ao,?_,?_,λk=> ?_⟩
 ·rw[List.flatMap_map];exact(List.map_eq_flatMap ..).symm
 ·rw[List.length_map,(List.mergeSort_perm ss leB).length_eq,hp.length_eq];show(es.map _).length=_
  rw[List.length_map,size_eq]
 ·refine List.pairwise_map.2 ((TI.and qd5).imp_of_mem λ{a b} ha hb ib=> ?_);obtain⟨k,hk,_,rfl⟩:=(rP a).1 ((lT a).1 ha);obtain⟨k2,bb,_,rfl⟩:=(rP b).1 ((lT b).1 hb);have h4:k.data.toList<=k2.data.toList:=by simpa [leB]using ib.1
  have h5:=qd3 hk bb h4;have h6:hv k≠hv k2:=λe=>ib.2 (by rw[hk.ext bb e]);show hv k<hv k2
  omega
 ·rw[List.mem_map];constructor
  ·rintro⟨l,hl,rfl⟩;obtain⟨k,hk,hc,rfl⟩:=(rP l).1 ((lT l).1 hl);exact⟨hk,hc⟩
  ·rintro⟨hk,hc⟩;exact⟨k.data.toList,(lT _).2 ((rP _).2 ⟨k,hk,hc,rfl⟩),rfl⟩
structure Am (ks:List ByteArray) (L:ByteArray->List ax):Prop where
 up:ks.Pairwise λa b=>hv a<hv b
 mem:∀ k,k∈ks↔Let k/\L k≠[]
theorem cP.none {w:World} {B:Int} {k:ByteArray} {l:List ax} (h:dc w B k (jC none) l):l=[]:=by
 obtain⟨A,c,hv,_,_,h3,_⟩:=h.row;injection hv with h1 h2 _;exact(h3 h1.symm).1
theorem Am.bx {ks:List ByteArray} {L:ByteArray->List ax} (h:Am ks L):ks.length<=8:=by
 have gen:∀ (l:List ByteArray) (m:Int),(l.Pairwise λa b=>hv a<hv b)->(∀ k∈l,m<=hv k/\hv k<105)->(l.length:Int)<=max 0 (105-m):=by
  intro l
  induction l with
  |nil=>intro m _ _;simp;omega
  |cons a t ih=>
   intro m h hx;obtain⟨h1,h2⟩:=List.pairwise_cons.1 h;have ha:=hx a ao;have:=ih (hv a+1) h2 λd hd=>⟨by have:=h1 d hd;omega,(hx d (qce _ hd)).2⟩;rw[List.length_cons];omega
 have:=gen ks 97 h.up λk hk=>((h.mem k).1 hk).1.hv;omega
structure qQ (w:World) (B:Int) (hb mb:Nat) (own:List Rg) (L:ByteArray->List ax):Prop where
 bB:∃ v,w.heap[hb]? =some (.cells #[v,.map (some mb)] 148 (0,0))/\Rw w 63 2 bZ v own
 bx:own.length<=1000
 fz:∃ C,MapAt w mb C/\∀ k,Let k->dc w B k (jC (C k)) (L k)/\(C k≠none->L k≠[])
theorem cP.w {w:World} {B:Int} {hb mb:Nat} {own:List Rg} {L:ByteArray->List ax} (h:cP w B hb mb own L):qQ w B hb mb own L:=by
 obtain⟨C,h1,h2⟩:=h.fz;exact⟨h.bB,h.bx,C,h1,λk hk=>⟨(h2 k hk).1,λg=>((h2 k hk).2 g).2⟩⟩
theorem Ma (B:Int) (hb mb:Nat) (own:List Rg) (L:ByteArray->List ax) (w:World) (h:qQ w B hb mb own L):
  Calls Tryz.prog 130 #[.pointer (some ⟨hb,0,none⟩)] w λe w'=>∃ v' ks,e= .returned v'/\Rw w' 9 1 cd v' ks/\Am ks L/\ad w w':=by
 obtain⟨rv,h1,h2⟩:=h.bB;obtain⟨c0,c1,_,an⟩:=xO h1;obtain⟨C,⟨D,o4,hU,uR,Mb⟩,hc⟩:=h.fz
 have HC:ag (∀ k,Let k->(C k≠none↔L k≠[])):=λk hk=>by
  refine⟨λg=>(hc k hk).2 g,λg e=>g ?_⟩;have:=(hc k hk).1;rw[e]at this;exact cP.none this
 have HD:=aa o4;have Mc:=aa uR;have HD4:=aa Mb;clear h h1 h2 hc o4 uR Mb;go_in;go_wp2_with (go_at_call 199;refine(Calls.mono (callsIn_wide.1 (Tryz.maps_Keys_199 (some mb) _))) ?_;rintro e w1 ⟨rfl,rfl⟩)
 refine(callsIn_wide.1 (Tryz.slices_Sorted_keys_159_199 mb _ D RV w HD.o (by unfold maxLen;omega) ab)).mono ?_;rintro e w2 ⟨v,ss,rfl,hp,bA,_,dZ⟩;obtain⟨ks,eN,bb,lj,Md⟩:=qd4 HD.o Mc.o HD4.o hp;have HK:ag (Am ks L):=⟨Md.up,λk=>(Md.mem k).trans ⟨λg=>⟨g.1,(HC.o k g.1).1 g.2⟩,λg=>⟨g.1,(HC.o k g.1).2 g.2⟩⟩⟩;rw[<- eN,<- bb]at bA;have HO:=aa bA;have K2:ad w w2:=Below.trans ((ad.refl w).alloc _) (Below.mono dZ ao);clear hp bA dZ eN bb lj Md;go_wp2;go_ret;exact⟨v,ks,rfl,Rw.bp HO.o jU ak,HK.o,K2⟩
theorem Rw.len {α:Type} {w:World} {e:TypeId} {k n c:Nat} {f:α->List Value} {A:Option Addr} {l:List α} (h:Rw w e k f (.slice A n c) l):l.length=n:=by
 obtain⟨A',c',hv,_⟩:=h;injection hv with _ h2 _;exact h2.symm
theorem ea {w:World} {o:Obj} {q:Nat} (h:w.heap.size=q):(w.alloc o).heap[q]? =some o:=h▸l5 w o
theorem Rw.one {α:Type} {w:World} {e:TypeId} {k q:Nat} {f:α->List Value} {a:α} (h:w.heap[q]? =some (.cells (f a).toArray e (0,0))):Rw w e k f (.slice (some ⟨q,0,none⟩) 1 1) [a]:=
 ⟨_,1,rfl,CP _,ak,(λh=>by cases h),λp hp=>⟨q,0,_,by injection hp with hp;exact hp.symm,h,λi x hi U u hu=>by
  rcases i with _|i
  ·simp only[List.getElem?_cons_zero,Option.some.injEq]at hi;subst hi;simpa using hu
  ·simp at hi⟩⟩
theorem jh {α:Type} {P:Program} {w:World} {ops:Array Oper} {rest:List Oper} {o:Oper} {a:Act} {Q:Exit->Act->World->Prop} (qR:o.guard=none) (s x:Operand) (t e:TypeId) (z:Value) (k bytes:Nat) (f:α->List Value) (ho:o.op= .call {callee:= .builtin .append,args:= #[s,x],argTypes:= #[t,t]}) (ht:P.underlying t=some (.slice e)) (hi:(P.info? e).map (λi=>(i.zero,i.size,i.bytes))=some (some z,k,bytes)) (wU:z.cells.size=k) (hk:0<k) (oz:bytes<=1000) (hf:∀ a,(f a).length=k) (h1:∀ l:List α,∀ u∈l.flatMap f,u.oneCell'=true)
  (base:Nat) (v:Value) (xs ys:List α) (hs:a.eval s=v) (bA:w.ownsRow base e k v xs.length (xs.flatMap f)) (b off m c:Nat) (hx:a.eval x= .slice (some ⟨b,off,none⟩) m c) (hy:Rw w e k f (.slice (some ⟨b,off,none⟩) m c) ys) (hl:xs.length+ys.length<=100000000000) (qS:base<=w.heap.size)
  (h:∀ v' w',w'.ownsRow base e k v' (xs++ys).length ((xs++ys).flatMap f)->ah v.ownBlock.toList w w'->(∀ g,v'.ownBlock=some g->base<=g)->wpList P ops Q rest (a.put o.dst v') w'):wpList P ops Q (o::rest) a w:=by
 obtain⟨i0,hi,a7,aY,aW⟩:=ql0 hi;obtain⟨hm,hc⟩:=hy.flat hf hk;subst hm;refine wpList_append_own w qR s x t ho base e i0 z k bytes ht hi a7 aY aW wU hk v xs.length _ hs bA ⟨b,off,none⟩ ys.length c (ys.flatMap f) hx (eF hf ys) hc (h1 ys) (by unfold maxLen;omega) (qcg (Nat.mul_le_mul hl oz) ak) qS λv' w' h2 h3 _=> ?_;refine h v' w' ?_ ((ah.refl _ w).grown h3 λg hg=> .inl (Option.mem_toList.2 hg)) λg hg=>(h2.lt g hg).1;rw[qC,List.flatMap_append];exact h2
def hd (L:ByteArray->List ax) (k:ByteArray):Int×Int:=match (L k).getLast? with
 |some v=>(v.n,v.s)
 |none=>(0,0)
def kE (L:ByteArray->List ax) (k:ByteArray):aD:=⟨k,(hd L k).1,(hd L k).2⟩
theorem Told.hd {L:ByteArray->List ax} {k:ByteArray} {x:ax} {b:Bool} (h:Told (L k) (((L k).length:Int)-1) x b):x.n=(hd L k).1/\x.s=(hd L k).2:=by
 unfold Go.Proofs.YtehaoggjlciobaaGreat.hd;rw[List.getLast?_eq_getElem?];rcases h with ⟨_,U,h1,h2⟩|⟨_,rfl,h2⟩
 ·rw[show(L k).length-1=U by omega,h2];exact⟨rfl,rfl⟩
 ·cases hl:(L k)[(L k).length-1]? with
  |none=>exact⟨rfl,rfl⟩
  |some v=>
   have h3:=(bg hl);rw[h2 ((L k).length-1) ab]at hl
   cases hl
structure j0 (L:ByteArray->List ax) (l:List aD):Prop where
 cg:b9 l
 gt:∀ k,Let k->gt l k=hd L k
 mem:∀ d,d∈l↔Let d.key/\L d.key≠[]/\d.n=(hd L d.key).1/\d.s=(hd L d.key).2
theorem j0.of {L:ByteArray->List ax} {ks:List ByteArray} (h:Am ks L) (hc:∀ k,Let k->∀ v∈L k,fu v.n v.s=true):j0 L (ks.map (kE L)):=by
 have hm:∀ d,d∈ks.map (kE L)↔Let d.key/\L d.key≠[]/\d.n=(hd L d.key).1/\d.s=(hd L d.key).2:=λd=>by
  rw[List.mem_map];constructor
  ·rintro⟨k,hk,rfl⟩;obtain⟨h1,h2⟩:=(h.mem k).1 hk;exact⟨h1,h2,rfl,rfl⟩
  ·rintro⟨h1,h2,h3,h4⟩;exact⟨d.key,(h.mem _).2 ⟨h1,h2⟩,by cases d;simp only at h3 h4;subst h3 h4;rfl⟩
 have hp:b9 (ks.map (kE L)):=⟨λd sZ=>by
  obtain⟨h1,h2,h3,h4⟩:=(hm d).1 sZ;refine⟨h1,?_⟩;obtain⟨v,hv⟩:∃ v,(L d.key).getLast?=some v:=⟨_,List.getLast?_eq_some_getLast h2⟩;unfold hd at h3 h4;rw[hv]at h3 h4;rw[h3,h4];exact hc _ h1 v (List.mem_of_getLast? hv),List.pairwise_map.2 h.up⟩
 refine⟨hp,λk hk=> ?_,hm⟩;by_cases e:L k=[]
 ·rw[xg λd sZ=> ?_]
  ·unfold hd;rw[e];rfl
  ·rintro rfl;exact((hm d).1 sZ).2.1 e
 ·exact Ct hp.pb (d:=kE L k) ((hm _).2 ⟨hk,e,rfl,rfl⟩)
theorem qd6 (B:Int) (hb mb:Nat) (own:List Rg) (L:ByteArray->List ax) (w:World) (h:cP w B hb mb own L) (hB:0<=B) (h9:B<=100000000000):
  Calls Tryz.prog 79 #[.pointer (some ⟨hb,0,none⟩)] w λe w'=>∃ v' l,e= .returned v'/\Rw w' 60 3 aS v' l/\j0 L l/\ad w w':=by
 have HH:=aa h
 have fy:ag (∀ k,Let k->∀ v∈L k,fu v.n v.s=true):=λk hk v hv=>by
  obtain⟨C,_,hc⟩:=h.fz;exact((hc k hk).1.iG v hv).1.wc.1
 clear h;obtain⟨i0,hi,a7,aY,aW⟩:=ql0 uP;go_in;go_wp2_with fail
 refine(Ma B hb mb own L _ HH.o.w).mono ?_;rintro e w1 ⟨v1,ks,rfl,hr,hk,k1⟩;obtain⟨A,c,rfl,bl,bQ⟩:=hr.form;have cX:=hk.bx;obtain⟨n,hn⟩:∃ n,ks.length=n:=⟨_,rfl⟩;rw[hn]at hr bl cX⊢;have HR:=aa hr;have HK:=aa hk;have HN:=aa hn;clear hr hk hn;go_wp2;go_loopw [3,11] (λov iv wr=>∃ (U:Nat) (v2:Value),v2=ov/\U<=n/\iv= .int .i64 U/\ad w wr/\ad w1 wr/\ag (wr.ownsRow w1.heap.size 60 3 v2 U (((ks.take U).map (kE L)).flatMap aS))) (λ_ iv _=>n-(intOf iv).toNat)
 case atStart=>exact⟨0,_,rfl,ab,rfl,k1,ad.refl _,qcb _ _ _ _⟩
 case round=>
  obtain⟨U,v2,rfl,hj,rfl,kr,TJ,ho⟩:=hrel;by_cases an:U<n
  ·obtain⟨k,fX⟩:∃ k,ks[U]? =some k:=⟨_,jc (by rw[HN.o];exact an)⟩;obtain⟨b,off,rfl,Fv,hc⟩:=HR.o.af fX;have c0:=TJ.af (iU hc);have HL:=aa ((HK.o.mem k).1 (zV fX)).1
   have ld:ag (((ks.take (U+1)).map (kE L)).flatMap aS=((ks.take U).map (kE L)).flatMap aS++aS (kE L k)):=by
    unfold ag;rw[QI (by rw[HN.o];exact an),(pi.1 fX).2,List.map_append,List.flatMap_append];simp
   have hlen:(((ks.take U).map (kE L)).flatMap aS).length=U*3:=by rw[eF gT,List.length_map,qcd,HN.o,Nat.min_eq_left hj]
   (try simp only[Nat.mul_one]at c0)
   clear hc fX;go_wp2_with fail
   refine(TF B hb mb own L k _ (HH.o.kept kr) HL.o hB h9).mono ?_;rintro e w3 ⟨x,jA,rfl,ht,k3⟩;obtain⟨lR,lV⟩:=ht.hd;obtain⟨x0,x1,x2,x3,x4,x5,x6,x7,x8⟩:=x;simp only at lR lV;have K3:=kr.call k3;have K13:=TJ.call k3;have rR:((ks.take U).map (kE L)).length=U:=by rw[List.length_map,qcd,HN.o,Nat.min_eq_left hj]
   have eR:ag (w3.ownsRow w1.heap.size 60 3 v2 ((ks.take U).map (kE L)).length (((ks.take U).map (kE L)).flatMap aS)):=by rw[rR];exact ad.own ho.o k3
   have qkU:=K13.size;have hw3:=K3.size;unfold aM;clear ht k3 ho;subst lR lV;go_wp2_with (at_builtin;go_must (refine jh rfl _ _ 46 60 _ 3 32 aS rfl Tryz.underlying46 uP rfl ak ak gT J1 w1.heap.size _ (((ks.take U).map (kE L))) [kE L k] rfl ((eR.o.alloc _).alloc _) _ 0 1 1 rfl (Rw.one (ea ao)) (by simp;omega) (by simp;omega) ?_);intro v5 w5 iY cF _)
   have ie:=aa iY;have Me:ad w1 w5:=ad.but al cF λx hx=>(eR.o.lt x (Option.mem_toList.1 hx)).1;have K5:ad w w5:=k1.call Me
   have eo:ag (w5.ownsRow w1.heap.size 60 3 v5 (U+1) (((ks.take (U+1)).map (kE L)).flatMap aS)):=by
    unfold ag;have h:=ie.o;rw[qC,rR,List.flatMap_append]at h;rw[ld.o];simpa only[List.length_cons,List.length_nil,Nat.zero_add,List.flatMap_cons,List.flatMap_nil,List.append_nil]using h
   go_wp2;go_roundw
   case rel=>first|exact⟨U+1,v5,rfl,ab,aA,K5,Me,eo⟩|((repeat apply R7);exact⟨⟨U+1,v5,rfl,ab,aA,K5,Me,eo⟩,rfl⟩)
   case measure=>simp[intOf];omega
  ·obtain rfl:U=n:=ab;have HE:ag (j0 L (ks.map (kE L))):= .of HK.o fy.o
   have HO:ag (wr.ownsRow w1.heap.size 60 3 v2 U ((ks.map (kE L)).flatMap aS)):=by
    have:=ho.o;rwa [qcc (by rw[HN.o];exact CP _)]at this
   clear ho;go_wp2;go_ret;exact⟨v2,_,rfl,Rw.bp HO.o gT ak,HE.o,kr⟩
theorem Mf:(Tryz.prog.info? 45).map (λi=>(i.zero,i.size,i.bytes))=some (some (.agg #[.int .i64 0,.int .i64 0]),2,16):=av
theorem ca {w:World} {base e k n:Nat} {v:Value} {xs:List Value} (h:w.ownsRow base e k v n xs):∃ A c,v= .slice A n c:=by
 rcases h.2 with ⟨hv,h0⟩|⟨g,cap,cur,hv,_⟩
 ·exact⟨none,0,by rw[hv,h0]⟩
 ·exact⟨_,_,hv⟩
theorem ah.below {S:List Nat} {B:Nat} {a b:World} (h:ah S a b) (hS:∀ x∈S,B<=x) (hB:B<=a.heap.size):Below B a b:=
 ⟨h.os,h.tape,h.output,h.size,λk hk=>h.block k ab λhx=>by have:=hS k hx;omega⟩
def G4 (w:World) (q:Nat) (l:List (Int×Int)):Prop:=∃ v,w.heap[q]? =some (.cells #[v] 173 (0,0))/\w.ownsRow (q+1) 45 2 v l.length (l.flatMap kD)
theorem qd7 (K q:Nat) (key:ByteArray) (d:aD) (l:List (Int×Int)) (w:World) (hk:w.cell? ⟨K,0,none⟩=some (.string key)) (h:G4 w q l) (hl:l.length<=1000000000) (hK:K<q):
  Calls Tryz.prog 244 #[.agg #[.string d.key,.int .i64 d.n,.int .i64 d.s],.pointer (some ⟨K,0,none⟩),.pointer (some ⟨q,0,none⟩)] w λe w'=>e= .returned (.tuple #[])/\(∃ l',G4 w' q l'/\l'.length<=l.length+1)/\Below q w w':=by
 obtain⟨v,h1,h2⟩:=h;have c0:w.cell? ⟨q,0,none⟩=some v:=aE h1 0;have f0:w.frozen? ⟨q,0,none⟩=false:=aI h1 0;have hq:=(aQ h1);have hKw:K<w.heap.size:=Aa w _ hk;have H2:=aa h2;have H1:=aa h1;have HL:=aa hl;have H3:ag (q∉v.ownBlock.toList):=λhx=>by have:=(h2.lt q (Option.mem_toList.1 hx)).1;omega
 clear h1 h2 hl;by_cases e:key.toList=d.key.toList
 ·have he:(d.key.toList==key.toList)=true:=by simp[e]
  clear e;go_in;go_wp2_with (at_builtin;go_must (refine jh rfl _ _ 173 45 _ 2 16 kD rfl Tryz.underlying173 Mf rfl ak ak Aj LZ (q+1) _ l [(d.n,d.s)] rfl ((H2.o.alloc _).alloc _) _ 0 1 1 rfl (Rw.one (ea ao)) (by simp;have:=HL.o;omega) (by simp;omega) ?_);intro v5 w5 iY cF Dq;obtain⟨A5,c5,rfl⟩:=ca iY;have xS:w5.heap[q]? =some (.cells #[v] 173 (0,0)):=cF.heap (ad.heap al H1.o) H3.o;have d5:=aE xS 0;have f5:w5.frozen? ⟨q,0,none⟩=false:=aI xS 0;have ie:=aa iY;have nt:=aa cF;have fb:=aa Dq;have jE:=aa xS;clear iY cF Dq xS)
  go_end0
  have dZ:Below q w w5:=Below.trans (Below.mono (ad.below al) ab) (nt.o.below (λx hx=>by have:=(H2.o.lt x (Option.mem_toList.1 hx)).1;omega) (by simp;omega));refine⟨rfl,⟨l++[(d.n,d.s)],⟨.slice A5 (l.length+1) c5,Ok _ _ _ _ _ _ jE.o,?_⟩,ao⟩,Below.setCell dZ (CP _) _⟩;have h:=ie.o;have h2:=ownsRow_setCell_other h (a:=⟨q,0,none⟩) (λhx=>by have:=fb.o q hx;omega) (.slice A5 (l.length+1) c5);simpa using h2
 ·have he:(d.key.toList==key.toList)=false:=by rw[Bool.eq_false_iff];intro g;exact e (eq_of_beq g).symm
  have HE:=aa e;clear e;go_in;go_wp2_with fail
  go_end0
  exact⟨rfl,⟨l,⟨v,ad.heap al H1.o,ad.own H2.o al⟩,ab⟩,Below.mono (ad.below al) ab⟩
def An (L L':ByteArray->List ax):Prop:=∀ k,Let k->(L' k).Sublist (L k)/\(L' k).getLast?=(L k).getLast?
theorem qd8 (B:Int) (hb mb:Nat) (own:List Rg) (L:ByteArray->List ax) (n s:Int) (pv:Value) (ds:List aD) (w:World) (h:cP w B hb mb own L) (hp:Rw w 60 3 aS pv ds) (hd:ds.length<=1000000) (hB:0<=B) (h9:B<=100000000000):
  Calls Tryz.prog 187 #[.pointer (some ⟨hb,0,none⟩),.agg #[.int .i64 n,.int .i64 s],pv] w λe w'=>∃ L',e= .returned (.tuple #[])/\cP w' B hb mb own L'/\An L L'/\ah [mb] w w'/\Fr bq w w':=by
 obtain⟨PA,pc,rfl,_,_⟩:=hp.form;obtain⟨m,hm⟩:∃ m,ds.length=m:=⟨_,rfl⟩;rw[hm]at hp hd⊢;have HH:=aa h;have HP:=aa hp;have HM:=aa hm;clear h hp hm;go_in;go_wp2_with fail
 refine(Ma B hb mb own L _ (HH.o.kept al).w).mono ?_;rintro e w1 ⟨v1,ks,rfl,hr,hk,k1⟩;obtain⟨A,c,rfl,bl,bQ⟩:=hr.form;have cX:=hk.bx;obtain⟨tB,hn⟩:∃ n,ks.length=n:=⟨_,rfl⟩;rw[hn]at hr bl cX⊢;have HR:=aa hr;have HK:=aa hk;have HN:=aa hn;have g0:w1.cell? ⟨w.heap.size,0,none⟩=some (.int .i64 n):=k1.af (by go_simp);have g1:w1.cell? ⟨w.heap.size,1,none⟩=some (.int .i64 s):=k1.af (by go_simp);have K1:ad w w1:=ad.call al k1;clear hr hk hn k1;go_wp2;go_loopw [15] (λiv wr=>∃ (U:Nat) (L2:ByteArray->List ax),U<=tB/\iv= .int .i64 U/\ah [mb] w1 wr/\Fr bq w1 wr/\ag (cP wr B hb mb own L2)/\ag (An L L2)) (λiv _=>tB-(intOf iv).toNat)
 case atStart=>exact⟨0,L,ab,rfl,.refl _ _,.ar (ad.refl _),HH.o.kept K1,λk _=>⟨List.Sublist.refl _,rfl⟩⟩
 case round=>
  obtain⟨U,L2,hj,rfl,kb,vk,hs,bL⟩:=hrel;by_cases an:U<tB
  ·obtain⟨wo,rfl⟩:∃ wo,wo=wr:=⟨_,rfl⟩;obtain⟨k,fX⟩:∃ k,ks[U]? =some k:=⟨_,jc (by rw[HN.o];exact an)⟩;obtain⟨b,off,rfl,dZ,hc⟩:=HR.o.af fX
   have Ao:b∉[mb]:=λhx=>by
    simp only[At]at hx;obtain⟨C,⟨D,⟨es,clock,h1,_⟩,_⟩,_⟩:=HH.o.fz;obtain⟨A',c',hv,_,_,_,h4⟩:=HR.o;injection hv with hv;obtain⟨nY,qj,cur,hA,h5,_⟩:=h4 _ hv.symm;injection hA with hA;subst hA hx;rw[K1.heap h1]at h5;cases h5
   have c0:=kb.af (iU hc) Ao;have HL:=aa ((HK.o.mem k).1 (zV fX)).1;have Ap:=aa fX;have qkV:mb<w.heap.size:=by obtain⟨C,hm,_⟩:=HH.o.fz;exact hm.lt
   have Mg:=K1.size;have g0:wo.cell? ⟨w.heap.size,0,none⟩=some (.int .i64 n):=kb.af g0 (by simp;omega);have g1:wo.cell? ⟨w.heap.size,1,none⟩=some (.int .i64 s):=kb.af g1 (by simp;omega);have lO:=λargs w=>enters_of Tryz.func244 (P:=Tryz.prog) av rfl args w;have iS:∀ fn first cap w,(Instr.makeFunc fn first cap).run Tryz.prog w= .ok (.func fn first cap) w:=λ_ _ _ _=>rfl
   (try simp only[Nat.mul_one]at c0)
   clear hc fX Ao;go_wp2;go_loopw [22] (λiv w2=>∃ (i:Nat) (l:List (Int×Int)),i<=m/\iv= .int .i64 i/\ad wo w2/\w2.cell? ⟨wo.heap.size,0,none⟩=some (.string k)/\ag (G4 w2 (wo.heap.size+1) l/\l.length<=i)) (λiv _=>m-(intOf iv).toNat)
   case atStart=>exact⟨0,[],ab,rfl,al,by go_simp,⟨_,ea ao,qcb _ _ _ _⟩,ao⟩
   case round=>
    obtain⟨i,l,hi,rfl,k2,dD,lk⟩:=hrel;by_cases iQ:i<m
    ·obtain⟨d,TK⟩:∃ d,ds[i]? =some d:=⟨_,jc (by rw[HM.o];exact iQ)⟩;obtain⟨Lf,qcR,rfl,qcS,tq⟩:=HP.o.af TK
     have TM:Lf∉[mb]:=λhx=>by
      simp only[At]at hx;obtain⟨C,⟨D,⟨es,clock,h1,_⟩,_⟩,_⟩:=HH.o.fz;obtain⟨A',c',hv,_,_,_,h4⟩:=HP.o;injection hv with hv;obtain⟨nY,qj,cur,hA,h5,_⟩:=h4 _ hv.symm;injection hA with hA;subst hA hx;rw[h1]at h5;cases h5
     obtain⟨d0,d1,d2⟩:=kQ λU u hu=>k2.af (kb.af (K1.af (tq U u hu)) TM);obtain⟨x0,x1,x2⟩:=d;have hz:=Aa wr _ dD;clear TK tq TM;go_wp2_with fail
     refine(qd7 wo.heap.size (wo.heap.size+1) k ⟨x0,x1,x2⟩ l _ (ad.af al dD) (by obtain⟨v,h1,h2⟩:=lk.o.1;exact⟨v,ad.heap al h1,ad.own h2 al⟩) (by have:=lk.o.2;omega) ab).mono ?_;rintro e w3 ⟨rfl,⟨l3,mg,Lm⟩,k3⟩;have vm:ag (G4 w3 (wo.heap.size+1) l3/\l3.length<=i+1):=⟨mg,by have:=lk.o.2;omega⟩;have K3:ad wo w3:=Below.trans (ad.below al) (Below.mono k3 ab)
     have TN:w3.cell? ⟨wo.heap.size,0,none⟩=some (.string k):=by
      rw[Below.cell (p:=⟨wo.heap.size,0,none⟩) k3 (by show wo.heap.size<wo.heap.size+1;omega)];exact ad.af al dD
     clear mg Lm k3;go_wp2;go_roundw
     case rel=>first|exact⟨i+1,l3,ab,aA,K3,TN,vm⟩|((repeat apply R7);exact⟨⟨i+1,l3,ab,aA,K3,TN,vm⟩,rfl⟩)
     case measure=>simp[intOf];omega
    ·obtain rfl:i=m:=ab;obtain⟨⟨lv,bS,bA⟩,fL⟩:=lk.o;have cN:=aa (Rw.bp bA Aj ak);obtain⟨LA,lc,rfl⟩:=ca bA;have lb:=aE bS 0;have dp:ag (cP wr B hb mb own L2):=hs.o.kept k2;obtain⟨C,gd,hC⟩:=dp.o.fz;obtain⟨rv,hblk,_⟩:=dp.o.bB;obtain⟨s0,s1,_,shl⟩:=xO hblk;obtain⟨e6,gF⟩:∃ e6,jC (C k)=e6:=⟨_,rfl⟩;have eu:=(hC k HL.o).1;rw[gF]at eu;have fy:=aa eu;have jD:=aa gF;have pB:=aa gd;have pA:=aa hC;have Aq:=aa (eu.len hB h9);have hk:=HL.o;have g0:=k2.af g0;have g1:=k2.af g1;have qd9:=aa fL;clear bA bS hblk eu gF gd hC fL lk c0;go_wp2;refine ey [none,none,none,none,none,none,none,none,none,none,none,none,none,some (λu w'=>∃ l',Rw w' 48 6 a8 u l'/\l'.Sublist (L2 k)/\l'.getLast?=(L2 k).getLast?)] (λwB=>ad wr wB/\wB.cell? ⟨hb,0,none⟩=some (rv)/\wB.cell? ⟨hb,1,none⟩=some (.map (some mb))/\wB.cell? ⟨wo.heap.size,0,none⟩=some (.string k)/\wB.cell? ⟨w.heap.size,0,none⟩=some (.int .i64 n)/\wB.cell? ⟨w.heap.size,1,none⟩=some (.int .i64 s)/\wB.cell? ⟨wo.heap.size+1,0,none⟩=some (.slice LA l.length lc)) λwB SS=> ?_;iterate 13 (apply SP.one av;(focus (intro wd hI hF;clear hF;obtain⟨ae,ai,aj,aq,az,aK,a1⟩:=SS.o wd hI;(try have cr:=(pB.o.keep ae).look hk;rw[jD.o]at cr);go_wp2_with (fail);exact aP));refine SP.np ?_)
     refine SP.ew ?_ λv1=> ?_
     ·intro wd hI hF;obtain⟨ae,ai,aj,aq,az,aK,a1⟩:=SS.o wd hI;clear hF;(try have cr:=(pB.o.keep ae).look hk;rw[jD.o]at cr);go_wp2_with ((go_at_call 245;refine(qdW e6 (L2 k) n s _ l _ (fy.o.kept ae).row (fy.o.sd) Aq.o (cN.o.kept ae) (by have:=qd9.o;omega) (λx hx=>((fy.o.kept ae).iG x hx).1.qdR)).mono ?_;rintro e w4 ⟨v4,xT,rfl,h4,h5,h6,k4⟩));exact bn rfl ⟨xT,h4,h5,h6⟩
     refine SP.ml SS ?_;rintro wd hI hF ⟨ae,ai,aj,aq,az,aK,a1⟩;have h1:=hF.1;clear hF SS;obtain⟨w9,⟨l',h4,h5,h6⟩,k9⟩:=h1
     have Ar:L2 k≠[]:=λe=>((HK.o.mem k).1 (by have:=Ap.o;exact zV this)).2 (by
      have:=(bL.o k hk).2;rw[e]at this;exact List.getLast?_eq_none_iff.1 this.symm)
     have aN:l'≠[]:=λe=>Ar (by rw[e]at h6;exact List.getLast?_eq_none_iff.1 h6.symm);have Dr:C k≠none:=λe=>Ar (by have:=jD.o;rw[e]at this;have h:=fy.o;rw[<- this]at h;exact cP.none h);have e7:=aa ((pA.o k hk).2 Dr).1;have As:=aa (h4.kept k9);have Ds:=aa h5;have HGL:=aa h6;have se:=aa aN;obtain⟨w5,cr,xR,cF⟩:=(pB.o.keep ae).put hk v1;have fh:=Dn (pB.o.keep ae) cF;have G5:ag (dc w5 B k v1 l'):=((fy.o.kept ae).sub (ad.refl wd) Ds.o As.o).fr fh;have dQ:ag (cP w5 B hb mb own (lh L2 k l')):=(dp.o.kept ae).pz (λk hk=>⟨(pA.o k hk).1.kept ae,(pA.o k hk).2⟩) (pB.o.keep ae) hk xR cF G5.o e7.o se.o
     have TO:ag (An L (lh L2 k l')):=λx hx=>by
      have h:=bL.o x hx;by_cases e:x=k
      ·subst e;rw[L8];exact⟨Ds.o.trans h.1,HGL.o.trans h.2⟩
      ·rw[TG e];exact h
     have Dt:ah [mb] w1 w5:=kb.trans ((ah.ar k2).trans ((ah.ar ae).trans cF));have Du:Fr bq w1 w5:=vk.trans ((Fr.ar k2).trans ((Fr.ar ae).trans fh));clear h4 h5 h6 k9 xR cF fh aN Ar Dr;go_wp2;go_roundw
     case rel=>first|exact⟨U+1,_,ab,aA,Dt,Du,dQ,TO⟩|((repeat apply R7);exact⟨⟨U+1,_,ab,aA,Dt,Du,dQ,TO⟩,rfl⟩)
     case measure=>simp[intOf];omega
  ·obtain rfl:U=tB:=ab;go_wp2;go_end0
   exact⟨L2,rfl,hs.o,bL.o,(ah.ar K1).trans kb,(Fr.ar K1).trans vk⟩
end Go.Proofs.YtehaoggjlciobaaGreat

/- Part 18 of 53. -/
import Derived.Test.YtehaoggjlciobaaGreatPaq
import Derived.Lib.AppendStr
import Derived.Lib.UnsafeStr
set_option linter.all false
set_option maxRecDepth 20000
set_option maxHeartbeats 16000000
namespace Go.Proofs.YtehaoggjlciobaaGreat
open Go.RowKit
theorem SV (B b:Nat) (l:List UInt8) (s:ByteArray) (w:World) (h:Lib.IsBuilder 315 5 B b (Lib.byteCells l) w) (hlen:l.length+s.size<=140737488355328) (Sz:B<=w.heap.size):
  Calls Tryz.prog 261 #[.pointer (some ⟨b,0,none⟩),.string s] w λe w'=>e= .returned (.tuple #[.int .i64 s.size,.nilIface])/\Lib.IsBuilder 315 5 B b (Lib.byteCells (l++s.data.toList)) w'/\Below B w w':=by
 obtain⟨i0,hi,a7,aY,aW⟩:=ql0 infoByte;have dZ:(Lib.byteCells l).length=l.length:=Ll l;obtain⟨bs,qL⟩:∃ bs,Lib.byteCells l=bs:=⟨_,rfl⟩;have HBS:=aa qL;rw[qL]at h dZ;clear qL;go_in;go_wp2_with fail
 refine(Sx B b bs _ h).mono ?_;rintro e w1 ⟨rfl,h1,bD⟩;obtain⟨hB,v,dP,bA,aN⟩:=h1;have c0:w1.cell? ⟨b,0,none⟩=some (.pointer (some ⟨b,0,none⟩)):=by rw[Lib.cell_of_heap dP];rfl
 have c1:w1.cell? ⟨b,1,none⟩=some v:=by rw[Lib.cell_of_heap dP];rfl
 go_wp2_with (at_builtin;refine Lib.wpList_append_own_string _ rfl _ _ 105 9 rfl B 5 i0 Tryz.underlying105 Tryz.underlying9 hi a7 aY aW _ _ _ rfl bA s rfl ?c3 ?c4 ?c5 ?_)
 case c3=>unfold maxLen;omega
 case c4=>omega
 case c5=>have:=bD.size;omega
 intro v' w2 dk gW _
 have an:b<w1.heap.size:=by
  rcases R6 b w1.heap.size with h'|h'
  ·exact h'
  ·simp[Array.getElem?_eq_none h']at dP
 have bG:w2.heap[b]? =some (.cells #[.pointer (some ⟨b,0,none⟩),v] 315 (0,0)):=by
  rw[gW.block b an (λe=>aN e.symm)];exact dP
 have d0:w2.cell? ⟨b,0,none⟩=some (.pointer (some ⟨b,0,none⟩)):=by rw[Lib.cell_of_heap bG];rfl
 have d1:w2.cell? ⟨b,1,none⟩=some v:=by rw[Lib.cell_of_heap bG];rfl
 have f1:w2.frozen? ⟨b,1,none⟩=false:=Lib.frozen_of_heap bG 1
 obtain⟨Ai,tt,cap,rfl⟩:∃ Ai tt cap,v'= .slice Ai tt cap:=by
  rcases dk.2 with ⟨hv,_⟩|⟨g,cap,cur,hv,_⟩
  ·exact⟨_,_,_,hv⟩
  ·exact⟨_,_,_,hv⟩
 have HO:=aa dk;clear dk;go_wp2;go_ret2
 refine⟨rfl,.inr ?_,?_⟩
 ·have e:Lib.byteCells (l++s.data.toList)=bs++Lib.strCells s:=by rw[<- HBS.o,Lib.strCells_eq];simp[Lib.byteCells]
  rw[e];exact Lib.BuilderAt.put (T:=315) (e:=5) hB bG (bs':=bs++Lib.strCells s) (by have h:=HO.o;rw[<- dZ]at h;simpa [Lib.strCells_length]using h) ak
 ·exact(bD.grown gW (by have:=bD.size;omega) (λk hk=>(bA.lt k hk).1)).setCell (p:=⟨b,1,none⟩) hB _
theorem SY {T e:TypeId} {B b:Nat} {bs:List Value} {w w2:World} (h:Lib.IsBuilder T e B b bs w) (hk:ad w w2):Lib.IsBuilder T e B b bs w2:=by
 rcases h with ⟨hB,v,dP,bA,aN⟩|⟨hB,v,dP,bA,aN⟩
 ·exact .inl ⟨hB,v,hk.heap dP,ad.own bA hk,aN⟩
 ·exact .inr ⟨hB,v,hk.heap dP,ad.own bA hk,aN⟩
theorem qdo {T e:TypeId} {B b:Nat} {bs:List Value} {w:World} (h:Lib.IsBuilder T e B b bs w):b<w.heap.size:=by
 rcases h with ⟨_,v,dP,_,_⟩|⟨_,v,dP,_,_⟩ <;>exact(aQ dP)
def iF (d:aD):List UInt8:=(eB d.key).data.toList++iD d.n.toNat d.s.toNat
def kA (l:List aD):List UInt8:=enc l.length++l.flatMap iF
theorem SZ (d:aD) (hk:Let d.key) (hc:fu d.n d.s=true):(iF d).length<=31:=by
 obtain⟨c,_,_,cz⟩:=hk;have h0:=qck hc
 have h1:(eB d.key).data.toList.length=(enc 1).length+1:=by
  rw[cz];simp[eB,num,ByteArray.data_append,JQ];try rfl
 have h2:=kz 1 ab;have h3:=kz d.n.toNat ab;have h4:=kz d.s.toNat ab;rw[iF,qC,h1,GH];omega
theorem Lx:∀ (l:List aD),(∀ d∈l,Let d.key)->(∀ d∈l,fu d.n d.s=true)->(l.flatMap iF).length<=l.length*31
 |[],_,_=>ao
 |d::t,h1,h2=>by
  have:=Lx t (λd hd=>h1 d (qce _ hd)) (λd hd=>h2 d (qce _ hd));have h3:=SZ d (h1 d (List.mem_cons_self ..)) (h2 d (List.mem_cons_self ..));rw[List.flatMap_cons,qC,List.length_cons];omega
theorem S3 (v:Value) (l:List aD) (w:World) (hv:Rw w 60 3 aS v l) (hk:∀ d∈l,Let d.key) (hp:PC l):
  Calls Tryz.prog 214 #[v] w λe w'=>e= .returned (.string ⟨(kA l).toArray⟩)/\ad w w':=by
 obtain⟨A,c,rfl,bl,bQ⟩:=hv.form;obtain⟨n,hn⟩:∃ n,l.length=n:=⟨_,rfl⟩;have qdp:n<=24:=by rw[<- hn];exact hp.2
 have eu:∀ d∈l,fu d.n d.s=true:=λd hd=>by
  obtain⟨i,hi⟩:=qcl.1 hd;exact hp.1.1 i d (bg hi) hi
 rw[hn]at hv bl⊢;have HV:=aa hv;have HN:=aa hn;have HK:=aa hk;have HP:=aa hp;have fy:=aa eu;clear hv hn hk hp eu;go_in;go_wp2_with fail
 refine(Lh _ l _ (by rw[HN.o];omega) HV.o HK.o).mono ?_;rintro e w1 ⟨b,rfl,hb,k1⟩;obtain rfl:b=true:=hb.2 HP.o;clear hb
 have CZ:ag (Lib.IsBuilder 315 5 w1.heap.size w1.heap.size (Lib.byteCells []) (w1.alloc (.cells #[.pointer none,.slice none 0 0] 315))):=
  .inl ⟨CP _,_,l5 w1 _,qcb _ _ _ _,by simp[Value.ownBlock]⟩
 go_wp2_with fail
 refine(Ln n _ ab).mono ?_;rintro e w2 ⟨rfl,k2⟩;have B2:=aa (SY CZ.o k2);have aW:w1.heap.size<=w2.heap.size:=by have:=k2.size;simp at this;omega
 have K2:ad w w2:=k1.call (ad.call al k2);go_wp2_with fail
 refine(SV w1.heap.size w1.heap.size [] (num n) w2 B2.o (by have:=kz n ab;simp[num];show(enc n).length<=_;omega) aW).mono ?_;rintro e w3 ⟨rfl,h3,k3⟩;have B3:=aa (show Lib.IsBuilder 315 5 w1.heap.size w1.heap.size (Lib.byteCells (enc n++(l.take 0).flatMap iF)) w3 from by simpa [num]using h3);have K3:ad w w3:=Below.trans K2 (Below.mono k3 k1.size);have mS:=k3.size;have S4:w1.heap.size<w3.heap.size:=qdo B3.o;have GJ:=k1.size;clear h3 k3 B2 K2 k1 k2 CZ;go_wp2;go_loopw [16] (λiv wr=>∃ U:Nat,U<=n/\iv= .int .i64 U/\ad w wr/\w1.heap.size<wr.heap.size/\ag (Lib.IsBuilder 315 5 w1.heap.size w1.heap.size (Lib.byteCells (enc n++(l.take U).flatMap iF)) wr)) (λiv _=>n-(intOf iv).toNat)
 case atStart=>exact⟨0,ab,rfl,K3,S4,B3⟩
 case round=>
  obtain⟨U,hj,rfl,kr,ou,oq⟩:=hrel;by_cases an:U<n
  ·obtain⟨a,ha⟩:∃ a,l[U]? =some a:=⟨_,jc (by rw[HN.o];exact an)⟩;obtain⟨b,off,rfl,hb,hc⟩:=HV.o.af ha;have HA:=aa ha;obtain⟨kc,kc1,kc2,n0⟩:=HK.o a (zV ha);have S5:=qck (fy.o a (zV ha));have ld:ag (l.take (U+1)=l.take U++[a]):=by unfold ag;rw[QI (by rw[HN.o];exact an),(pi.1 ha).2]
   obtain⟨x0,x1,x2⟩:=a;obtain⟨N,rfl⟩:∃ N:Nat,x1=N:=⟨x1.toNat,by simp only at S5;omega⟩;obtain⟨M,rfl⟩:∃ M:Nat,x2=M:=⟨x2.toNat,by simp only at S5;omega⟩;simp only at n0;have iu:x0.size=1:=by rw[n0];rfl
   have GK:ag (iF ⟨x0,N,M⟩=(eB x0++xE N M).data.toList):=by simp[ag,iF,xE,SM]
   have pj:ag ((enc n++(l.take U).flatMap iF).length<=10000):=by
    have h1:=kz n ab;have h2:=Lx (l.take U) (λd hd=>HK.o d (List.mem_of_mem_take hd)) (λd hd=>fy.o d (List.mem_of_mem_take hd));have h3:(l.take U).length<=24:=by rw[qcd];omega
    show _<=_
    rw[qC];omega
   have tu:ag ((eB x0++xE N M).size<=31):=by
    have:=SZ _ (HK.o _ (zV HA.o)) (fy.o _ (zV HA.o));rw[GK.o]at this;exact this
   obtain⟨c0,c1,c2⟩:=kQ λU u hu=>kr.af (hc U u hu);have Da:(eB x0).size+(xE N M).size<=31:=by have:=tu.o;rwa [ByteArray.size_append]at this
   clear hc ha n0;go_wp2;refine bz (λwB=>ad w wB/\ad wr wB/\wB.cell? ⟨wr.heap.size,0,none⟩=some (.string x0)/\wB.cell? ⟨wr.heap.size,1,none⟩=some (.int .i64 (N:Int))/\wB.cell? ⟨wr.heap.size,2,none⟩=some (.int .i64 (M:Int))) λwB SS=> ?_;obtain⟨au,br,aB,aC,aF⟩:=SS.o _ (ad.refl _);iterate 7 (first|(apply DW.ct;(focus (intro wd hI;obtain⟨ae,ay,ai,aj,aq⟩:=SS.o wd hI;go_wp2_with (first|(go_at_call 211;refine(GC x0 _ ab).mono ?_;rintro e w5 ⟨rfl,k5⟩)|(go_at_call 213;refine(GI N M _ ab ab ab).mono ?_;rintro e w5 ⟨rfl,k5⟩));exact aP));refine DW.np ?_)|(refine DW.bt av ?_;intro wd hI;obtain⟨ae,ay,ai,aj,aq⟩:=SS.o wd hI;go_wp2_with (first|(go_at_call 211;refine(GC x0 _ ab).mono ?_;rintro e w5 ⟨rfl,k5⟩)|(go_at_call 213;refine(GI N M _ ab ab ab).mono ?_;rintro e w5 ⟨rfl,k5⟩));refine cu hI SS (λbf SS=> ?_) rfl;obtain⟨au,br,aB,aC,aF⟩:=SS.o _ (ad.refl _)))
   refine DW.tail av λwd hI=> ?_;obtain⟨ae,ay,ai,aj,aq⟩:=SS.o wd hI;clear SS;have sa:=aa (SY oq.o ay);go_wp2_with fail
   refine(SV w1.heap.size w1.heap.size _ (eB x0++xE N M) wd sa.o (by have:=pj.o;have:=tu.o;omega) (by have:=ay.size;omega)).mono ?_;rintro e w6 ⟨rfl,h6,k6⟩
   have B6:ag (Lib.IsBuilder 315 5 w1.heap.size w1.heap.size (Lib.byteCells (enc n++(l.take (U+1)).flatMap iF)) w6):=by
    rw[ld.o,List.flatMap_append,List.flatMap_cons,List.flatMap_nil,List.append_nil,GK.o,<- List.append_assoc];exact h6
   have K6:ad w w6:=Below.trans ae (Below.mono k6 GJ);have nj:w1.heap.size<w6.heap.size:=by have:=k6.size;have:=ay.size;omega
   clear h6 k6;go_wp2;go_roundw
   case rel=>first|exact⟨U+1,ab,aA,K6,nj,B6⟩|((repeat apply R7);exact⟨⟨U+1,ab,aA,K6,nj,B6⟩,rfl⟩)
   case measure=>simp[intOf];omega
  ·obtain rfl:U=n:=ab;have Ly:=oq.o;rw[qcc (by rw[HN.o];exact CP _)]at Ly;have iZ:=aa Ly;clear Ly;go_wp2_with fail
   refine(Tryz.Builder_String_any w1.heap.size w1.heap.size _ wr iZ.o ab).mono ?_;rintro e w6 ⟨rfl,k6⟩;have K6:ad w w6:=Below.trans kr (Below.mono k6 GJ);go_wp2;go_ret;exact⟨by rw[kA,HN.o];rfl,K6⟩
def tv (b:Bool):Nat:=if b then 1 else 0
def l9 (v:ax) (ds:List aD):List UInt8:=(eB v.key).data.toList++(enc (tv v.gone)++((eB v.val).data.toList++(iD v.n.toNat v.s.toNat++kA ds)))
theorem join_nil:∀ xs:List (List UInt8),Lib.join xs []=xs.flatten
 |[]=>rfl
 |[x]=>by simp[Lib.join,List.intercalate]
 |x::y::t=>by
  have:=join_nil (y::t);simp only[Lib.join,List.intercalate]at this⊢;rw[List.intersperse_cons_cons,List.flatten_cons,List.flatten_cons,this,List.nil_append];rfl
theorem GL (s:ByteArray) (h:s.size<18446744073709551616):(eB s).size<=s.size+10:=by
 have:=kz s.size h;have e:(eB s).size=(enc s.size).length+s.size:=by simp[eB,num,ByteArray.size_append];rfl
 omega
theorem S6 (l:List aD) (hk:∀ d∈l,Let d.key) (hp:PC l):(kA l).length<=800:=by
 have h1:=kz l.length (by have:=hp.2;omega)
 have h2:=Lx l hk (λd hd=>by
  obtain⟨i,hi⟩:=qcl.1 hd;exact hp.1.1 i d (bg hi) hi)
 have h3:=hp.2;rw[kA,qC];omega
theorem qdq (a b c d e:ByteArray) (g:Nat) (w:World) (hg:w.heap[g]? =some (.cells #[.string a,.string b,.string c,.string d,.string e] 9 (0,0))) (ha:a.size<=1000) (hb:b.size<=1000) (hc:c.size<=1000) (hd:d.size<=1000) (he:e.size<=1000):
  Calls Tryz.prog 210 #[.slice (some ⟨g,0,none⟩) 5 5,.string ⟨#[]⟩] w λr w'=>r= .returned (.string ⟨(a.data.toList++(b.data.toList++(c.data.toList++(d.data.toList++e.data.toList)))).toArray⟩)/\ad w w':=by
 have hj:Lib.join ([a,b,c,d,e].map (·.data.toList)) (⟨#[]⟩:ByteArray).data.toList=a.data.toList++(b.data.toList++(c.data.toList++(d.data.toList++e.data.toList))):=by
  show Lib.join _ []=_
  rw[join_nil];simp
 have h:=Tryz.strings_Join g 0 5 [a,b,c,d,e] ⟨#[]⟩ w (λU x hx=>by
  rw[Nat.zero_add,aE hg]
  rcases U with _|_|_|_|_|U <;>simp at hx <;>subst hx <;>rfl) (aQ hg) ao ao (by
  rw[hj];simp only[qC,Af];omega)
 rw[hj]at h;exact h
theorem GM (x:Int) (n:Nat) (w:World) (hx:x=n) (hn:n<18446744073709551616):Calls Tryz.prog 212 #[.int .u64 x] w λe w'=>e= .returned (.string (num n))/\ad w w':=by
 subst hx;exact Ln n w hn
theorem S7 (v:ax) (ds:List aD) (w:World) (hk:Let v.key) (hp:r' w v ds) (hd:∀ d∈ds,Let d.key) (hc:WC v ds):
  Calls Tryz.prog 152 #[aM v] w λe w'=>e= .returned (.string ⟨(l9 v ds).toArray⟩)/\ad w w':=by
 have HP:=aa hp;have HD:=aa hd;have ph:=aa hk;have HC:=aa hc;have dM:ds.length<=24:=hc.2.1.2;have eh:v.val.size<=32:=hc.2.2.1;have aV:=qck hc.1;have kV:v.key.size=1:=by obtain⟨c,_,_,h⟩:=hk;rw[h];rfl
 have jY:ag ((kA ds).length<=800):=S6 ds hd hc.2.1;clear hp hd hk hc;obtain⟨key,val,gone,n,s,pa,pn,pc,LB⟩:=v;obtain⟨N,rfl⟩:∃ N:Nat,n=N:=⟨n.toNat,by simp only at aV;omega⟩;obtain⟨M,rfl⟩:∃ M:Nat,s=M:=⟨s.toNat,by simp only at aV;omega⟩;have bD:key.size=1:=kV;have bG:val.size<=32:=eh;have dO:1<=N/\N<=1099511627776/\M<6:=by simp only at aV;omega
 have ga:((kA ds).toArray).size<=800:=by simpa using jY.o
 clear kV eh aV;unfold aM;simp only;go_in;go_wp2_with fail
 refine(C9 _ ds _ ph.o (HP.o.kept al) HD.o ab (by simp only;omega)).mono ?_;rintro e w1 ⟨b,rfl,hb,k1⟩;obtain rfl:b=true:=hb.2 HC.o;clear hb;have e0:w1.cell? ⟨w.heap.size,0,none⟩=some (.string key):=k1.af (by go_simp);have e1:w1.cell? ⟨w.heap.size,1,none⟩=some (.string val):=k1.af (by go_simp);have e2:w1.cell? ⟨w.heap.size,2,none⟩=some (.bool gone):=k1.af (by go_simp);have e3:w1.cell? ⟨w.heap.size,3,none⟩=some (.int .i64 (N:Int)):=k1.af (by go_simp);have e4:w1.cell? ⟨w.heap.size,4,none⟩=some (.int .i64 (M:Int)):=k1.af (by go_simp);have e5:w1.cell? ⟨w.heap.size,5,none⟩=some (.slice pa pn pc):=k1.af (by go_simp);have K1:ad w w1:=ad.call al k1;clear k1
 cases gone
 all_goals
  go_wp2;refine bz (λwB=>ad w wB/\ad w1 wB/\wB.cell? ⟨w.heap.size,0,none⟩=some (.string key)/\wB.cell? ⟨w.heap.size,1,none⟩=some (.string val)/\wB.cell? ⟨w.heap.size,3,none⟩=some (.int .i64 (N:Int))/\wB.cell? ⟨w.heap.size,4,none⟩=some (.int .i64 (M:Int))/\wB.cell? ⟨w.heap.size,5,none⟩=some (.slice pa pn pc)) λwB SS=> ?_;obtain⟨au,br,aB,aC,aF,aX,bK⟩:=SS.o _ (ad.refl _);iterate 14 (first|(apply DW.ct;(focus (intro wd hI;obtain⟨ae,ay,ai,aj,aq,az,aK⟩:=SS.o wd hI;go_wp2_with (first|(go_at_call 211;refine(GC _ _ ab).mono ?_;rintro e w5 ⟨rfl,k5⟩)|(go_at_call 212;(first|refine(GM 0 0 _ rfl ab).mono ?_|refine(GM 1 1 _ rfl ab).mono ?_);rintro e w5 ⟨rfl,k5⟩)|(go_at_call 213;refine(GI N M _ ab ab ab).mono ?_;rintro e w5 ⟨rfl,k5⟩)|(go_at_call 214;refine(S3 _ ds _ (HP.o.kept (au.call hI)) HD.o HC.o.2.1).mono ?_;rintro e w5 ⟨rfl,k5⟩));exact aP));refine DW.np ?_)|(refine DW.bt av ?_;intro wd hI;obtain⟨ae,ay,ai,aj,aq,az,aK⟩:=SS.o wd hI;go_wp2_with (first|(go_at_call 211;refine(GC _ _ ab).mono ?_;rintro e w5 ⟨rfl,k5⟩)|(go_at_call 212;(first|refine(GM 0 0 _ rfl ab).mono ?_|refine(GM 1 1 _ rfl ab).mono ?_);rintro e w5 ⟨rfl,k5⟩)|(go_at_call 213;refine(GI N M _ ab ab ab).mono ?_;rintro e w5 ⟨rfl,k5⟩)|(go_at_call 214;refine(S3 _ ds _ (HP.o.kept (au.call hI)) HD.o HC.o.2.1).mono ?_;rintro e w5 ⟨rfl,k5⟩));refine cu hI SS (λbf SS=> ?_) rfl;obtain⟨au,br,aB,aC,aF,aX,bK⟩:=SS.o _ (ad.refl _)))
  refine DW.tail av λwd hI=> ?_;obtain⟨ae,ay,ai,aj,aq,az,aK⟩:=SS.o wd hI;clear SS;go_wp2_with fail
 all_goals
  refine(qdq _ _ _ _ _ wd.heap.size _ (l5 _ _) (by have:=GL key ab;omega) (by have h:=kz 0 ab;have h2:=kz 1 ab;first|exact qcg h ab|exact qcg h2 ab) (by have:=GL val ab;omega) (by have h:=kz N ab;have h2:=kz M ab;rw[qdh,GH];omega) (by have:=ga;exact qcg this ab)).mono ?_;rintro e w6 ⟨rfl,k6⟩;have K6:ad w w6:=ad.call al k6;go_wp2;go_ret;exact⟨rfl,K6⟩
theorem xF {X Y L:List UInt8} {a:Nat} (h:X++Y <+: L.drop a):Y <+: L.drop (a+X.length):=by
 obtain⟨Z,LD⟩:=h;refine⟨Z,?_⟩;rw[<- List.drop_drop,<- LD,List.append_assoc,List.drop_left]
theorem vh {X Y L:List UInt8} (h:X++Y <+: L):X <+: L:=(List.prefix_append X Y).trans h
theorem qdr {s k:ByteArray} {a:Nat} (h:k.data.toList <+: s.data.toList.drop a):s.extract a (a+k.size)=k:=by
 refine C7 ?_;rw[qdc];obtain⟨Z,LD⟩:=h;rw[List.drop_take,show a+k.size-a=k.size by omega,<- LD,<- Af,List.take_left]
theorem qds (k:ByteArray):(eB k).data.toList=enc k.size++k.data.toList:=by simp[eB,num,SM]
theorem LF (s k:ByteArray) (a:Nat) (da E:Int) (w:World) (hs:s.size<=1099511627776) (h:(eB k).data.toList <+: s.data.toList.drop a) (hm:(k.size:Int)<=da) (gd:da<=9223372036854775807) (mR:E=((a+(eB k).data.toList.length:Nat):Int)):
  Calls Tryz.prog 238 #[.string s,.int .i64 (a:Int),.int .i64 da] w λe w'=>e= .returned (.tuple #[.string k,.int .i64 E,.bool true])/\ad w w':=by
 rw[qds]at h mR;have h2:=xF h
 have hl:a+(enc k.size).length+k.size<=s.size:=by
  have h3:=h.length_le;rw[qC,ql1,Af,Af]at h3;have:=CW k.size;omega
 exact qdn s a da a k.size _ w hs rfl hm gd (vh h) rfl hl k (qdr h2).symm E (by rw[mR,qC,Af];omega)
theorem S8 (s:ByteArray) (a N M:Nat) (E:Int) (w:World) (hs:s.size<=1099511627776) (h:iD N M <+: s.data.toList.drop a) (h1:1<=N) (h2:N<=1099511627776) (h3:M<6) (mR:E=((a+(iD N M).length:Nat):Int)):
  Calls Tryz.prog 179 #[.string s,.int .i64 (a:Int)] w λe w'=>e= .returned (.tuple #[.agg #[.int .i64 N,.int .i64 M],.int .i64 E,.bool true])/\ad w w':=by
 refine(qdj s a w hs).mono ?_;rintro e w' ⟨n,m,en,ok,rfl,hr,hk⟩;have h4:pr s.data.toList (a:Int) N M E true:= .inl ⟨rfl,h1,h2,h3,ab,by simpa using h,by rw[mR];omega⟩;obtain⟨rfl,rfl,rfl,rfl⟩:=hr.same h4;exact⟨rfl,hk⟩
def ox (l:List aD) (a U:Nat):Nat:=a+(enc l.length).length+((l.take U).flatMap iF).length
theorem qdt {l:List aD} {a U:Nat} {d:aD} (h:l[U]? =some d):ox l a (U+1)=ox l a U+(iF d).length:=by
 have hj:=(bg h);unfold ox;rw[QI hj,(pi.1 h).2,List.flatMap_append,qC];simp;omega
theorem qdu {l:List aD} {L:List UInt8} {a U:Nat} {d:aD} (hp:kA l <+: L.drop a) (h:l[U]? =some d):iF d <+: L.drop (ox l a U):=by
 have hj:=(bg h)
 have e:kA l=(enc l.length++(l.take U).flatMap iF)++(iF d++(l.drop (U+1)).flatMap iF):=by
  have h2:l.flatMap iF=(l.take U).flatMap iF++(iF d++(l.drop (U+1)).flatMap iF):=by
   rw[<- (pi.1 h).2,<- List.flatMap_cons,<- List.flatMap_append,<- List.drop_eq_getElem_cons hj,List.take_append_drop]
  rw[kA,h2,List.append_assoc]
 rw[e]at hp;have:=vh (xF hp);rw[qC]at this;unfold ox;rwa [Nat.add_assoc]
theorem pread (s:ByteArray) (a:Nat) (l:List aD) (w:World) (hs:s.size<=1099511627776) (hk:∀ d∈l,Let d.key) (hp:PC l) (hb:kA l <+: s.data.toList.drop a):
  Calls Tryz.prog 180 #[.string s,.int .i64 (a:Int)] w λe w'=>∃ v,e= .returned (.tuple #[v,.int .i64 ((a+(kA l).length:Nat):Int),.bool true])/\Rw w' 60 3 aS v l/\ad w w':=by
 obtain⟨n,hn⟩:∃ n,l.length=n:=⟨_,rfl⟩;have qdp:n<=24:=by rw[<- hn];exact hp.2
 have hle:ox l a n=a+(kA l).length:=by
  unfold ox kA;rw[qcc ab,qC];omega
 have h0:ox l a 0=a+(enc n).length:=by unfold ox;simp[hn]
 have LG:=vh hb;rw[hn]at LG;have HN:=aa hn;have HK:=aa hk;have HP:=aa hp;have HB:=aa hb;have Db:=aa hle;have H0:=aa h0;have HPE:=aa LG;have Dc:a+(kA l).length=ox l a n:=hle.symm;rw[Dc];clear hn hk hp hb hle h0 LG Dc;obtain⟨i0,hi,a7,aY,aW⟩:=ql0 uP;go_wp2;go_step3
 go_wp2_with fail
 refine(Lt s a a n _ _ hs rfl ab HPE.o rfl).mono ?_;rintro e w1 ⟨rfl,k1⟩;obtain⟨p0,Dd⟩:∃ p0,ox l a 0=p0:=⟨_,rfl⟩;have S9:(a:Int)+((enc n).length:Nat)=(p0:Int):=by rw[<- Dd,H0.o];omega
 rw[S9];have LH:=aa Dd;clear S9 Dd;go_wp2;go_step3
 go_wp2;go_loopw [4,5,6,23] (λpv ev ov iv wr=>∃ (U q:Nat) (v:Value),v=pv/\ev= .int .i64 (q:Int)/\ox l a U=q/\ov= .bool true/\iv= .int .u64 U/\U<=n/\ag (wr.ownsRow w.heap.size 60 3 v U ((l.take U).flatMap aS))/\ad w wr) (λ_ _ _ iv _=>n-(intOf iv).toNat)
 case atStart=>exact⟨0,p0,_,rfl,rfl,LH.o,rfl,rfl,ab,qcb _ _ _ _,k1⟩
 case round=>
  obtain⟨U,q,v,rfl,rfl,hq,rfl,rfl,hj,ho,kr⟩:=hrel;have LI:(((l.take U).flatMap aS).length)=U*3:=by rw[eF gT,qcd,HN.o,Nat.min_eq_left hj]
  by_cases an:U<n
  ·obtain⟨d,hd⟩:∃ d,l[U]? =some d:=⟨_,jc (by rw[HN.o];exact an)⟩;have De:=qdu HB.o hd;have dV:=qdt (a:=a) hd;have eu:=qck (HP.o.1.1 U d (by rw[HN.o];exact an) hd);obtain⟨kc,kc1,kc2,n0⟩:=HK.o d (zV hd)
   have ld:ag ((l.take (U+1)).flatMap aS=(l.take U).flatMap aS++aS d):=by
    unfold ag;rw[QI (by rw[HN.o];exact an),(pi.1 hd).2,List.flatMap_append];simp
   obtain⟨x0,x1,x2⟩:=d;obtain⟨N,rfl⟩:∃ N:Nat,x1=N:=⟨x1.toNat,by simp only at eu;omega⟩;obtain⟨M,rfl⟩:∃ M:Nat,x2=M:=⟨x2.toNat,by simp only at eu;omega⟩;simp only at n0 eu;have iu:x0.size=1:=by rw[n0];rfl
   rw[hq]at De dV;have S':iF ⟨x0,N,M⟩=(eB x0).data.toList++iD N M:=rfl;rw[S']at De dV;obtain⟨q1,kp⟩:∃ q1,q+(eB x0).data.toList.length=q1:=⟨_,rfl⟩;have LJ:=xF De;rw[kp]at LJ;obtain⟨q2,gE⟩:∃ q2,q1+(iD N M).length=q2:=⟨_,rfl⟩;have kS:ag (ox l a (U+1)=q2):=by unfold ag;rw[dV,qC];omega
   have ma:=aa (vh De);have qdv:=aa LJ;have nm:=aa kp;have LK:=aa gE;have HDQ:=aa LI;clear hd De dV n0 S' LJ kp gE hq LI;go_wp2_with fail
   refine(LF s x0 q 32 (q1:Nat) _ hs ma.o ab ab (by rw[nm.o])).mono ?_;rintro e w2 ⟨rfl,k2⟩;have z1:w2.cell? ⟨wr.heap.size,1,none⟩=some (.int .i64 0):=k2.af (by go_simp);have z2:w2.cell? ⟨wr.heap.size,2,none⟩=some (.int .i64 0):=k2.af (by go_simp);have z0:w2.cell? ⟨wr.heap.size,0,none⟩=some (.string ⟨#[]⟩):=k2.af (by go_simp);have zf:∀ o,w2.frozen? ⟨wr.heap.size,o,none⟩=false:=λo=>by rw[k2.frozen wr.heap.size o ao];go_simp
   have f0:=zf 0;have f1:=zf 1;have f2:=zf 2;have HZ:=aa zf;have K2:ad w w2:=kr.call (ad.call al k2);have dC:=aa (ad.own ho.o (ad.call al k2));have Ta:wr.heap.size<w2.heap.size:=Aa w2 _ z0;have GJ:=kr.size;clear k2 zf;go_wp2_with fail
   refine(S8 s q1 N M (q2:Nat) _ hs qdv.o ab ab ab (by rw[LK.o])).mono ?_;rintro e w3 ⟨rfl,k3⟩;have y0:w3.cell? ⟨wr.heap.size,0,none⟩=some (.string x0):=k3.af (by go_simp);have y1:w3.cell? ⟨wr.heap.size,1,none⟩=some (.int .i64 0):=k3.af (by go_simp);have y2:w3.cell? ⟨wr.heap.size,2,none⟩=some (.int .i64 0):=k3.af (by go_simp);have zf:∀ o,w3.frozen? ⟨wr.heap.size,o,none⟩=false:=λo=>by rw[k3.frozen wr.heap.size o (by simp[World.setCell];omega),World.frozen?_setCell];exact HZ.o o
   have g1:=zf 1;have g2:=zf 2;have K3:ad w w3:=ad.call al k3;have kT:v.ownBlock≠some wr.heap.size:=λh=>absurd (ho.o.lt _ h).2 (Nat.lt_irrefl _);have eR:=ad.own (ownsRow_setCell_other dC.o (a:=⟨wr.heap.size,0,none⟩) kT (.string x0)) k3;have GO:=aa (ownsRow_setCell_other (ownsRow_setCell_other eR (a:=⟨wr.heap.size,1,none⟩) kT (.int .i64 (N:Int))) (a:=⟨wr.heap.size,2,none⟩) kT (.int .i64 (M:Int)));have xG:ag (∀ g,v.ownBlock=some g->w.heap.size<=g):=λg hg=>(ho.o.lt g hg).1;have rX:w.heap.size<=w3.heap.size:=K3.size;clear k3 zf eR kT;go_wp2_with (at_builtin;refine wpList_append_own _ rfl _ _ 46 rfl w.heap.size 60 i0 (.agg #[.string ⟨#[]⟩,.int .i64 0,.int .i64 0]) 3 32 Tryz.underlying46 hi a7 aY aW rfl ak _ U _ rfl (GO.o.alloc _) ⟨w3.heap.size,0,none⟩ 1 1 [.string x0,.int .i64 (N:Int),.int .i64 (M:Int)] rfl rfl ?_ (by simp[Value.oneCell']) (by unfold maxLen;omega) ab (by simp[World.setCell];omega) ?_)
   ·intro t u hu;rw[Addr.add_lit,Nat.zero_add,<- hu]
    have hg:((((w3.setCell ⟨wr.heap.size,1,none⟩ (.int .i64 (N:Int))).setCell ⟨wr.heap.size,2,none⟩ (.int .i64 (M:Int)))).alloc (.cells #[.string x0,.int .i64 (N:Int),.int .i64 (M:Int)] 60)).heap[w3.heap.size]? =some (.cells #[.string x0,.int .i64 (N:Int),.int .i64 (M:Int)] 60 (0,0)):=by
     have:=l5 ((w3.setCell ⟨wr.heap.size,1,none⟩ (.int .i64 (N:Int))).setCell ⟨wr.heap.size,2,none⟩ (.int .i64 (M:Int))) (.cells #[.string x0,.int .i64 (N:Int),.int .i64 (M:Int)] 60);simpa [World.setCell]using this
    rw[aE hg];exact List.getElem?_toArray
   intro v5 w5 Uub zN _;have K5:ad w w5:=ad.grown al zN (λg hg=>xG.o g hg);have ie:ag (w5.ownsRow w.heap.size 60 3 v5 (U+1) ((l.take (U+1)).flatMap aS)):=by rw[ld.o];exact Uub
   clear Uub zN;go_wp2;go_roundw
   case rel=>first|exact⟨U+1,q2,v5,rfl,rfl,kS.o,rfl,aA,ab,ie,K5⟩|((repeat apply R7);exact⟨⟨U+1,q2,v5,rfl,rfl,kS.o,rfl,aA,ab,ie,K5⟩,rfl⟩)
   case measure=>simp[intOf];omega
  ·obtain rfl:U=n:=ab
   have bU:Rw wr 60 3 aS v l:=by
    have h:=ho.o;rw[qcc (by rw[HN.o];exact CP _)]at h;exact Rw.bp h gT ak
   have cN:=aa bU;have HQ:=aa hq;clear bU hq ho LI;go_wp2_with fail
   refine(Lh v l _ (by rw[HN.o];omega) cN.o HK.o).mono ?_;rintro e w6 ⟨b,rfl,hb,k6⟩;obtain rfl:b=true:=hb.2 HP.o;clear hb;go_wp2
   (try rw[Exit.noGoto_ret])
   go_ret3
   exact⟨v,congrArg (λx:Nat=>Ending.returned (.tuple #[v,.int .i64 (x:Int),.bool true])) HQ.o.symm,cN.o.kept k6,kr.call k6⟩
end Go.Proofs.YtehaoggjlciobaaGreat

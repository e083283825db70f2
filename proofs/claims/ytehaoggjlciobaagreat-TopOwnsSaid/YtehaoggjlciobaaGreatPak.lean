/- Part 11 of 53. -/
import Derived.Test.YtehaoggjlciobaaGreatPaj
set_option linter.all false
set_option maxRecDepth 20000
set_option maxHeartbeats 16000000
namespace Go.Proofs.YtehaoggjlciobaaGreat
open Go.RowKit
theorem KD (p:List Int):∀ (k x:Nat),(dY p k x).length<=k
 |0,x=>CP _
 |k+1,x=>by
  have:=KD p k (pa p x).toNat;unfold dY;split <;>simp <;>omega
theorem Rz (l:List Nat):∀ u∈cS l,u.oneCell'=true:=by
 intro u hu;simp only[cS,List.mem_map]at hu;obtain⟨x,_,rfl⟩:=hu;rfl
theorem CD {l:List Nat} {i m:Nat} (h:l[i]? =some m):(ints l)[i]?.getD (-2)=(m:Int):=by simp[ints,h]
theorem bo.news {w:World} {b off n c:Nat} {l:List Nat} (h:bo w (some ⟨b,off,none⟩) n c (ints l)) (k:Nat):∀ U u,(cS (l.take k))[U]? =some u->w.cell? ((⟨b,off,none⟩:Addr).add U)=some u:=by
 intro U u hu;obtain⟨h1,_,_,_,h5⟩:=h;have hl:l.length=n:=by simpa [ints]using h1
 have ht:l[U]? =(l.take k)[U]?/\U<l.length:=by
  simp only[cS,List.getElem?_map]at hu;rcases hx:(l.take k)[U]? with _|x
  ·rw[hx]at hu;simp at hu
  ·have h2:=pi.1 hx;obtain⟨h3,h4⟩:=h2;have:U<l.length:=by have:=h3;simp at this;omega
   refine⟨?_,this⟩;rw[List.getElem?_take]at hx;split at hx
   ·exact hx
   ·cases hx
 obtain⟨nY,qj,he,hc⟩:=h5 ab
 cases he
 have xm:((⟨b,off,none⟩:Addr).add U)=⟨b,off+U,none⟩:=by simp[Addr.add]
 rw[xm,hc U ab]
 have pd:(cS l)[U]? =some u:=by
  simp only[cS,List.getElem?_map]at hu⊢;rw[ht.1];exact hu
 simp only[cS,List.getElem?_map,jc ht.2,Option.map_some]at pd;rw[<- pd];simp[ints,jc ht.2]
theorem qbD (A:Option Addr) (n c:Nat) (p:List Int) (a b:Int) (w:World) (hx:bo w A n c p):
  Calls Tryz.prog 75 #[.slice A n c,.int .i64 a,.int .i64 b] w (xk (pathOf p a b) w):=by
 obtain⟨i0,hi,a7,aY,aW⟩:=ql0 oZ;have HI:=aa hi;clear hi;have HX:=aa hx;clear hx;go_in;go_wp2_with fail
 refine(Kw A n c p a w HX.o).mono ?_;rintro e w1 ⟨B,rfl,hB,k1⟩;go_wp2_with fail
 refine(Kw A n c p b w1 (HX.o.keep k1)).mono ?_;rintro e w2 ⟨C,rfl,hC,k2⟩;have K2:ad w w2:=k1.call k2
 have nil:pathOf p a b=[]->xk (pathOf p a b) w (.returned (.slice none 0 0)) w2:=λh=>
  ⟨none,0,by rw[h];rfl,by rw[h];exact⟨rfl,CP _,by unfold maxLen;omega,λ_=>⟨rfl,rfl⟩,λh=>absurd h (Nat.lt_irrefl _)⟩,K2⟩
 have KF:=aa nil;have HB:=aa hB;have Uua:=aa hC;clear nil hB hC
 cases B
 ·go_wp2;go_ret;exact KF.o (CC (λh=>by have:=HB.o.2 ⟨h.1,by rw[<- HX.o.1];exact h.2.1⟩;cases this))
 cases C
 ·go_wp2;go_ret;exact KF.o (CC (λh=>by have:=Uua.o.2 ⟨h.1,by rw[<- HX.o.1];exact h.2.2⟩;cases this))
 obtain⟨ht,a0,bj⟩:=HB.o.1 rfl;obtain⟨_,b0,b1⟩:=Uua.o.1 rfl;obtain⟨x,rfl⟩:=Int.eq_ofNat_of_zero_le a0;obtain⟨y,rfl⟩:=Int.eq_ofNat_of_zero_le b0;obtain⟨R,hT⟩:=ht;have Ge:x<p.length:=by rw[HX.o.1];omega
 have hyp:y<p.length:=by rw[HX.o.1];omega
 have HP:ag (∀ i k m,(dY p 7 x)[i]? =some m->(dY p 7 y)[k]? =some m->(∀ i' u,i'<i->(dY p 7 x)[i']? =some u->u∉dY p 7 y)->pathOf p (x:Int) (y:Int)=(dY p 7 x).take (i+1)++((dY p 7 y).take k).reverse):=
  λi k m h1 h2 h3=>qbA hT Ge hyp h1 h2 h3
 have HM:ag (∃ r,r∈dY p 7 x/\r∈dY p 7 y):=by
  obtain⟨r,hr,iz⟩:=hT.root;exact⟨r,KC hT iz 7 x Ge (hT.r7 x Ge),KC hT iz 7 y hyp (hT.r7 y hyp)⟩
 go_wp2_with fail
 refine(Ru A n c p R x w2 ((HX.o.keep k1).keep k2) hT ab).mono ?_;rintro e w3 ⟨F,gU,rfl,hF,k3⟩;go_wp2_with fail
 refine(Ru A n c p R y w3 (((HX.o.keep k1).keep k2).keep k3) hT ab).mono ?_;rintro e w4 ⟨G,gc,rfl,hG,k4⟩;have Gf:=hF.keep k4;have K4:ad w w4:=(K2.call k3).call k4;clear hT hF a0 bj b0 b1 Ge hyp KF HB Uua;have iB:=KD p 7 x;have xo:=KD p 7 y;generalize dY p 7 x=f at*;generalize dY p 7 y=g at*;have HF:=aa Gf;have HG:=aa hG;have qu:=Gf.2.1;have Cp:=Gf.2.2.1;have hZ:=hG.2.1;have iX:=hG.2.2.1;unfold maxLen at Cp iX;clear Gf hG;go_wp2;go_loopw [11] (λiv wr=>∃ i:Nat,i<=f.length/\iv= .int .i64 i/\ad w4 wr/\ag (∀ i' u,i'<i->f[i']? =some u->u∉g)) (λiv _=>f.length-(intOf iv).toNat)
 case atStart=>exact⟨0,ab,rfl,ad.refl _,λi' u h=>ab⟩
 case round=>
  obtain⟨i,hi,rfl,kr,bW⟩:=hrel;by_cases an:i<f.length
  ·obtain⟨m,hm⟩:∃ m,f[i]? =some m:=⟨f[i],jc an⟩;have Gg:=aa hm;obtain⟨zJ,ic,rfl,RD⟩:=HF.o.2.2.2.2 ab;have Gh:w4.cell? ⟨zJ,ic+i,none⟩=some (.int .i64 m):=by rw[RD i an,CD hm]
   have Gi:=aa Gh;clear RD Gh hm;go_wp2;go_loopw [12] (λkv wr=>∃ k:Nat,k<=g.length/\kv= .int .i64 k/\ad w4 wr/\ag (m∉g.take k)) (λkv _=>g.length-(intOf kv).toNat)
   case atStart=>exact⟨0,ab,rfl,kr,by unfold ag;simp⟩
   case round=>
    obtain⟨k,hk,rfl,kr,zK⟩:=hrel;by_cases RE:k<g.length
    ·obtain⟨z,hz⟩:∃ z,g[k]? =some z:=⟨g[k],jc RE⟩;have HZ:=aa hz;obtain⟨gb,go,rfl,th⟩:=HG.o.2.2.2.2 ab;have RF:w4.cell? ⟨gb,go+k,none⟩=some (.int .i64 z):=by rw[th k RE,CD hz]
     have cg':=kr.af RF;have cf':=kr.af Gi.o;clear th RF hz;by_cases KG:m=z
     ·subst KG;go_wp2;refine bz (λwB=>ad w4 wB/\wB.cell? ⟨zJ,ic+i,none⟩=some (.int .i64 m)/\wB.cell? ⟨gb,go+k,none⟩=some (.int .i64 m)) λwB SS=> ?_;repeat refine DW.dt ?_
      refine DW.nl SS ?_;rintro wd hI ⟨ae,ai,aj⟩;have hp:=HP.o i k m Gg.o HZ.o bW;have jz:=aa hp;have qbE:ad w wd:=K4.call ae;have HN:ag (∀ U u,(cS (f.take (i+1)))[U]? =some u->wd.cell? ((⟨zJ,ic,none⟩:Addr).add U)=some u):=(HF.o.keep ae).news (i+1);have CE:ag ((cS (f.take (i+1))).length=(i+1)*1):=by unfold ag;rw[qz,qcd];omega
      have Gj:w.heap.size<=wd.heap.size:=qbE.size;clear hp;have qkH:w4.heap.size<=wd.heap.size:=ae.size;have qbF:wd.ownsRow w4.heap.size 3 1 (.slice none 0 0) 0 []:=qcb _ _ _ _;have HL4:=qbF.lt;go_wp2_with (at_builtin;refine wpList_append_own _ rfl _ _ 22 rfl w4.heap.size 3 i0 (.int .i64 0) 1 8 Tryz.underlying22 HI.o a7 aY aW rfl ak _ 0 [] rfl (qcb _ _ _ _) ⟨zJ,ic,none⟩ (i+1) gU (cS (f.take (i+1))) rfl CE.o HN.o (Rz _) (by unfold maxLen;omega) ab (by first|omega|(simp;omega)|simp) ?_;intro v3 w3 bE cD _;have Kw3:ad w4 w3:=ae.grown cD (λg' hg=>(HL4 g' hg).1);simp only[Nat.zero_add,List.nil_append]at bE;have eR:=aa bE;clear bE)
      have ng:ag ((f.take (i+1)).length=i+1):=by unfold ag;rw[qcd];omega
      go_loopw [13,14] (λov jv wr=>∃ (q l:Nat) (v:Value) (ti:List Nat),ov=v/\q<=k/\jv= .int .i64 ((q:Int)-1)/\ti=f.take (i+1)++((g.take k).drop q).reverse/\ti.length=l/\l<=20/\wr.ownsRow w4.heap.size 3 1 v l (cS ti)/\ad w4 wr) (λ_ jv _=>(intOf jv+1).toNat)
      case atStart=>exact⟨k,i+1,_,f.take (i+1),rfl,CP _,aA,ao,ng.o,ab,eR.o,Kw3⟩
      case round=>
       obtain⟨q,l,v,ti,rfl,hq,rfl,tc,qy,qkI,ho,Gk⟩:=hrel;have zL:=aa tc;have zM:=aa qy;have HO:=aa ho;clear tc qy ho;have kw:ad w wr:=K4.call Gk;have Cs:w4.heap.size<=wr.heap.size:=Gk.size;rcases Nat.eq_zero_or_pos q with rfl|ko
       ·obtain⟨A2,c2,rfl,cT⟩:=bo.bp HO.o;have iA:=aa cT;have mQ:ag (pathOf p (x:Int) (y:Int)=ti):=by unfold ag;rw[jz.o,zL.o,List.drop_zero]
        clear cT;go_wp2;go_ret;refine⟨A2,c2,by rw[mQ.o,zM.o];rfl,?_,kw⟩;rw[mQ.o,zM.o];exact iA.o
       ·obtain⟨r,rfl⟩:∃ r,q=r+1:=⟨q-1,ab⟩;obtain⟨z,mS⟩:∃ z,g[r]? =some z:=⟨g[r],jc ab⟩;obtain⟨gb2,go2,he,th⟩:=HG.o.2.2.2.2 ab
        cases he
        have RG:wr.cell? ⟨gb,go+r,none⟩=some (.int .i64 z):=by rw[Gk.cell _ _ (Aa w4 _ (th r ab)),th r ab,CD mS]
        have hjr:(((r+1:Nat):Int)-1)=(r:Int):=ab
        have qi:ag (ti++[z]=f.take (i+1)++((g.take k).drop r).reverse):=by
         unfold ag;have h2:(g.take k)[r]? =some z:=by rw[List.getElem?_take,if_pos ab];exact mS
         obtain⟨h3,h4⟩:=pi.1 h2;rw[zL.o,List.drop_eq_getElem_cons h3,h4];simp
        have lY:ag ((cS ti).length=l*1):=by unfold ag;rw[qz,zM.o,Nat.mul_one]
        have fL:l=i+1+(k-(r+1)):=by
         have h5:=zM.o;rw[zL.o]at h5;simp at h5;omega
        clear th mS;rw[hjr];go_wp2_with (at_builtin;refine wpList_append_own _ rfl _ _ 22 rfl w4.heap.size 3 i0 (.int .i64 0) 1 8 Tryz.underlying22 HI.o a7 aY aW rfl ak _ l _ rfl (HO.o.alloc _) ⟨wr.heap.size,0,none⟩ 1 1 [.int .i64 (z:Nat)] rfl rfl (cell_one_new _ _ _) (by simp[Value.oneCell']) (by unfold maxLen;omega) ab (by simp;omega) ?_;intro v5 w5 Uub zN _;have HL5:=HO.o.lt;have K5:ad w4 w5:=(Gk.alloc _).grown zN (λg' hg=>(HL5 g' hg).1);rw[zG]at Uub;have ie:=aa Uub;clear Uub)
        go_roundw
        case rel=>first|exact⟨r,l+1,_,ti++[z],rfl,ab,aA,qi.o,by rw[qC,zM.o];rfl,ab,ie.o,K5⟩|((repeat apply R7);exact⟨⟨r,l+1,_,ti++[z],rfl,ab,aA,qi.o,by rw[qC,zM.o];rfl,ab,ie.o,K5⟩,rfl⟩)
        case measure=>simp[intOf]
     ·have aN:((m:Int)!=(z:Int))=true:=by simp;omega
      have RH:ag (m∉g.take (k+1)):=by
       unfold ag;rw[List.take_add_one,HZ.o];simp only[Option.toList_some,Pv,At];exact λh=>h.elim zK.o KG
      clear KG;go_wp2;refine bz (λwB=>ad w4 wB/\wB.cell? ⟨zJ,ic+i,none⟩=some (.int .i64 m)/\wB.cell? ⟨gb,go+k,none⟩=some (.int .i64 z)) λwB SS=> ?_;repeat refine DW.dt ?_
      refine DW.nl SS ?_;rintro wd hI ⟨ae,ai,aj⟩;go_wp2;go_roundw
      case rel=>first|exact⟨k+1,ab,aA,ae,RH⟩|((repeat apply R7);exact⟨⟨k+1,ab,aA,ae,RH⟩,rfl⟩)
      case measure=>simp[intOf];omega
    ·obtain rfl:k=g.length:=ab
     have zO:ag (∀ i' u,i'<i+1->f[i']? =some u->u∉g):=λi' u h1 h2=>by
      rcases R6 i' i with h3|h3
      ·exact bW i' u h3 h2
      ·obtain rfl:i'=i:=ab;have h4:=Gg.o;rw[h2]at h4
       cases h4
       have:=zK.o;rwa [List.take_length]at this
     go_wp2;go_roundw
     case rel=>first|exact⟨i+1,ab,aA,kr,zO⟩|((repeat apply R7);exact⟨⟨i+1,ab,aA,kr,zO⟩,rfl⟩)
     case measure=>simp[intOf];omega
  ·obtain rfl:i=f.length:=ab;obtain⟨r,h1,h2⟩:=HM.o;obtain⟨i',h3,h4⟩:=List.getElem_of_mem h1;exact absurd h2 (bW i' r h3 (by rw[jc h3,h4]))
noncomputable def Uuc (p:List Int) (a b:Int) (i:Nat):Bool:=((pathOf p a (i:Int))[1]? :Option Nat).any λx=>decide ((x:Int)=b)
noncomputable def c9 (p:List Int) (a b:Int):Nat->Nat
 |0=>0
 |U+1=>c9 p a b U+if Uuc p a b U then 2 ^ U else 0
theorem Gl (p:List Int) (a b:Int):∀ U,c9 p a b U<2 ^ U
 |0=>by simp[c9]
 |U+1=>by
  have:=Gl p a b U;unfold c9;rw[Nat.pow_succ];split <;>omega
theorem KH {p:List Int} (h:¬cH p) (a b:Int):∀ U,c9 p a b U=0
 |0=>rfl
 |U+1=>by
  have e:Uuc p a b U=false:=by unfold Uuc;rw[CC (λg=>h g.1)];rfl
  unfold c9;rw[KH h a b U,e];rfl
theorem qbG (A:Option Addr) (n c:Nat) (p:List Int) (a b:Int) (w:World) (hx:bo w A n c p):
  Calls Tryz.prog 39 #[.slice A n c,.int .i64 a,.int .i64 b] w λe w'=>e= .returned (.int .i64 (c9 p a b n:Nat))/\ad w w':=by
 have HX:=aa hx;clear hx;go_in;go_wp2_with fail
 refine(Kv A n c p w HX.o).mono ?_;rintro e w1 ⟨B,rfl,hB,k1⟩;have HB:=aa hB;clear hB
 cases B
 ·have bW:ag (c9 p a b n=0):=KH (λh=>by have:=HB.o.2 h;cases this) a b n;go_wp2;go_ret;exact⟨by rw[bW.o];rfl,k1⟩
 ·have n6:n<=6:=by have:=((mZ p).1 (HB.o.1 rfl)).2.1;rw[HX.o.1]at this;exact this
  go_wp2;go_loopw [8,9,10] (λnv bv iv wr=>∃ U:Nat,U<=n/\nv= .int .i64 (c9 p a b U:Nat)/\bv= .int .i64 ((2 ^ U:Nat):Int)/\iv= .int .i64 U/\ad w wr) (λ_ _ iv _=>n-(intOf iv).toNat)
  case atStart=>exact⟨0,ab,rfl,rfl,rfl,k1⟩
  case round=>
   obtain⟨U,hj,rfl,rfl,rfl,kr⟩:=hrel;by_cases an:U<n
   ·have l0:=Gl p a b U;have fN:2 ^ U<=2 ^ 6:=Nat.pow_le_pow_right ab ab;have ez:ag (2 ^ (U+1)=2*2 ^ U):=by unfold ag;rw[Nat.pow_succ,Nat.mul_comm]
    have dV:ag (c9 p a b (U+1)=c9 p a b U+if Uuc p a b U then 2 ^ U else 0):=rfl;have fH:ag (Uuc p a b U=((pathOf p a (U:Int))[1]? :Option Nat).any λx=>decide ((x:Int)=b)):=rfl;generalize 2 ^ U=t at*;generalize c9 p a b U=r at*;go_wp2_with fail
    refine(qbD A n c p a U _ (HX.o.keep kr)).mono ?_;rintro e w2 ⟨B,tj,rfl,hB,k2⟩;have K2:=kr.call k2;have pe:=aa hB;have b1:=hB.2.1;have b2:=hB.2.2.1;unfold maxLen at b2;clear hB;rcases hl:pathOf p a (U:Int)with _|⟨z0,_|⟨z1,rest⟩⟩
    ·have hf:ag (c9 p a b (U+1)=r):=by unfold ag;rw[dV.o,fH.o,hl];rfl
     go_wp2;go_roundw
     case rel=>first|exact⟨U+1,ab,by rw[hf.o],by rw[ez.o];go_num,aA,K2⟩|((repeat apply R7);exact⟨⟨U+1,ab,by rw[hf.o],by rw[ez.o];go_num,aA,K2⟩,rfl⟩)
     case measure=>simp[intOf];omega
    ·have hf:ag (c9 p a b (U+1)=r):=by unfold ag;rw[dV.o,fH.o,hl];rfl
     go_wp2;go_roundw
     case rel=>first|exact⟨U+1,ab,by rw[hf.o],by rw[ez.o];go_num,aA,K2⟩|((repeat apply R7);exact⟨⟨U+1,ab,by rw[hf.o],by rw[ez.o];go_num,aA,K2⟩,rfl⟩)
     case measure=>simp[intOf];omega
    ·rw[hl]at b1;simp only[List.length_cons]at b1;have hlen:ag ((z0::z1::rest).length=rest.length+2):=rfl;obtain⟨jA,fO,rfl,CG⟩:=pe.o.2.2.2.2 (by rw[hl];simp);have c1:w2.cell? ⟨jA,fO+1,none⟩=some (.int .i64 z1):=by rw[CG 1 (by rw[hl];simp),hl];rfl
     clear CG;by_cases hb:(z1:Int)=b
     ·have hf:ag (c9 p a b (U+1)=r+t):=by unfold ag;rw[dV.o,fH.o,hl];simp[hb]
      have d:((z1:Int)==b)=true:=by simpa using hb
      clear hb;go_wp2;go_roundw
      case rel=>first|exact⟨U+1,ab,by rw[hf.o];go_num,by rw[ez.o];go_num,aA,K2⟩|((repeat apply R7);exact⟨⟨U+1,ab,by rw[hf.o];go_num,by rw[ez.o];go_num,aA,K2⟩,rfl⟩)
      case measure=>simp[intOf];omega
     ·have hf:ag (c9 p a b (U+1)=r):=by unfold ag;rw[dV.o,fH.o,hl];simp[hb]
      have d:((z1:Int)==b)=false:=by simpa using hb
      clear hb;go_wp2;go_roundw
      case rel=>first|exact⟨U+1,ab,by rw[hf.o],by rw[ez.o];go_num,aA,K2⟩|((repeat apply R7);exact⟨⟨U+1,ab,by rw[hf.o],by rw[ez.o];go_num,aA,K2⟩,rfl⟩)
      case measure=>simp[intOf];omega
   ·obtain rfl:U=n:=ab;go_wp2;go_ret;exact⟨rfl,kr⟩
theorem Gm (A:Option Addr) (n c:Nat) (p:List Int) (x y:Nat) (w:World) (hx:bo w A n c p) (h1:x<n) (h2:y<n):
  Calls Tryz.prog 205 #[.slice A n c,.int .i64 x,.int .i64 y] w λe w'=>e= .returned (.bool (ky p x y))/\ad w w':=by
 obtain⟨b,off,rfl,hc⟩:=hx.2.2.2.2 ab;have c1:w.cell? ⟨b,off+x,none⟩=some (.int .i64 (pa p x)):=hc x h1;have c2:w.cell? ⟨b,off+y,none⟩=some (.int .i64 (pa p y)):=hc y h2;have hm:=hx.2.2.1;have kU:=hx.2.1;unfold maxLen at hm;clear hc hx;have hv:ag (ky p x y=(decide (pa p x=y)||decide (pa p y=x))):=rfl;generalize pa p x=u at*;generalize pa p y=v at*;by_cases e1:u=y
 ·have d1:(u==(y:Int))=true:=by simpa using e1
  have cW:ag (ky p x y=true):=by unfold ag;rw[hv.o];simp[e1]
  clear e1;go_wp2;go_ret;exact⟨by rw[cW.o];rfl,al⟩
 ·have d1:(u==(y:Int))=false:=by simpa using e1
  by_cases e2:v=x
  ·have d2:(v==(x:Int))=true:=by simpa using e2
   have cW:ag (ky p x y=true):=by unfold ag;rw[hv.o];simp[e2]
   clear e1 e2;go_wp2;go_ret;exact⟨by rw[cW.o];rfl,al⟩
  ·have d2:(v==(x:Int))=false:=by simpa using e2
   have cW:ag (ky p x y=false):=by unfold ag;rw[hv.o];simp[e1,e2]
   clear e1 e2;go_wp2;go_ret;exact⟨by rw[cW.o];rfl,al⟩
theorem W.snoc {p:List Int} {l:List Nat} {a y:Nat} (h:W p (l++[a])) (hy:y<p.length) (hn:Nr p a y) (hb:l.getLast?≠some y):W p (l++[a]++[y]):=by
 have h2:=h.rev;rw[List.reverse_append]at h2;have h3:W p (y::a::l.reverse):=W.cons (y:=a) (t:=l.reverse) (by simpa using h2) hy hn.symm (by rw[List.head?_reverse];exact hb);have:=h3.rev;simpa using this
def qbH (p:List Int) (pre:List Nat) (x:Nat) (b:Int) (w:World) (e:Ending) (w':World):Prop:=
 ∃ (A:Option Addr) (c:Nat) (l:List Nat),e= .returned (.slice A l.length c)/\bo w' A l.length c (ints l)/\ad w w'/\(l=[]->A=none)/\
  ((l=[]/\∀ (m:List Nat) (z:Nat),W p (pre++(x::m))->(x::m).getLast?=some z->(z:Int)≠b)∨(W p (pre++l)/\l.head?=some x/\∃ z:Nat,l.getLast?=some z/\(z:Int)=b))
def qbI (pre:List Nat) (fr:Int):Prop:=(pre=[]/\fr= -1)∨∃ u:Nat,pre.getLast?=some u/\fr=u
theorem qbJ (A:Option Addr) (n c:Nat) (p:List Int) (R:Nat->Nat) (hT:T p R) (P B K:Nat) (b:Int) (f:Value) (hf:f= .func (.func 257) #[] #[.pointer (some ⟨B,0,none⟩),.pointer (some ⟨P,0,none⟩),.pointer (some ⟨K,0,none⟩)]):∀ (k:Nat) (pre:List Nat) (x:Nat) (fr:Int) (w:World),pre.length+k=n->W p (pre++[x])->qbI pre fr->bo w A n c p->w.cell? ⟨P,0,none⟩=some (.slice A n c)->w.cell? ⟨B,0,none⟩=some (.int .i64 b)->w.cell? ⟨K,0,none⟩=some f->
  Calls Tryz.prog 257 #[.int .i64 x,.int .i64 fr,.pointer (some ⟨B,0,none⟩),.pointer (some ⟨P,0,none⟩),.pointer (some ⟨K,0,none⟩)] w (qbH p pre x b w):=by
 obtain⟨i0,hi,a7,aY,aW⟩:=ql0 oZ;have HI:=aa hi;have HT:=aa hT;clear hi hT;subst hf;intro k
 induction k with
 |zero=>
  intro pre x fr w hk hw _ hx;have:=hw.len HT.o;have h1:=hx.1;simp at this;omega
 |succ k ih=>
  intro pre x fr w hk hw cG hx ff KI BZ;have dN:=hw.lt pre.length x ao;have Uud:p.length=n:=hx.1;have h6:n<=6:=by rw[<- Uud];exact HT.o.cV
  have HX:=aa hx;have HW:=aa hw;have Uue:=aa cG;have KK:=aa ih;have qbK:n<=c:=hx.2.1;have qkJ:c<=9223372036854775807:=by have:=hx.2.2.1;unfold maxLen at this;omega
  clear hx hw cG ih;by_cases Gn:(x:Int)=b
  ·subst Gn;go_wp2;go_ret;have og:=l5 w (.cells #[.int .i64 (x:Int)] 3);refine⟨_,1,[x],rfl,⟨rfl,CP _,by unfold maxLen;omega,(λh=>by cases h),λ_=>⟨_,0,rfl,λi hi=> ?_⟩⟩,al,(λh=>by cases h),.inr ⟨HW.o,rfl,x,rfl,rfl⟩⟩;obtain rfl:i=0:=by simp at hi;exact hi
   exact cell_one_new _ _ _ 0 _ rfl
  ·have qkK:((x:Int)==b)=false:=by simpa using Gn
   have zP:=aa Gn;clear Gn;go_wp2;go_loopw [17] (λiv wr=>∃ U:Nat,U<=n/\iv= .int .i64 U/\ad w wr/\ag (∀ (i:Nat) (m:List Nat) (z:Nat),i<U->W p (pre++(x::i::m))->(x::i::m).getLast?=some z->(z:Int)≠b)) (λiv _=>n-(intOf iv).toNat)
   case atStart=>exact⟨0,ab,rfl,al,λi m z h=>ab⟩
   case round=>
    obtain⟨U,hj,rfl,kr,bW⟩:=hrel;by_cases an:U<n
    ·have next:ag ((∀ (m:List Nat) (z:Nat),W p (pre++(x::U::m))->(x::U::m).getLast?=some z->(z:Int)≠b)->∀ (i:Nat) (m:List Nat) (z:Nat),i<U+1->W p (pre++(x::i::m))->(x::i::m).getLast?=some z->(z:Int)≠b):=λh i m z hi=>by
      rcases R6 i U with g|g
      ·exact bW i m z g
      ·obtain rfl:i=U:=ab;exact h m z
     have e1:=kr.af ff;have e2:=kr.af KI;have e3:=kr.af BZ;by_cases zQ:(U:Int)=fr
     ·have cp:ag (∀ (i:Nat) (m:List Nat) (z:Nat),i<U+1->W p (pre++(x::i::m))->(x::i::m).getLast?=some z->(z:Int)≠b):=next (λm z hw=>by
       exfalso
       rcases Uue.o with ⟨_,h⟩|⟨u,h1,h2⟩
       ·omega
       ·obtain⟨s,rfl⟩:=F8 h1;exact hw.nb s.length u U ao ao ab)
      clear next;subst zQ;go_wp2;go_roundw
      case rel=>first|exact⟨U+1,ab,aA,kr,cp⟩|((repeat apply R7);exact⟨⟨U+1,ab,aA,kr,cp⟩,rfl⟩)
      case measure=>simp[intOf];omega
     ·have d1:((U:Int)==fr)=false:=by simpa using zQ
      by_cases CH:U=x
      ·have cp:ag (∀ (i:Nat) (m:List Nat) (z:Nat),i<U+1->W p (pre++(x::i::m))->(x::i::m).getLast?=some z->(z:Int)≠b):=next (λm z hw=>by
        exfalso
        subst CH;exact Rk HT.o dN (hw.n' pre.length U U ao ao))
       clear zQ next;subst CH;go_wp2;go_roundw
       case rel=>first|exact⟨U+1,ab,aA,kr,cp⟩|((repeat apply R7);exact⟨⟨U+1,ab,aA,kr,cp⟩,rfl⟩)
       case measure=>simp[intOf];omega
      ·have d2:((U:Int)==(x:Int))=false:=by simp;omega
       cases kZ:ky p x U
       ·have cp:ag (∀ (i:Nat) (m:List Nat) (z:Nat),i<U+1->W p (pre++(x::i::m))->(x::i::m).getLast?=some z->(z:Int)≠b):=next (λm z hw=>by
         exfalso
         have h1:=hw.n' pre.length x U ao ao;have h2:ky p x U=true:=by unfold ky;rcases h1 with h|h <;>simp[h]
         rw[h2]at kZ;cases kZ)
        have xp:=aa kZ;clear zQ CH next kZ;go_wp2_with fail
        refine(Gm A n c p x U _ (HX.o.keep kr) ab an).mono ?_;rintro e w2 ⟨rfl,k2⟩;have K2:=kr.call k2;rw[xp.o];go_wp2;go_roundw
        case rel=>first|exact⟨U+1,ab,aA,K2,cp⟩|((repeat apply R7);exact⟨⟨U+1,ab,aA,K2,cp⟩,rfl⟩)
        case measure=>simp[intOf];omega
       ·have xp:=aa kZ
        have hNr:ag (Nr p x U):=by
         unfold ky at kZ;simp at kZ;exact kZ
        have HJX:=aa CH;have HJF:=aa zQ;have KL:=aa next;clear zQ CH next kZ;go_wp2_with fail
        refine(Gm A n c p x U _ (HX.o.keep kr) ab an).mono ?_;rintro e w2 ⟨rfl,k2⟩;have K2:=kr.call k2;have e1:=k2.af e1;have e2:=k2.af e2;have e3:=k2.af e3;rw[xp.o]
        have fw:W p (pre++[x]++[U]):=HW.o.snoc ab hNr.o (λh=>by
         rcases Uue.o with ⟨h1,_⟩|⟨u,h1,h2⟩
         ·rw[h1]at h;cases h
         ·rw[h1]at h;cases h;exact HJF.o h2.symm)
        go_wp2_with fail
        refine(KK.o (pre++[x]) U x w2 (by simp;omega) fw (.inr ⟨x,ao,rfl⟩) (HX.o.keep K2) e1 e2 e3).mono ?_;rintro e w3 ⟨A3,c3,l,rfl,cT,k3,eK,xq⟩;rcases l with _|⟨Uuf,ls⟩
        ·obtain rfl:A3=none:=eK rfl
         have cp:ag (∀ (i:Nat) (m:List Nat) (z:Nat),i<U+1->W p (pre++(x::i::m))->(x::i::m).getLast?=some z->(z:Int)≠b):=KL.o (λm z hw hz=>by
          rcases xq with ⟨_,h⟩|⟨_,h,_⟩
          ·exact h m z (by simpa using hw) (by rwa [List.getLast?_cons_cons]at hz)
          ·cases h)
         have K3:=K2.call k3;clear xq cT eK;go_wp2;go_roundw
         case rel=>first|exact⟨U+1,ab,aA,K3,cp⟩|((repeat apply R7);exact⟨⟨U+1,ab,aA,K3,cp⟩,rfl⟩)
         case measure=>simp[intOf];omega
        ·have RI:ag (W p (pre++[x]++(Uuf::ls))/\∃ z:Nat,(Uuf::ls).getLast?=some z/\(z:Int)=b):=by
          rcases xq with ⟨h,_⟩|⟨h1,_,h2⟩
          ·cases h
          ·exact⟨h1,h2⟩
         have fL:(Uuf::ls).length<=6:=by have:=RI.o.1.len HT.o;simp at this⊢;omega
         obtain⟨rb,ro,rfl,_⟩:=cT.2.2.2.2 ao;have iA:=aa cT;have K3:=K2.call k3;clear xq cT eK;have hlz:ag (0<(Uuf::ls).length):=by unfold ag;simp
         generalize Uuf::ls=l at*;have bA:=BK w3 3 [.int .i64 (x:Int)] 1 1 rfl ak;have HN:ag (∀ i u,(cS (l.take l.length))[i]? =some u->(w3.alloc (.cells #[.int .i64 (x:Int)] 3)).cell? ((⟨rb,ro,none⟩:Addr).add i)=some u):=(iA.o.keep ((ad.refl w3).alloc _)).news l.length;have CE:ag ((cS (l.take l.length)).length=l.length*1):=by unfold ag;rw[qz,List.take_length,Nat.mul_one]
         go_wp2_with (at_builtin;refine wpList_append_own _ rfl _ _ 22 rfl w3.heap.size 3 i0 (.int .i64 0) 1 8 Tryz.underlying22 HI.o a7 aY aW rfl ak _ 1 [.int .i64 (x:Int)] rfl bA ⟨rb,ro,none⟩ l.length c3 (cS (l.take l.length)) rfl CE.o HN.o (Rz _) (by unfold maxLen;omega) ab (by first|omega|(simp;omega)|simp) ?_;intro v5 w5 Uub zN _;have K5:ad w3 w5:=ad.grown ((ad.refl w3).alloc _) zN (by intro g hg;have h9:some w3.heap.size=some g:=hg;injection h9 with h9;exact Nat.le_of_eq h9))
         go_ret
         have iY:w5.ownsRow w3.heap.size 3 1 v5 (x::l).length (cS (x::l)):=by
          have e:cS (x::l)=[.int .i64 (x:Int)]++cS (l.take l.length):=by rw[List.take_length];rfl
          rw[e,List.length_cons,Nat.add_comm];exact Uub
         obtain⟨A6,gu,rfl,h6⟩:=bo.bp iY;obtain⟨r1,z,r2,r3⟩:=RI.o;refine⟨A6,gu,x::l,rfl,h6,K3.call K5,(λh=>by cases h),.inr ⟨by simpa using r1,rfl,z,?_,r3⟩⟩
         cases l with
         |nil=>cases r2
         |cons Uuf ls=>rwa [List.getLast?_cons_cons]
    ·obtain rfl:U=n:=ab;go_wp2;go_ret;refine⟨none,0,[],rfl,⟨rfl,CP _,by unfold maxLen;omega,λ_=>⟨rfl,rfl⟩,λh=>absurd h (Nat.lt_irrefl _)⟩,kr,λ_=>rfl,.inl ⟨rfl,λm z hw hz=> ?_⟩⟩
     cases m with
     |nil=>
      simp at hz;rw[<- hz];exact zP.o
     |cons i m=>exact bW i m z (by have:=hw.lt (pre.length+1) i ao;omega) hw hz
end Go.Proofs.YtehaoggjlciobaaGreat

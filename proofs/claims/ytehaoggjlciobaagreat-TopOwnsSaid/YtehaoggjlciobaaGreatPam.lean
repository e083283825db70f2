/- Part 13 of 53. -/
import Derived.Test.YtehaoggjlciobaaGreatPal
set_option linter.all false
set_option maxRecDepth 20000
set_option maxHeartbeats 16000000
namespace Go.Proofs.YtehaoggjlciobaaGreat
open Go.RowKit
def qb0 (l:List Nat) (w:World) (e:Ending) (w':World):Prop:=∃ v,e= .returned v/\w'.ownsRow w.heap.size 3 1 v l.length (cS l)/\ad w w'
theorem qb1 (A:Option Addr) (n c:Nat) (p:List Int) (a:Int) (w:World) (hx:bo w A n c p):
  Calls Tryz.prog 138 #[.slice A n c,.int .i64 a] w (qb0 (fe p a) w):=by
 obtain⟨i0,hi,a7,aY,aW⟩:=ql0 oZ;have HI:=aa hi;clear hi;have HX:=aa hx;have hnn:n<=9223372036854775807:=by have h1:=hx.2.1;have h2:=hx.2.2.1;unfold maxLen at h2;omega
 clear hx;go_wp2;go_step3
 go_wp2_with fail
 refine(RT A n c p _ 1 1 [a] _ (HX.o.keep al) (qbY _ a w.heap.size (by go_simp))).mono ?_;rintro e w1 ⟨B,rfl,hB,k1⟩;have K1:ad w w1:=ad.call al k1;have HB:=aa hB;clear hB
 cases B
 ·have bW:ag (fe p a=[]):=by
   unfold ag fe;rw[if_neg (λh=>by have:=HB.o.2 ⟨h.1,(RU n a).2 (by rw[<- HX.o.1];exact h.2)⟩;cases this)]
  go_wp2
  (try rw[Exit.noGoto_ret])
  go_ret;exact⟨.slice none 0 0,rfl,by rw[bW.o];exact qcb _ _ _ _,K1⟩
 ·obtain⟨ht,c7⟩:=HB.o.1 ao;obtain⟨h0,h1⟩:=(RU n a).1 c7;obtain⟨y,rfl⟩:=Int.eq_ofNat_of_zero_le h0;have kW:y<n:=ab;have n6:n<=6:=by have:=((mZ p).1 ht).2.1;rw[HX.o.1]at this;exact this
  have lZ:ag (fe p (y:Int)=fc p y n):=by
   unfold ag fe;rw[if_pos ⟨ht,ab,by rw[HX.o.1];omega⟩,Int.toNat_natCast,HX.o.1]
  clear ht h0 h1 c7;go_wp2;go_step3
  go_wp2;go_loopw [5,14] (λov iv wr=>∃ (U l:Nat) (v:Value),ov=v/\U<=n/\iv= .int .i64 U/\(fc p y U).length=l/\wr.ownsRow w.heap.size 3 1 v l (cS (fc p y U))/\ad w wr) (λ_ iv _=>n-(intOf iv).toNat)
  case atStart=>exact⟨0,0,_,rfl,ab,rfl,rfl,qcb _ _ _ _,K1⟩
  case round=>
   obtain⟨U,l,v,rfl,hj,rfl,hl,ho,kr⟩:=hrel;have fG:l<=U:=by rw[<- hl];exact Ky p y U
   have HL:=aa hl;have HO:=aa ho;clear hl ho;by_cases an:U<n
   ·cases kZ:ky p y U
    ·have xp:=aa kZ;have gB:ag (fc p y (U+1)=fc p y U):=Rv kZ;clear kZ;go_wp2_with fail
     refine(Gm A n c p y U _ (HX.o.keep kr) kW an).mono ?_;rintro e w2 ⟨rfl,k2⟩;have K2:=kr.call k2;have dC:=aa (ad.own HO.o k2);rw[xp.o];go_wp2;go_roundw
     case rel=>exact⟨U+1,l,_,rfl,ab,aA,by rw[gB.o];exact HL.o,by rw[gB.o];exact dC.o,K2⟩
     case measure=>simp[intOf];omega
    ·have xp:=aa kZ;have na:ag (fc p y (U+1)=fc p y U++[U]):=Kx kZ;clear kZ;go_wp2_with fail
     refine(Gm A n c p y U _ (HX.o.keep kr) kW an).mono ?_;rintro e w2 ⟨rfl,k2⟩;have K2:=kr.call k2;have dC:=aa (ad.own HO.o k2);rw[xp.o];have lY:ag ((cS (fc p y U)).length=l*1):=by unfold ag;rw[qz,HL.o,Nat.mul_one]
     have hz:w.heap.size<=w2.heap.size:=K2.size;go_wp2_with (at_builtin;refine wpList_append_own _ rfl _ _ 22 rfl w.heap.size 3 i0 (.int .i64 0) 1 8 Tryz.underlying22 HI.o a7 aY aW rfl ak _ l _ rfl (dC.o.alloc _) ⟨w2.heap.size,0,none⟩ 1 1 [.int .i64 (U:Nat)] rfl rfl (cell_one_new _ _ _) (by simp[Value.oneCell']) (by unfold maxLen;omega) ab (by simp;omega) ?_;intro v3 w3 bE cD _;have kY:=dC.o.lt;have K3:ad w w3:=(K2.alloc _).grown cD (λg hg=>(kY g hg).1);rw[zG]at bE;have eR:=aa bE;clear bE)
     go_roundw
     case rel=>exact⟨U+1,l+1,_,rfl,ab,aA,by rw[na.o,qC,HL.o];rfl,by rw[na.o];exact eR.o,K3⟩
     case measure=>simp[intOf];omega
   ·obtain rfl:U=n:=ab;obtain⟨A2,c2,rfl⟩:=JT HO.o;go_wp2
    (try rw[Exit.noGoto_ret])
    go_ret;refine⟨_,rfl,?_,kr⟩;rw[lZ.o,HL.o];exact HO.o
theorem RX (A:Option Addr) (n c:Nat) (p:List Int) (a b:Int) (w:World) (hx:bo w A n c p):
  Calls Tryz.prog 202 #[.slice A n c,.int .i64 a,.int .i64 b] w (xk (pathOf p a b) w):=by
 have iS:∀ fn first cap w,(Instr.makeFunc fn first cap).run Tryz.prog w= .ok (.func fn first cap) w:=λ_ _ _ _=>rfl
 have hsf:∀ fn first cap a w,(store a (.func fn first cap)).run Tryz.prog w=stored Tryz.prog w a (.func fn first cap) .plain:=λ_ _ _ _ _=>run_store _ _ _ _ _ rfl
 have HX:=aa hx;clear hx;go_in;go_wp2_with fail
 refine(RT A n c p _ 2 2 [a,b] _ (HX.o.keep al) (qbZ _ a b (w.heap.size+1+1) (by go_simp) (by go_simp))).mono ?_;rintro e w1 ⟨B,rfl,hB,k1⟩;have K1:ad w w1:=ad.call al k1;have ff:w1.cell? ⟨w.heap.size,0,none⟩=some (.slice A n c):=k1.af (by go_simp);have KI:w1.cell? ⟨w.heap.size+1,0,none⟩=some (.int .i64 b):=k1.af (by go_simp);have HB:=aa hB;clear hB k1
 cases B
 ·have bW:ag (pathOf p a b=[]):=CC (λh=>by have:=HB.o.2 ⟨h.1,(RW n a b).2 (by rw[<- HX.o.1];exact h.2)⟩;cases this);go_wp2;go_ret;exact⟨none,0,by rw[bW.o];rfl,by rw[bW.o];exact⟨rfl,CP _,by unfold maxLen;omega,λ_=>⟨rfl,rfl⟩,λh=>absurd h (Nat.lt_irrefl _)⟩,K1⟩
 ·obtain⟨ht,c7⟩:=HB.o.1 ao;obtain⟨⟨h0,h1⟩,h2,h3⟩:=(RW n a b).1 c7;obtain⟨x,rfl⟩:=Int.eq_ofNat_of_zero_le h0;obtain⟨y,rfl⟩:=Int.eq_ofNat_of_zero_le h2;have pf:x<n:=ab;have kW:y<n:=ab
  have lZ:ag (pathOf p (x:Int) (y:Int)=wk p x y):=by
   unfold ag pathOf;rw[if_pos ⟨ht,⟨ab,by rw[HX.o.1];omega⟩,ab,by rw[HX.o.1];omega⟩,Int.toNat_natCast,Int.toNat_natCast]
  have HT:=aa ht;obtain⟨R,hT⟩:=ht;have HR:=aa hT;clear h0 h1 c7 h2 h3 hT;go_wp2_with fail
  refine(qbJ A n c p R HR.o w.heap.size (w.heap.size+1) w1.heap.size y _ rfl n [] x (-1) _ ao (W.one (by rw[HX.o.1];exact pf)) (.inl ⟨rfl,rfl⟩) (HX.o.keep al) (((ad.refl w1).alloc _).af ff) (((ad.refl w1).alloc _).af KI) (by go_simp)).mono ?_;rintro e w2 ⟨A3,c3,l,rfl,cT,k2,_,xq⟩;have K2:ad w w2:=ad.call al k2
  have hl:ag (wk p x y=l):=by
   have hs:=Kq HT.o (a:=x) (b:=y) (by rw[HX.o.1];exact pf) (by rw[HX.o.1];exact kW);rcases xq with ⟨_,bW⟩|⟨hw,hh,z,hz,rX⟩
   ·exfalso
    obtain⟨hw,hh,hz⟩:=hs
    cases KP:wk p x y with
    |nil=>rw[KP]at hh;cases hh
    |cons u m=>
     rw[KP]at hw hh hz;obtain rfl:u=x:=by simpa using hh
     exact bW m y (by simpa using hw) hz rfl
   ·obtain rfl:z=y:=ab;exact F9 HT.o hw ⟨hh,hz⟩
  have iA:=aa cT;clear cT xq k2;go_wp2;go_ret;exact⟨A3,c3,by rw[lZ.o,hl.o];rfl,by rw[lZ.o,hl.o];exact iA.o,K2⟩
theorem qb2:∀ U:Fin 6,∀ r:Fin 32,(r:Nat)<2 ^ (U:Nat)->bits .or .i64 ((r:Nat):Int) (wrap64 (2 ^ (U:Nat)))=(((r:Nat)+2 ^ (U:Nat):Nat):Int):=qck av
theorem qb3 (U r:Nat) (hj:U<6) (hr:r<2 ^ U):bits .or .i64 (r:Int) (wrap64 (2 ^ U))=((r+2 ^ U:Nat):Int):=by
 have h:2 ^ U<=2 ^ 5:=Nat.pow_le_pow_right ab ab;exact qb2 ⟨U,hj⟩ ⟨r,ab⟩ hr
theorem zS (A:Option Addr) (n c:Nat) (p:List Int) (a b:Int) (w:World) (hx:bo w A n c p):
  Calls Tryz.prog 136 #[.slice A n c,.int .i64 a,.int .i64 b] w λe w'=>e= .returned (.int .i64 (c9 p a b n:Nat))/\ad w w':=by
 by_cases ht:cH p
 ·have n6:n<=6:=by have:=((mZ p).1 ht).2.1;rw[hx.1]at this;exact this
  have HX:=aa hx;clear hx ht;go_wp2;go_loopw [7,12] (λnv iv wr=>∃ U:Nat,U<=n/\nv= .int .i64 (c9 p a b U:Nat)/\iv= .int .i64 U/\ad w wr) (λ_ iv _=>n-(intOf iv).toNat)
  case atStart=>exact⟨0,ab,rfl,rfl,al⟩
  case round=>
   obtain⟨U,hj,rfl,rfl,kr⟩:=hrel;by_cases an:U<n
   ·have l0:=Gl p a b U;have fN:2 ^ U<=2 ^ 6:=Nat.pow_le_pow_right ab ab;have jV:=aa l0;have dV:ag (c9 p a b (U+1)=c9 p a b U+if Uuc p a b U then 2 ^ U else 0):=rfl;have fH:ag (Uuc p a b U=((pathOf p a (U:Int))[1]? :Option Nat).any λx=>decide ((x:Int)=b)):=rfl;go_wp2_with fail
    refine(RX A n c p a U _ (HX.o.keep kr)).mono ?_;rintro e w2 ⟨B,tj,rfl,hB,k2⟩;have K2:=kr.call k2;have pe:=aa hB;have b1:=hB.2.1;have b2:=hB.2.2.1;unfold maxLen at b2;clear hB;rcases hl:pathOf p a (U:Int)with _|⟨z0,_|⟨z1,rest⟩⟩
    ·have hf:ag (c9 p a b (U+1)=c9 p a b U):=by unfold ag;rw[dV.o,fH.o,hl];rfl
     generalize c9 p a b U=r at*;go_wp2;go_roundw
     case rel=>first|exact⟨U+1,ab,by rw[hf.o],aA,K2⟩|((repeat apply R7);exact⟨⟨U+1,ab,by rw[hf.o],aA,K2⟩,rfl⟩)
     case measure=>simp[intOf];omega
    ·have hf:ag (c9 p a b (U+1)=c9 p a b U):=by unfold ag;rw[dV.o,fH.o,hl];rfl
     generalize c9 p a b U=r at*;go_wp2;go_roundw
     case rel=>first|exact⟨U+1,ab,by rw[hf.o],aA,K2⟩|((repeat apply R7);exact⟨⟨U+1,ab,by rw[hf.o],aA,K2⟩,rfl⟩)
     case measure=>simp[intOf];omega
    ·rw[hl]at b1;simp only[List.length_cons]at b1;have hlen:ag ((z0::z1::rest).length=rest.length+2):=rfl;obtain⟨jA,fO,rfl,CG⟩:=pe.o.2.2.2.2 (by rw[hl];simp);have c1:w2.cell? ⟨jA,fO+1,none⟩=some (.int .i64 z1):=by rw[CG 1 (by rw[hl];simp),hl];rfl
     clear CG;by_cases hb:(z1:Int)=b
     ·have hf:ag (c9 p a b (U+1)=c9 p a b U+2 ^ U):=by unfold ag;rw[dV.o,fH.o,hl];simp[hb]
      have d:((z1:Int)==b)=true:=by simpa using hb
      clear hb;go_wp2;have RY:=qb3 U (c9 p a b U) ab jV.o;go_roundw
      case rel=>first|exact⟨U+1,ab,by rw[hf.o,RY],aA,K2⟩|((repeat apply R7);exact⟨⟨U+1,ab,by rw[hf.o,RY],aA,K2⟩,rfl⟩)
      case measure=>simp[intOf];omega
     ·have hf:ag (c9 p a b (U+1)=c9 p a b U):=by unfold ag;rw[dV.o,fH.o,hl];simp[hb]
      have d:((z1:Int)==b)=false:=by simpa using hb
      clear hb;generalize c9 p a b U=r at*;go_wp2;go_roundw
      case rel=>first|exact⟨U+1,ab,by rw[hf.o],aA,K2⟩|((repeat apply R7);exact⟨⟨U+1,ab,by rw[hf.o],aA,K2⟩,rfl⟩)
      case measure=>simp[intOf];omega
   ·obtain rfl:U=n:=ab;go_wp2;go_ret;exact⟨rfl,kr⟩
 ·have hn:n<=9223372036854775807:=by have h1:=hx.2.1;have h2:=hx.2.2.1;unfold maxLen at h2;omega
  have HX:=aa hx;have HS:ag (∀ U,c9 p a b U=0):=KH ht a b;have HE:ag (∀ x:Int,pathOf p a x=[]):=λx=>CC (λh=>ht h.1);clear hx ht;go_wp2;go_loopw [7,12] (λnv iv wr=>∃ U:Nat,U<=n/\nv= .int .i64 0/\iv= .int .i64 U/\ad w wr) (λ_ iv _=>n-(intOf iv).toNat)
  case atStart=>exact⟨0,ab,rfl,rfl,al⟩
  case round=>
   obtain⟨U,hj,rfl,rfl,kr⟩:=hrel;by_cases an:U<n
   ·go_wp2_with fail
    refine(RX A n c p a U _ (HX.o.keep kr)).mono ?_;rintro e w2 ⟨B,tj,rfl,_,k2⟩;have K2:=kr.call k2;rw[HE.o];go_wp2;go_roundw
    case rel=>first|exact⟨U+1,ab,rfl,aA,K2⟩|((repeat apply R7);exact⟨⟨U+1,ab,rfl,aA,K2⟩,rfl⟩)
    case measure=>simp[intOf];omega
   ·obtain rfl:U=n:=ab;go_wp2;go_ret;exact⟨by rw[HS.o];rfl,kr⟩
structure eA (es:List Nat) (os ps:List Int) (n:Nat):Prop where
 fit:Fit es os n
 tree:cH ps
theorem zT (A B C:Option Addr) (n1 c1 n2 c2 n3 c3:Nat) (es:List Nat) (os ps:List Int) (w:World) (hr:fY w A n1 c1 B n2 c2 C n3 c3 (bw es) os ps) (hf:eA es os ps n3):
  Calls Tryz.prog 22 #[.agg #[.slice A n1 c1,.slice B n2 c2,.slice C n3 c3]] w λe w'=>e= .returned (.bool true)/\ad w w':=by
 have HR:=aa hr;have HF:=aa hf;clear hr hf;go_in;go_wp2_with fail
 refine(JU A B C n1 c1 n2 c2 n3 c3 es os ps _ (HR.o.keep al) HF.o.fit).mono ?_;rintro e w1 ⟨rfl,k1⟩;have K1:ad w w1:=ad.call al k1;have x2:w1.cell? ⟨w.heap.size,2,none⟩=some (.slice C n3 c3):=k1.af (by go_simp);go_wp2_with fail
 refine(RR C n3 c3 ps _ (HR.o.ps.keep K1)).mono ?_;rintro e w2 ⟨D,rfl,hB,k2⟩;obtain rfl:D=true:=hB.2 HF.o.tree;clear hB;go_wp2;go_ret;exact⟨rfl,K1.call k2⟩
noncomputable def nh (ps:List Int) (n:Nat) (a f o:Int) (s:Nat):Bool:=(((s:Nat):Int)==f)||(bits .and .i64 (c9 ps a s n:Nat) o==0)
structure rZ (w:World) (F C AT OW:Nat) (Cv:Option Addr) (n3 c3:Nat) (a f o:Int) (ps:List Int):Prop where
 KQ:w.cell? ⟨F,0,none⟩=some (.int .i64 f)
 KR:w.cell? ⟨C,2,none⟩=some (.slice Cv n3 c3)
 KS:w.cell? ⟨AT,0,none⟩=some (.int .i64 a)
 xu:w.cell? ⟨OW,0,none⟩=some (.int .i64 o)
 ps:bo w Cv n3 c3 ps
theorem rZ.keep {w w2:World} {F C AT OW:Nat} {Cv:Option Addr} {n3 c3:Nat} {a f o:Int} {ps:List Int} (h:rZ w F C AT OW Cv n3 c3 a f o ps) (hk:ad w w2):rZ w2 F C AT OW Cv n3 c3 a f o ps:=
 ⟨hk.af h.KQ,hk.af h.KR,hk.af h.KS,hk.af h.xu,h.ps.keep hk⟩
theorem RZ (F C AT OW:Nat) (Cv:Option Addr) (n3 c3:Nat) (a f o:Int) (ps:List Int) (s:Nat) (w:World) (hc:rZ w F C AT OW Cv n3 c3 a f o ps):
  Calls Tryz.prog 135 #[.int .i64 s,.pointer (some ⟨F,0,none⟩),.pointer (some ⟨C,0,none⟩),.pointer (some ⟨AT,0,none⟩),.pointer (some ⟨OW,0,none⟩)] w λe w'=>e= .returned (.bool (nh ps n3 a f o s))/\ad w w':=by
 have HC:=aa hc;obtain⟨KQ,KR,KS,xu,b'⟩:=hc;have bX:=aa b';clear b';have hd:ag (nh ps n3 a f o s=((((s:Nat):Int)==f)||(bits .and .i64 (c9 ps a s n3:Nat) o==0))):=rfl
 cases h1:(((s:Nat):Int)==f)
 ·rw[h1]at hd
  cases h2:(bits .and .i64 (c9 ps a s n3:Nat) o==0)
  ·rw[h2]at hd;go_wp2;refine bz (λwB=>ad w wB/\wB.cell? ⟨F,0,none⟩=some (.int .i64 f)/\wB.cell? ⟨C,2,none⟩=some (.slice Cv n3 c3)/\wB.cell? ⟨AT,0,none⟩=some (.int .i64 a)/\wB.cell? ⟨OW,0,none⟩=some (.int .i64 o)) λwB SS=> ?_;obtain⟨au,aB,aC,aF,aX⟩:=SS.o _ (ad.refl _);repeat(first|(apply DW.ct;(focus (intro wd hI;obtain⟨ae,ai,aj,aq,az⟩:=SS.o wd hI;go_wp2_with (first|(go_at_call 136;refine(zS Cv n3 c3 ps a s _ (bX.o.keep (au.call hI))).mono ?_;rintro e w6 ⟨rfl,cL⟩));exact aP));refine DW.np ?_)|(refine DW.bt av ?_;intro wd hI;obtain⟨ae,ai,aj,aq,az⟩:=SS.o wd hI;go_wp2_with (first|(go_at_call 136;refine(zS Cv n3 c3 ps a s _ (bX.o.keep (au.call hI))).mono ?_;rintro e w6 ⟨rfl,cL⟩));refine cu hI SS (λbf SS=> ?_) rfl;obtain⟨au,aB,aC,aF,aX⟩:=SS.o _ (ad.refl _)))
   refine DW.nl SS ?_;rintro wd hI ⟨ae,ai,aj,aq,az⟩;go_wp2;go_ret;exact⟨by rw[hd.o];rfl,ae⟩
  ·rw[h2]at hd;go_wp2;refine bz (λwB=>ad w wB/\wB.cell? ⟨F,0,none⟩=some (.int .i64 f)/\wB.cell? ⟨C,2,none⟩=some (.slice Cv n3 c3)/\wB.cell? ⟨AT,0,none⟩=some (.int .i64 a)/\wB.cell? ⟨OW,0,none⟩=some (.int .i64 o)) λwB SS=> ?_;obtain⟨au,aB,aC,aF,aX⟩:=SS.o _ (ad.refl _);repeat(first|(apply DW.ct;(focus (intro wd hI;obtain⟨ae,ai,aj,aq,az⟩:=SS.o wd hI;go_wp2_with (first|(go_at_call 136;refine(zS Cv n3 c3 ps a s _ (bX.o.keep (au.call hI))).mono ?_;rintro e w6 ⟨rfl,cL⟩));exact aP));refine DW.np ?_)|(refine DW.bt av ?_;intro wd hI;obtain⟨ae,ai,aj,aq,az⟩:=SS.o wd hI;go_wp2_with (first|(go_at_call 136;refine(zS Cv n3 c3 ps a s _ (bX.o.keep (au.call hI))).mono ?_;rintro e w6 ⟨rfl,cL⟩));refine cu hI SS (λbf SS=> ?_) rfl;obtain⟨au,aB,aC,aF,aX⟩:=SS.o _ (ad.refl _)))
   refine DW.nl SS ?_;rintro wd hI ⟨ae,ai,aj,aq,az⟩;go_wp2;go_ret;exact⟨by rw[hd.o];rfl,ae⟩
 ·rw[h1]at hd;go_wp2;refine bz (λwB=>ad w wB/\wB.cell? ⟨F,0,none⟩=some (.int .i64 f)/\wB.cell? ⟨C,2,none⟩=some (.slice Cv n3 c3)/\wB.cell? ⟨AT,0,none⟩=some (.int .i64 a)/\wB.cell? ⟨OW,0,none⟩=some (.int .i64 o)) λwB SS=> ?_;obtain⟨au,aB,aC,aF,aX⟩:=SS.o _ (ad.refl _);repeat(first|(apply DW.ct;(focus (intro wd hI;obtain⟨ae,ai,aj,aq,az⟩:=SS.o wd hI;go_wp2_with (first|(go_at_call 136;refine(zS Cv n3 c3 ps a s _ (bX.o.keep (au.call hI))).mono ?_;rintro e w6 ⟨rfl,cL⟩));exact aP));refine DW.np ?_)|(refine DW.bt av ?_;intro wd hI;obtain⟨ae,ai,aj,aq,az⟩:=SS.o wd hI;go_wp2_with (first|(go_at_call 136;refine(zS Cv n3 c3 ps a s _ (bX.o.keep (au.call hI))).mono ?_;rintro e w6 ⟨rfl,cL⟩));refine cu hI SS (λbf SS=> ?_) rfl;obtain⟨au,aB,aC,aF,aX⟩:=SS.o _ (ad.refl _)))
  refine DW.nl SS ?_;rintro wd hI ⟨ae,ai,aj,aq,az⟩;go_wp2;go_ret;exact⟨by rw[hd.o];rfl,ae⟩
def qb4 (D:Nat->Bool) (l:List Nat) (r:Int):Prop:=(r= -1/\∀ i x:Nat,l[i]? =some x->D x=false)∨∃ i x:Nat,r=i/\l[i]? =some x/\D x=true/\∀ U y:Nat,U<i->l[U]? =some y->D y=false
theorem qb5 (F C AT OW:Nat) (Cv:Option Addr) (n3 c3:Nat) (a f o:Int) (ps:List Int) (B:Option Addr) (m d:Nat) (l:List Nat) (w:World) (hc:rZ w F C AT OW Cv n3 c3 a f o ps) (hx:bo w B m d (ints l)):
  Calls Tryz.prog 203 #[.slice B m d,.func (.func 135) #[] #[.pointer (some ⟨F,0,none⟩),.pointer (some ⟨C,0,none⟩),.pointer (some ⟨AT,0,none⟩),.pointer (some ⟨OW,0,none⟩)]] w λe w'=>∃ r:Int,e= .returned (.int .i64 r)/\qb4 (nh ps n3 a f o) l r/\ad w w':=by
 have hm:m<=d/\d<=9223372036854775807:=by have h1:=hx.2.1;have h2:=hx.2.2.1;unfold maxLen at h2;omega
 have hl:l.length=m:=by have:=hx.1;simpa [ints]using this
 have HL:=aa hl;have HX:=aa hx;have HC:=aa hc;clear hx hc hl;go_wp2;go_loopw [8] (λiv wr=>∃ U:Nat,U<=m/\iv= .int .i64 U/\ad w wr/\ag (∀ i x,i<U->l[i]? =some x->nh ps n3 a f o x=false)) (λiv _=>m-(intOf iv).toNat)
 case atStart=>exact⟨0,ab,rfl,al,λi x hi=>ab⟩
 case round=>
  obtain⟨U,hj,rfl,kr,b8⟩:=hrel;by_cases an:U<m
  ·obtain⟨x,hx⟩:∃ x,l[U]? =some x:=⟨_,jc (by rw[HL.o];exact an)⟩;obtain⟨b,off,rfl,fE⟩:=HX.o.2.2.2.2 ab;have c1:wr.cell? ⟨b,off+U,none⟩=some (.int .i64 (x:Nat)):=by rw[kr.af (fE U an),CD hx]
   have CM:=aa hx;clear fE hx;go_wp2_with fail
   refine(RZ F C AT OW Cv n3 c3 a f o ps x wr (HC.o.keep kr)).mono ?_;rintro e w2 ⟨rfl,k2⟩;have K2:=kr.call k2
   cases hv:nh ps n3 a f o x
   ·have hn:ag (∀ i x,i<U+1->l[i]? =some x->nh ps n3 a f o x=false):=λi y hi hy=>by
     rcases R6 i U with g|g
     ·exact b8.o i y g hy
     ·obtain rfl:i=U:=ab;rw[CM.o]at hy;obtain rfl:=Option.some.inj hy;exact hv
    clear hv;go_wp2;go_roundw
    case rel=>first|exact⟨U+1,ab,aA,K2,hn⟩|((repeat apply R7);exact⟨⟨U+1,ab,aA,K2,hn⟩,rfl⟩)
    case measure=>simp[intOf];omega
   ·have HV:=aa hv;clear hv;go_wp2;go_ret;exact⟨U,rfl,.inr ⟨U,x,rfl,CM.o,HV.o,b8.o⟩,K2⟩
  ·obtain rfl:U=m:=ab;go_wp2;go_ret;exact⟨-1,rfl,.inl ⟨rfl,λi x hx=>b8.o i x (by have:=(bg hx);have:=HL.o;omega) hx⟩,kr⟩
theorem rZ.below {w w2:World} {F C AT OW:Nat} {Cv:Option Addr} {n3 c3:Nat} {a f o:Int} {ps:List Int} {B:Nat} (h:rZ w F C AT OW Cv n3 c3 a f o ps) (hk:Below B w w2) (h1:F<B/\C<B/\AT<B/\OW<B) (h2:∀ b off,Cv=some ⟨b,off,none⟩->b<B):rZ w2 F C AT OW Cv n3 c3 a f o ps:=by
 refine⟨by rw[hk.cell (p:=⟨F,0,none⟩) h1.1];exact h.KQ,by rw[hk.cell (p:=⟨C,2,none⟩) h1.2.1];exact h.KR,by rw[hk.cell (p:=⟨AT,0,none⟩) h1.2.2.1];exact h.KS,by rw[hk.cell (p:=⟨OW,0,none⟩) h1.2.2.2];exact h.xu,?_⟩;obtain⟨p1,p2,p3,p4,p5⟩:=h.ps;refine⟨p1,p2,p3,p4,λh0=> ?_⟩;obtain⟨b,off,e,hc⟩:=p5 h0;exact⟨b,off,e,λi hi=>by rw[hk.cell (p:=⟨b,off+i,none⟩) (h2 b off e)];exact hc i hi⟩
def k7 (D:Nat->Bool) (l:List Nat):List Nat:=l.filter λx=> !D x
theorem below_setCells {B g:Nat} {w:World} (hg:B<=g):∀ (vs:List Value) (o:Nat) (w':World),Below B w w'->Below B w (w'.setCells g o vs)
 |[],_,_,h=>h
 |v::r,o,w',h=>below_setCells hg r (o+1) _ (h.setCell hg v)
theorem ad.qb6 {w w1 w2:World} {B:Nat} (h:ad w w1) (k:Below B w1 w2) (hB:w.heap.size<=B):ad w w2:=Below.trans h (Below.mono k hB)
structure DS (D:Nat->Bool) (l:List Nat) (U i:Nat) (cur:List Nat):Prop where
 len:cur.length=l.length
 lt:i<U
 le:U<=l.length
 done:cur.take i=k7 D (l.take U)
 rest:∀ t,U<=t->cur[t]? =l[t]?
theorem DS.start {D:Nat->Bool} {l:List Nat} {i x:Nat} (hx:l[i]? =some x) (hd:D x=true) (hn:∀ U y:Nat,U<i->l[U]? =some y->D y=false):DS D l (i+1) i l:=by
 have an:=(bg hx);refine⟨rfl,ab,an,?_,λ_ _=>rfl⟩;rw[QI an,(pi.1 hx).2];unfold k7;rw[List.filter_append];simp only[List.filter_cons,hd,Bool.not_true,Bool.false_eq_true,if_false,List.filter_nil,List.append_nil];refine(List.filter_eq_self.2 λy hy=> ?_).symm;obtain⟨U,hj⟩:=List.getElem?_of_mem hy
 have fD:U<i:=by
  have:=(bg hj);rw[qcd]at this;omega
 rw[qlY fD]at hj;rw[hn U y fD hj];rfl
theorem DS.skip {D:Nat->Bool} {l cur:List Nat} {U i x:Nat} (h:DS D l U i cur) (hx:l[U]? =some x) (hd:D x=true):DS D l (U+1) i cur:=by
 have an:=(bg hx);refine⟨h.len,by have:=h.lt;omega,an,?_,λt ht=>h.rest t ab⟩;rw[QI an,(pi.1 hx).2,h.done];unfold k7;simp[hd]
theorem DS.put {D:Nat->Bool} {l cur:List Nat} {U i x:Nat} (h:DS D l U i cur) (hx:l[U]? =some x) (hd:D x=false):DS D l (U+1) (i+1) (cur.set i x):=by
 have an:=(bg hx);have hl:=h.len;have h1:=h.lt;refine⟨by simp[hl],ab,an,?_,λt ht=>by rw[List.getElem?_set_ne ab];exact h.rest t ab⟩;have hi:i<(cur.set i x).length:=by simp;omega
 rw[QI hi,QI an,(pi.1 hx).2];simp only[List.getElem_set_self];rw[List.take_set_of_le (CP i),h.done];unfold k7;simp[hd]
theorem qb7 (l:List Nat) (i x:Nat):cS (l.set i x)=(cS l).set i (.int .i64 (x:Nat)):=by simp[cS,List.map_set]
def tk (w:World) (A:Option Addr):Prop:=∀ p,A=some p->∃ b off cur,p=⟨b,off,none⟩/\w.heap[b]? =some (.cells cur 3 (0,0))
theorem tk.kept {w w2:World} {A:Option Addr} (h:tk w A) (k:ad w w2):tk w2 A:=λp hp=>by
 obtain⟨b,off,cur,e,hb⟩:=h p hp;exact⟨b,off,cur,e,k.heap hb⟩
theorem tk.own {w:World} {base k n m c:Nat} {A:Option Addr} {xs:List Value} (h:w.ownsRow base 3 k (.slice A m c) n xs):tk w A:=λp hp=>by
 subst hp;rcases h.2 with ⟨e,_⟩|⟨g',cap,cur,e,_,hh,_⟩
 ·cases e
 ·cases e;exact⟨g',0,cur,rfl,hh⟩
theorem R1 {g:Nat} {e:TypeId}:∀ (vs:List Value) (o:Nat) (w:World) (cur:Array Value),w.heap[g]? =some (.cells cur e (0,0))->∃ eX:Array Value,(w.setCells g o vs).heap[g]? =some (.cells eX e (0,0))
 |[],_,_,cur,h=>⟨cur,h⟩
 |v::r,o,w,cur,h=>R1 r (o+1) (w.setCell ⟨g,o,none⟩ v) (cur.setIfInBounds o v) (Ok w g o cur e v h)
theorem qb8 (F C AT OW:Nat) (Cv:Option Addr) (n3 c3:Nat) (a f o:Int) (ps:List Int) (base:Nat) (v:Value) (m:Nat) (l:List Nat) (w:World) (hc:rZ w F C AT OW Cv n3 c3 a f o ps) (h1:F<base/\C<base/\AT<base/\OW<base) (h2:∀ b off,Cv=some ⟨b,off,none⟩->b<base) (hb:base<=w.heap.size) (ho:w.ownsRow base 3 1 v m (cS l)):
  Calls Tryz.prog 137 #[v,.func (.func 135) #[] #[.pointer (some ⟨F,0,none⟩),.pointer (some ⟨C,0,none⟩),.pointer (some ⟨AT,0,none⟩),.pointer (some ⟨OW,0,none⟩)]] w λe w'=>∃ A2 c2,e= .returned (.slice A2 (k7 (nh ps n3 a f o) l).length c2)/\bo w' A2 (k7 (nh ps n3 a f o) l).length c2 (ints (k7 (nh ps n3 a f o) l))/\Below base w w'/\(∀ b off,A2=some ⟨b,off,none⟩->base<=b)/\tk w' A2:=by
 obtain⟨A,c,rfl,cT⟩:=bo.bp ho;have Cd:l.length=m:=by have:=ho.1;rw[qz]at this;omega
 have Uue:ag (∀ b off,A=some ⟨b,off,none⟩->base<=b):=λb off e=>(ho.lt b (by rw[e];rfl)).1;have HL:=aa Cd;have HC:=aa hc;have HO:=aa ho;have iA:=aa cT;have H2:=aa h2;have hmc:m<=c/\c<=9223372036854775807:=by have h1:=cT.2.1;have h2:=cT.2.2.1;unfold maxLen at h2;omega
 generalize ja:nh ps n3 a f o=D at*;have HD:=aa ja;clear hc ho cT h2 Cd ja;go_in;go_wp2_with fail
 refine(qb5 F C AT OW Cv n3 c3 a f o ps A m c l _ (HC.o.keep al) (iA.o.keep al)).mono ?_;rintro e w1 ⟨r,rfl,hr,k1⟩;rw[HD.o]at hr;have K1:ad w w1:=ad.call al k1;rcases hr with ⟨rfl,hr⟩|⟨i0,x0,rfl,iu,kq,hr⟩
 ·have b8:ag (k7 D l=l):=by
   unfold ag k7;refine List.filter_eq_self.2 λx hx=> ?_;obtain⟨i,hi⟩:=List.getElem?_of_mem hx;rw[hr i x hi];try rfl
  clear hr;go_wp2;go_ret;exact⟨A,c,by rw[b8.o,HL.o];rfl,by rw[b8.o,HL.o];exact iA.o.keep K1,Below.mono K1 hb,Uue.o,(tk.own HO.o).kept K1⟩
 ·have Cc:i0<m:=by have:=(bg iu);have:=HL.o;omega
  obtain⟨g,lQ,fJ,o7,dm⟩:=uK HO.o ab
  cases fJ
  have uR:((i0:Int)== -1)=false:=by first|(simp;done)|(simp;omega)
  go_wp2;have dM:ag (DS D l (i0+1) i0 l):=DS.start iu kq hr;clear hr iu kq;go_loopw [5,6] (λiv jv wr=>∃ (U i:Nat) (cur:List Nat),U<=m/\i<U/\iv= .int .i64 i/\jv= .int .i64 U/\ag (DS D l U i cur)/\ag (wr.ownsRow base 3 1 (.slice (some ⟨g,0,none⟩) m c) m (cS cur))/\Below base w wr/\g<wr.heap.size/\base<=wr.heap.size) (λ_ jv _=>m-(intOf jv).toNat)
  case atStart=>exact⟨i0+1,i0,l,ab,ab,rfl,aA,dM,ad.own HO.o K1,Below.mono K1 hb,by have:=K1.size;omega,by have:=K1.size;omega⟩
  case round=>
   obtain⟨U,i,cur,hj,fV,rfl,rfl,dM,ho,kb,hZ,dZ⟩:=hrel;by_cases an:U<m
   ·obtain⟨x,hx⟩:∃ x,l[U]? =some x:=⟨_,jc (by rw[HL.o];exact an)⟩;have zU:cur[U]? =some x:=by rw[dM.o.rest U (CP _)];exact hx
    have bl:cur.length=m:=by rw[dM.o.len,HL.o]
    have c1:wr.cell? ⟨g,U,none⟩=some (.int .i64 (x:Nat)):=by
     rw[ho.o.cellAt U ab];simp[cS,zU]
    obtain⟨u,hu⟩:∃ u,wr.cell? ⟨g,i,none⟩=some u:=⟨_,(ho.o.cellAt i ab).trans (jc (by rw[qz];omega))⟩;have hf:=ho.o.frozenAt i;have CM:=aa hx;have wQ:=aa (HC.o.below kb h1 H2.o);clear hx zU bl;go_wp2_with fail
    refine(RZ F C AT OW Cv n3 c3 a f o ps x wr wQ.o).mono ?_;rintro e w2 ⟨rfl,k2⟩;rw[HD.o];have mP:Below base w w2:=kb.trans (Below.mono k2 dZ);have hu:=k2.af hu;have c1:=k2.af c1;have eG:w2.frozen? ⟨g,i,none⟩=false:=by rw[k2.frozen g i hZ];exact hf
    have dA:=aa (ad.own ho.o k2);have aW:=k2.size
    cases hv:D x
    ·have tl:=aa (dM.o.put CM.o hv)
     have rW:ag ((w2.setCell ⟨g,i,none⟩ (.int .i64 (x:Nat))).ownsRow base 3 1 (.slice (some ⟨g,0,none⟩) m c) m (cS (cur.set i x))):=by
      rw[qb7];exact(dA.o.stored i (.int .i64 (x:Nat))).1
     clear hv;go_wp2;go_roundw
     case rel=>first|exact⟨U+1,i+1,cur.set i x,ab,ab,aA,aA,tl,rW,mP.setCell (by simp;omega) _,by simp[World.setCell];omega,by simp[World.setCell];omega⟩|((repeat apply R7);exact⟨⟨U+1,i+1,cur.set i x,ab,ab,aA,aA,tl,rW,mP.setCell (by simp;omega) _,by simp[World.setCell];omega,by simp[World.setCell];omega⟩,rfl⟩)
     case measure=>simp[intOf];omega
    ·have tl:=aa (dM.o.skip CM.o hv);clear hv;go_wp2;go_roundw
     case rel=>first|exact⟨U+1,i,cur,ab,ab,rfl,aA,tl,dA,mP,ab,ab⟩|((repeat apply R7);exact⟨⟨U+1,i,cur,ab,ab,rfl,aA,tl,dA,mP,ab,ab⟩,rfl⟩)
     case measure=>simp[intOf];omega
   ·obtain rfl:U=m:=ab;have bl:cur.length=U:=by rw[dM.o.len,HL.o]
    have bL:∀ (w':World),w'=wr->∀ ty,(Builtin.clear_ #[22] ty #[.slice (some ⟨g,i,none⟩) (U-i) (c-i)]).run Tryz.prog w'= .ok (.tuple #[]) (w'.setCells g i (List.replicate (U-i) (.int .i64 0))):=λw' xj ty=>by
     subst xj;refine Lib.run_clear_slice w' 22 3 ty (.int .i64 0) Tryz.underlying22 (λw=>av) rfl rfl g i (U-i) (c-i) ab (λt ht=> ?_) (λt ht=>ho.o.frozenAt (i+t));rw[ho.o.cellAt (i+t) ab,jc (by rw[qz];omega)];rfl
    have zp:=bL wr rfl;clear bL;go_wp2
    have iQ:(k7 D l).length=i:=by
     have h:=congrArg List.length dM.o.done;rw[qcd,qcc (by rw[HL.o];exact CP _)]at h;omega
    have Gd:cur.take i=k7 D l:=by rw[dM.o.done,qcc (by rw[HL.o];exact CP _)]
    go_ret;refine⟨some ⟨g,0,none⟩,c,by rw[iQ];rfl,?_,below_setCells o7 _ _ _ kb,λb off e=>by cases e;exact o7,λp hp=> ?_⟩;rotate_left
    ·rcases ho.o.2 with ⟨e,_⟩|⟨g',cap,qb9,e,_,hh,_⟩
     ·cases e
     ·cases e
      obtain⟨jb,h2⟩:=R1 (List.replicate (U-i) (.int .i64 0)) i wr qb9 hh;exact⟨g,0,jb,by cases hp;rfl,h2⟩
    rw[iQ];refine⟨by simp[ints,iQ],ab,by have:=iA.o.2.2.1;exact this,(λh=>by cases h),λ_=>⟨g,0,rfl,λt ht=> ?_⟩⟩;rw[Nat.zero_add,World.cell?_setCells_out g _ i _ _ (λ_ _=> .inl ht),ho.o.cellAt t ab];have CN:cur[t]? =some (cur[t]'(by omega)):=jc ab;have hkt:(k7 D l)[t]? =some (cur[t]'(by omega)):=by rw[<- Gd,qlY ht];exact CN
    simp[cS,ints,CN,hkt]
def KT (l:List Nat) (w:World) (e:Ending) (w':World):Prop:=∃ A c,e= .returned (.slice A l.length c)/\bo w' A l.length c (ints l)/\(∀ b off,A=some ⟨b,off,none⟩->w.heap.size<=b)/\ad w w'
theorem KT.is {l:List Nat} {w w':World} {e:Ending} (h:KT l w e w'):xk l w e w':=by
 obtain⟨A,c,h1,h2,_,h4⟩:=h;exact⟨A,c,h1,h2,h4⟩
theorem qb' (A B C:Option Addr) (n1 c1 n2 c2 n3 c3:Nat) (es:List Nat) (os ps:List Int) (a f:Int) (k:ByteArray) (w:World) (hr:fY w A n1 c1 B n2 c2 C n3 c3 (bw es) os ps) (hf:eA es os ps n3):
  Calls Tryz.prog 83 #[.agg #[.slice A n1 c1,.slice B n2 c2,.slice C n3 c3],.int .i64 a,.int .i64 f,.string k] w (λe w'=>KT (k7 (nh ps n3 a f (oa os (bV es (hv k)))) (fe ps a)) w e w'/\∀ A2 n c,e= .returned (.slice A2 n c)->tk w' A2):=by
 have iS:∀ fn first cap w,(Instr.makeFunc fn first cap).run Tryz.prog w= .ok (.func fn first cap) w:=λ_ _ _ _=>rfl
 have HR:=aa hr;have HF:=aa hf
 have CO:ag (∀ b off,C=some ⟨b,off,none⟩->b<w.heap.size):=λb off e=>by
  have h1:=hf.fit.one;obtain⟨b2,gA,e2,hc⟩:=hr.ps.2.2.2.2 ab;rw[e]at e2
  cases e2
  exact Aa w _ (hc 0 ab)
 obtain⟨o,ho⟩:∃ o,oa os (bV es (hv k))=o:=⟨_,rfl⟩;have HOO:=aa ho;rw[ho];clear hr hf ho;go_in;go_wp2_with fail
 refine(zT A B C n1 c1 n2 c2 n3 c3 es os ps _ (HR.o.keep al) HF.o).mono ?_;rintro e w1 ⟨rfl,k1⟩;have K1:ad w w1:=ad.call al k1;have x0:w1.cell? ⟨w.heap.size,0,none⟩=some (.slice A n1 c1):=k1.af (by go_simp);have x1:w1.cell? ⟨w.heap.size,1,none⟩=some (.slice B n2 c2):=k1.af (by go_simp);have x2:w1.cell? ⟨w.heap.size,2,none⟩=some (.slice C n3 c3):=k1.af (by go_simp);have xa:w1.cell? ⟨w.heap.size+1,0,none⟩=some (.int .i64 a):=k1.af (by go_simp);have Gs:w1.cell? ⟨w.heap.size+1+1,0,none⟩=some (.int .i64 f):=k1.af (by go_simp);go_wp2_with fail
 refine(JV A B C n1 c1 n2 c2 n3 c3 es os ps k _ (HR.o.keep K1) HF.o.fit).mono ?_;rintro e w2 ⟨rfl,k2⟩;rw[HOO.o];have K2:=K1.call k2;have x2:=k2.af x2;have xa:=k2.af xa;have Gs:=k2.af Gs;have an:w.heap.size+1+1<w2.heap.size:=Aa w2 _ Gs;have ng:w.heap.size<w2.heap.size:=ab;have Cq:w.heap.size+1<w2.heap.size:=ab;go_wp2_with fail
 refine(qb1 C n3 c3 ps a _ (HR.o.ps.keep al)).mono ?_;rintro e w3 ⟨v,rfl,cE,k3⟩;have K3:ad w w3:=ad.call al k3;have R2:w3.cell? ⟨w2.heap.size,0,none⟩=some (.int .i64 o):=k3.af (by go_simp);have KU:ad w2 w3:=ad.call al k3;have HV:=aa cE;have mS:=k3.size;simp only[World.size_alloc]at mS;have qca:ag (rZ w3 (w.heap.size+1+1) w.heap.size (w.heap.size+1) w2.heap.size C n3 c3 a f o ps):=⟨KU.af Gs,KU.af x2,KU.af xa,R2,HR.o.ps.keep K3⟩;obtain⟨A9,lQ,rfl⟩:=JT cE;clear cE;go_wp2_with fail
 refine(qb8 (w.heap.size+1+1) w.heap.size (w.heap.size+1) w2.heap.size C n3 c3 a f o ps (w2.heap.size+1) _ _ (fe ps a) _ qca.o ⟨ab,ab,ab,ab⟩ (λb off e=>by have:=CO.o b off e;omega) ab (by have:=HV.o;simp only[World.size_alloc]at this;exact this)).mono ?_;rintro e w4 ⟨A2,c4,rfl,cT,kb,cG,R3⟩;have HTY:=aa R3;have iA:=aa cT;have Uue:ag (∀ b off,A2=some ⟨b,off,none⟩->w.heap.size<=b):=λb off e=>by have:=cG b off e;omega
 clear cG R3;have K4:ad w w4:=K3.qb6 kb ab;clear cT;go_wp2;go_ret;exact⟨⟨A2,c4,rfl,iA.o,Uue.o,K4⟩,λA3 n3 c3 e=>by cases e;exact HTY.o⟩
end Go.Proofs.YtehaoggjlciobaaGreat

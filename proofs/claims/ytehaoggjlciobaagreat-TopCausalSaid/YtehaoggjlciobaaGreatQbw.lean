/- Part 38 of 40. -/
import Derived.Test.YtehaoggjlciobaaGreatQbg
import Derived.BigQuiet
import Derived.Deep.CutBlock
import Derived.Deep.DeepCutAuto
set_option linter.all false
set_option maxRecDepth 20000
set_option maxHeartbeats 16000000
namespace Go.Proofs.YtehaoggjlciobaaGreat
open Go.RowKit Go.Proofs.Tryz
variable {p:Prop}
theorem rlast (v:Value) (L:List nK) (l5:Int) (p:List aD) (w:World) (mR:EvAt w v L) (h:l5= -1∨∃ (k:Nat) (x:nK),l5=k/\L[k]? =some x/\La p x.ds/\La p [evD x]):
  Calls prog 70 #[v,.int .i64 l5] w λr w'=>∃ v' l',r= .returned v'/\Rw w' 60 3 aS v' l'/\La p l'/\ad w w':=by
 rcases h with rfl|⟨k,x,rfl,hx,h1,h2⟩
 ·obtain⟨A,c,rfl,bl,bQ⟩:=mR.row.form;have g0:decide ((-1:Int)<0)=true:=ak;clear mR;go_in;go_wp2_with fail
  go_ret;first|exact⟨_,[],rfl,Rw.nil _,λd hd=>(by cases hd),al⟩|exact⟨_,rfl,[],Rw.nil _,λd hd=>(by cases hd),al⟩
 ·have hm:=zV hx;refine(rbehind v L k x w mR.row hx (mR.seen x hm) (mR.key x hm) (mR.cg x hm)).mono ?_;rintro r w' ⟨v',l',rfl,h3,h4,h5⟩;exact⟨v',l',rfl,h3,cov_all h1 h2 h4,h5⟩
def ThereQ (L:List nK) (e:nK) (U:Nat) (iC q:Bool):Prop:=ThereP L e U (q||iC)
theorem rndM9 (h:p:=by
  go_wp2_with fail
  go_quiet (fail)
  go_wp2_with fail
  go_meet
  case rel=>exact⟨_,rfl,al,HQ⟩):p:=h
theorem rndN9 (h:p:=by
  go_wp2_with fail
  go_quiet (fail)
  go_wp2_with fail
  go_roundw
  case rel=>(try(repeat apply R7);refine⟨?_,rfl⟩);exact⟨U+1,_,_,ab,aA,rfl,rfl,al,nz,HLZ⟩
  case measure=>exact dY):p:=h
def NonQ (nb iC:Bool):Prop:=nb=true∨iC=true
theorem lastM9 (h:p:=by
  go_wp2_with fail
  refine bz (λwB=>ad w4 wB/\ad wc wB/\wB.cell? ⟨w.heap.size,2,none⟩=some (.string x2)/\wB.cell? ⟨w.heap.size,3,none⟩=some (.int .i64 x3)/\wB.cell? ⟨w.heap.size,4,none⟩=some (.int .i64 x4)/\wB.cell? ⟨w.heap.size,5,none⟩=some (.slice x5 x6 x7)) λwB SS=> ?_;obtain⟨au,br,aB,aC,aF,aX⟩:=SS.o _ (ad.refl _);repeat(first|(apply DW.ct;(focus (intro wd hI;obtain⟨ae,ay,ai,aj,aq,az⟩:=SS.o wd hI;go_wp2_with (first|(go_at_call 34;refine(rget _ x8 x2 _ (HS.o.kept (K4.call ae))).mono ?_;rintro r w5 ⟨n1,s1,he,JO,k5⟩;rw[HG.o]at JO;injection JO with kp gE;subst kp gE;obtain rfl:=he)|(go_at_call 36;refine(rless_any x3 x4 g1 g2 _).mono ?_;rintro r w5 ⟨he,k5⟩;rw[show c8 x3 x4 g1 g2=false from HL0.o]at he;obtain rfl:=he));exact aP));refine DW.np ?_)|(refine DW.bt av ?_;intro wd hI;obtain⟨ae,ay,ai,aj,aq,az⟩:=SS.o wd hI;go_wp2_with (first|(go_at_call 34;refine(rget _ x8 x2 _ (HS.o.kept (K4.call ae))).mono ?_;rintro r w5 ⟨n1,s1,he,JO,k5⟩;rw[HG.o]at JO;injection JO with kp gE;subst kp gE;obtain rfl:=he)|(go_at_call 36;refine(rless_any x3 x4 g1 g2 _).mono ?_;rintro r w5 ⟨he,k5⟩;rw[show c8 x3 x4 g1 g2=false from HL0.o]at he;obtain rfl:=he));refine cu hI SS (λbf SS=> ?_) rfl;obtain⟨au,br,aB,aC,aF,aX⟩:=SS.o _ (ad.refl _)))
  refine DW.nl SS ?_;rintro wd hI ⟨ae,ay,ai,aj,aq,az⟩;go_wp2_with fail
  go_ret;exact⟨rfl,K4.call ae⟩):p:=h
theorem rright (v:Value) (L:List nK) (i:Nat) (e:nK) (w:World) (mR:EvAt w v L) (he:L[i]? =some e) (hR:RightP L i e):
  Calls prog 33 #[v,.int .i64 i] w λr w'=>r= .returned (.bool true)/\ad w w':=by
 obtain⟨A,c,rfl,bl,bQ⟩:=mR.row.form;obtain⟨b,off,rfl,hb,hc⟩:=mR.row.af he;have hi:=(bg he);have hm:=zV he;have HK:=aa (mR.key e hm);have HP:=aa (mR.cg e hm);have HS:=aa (mR.seen e hm);have HE:=aa mR;have HI:=aa he;have HR:=aa hR;obtain⟨n,hn⟩:=eqQ L.length;have HN:=aa hn;rw[hn]at bl hi⊢;simp only[hn]at HE;obtain⟨x0,x1,x2,x3,x4,x5,x6,x7,x8⟩:=e;obtain⟨c0,c1,c2,c3,c4,c5⟩:=o5 hc;clear hc mR he hR hm hn;go_in;go_wp2_with fail
 refine(rkcheck x2 HK.o _).mono ?_;rintro r w1 ⟨rfl,k1⟩;have K1:ad w w1:=ad.call al k1;have e0:w1.cell? ⟨w.heap.size,0,none⟩=some (.int .i64 x0):=k1.af (by go_simp);have e1:w1.cell? ⟨w.heap.size,1,none⟩=some (.int .i64 x1):=k1.af (by go_simp);have e2:w1.cell? ⟨w.heap.size,2,none⟩=some (.string x2):=k1.af (by go_simp);have e3:w1.cell? ⟨w.heap.size,3,none⟩=some (.int .i64 x3):=k1.af (by go_simp);have e4:w1.cell? ⟨w.heap.size,4,none⟩=some (.int .i64 x4):=k1.af (by go_simp);have e5:w1.cell? ⟨w.heap.size,5,none⟩=some (.slice x5 x6 x7):=k1.af (by go_simp);clear k1;go_wp2_with fail
 refine(rrow _ x8 _ (HS.o.kept al) HP.o).mono ?_;rintro r w4 ⟨rfl,k4⟩;have K4:ad w w4:=K1.call (ad.call al k4);have k14:ad w1 w4:=ad.call al k4;have e0:=k14.af e0;have e1:=k14.af e1;have e2:=k14.af e2;have e3:=k14.af e3;have e4:=k14.af e4;have e5:=k14.af e5;have Cs:w.heap.size<w4.heap.size:=Aa w4 _ e0;clear k4 k14;go_wp2_with fail
 go_loopw [8,9,10] (λnT lv kv wr=>∃ (U:Nat) (iC:Bool) (l5:Int),U<=i/\kv= .int .i64 U/\nT= .bool iC/\lv= .int .i64 l5/\ad w4 wr/\ag (ThereP L ⟨x0,x1,x2,x3,x4,x5,x6,x7,x8⟩ U iC)/\ag (LastP L ⟨x0,x1,x2,x3,x4,x5,x6,x7,x8⟩ U l5)) (λ_ _ kv _=>i-(intOf kv).toNat)
 case atStart=>exact⟨0,false, -1,ab,rfl,rfl,rfl,ad.refl _,⟨λ_=>rfl,λ⟨k,x,hk,_⟩=>absurd hk ab⟩,.inl rfl⟩
 case round=>
  obtain⟨U,iC,l5,hj,rfl,rfl,rfl,kr,ht,hla⟩:=hrel;have e0:=kr.af e0;have e1:=kr.af e1;have e2:=kr.af e2;have e3:=kr.af e3;have e4:=kr.af e4;have e5:=kr.af e5;by_cases an:U<i
  ·obtain⟨y,hy⟩:=exQ L U (by rw[HN.o];omega);obtain⟨b2,gA,Ah,_,hc⟩:=HE.o.row.af hy
   cases Ah
   have HY:=aa hy;have jX:ag (¬(y.kind=1/\y.n=x3/\y.s=x4/\y.key=x2)->ThereP L ⟨x0,x1,x2,x3,x4,x5,x6,x7,x8⟩ (U+1) iC):=λh=>ht.o.no hy h
   have HU:ag (x0=1->y.kind=1->¬(y.n=x3/\y.s=x4)):=λh h2=>by
    rcases HR.o.kind with g|g
    ·exact g.2.2.2 U y an hy h2
    ·have:=g.1;simp only at this;omega
   have HLY:ag (y.Ij=x1->LastP L ⟨x0,x1,x2,x3,x4,x5,x6,x7,x8⟩ (U+1) U):=λh=> .inr ⟨U,y,rfl,ab,hy,h⟩;have sw:ag (LastP L ⟨x0,x1,x2,x3,x4,x5,x6,x7,x8⟩ (U+1) l5):=hla.o.no;obtain⟨y0,y1,y2,y3,y4,y5,y6,y7,y8⟩:=y;obtain⟨d0,d1,d2,d3,d4,d5⟩:=o5 λU u hu=>(K4.call kr).af (hc U u hu);have oq:b<wr.heap.size:=Aa wr _ d0;have FB:w.heap.size<wr.heap.size:=Aa wr _ e0;have DV:U<n:=ab;clear hc hy ht hla;go_upto_region 11 with fail
   go_cut [66] (λc wx=>∃ q:Bool,c= .bool q/\ad wr wx/\ag (ThereQ L ⟨x0,x1,x2,x3,x4,x5,x6,x7,x8⟩ (U+1) iC q))
   case first=>
    by_cases p0:y0=1
    rotate_left
    ·have g0:(y0==1)=false:=by simp[p0]
     have HQ:ag (ThereQ L ⟨x0,x1,x2,x3,x4,x5,x6,x7,x8⟩ (U+1) iC false):=jX.o λh=>p0 h.1;clear jX HU;exact rndM9
    have g0:(y0==1)=true:=by simp[p0]
    by_cases p3:y3=x3
    rotate_left
    ·have HQ:ag (ThereQ L ⟨x0,x1,x2,x3,x4,x5,x6,x7,x8⟩ (U+1) iC false):=jX.o λh=>p3 h.2.1;clear jX HU;exact rndM9
    by_cases p4:y4=x4
    rotate_left
    ·have HQ:ag (ThereQ L ⟨x0,x1,x2,x3,x4,x5,x6,x7,x8⟩ (U+1) iC false):=jX.o λh=>p4 h.2.2.1;clear jX HU;exact rndM9
    have iu:x0≠1:=λe=>HU.o e p0 ⟨p3,p4⟩;have pg:(x0==1)=false:=by simp[iu]
    by_cases p2:y2.toList=x2.toList
    ·have ez:(y2.toList==x2.toList)=true:=by simp[p2]
     have HQ:ag (ThereQ L ⟨x0,x1,x2,x3,x4,x5,x6,x7,x8⟩ (U+1) iC true):=ThereP.yes iu;clear p2 jX HU p0;subst p3 p4;exact rndM9
    ·have ez:(y2.toList==x2.toList)=false:=by simp[p2]
     have HQ:ag (ThereQ L ⟨x0,x1,x2,x3,x4,x5,x6,x7,x8⟩ (U+1) iC false):=jX.o λh=>p2 (by have e:y2=x2:=h.2.2.2;rw[e]);clear p2 jX HU p0;subst p3 p4;exact rndM9
   case rest=>
    obtain⟨q,rfl,kc,HQ⟩:=hcut;have e1:=kc.af e1;have d1:=kc.af d1;have kr:=kr.call kc
    obtain⟨la2,q1,kp,vu⟩:∃ (la2:Int) (q1:Bool),(y1==x1)=q1/\ag ((q1=true->la2=U)/\(q1=false->la2=l5)/\LastP L ⟨x0,x1,x2,x3,x4,x5,x6,x7,x8⟩ (U+1) la2):=by
     by_cases g:y1=x1
     ·exact⟨U,true,by simp[g],λ_=>rfl,λh=>(by cases h),HLY.o g⟩
     ·exact⟨l5,false,by simp[g],λh=>(by cases h),λ_=>rfl,sw.o⟩
    have HLZ:=aa vu.o.2.2;clear e0 e2 e3 e4 e5 d0 d2 d3 d4 d5 HY jX HU HLY sw
    cases q
    ·have nz:ag (ThereP L ⟨x0,x1,x2,x3,x4,x5,x6,x7,x8⟩ (U+1) iC):=HQ.o
     cases q1
     ·obtain rfl:=vu.o.2.1 rfl;exact rndN9
     ·obtain rfl:=vu.o.1 rfl;exact rndN9
    ·have nz:ag (ThereP L ⟨x0,x1,x2,x3,x4,x5,x6,x7,x8⟩ (U+1) true):=HQ.o
     cases q1
     ·obtain rfl:=vu.o.2.1 rfl;exact rndN9
     ·obtain rfl:=vu.o.1 rfl;exact rndN9
  ·obtain rfl:U=i:=ab;obtain⟨v9,hv9⟩:=eqR (Value.int .i64 l5)
   have L0:ag (l5= -1∨∃ (k:Nat) (x:nK),l5=k/\L[k]? =some x/\La x8 x.ds/\La x8 [evD x]):=by
    rcases hla.o with e|⟨k,x,h1,h2,h3,h4⟩
    ·exact .inl e
    ·obtain⟨r1,r2⟩:=HR.o.cov k x h2 h3 h4;exact .inr ⟨k,x,h1,h3,r1,r2⟩
   have HTH:=aa ht.o;have DV:U<n:=hi;clear hla ht;go_wp2_with fail
   refine ey [none,none,none,none,some (λu w'=>∃ l,Rw w' 60 3 aS u l/\La x8 l)] (λwB=>ad w4 wB/\ad wr wB/\wB.cell? ⟨w.heap.size,0,none⟩=some (.int .i64 x0)/\wB.cell? ⟨w.heap.size,2,none⟩=some (.string x2)/\wB.cell? ⟨w.heap.size,3,none⟩=some (.int .i64 x3)/\wB.cell? ⟨w.heap.size,4,none⟩=some (.int .i64 x4)/\wB.cell? ⟨w.heap.size,5,none⟩=some (.slice x5 x6 x7)) λwB SS=> ?_;iterate 4 refine SP.on ?_
   refine SP.ew ?_ λv1=> ?_
   ·intro wd hI hF;obtain⟨ae,ay,ai,aj,aq,az,aK⟩:=SS.o wd hI;clear hF;go_wp2_with ((go_at_call 70;refine(rlast _ L l5 x8 _ (HE.o.kept (K4.call ae)) L0.o).mono ?_;rintro r w5 ⟨v',l',rfl,h5,h6,k5⟩));exact bn rfl ⟨l',h5,h6⟩
   refine SP.ml SS ?_;rintro wd hI hF ⟨ae,ay,ai,aj,aq,az,aK⟩;have h1:=hF.1;clear hF SS;obtain⟨w7,⟨lb,qI,DR⟩,nr⟩:=h1;have pj:=aa (qI.kept nr);have wQ:=aa DR;clear qI DR nr;go_wp2_with fail
   refine(rcovers _ v1 x8 lb _ (HS.o.kept (K4.call ae)) pj.o wQ.o).mono ?_;rintro r w8 ⟨rfl,k8⟩;have K8:ad w4 w8:=ae.call k8;have e0:=k8.af ai;have e2:=k8.af aj;have e3:=k8.af aq;have e4:=k8.af az;have e5:=k8.af aK;have hz8:w.heap.size<w8.heap.size:=Aa w8 _ e0;clear k8 ai aj aq az aK ae ay hI pj wQ;rcases HR.o.kind with ⟨rk,r1,r2,_⟩|⟨rk,r1,r2⟩
   ·have qgY:=aa r1;have Wt:=aa r2;obtain rfl:x0=1:=rk;obtain rfl:iC=false:=HTH.o.1 rfl;clear r1 r2;go_wp2_with fail
    refine(rcheck_any x3 x4 _).mono ?_;rintro r w9 ⟨rfl,k9⟩;rw[show fu x3 x4=true from qgY.o];have tn:ad w4 w9:=K8.call (ad.call al k9);have e3:=k9.af e3;have e4:=k9.af e4;have e5:=k9.af e5;have hz9:w.heap.size<w9.heap.size:=Aa w9 _ e3;clear k9;obtain⟨m,hm⟩:=eqQ x8.length;have HM:=aa hm
    have dn:x6=m:=by
     obtain⟨_,_,q,_⟩:=HS.o;injection q with _ q;rw[q];exact hm
    have hm7:=HP.o.len;subst dn;rw[hm]at hm7;clear hm;go_wp2_with fail
    go_loopw [13] (λiv wr=>∃ q:Nat,q<=x6/\iv= .int .i64 q/\ad w9 wr) (λiv _=>x6-(intOf iv).toNat)
    case atStart=>exact⟨0,ab,rfl,ad.refl _⟩
    case round=>
     obtain⟨q,hq,rfl,qhK⟩:=hrel;have e3:=qhK.af e3;have e4:=qhK.af e4;have e5:=qhK.af e5;by_cases an:q<x6
     ·obtain⟨d,hd⟩:=exQ x8 q (by rw[HM.o];exact an);obtain⟨Lf,qcR,rfl,_,tq⟩:=HS.o.af hd;have HLS:=aa (Wt.o d (zV hd));obtain⟨y0,y1,y2⟩:=d;obtain⟨d0,d1,d2⟩:=kQ λU u hu=>(K4.call (tn.call qhK)).af (tq U u hu);clear hd tq;go_wp2_with fail
      refine bz (λwB=>ad w9 wB/\ad wr wB/\wB.cell? ⟨w.heap.size,3,none⟩=some (.int .i64 x3)/\wB.cell? ⟨w.heap.size,4,none⟩=some (.int .i64 x4)/\wB.cell? ⟨w.heap.size,5,none⟩=some (.slice (some ⟨Lf,qcR,none⟩) x6 x7)/\wB.cell? ⟨Lf,qcR+q*3+1,none⟩=some (.int .i64 y1)/\wB.cell? ⟨Lf,qcR+q*3+2,none⟩=some (.int .i64 y2)) λwB SS=> ?_;obtain⟨au,br,aB,aC,aF,aX,bK⟩:=SS.o _ (ad.refl _);repeat(first|(apply DW.ct;(focus (intro wd hI;obtain⟨ae,ay,ai,aj,aq,az,aK⟩:=SS.o wd hI;go_wp2_with (go_at_call 36;refine(rless_any y1 y2 x3 x4 _).mono ?_;rintro r w5 ⟨he,k5⟩;rw[show c8 y1 y2 x3 x4=true from HLS.o]at he;obtain rfl:=he);exact aP));refine DW.np ?_)|(refine DW.bt av ?_;intro wd hI;obtain⟨ae,ay,ai,aj,aq,az,aK⟩:=SS.o wd hI;go_wp2_with (go_at_call 36;refine(rless_any y1 y2 x3 x4 _).mono ?_;rintro r w5 ⟨he,k5⟩;rw[show c8 y1 y2 x3 x4=true from HLS.o]at he;obtain rfl:=he);refine cu hI SS (λbf SS=> ?_) rfl;obtain⟨au,br,aB,aC,aF,aX,bK⟩:=SS.o _ (ad.refl _)))
      refine DW.nl SS ?_;rintro wd hI ⟨ae,ay,ai,aj,aq,az,aK⟩;go_wp2_with fail
      go_roundw
      case rel=>(try(repeat apply R7);refine⟨?_,rfl⟩);exact⟨q+1,ab,aA,ae⟩
      case measure=>exact dY
     ·obtain rfl:q=x6:=ab;go_wp2_with fail
      go_ret;exact⟨rfl,K4.call (tn.call qhK)⟩
   ·obtain rfl:x0=2:=rk;obtain⟨g1,g2,hg⟩:∃ g1 g2,gt x8 x2=(g1,g2):=⟨_,_,rfl⟩;have HG:=aa hg
    have HL0:ag (c8 x3 x4 g1 g2=false):=by
     have h:=r1;simp only at h;rw[hg]at h;exact h
    have HZ:ag ((x3=0/\x4=0)∨iC=true):=r2.imp id λh=>HTH.o.2 h (by show(2:Int)≠1;decide);clear r1 r2 hg;go_upto_region 28 with fail
    go_cut [14] (λc wx=>∃ nb:Bool,c= .bool nb/\ad w8 wx/\ag (NonQ nb iC))
    case first=>
     by_cases z3:x3=0
     ·by_cases z4:x4=0
      ·have HH:ag (NonQ true iC):= .inl rfl;subst z3 z4;go_wp2_with fail
       go_meet
       case rel=>exact⟨_,rfl,al,HH⟩
      ·have HH:ag (NonQ false iC):= .inr (HZ.o.resolve_left λh=>z4 h.2);have g4:(x4==0)=false:=by simp[z4]
       clear z4;subst z3;go_wp2_with fail
       go_meet
       case rel=>exact⟨_,rfl,al,HH⟩
     ·have HH:ag (NonQ false iC):= .inr (HZ.o.resolve_left λh=>z3 h.1);have g3:(x3==0)=false:=by simp[z3]
      clear z3;go_wp2_with fail
      go_meet
      case rel=>exact⟨_,rfl,al,HH⟩
    case rest=>
     obtain⟨nb,rfl,kc,oG⟩:=hcut;have e2:=kc.af e2;have e3:=kc.af e3;have e4:=kc.af e4;have e5:=kc.af e5;have K8:=K8.call kc;clear HZ
     cases nb
     ·obtain rfl:iC=true:=oG.o.resolve_left ao;exact lastM9
     ·exact lastM9
theorem rhcheck (v:Value) (L:List nK) (w:World) (mR:EvAt w v L) (hR:∀ i e,L[i]? =some e->RightP L i e):
  Calls prog 11 #[v] w λr w'=>r= .returned (.int .i64 (-1))/\ad w w':=by
 obtain⟨A,c,rfl,bl,bQ⟩:=mR.row.form;obtain⟨n,hn⟩:=eqQ L.length;rw[hn]at mR bl⊢;have HN:=aa hn;have HE:=aa mR;have HR:=aa hR;clear mR hR hn;go_in;go_wp2_with fail
 go_loopw [3] (λiv wr=>∃ U:Nat,U<=n/\iv= .int .i64 U/\ad w wr) (λiv _=>n-(intOf iv).toNat)
 case atStart=>exact⟨0,ab,rfl,al⟩
 case round=>
  obtain⟨U,hj,rfl,kr⟩:=hrel;by_cases an:U<n
  ·obtain⟨e,he⟩:=exQ L U (by rw[HN.o];exact an);have HI:=aa he;clear he;go_wp2_with fail
   refine(rright _ L U e _ (HE.o.kept al) HI.o (HR.o U e HI.o)).mono ?_;rintro r w1 ⟨rfl,k1⟩;have K1:ad w w1:=ad.call al k1;go_wp2_with fail
   go_roundw
   case rel=>(try(repeat apply R7);refine⟨?_,rfl⟩);exact⟨U+1,ab,aA,K1⟩
   case measure=>exact dY
  ·obtain rfl:U=n:=ab;go_wp2_with fail
   go_ret;exact⟨rfl,kr⟩
end Go.Proofs.YtehaoggjlciobaaGreat

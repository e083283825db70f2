/- Part Pca. -/
import Derived.Test.YtehaoggjlciobaaGreatPbz
set_option linter.all false
set_option maxRecDepth 20000
set_option maxHeartbeats 16000000
namespace Go.Proofs.YtehaoggjlciobaaGreat
open Go.Maps Go.RowKit
theorem ux.kept {n:Nat} {w w2:World} {o:ee} (h:ux n w o) (hk:ad w w2):ux n w2 o:=by
 obtain⟨k,c,s,t,keys,d1,d2,d3,d4,d5,d6,d7,d8,d9,d10,d11,d12,d13,d14,d15,d16⟩:=h;refine⟨k,c,s,t,keys,d1,d2,d3,d4,d5,d6,d7,d8,d9,d10,d11,d12.kept hk,d13,d14,λbb=> ?_,d16⟩;obtain⟨es,os,ps,h⟩:=d15 bb;exact⟨es,os,ps,h.fr (.ar hk)⟩
theorem qjM {w:World} {q n:Nat} (h:w.heap[q]? =some (.cells (madeCells (Value.int .i64 0).cells n) 3 (0,0))) (hn:n<=100):Rw w 3 1 cJ (.slice (some ⟨q,0,none⟩) n n) (List.replicate n 0):=by
 refine⟨some ⟨q,0,none⟩,n,by rw[List.length_replicate],by rw[List.length_replicate];exact CP _,by unfold maxLen;omega,λg=>(by cases g),λp hp=>⟨q,0,_,by injection hp with hp;exact hp.symm,h,λi a ha U u hu=> ?_⟩⟩;rw[List.getElem?_replicate]at ha;split at ha
 ·rename_i hi
  injection ha with ha;subst ha
  obtain rfl:U=0:=by
   have:=(bg hu);simp[cJ]at this;omega
  simp only[cJ,List.getElem?_cons_zero,Option.some.injEq]at hu;subst hu;simp[madeCells,Value.cells,hi,Nat.mod_one]
 ·cases ha
theorem qjN {B:Int} {g g':aG} {o:ee} {k c s t:Nat} {aH:List Nat} {aJ a':List Int} {er:Int} {fl:List ax} (h:sT B (By B g s t) g o k c s t aH aJ a' er fl g'∨er≠0/\fl=[]/\g'=g/\(g.ss c).1= -1) (h8:k=8) (hf:0<fl.length):∃ v,fl=[v]/\Bw g s t v.key:=by
 subst h8;rcases h with h|⟨_,rfl,_⟩
 ·rcases h with ⟨_,rfl,_⟩|⟨_,_,_,_,⟨rfl,_⟩|⟨_,_,_,v,yt,σ',rfl,_,_,_,hp,_⟩⟩
  ·cases hf
  ·cases hf
  ·exact⟨v,rfl,hp.2 (CP _)⟩
 ·cases hf
theorem topOwns_walk (A:Option Addr) (m c:Nat) (x:Nat->Int) (B:Option Addr) (m2 c2:Nat) (y:Nat->Int) (C:Option Addr) (m3 c3:Nat) (z:Nat->Int) (L:Option Addr) (nl cl:Nat) (xs:Nat->yV) (key:ByteArray) (w:World)
  (rx:la w A m c 1 (λi=>[.int .i64 (x i)])) (_rx:∀ i,i<m->(Lit.int .i64 (x i)).wf=true) (Zy:la w B m2 c2 1 (λi=>[.int .i64 (y i)])) (_ry:∀ i,i<m2->(Lit.int .i64 (y i)).wf=true) (Zz:la w C m3 c3 1 (λi=>[.int .i64 (z i)])) (_rz:∀ i,i<m3->(Lit.int .i64 (z i)).wf=true)
  (Jp:la w L nl cl 12 (λi=>wi (xs i))) (sU:∀ i,i<nl->wj w (xs i)) (_wk:key.size<=maxLen):
  Calls Tryz.prog 4 #[.agg #[.slice A m c,.slice B m2 c2,.slice C m3 c3],.slice L nl cl,.string key] w λe w'=>e= .returned (.bool true)/\ad w w':=by
 have HX:=aa (bo.Gx rx);have HY:=aa (bo.Gx Zy);have HZ:=aa (bo.Gx Zz);have HL:=aa Jp;have HA:=aa sU;have bl:nl<=cl/\cl<=9223372036854775807:=by have h1:=Jp.1;have h2:=Jp.2.1;unfold maxLen at h2;omega
 clear rx Zy Zz Jp sU _rx _ry _rz _wk;go_in;go_wp2_with fail
 refine(qi5 _).mono ?_;rintro e w1 ⟨rfl,k1⟩;have cx:ag (ad w w1):=ad.call al k1;have zP:ag (w1.heap[w.heap.size]? =some (.cells #[.slice A m c,.slice B m2 c2,.slice C m3 c3] 24 (0,0))):=k1.heap (l5 w _);have b0:=ap zP.o 0;have b1:=ap zP.o 1;have b2:=ap zP.o 2;clear k1;go_wp2_with fail
 refine(qjq ⟨A,m,c,x⟩ ⟨B,m2,c2,y⟩ ⟨C,m3,c3,z⟩ _ (bo.keep HX.o cx.o) (bo.keep HY.o cx.o) (bo.keep HZ.o cx.o)).mono ?_;rintro e w2 ⟨rv,ov,pv,es,os,ps,rfl,hd,k2⟩;have eb:ag (ad w w2):=cx.o.call k2;have HD:=aa hd;obtain⟨j',ka,iy,_,_⟩:=hd.1.form;obtain⟨mG,mH,b3,_,_⟩:=hd.2.1.form;obtain⟨kd,ke,gG,_,_⟩:=hd.2.2.1.form;obtain⟨n,hn⟩:∃ n,ps.length=n:=⟨_,rfl⟩;have pL:=aa hn;generalize (bw es).length=kf at iy;obtain⟨eJ,jS⟩:∃ k,os.length=k:=⟨_,rfl⟩;have oB:=aa jS;rw[jS]at b3;rw[hn]at gG;subst iy b3 gG;have cp:2<=n/\n<=5:=by have:=hd.2.2.2.2.1;have:=hd.2.2.2.2.2.1;omega
 clear hd k2 b0 b1 b2 hn jS;go_wp2_with fail
 have Jq:=aa (l5 w2 (.cells #[.slice j' kf ka,.slice mG eJ mH,.slice kd n ke] 29));obtain⟨cb,DR⟩:∃ cb,w2.heap.size=cb:=⟨_,rfl⟩;rw[DR]at Jq⊢;obtain⟨W0,gh⟩:∃ W,w2.alloc (.cells #[.slice j' kf ka,.slice mG eJ mH,.slice kd n ke] 29)=W:=⟨_,rfl⟩;have mq:ag (ad w W0):=gh▸eb.o.alloc _;have uA:ag (yS 0 W0 (.slice j' kf ka) (.slice mG eJ mH) (.slice kd n ke) es os ps):=HD.o.fr (gh▸(Fr.ar ((ad.refl w2).alloc _)));rw[gh]at Jq⊢;clear gh HD cx eb zP DR;refine(YH _ _ _ es os ps W0 ⟨uA.o.1,uA.o.2.1,uA.o.2.2.1⟩ uA.o.2.2.2.1).mono ?_;rintro e w3 ⟨gb,g0,rfl,hg,Jr,k3⟩;have Ps:=aa hg;have yX:ag (mD 0 g0):=mD.new Jr;have Pt:ag (g0.w0=W0/\g0.n=n):=⟨Jr.2.2.2.2.2.2.2.2.2,by unfold aG.n;rw[Jr.2.2.1,pL.o]⟩;have eI:=aa k3;have px:=aa (k3.heap Jq.o);have b2:=ap px.o 2;clear hg Jr k3;go_upto_block 0 with fail
 clear b2;go_cut [11] (λiv wx=>∃ (i:Nat) (g:aG),i<=50/\ag (aT wx (2*(i:Int)) gb g)/\ag (g.w0=W0/\g.n=n)/\ag (ad W0 wx))
 case first=>
  go_wp2_with fail
  go_loopw [11] (λiv wr=>∃ (i:Nat) (g:aG),i<=50/\i<=nl/\iv= .int .i64 i/\ag (aT wr (2*(i:Int)) gb g)/\ag (mD (2*(i:Int)) g)/\ag (g.w0=W0/\g.n=n)/\ag (ad W0 wr)) (λiv _=>nl-(intOf iv).toNat)
  case atStart=>exact⟨0,g0,ab,ab,rfl,Ps,yX,Pt,eI⟩
  case round=>
   clear Ps yX Pt eI px;obtain⟨i,g,Pu,c7,rfl,HG,yX,HW,ep⟩:=hrel;have ZA:ag (ad w wr):=mq.o.call ep.o;by_cases an:i<nl/\i<50
   ·have e1:decide ((i:Int)<nl)=true:=by simp;omega
    have e2:decide ((i:Int)<50)=true:=by simp;omega
    obtain⟨b,off,rfl,dZ,hc⟩:=qjj HL.o an.1;have ZB:=aa (wj.kept (HA.o i an.1) ZA.o);obtain⟨a,ha⟩:∃ a,xs i=a:=⟨_,rfl⟩;rw[ha]at hc ZB;clear ha;obtain⟨x0,x1,x2,x3,x4,x5,x6,x7,x8,Be,Bf,Bg⟩:=YR (λU u hu=>ZA.o.af (hc U u hu));clear hc;go_wp2_with fail
    refine(qjr a n wr ZB.o cp).mono ?_;rintro e w4 ⟨o,rfl,ZC,k4⟩;have ZD:=aa ZC;obtain⟨pq,c0,s0,t0,qjO,p1,_,_,p4,_,p6,_,BE,_,_,_,d12,_,_,_,⟨ZE,ZF,NP,h2⟩,⟨ZG,ZH,ZI,h3⟩,⟨ZJ,ZK,ZL,h4⟩⟩:=ZC;obtain⟨ZM,ZN,h1,_,_⟩:=d12.form;generalize qjO.length=ZO at h1;obtain⟨ok,oc,os9,ot,ZP,oh,BF,BG,ov1,ov2,ov3,ov4⟩:=o;simp only at h1 h2 h3 h4 p1 p4 p6 BE;subst h1 h2 h3 h4 p1 p4 p6 BE;unfold dx il;simp only;have jW:ag (eA g.es g.os g.ps g.ps.length):=by obtain⟨V,_,mE⟩:=HG.o;exact mE.a6.fit
    have ef:=aa (ep.o.call k4);have vX:=aa (HG.o.kept k4);clear k4 d12 x0 x1 x2 x3 x4 x5 x6 x7 x8 Be Bf Bg;go_wp2_with fail
    have Pw:=aa (l5 w4 (.cells #[.int .i64 pq,.int .i64 c0,.int .i64 s0,.int .i64 t0,.int .i64 ZP,.int .i64 oh,.string BF,.string BG,.slice ZM ZO ZN,.slice ZE ZF NP,.slice ZG ZH ZI,.slice ZJ ZK ZL] 36));obtain⟨ob,xf⟩:∃ ob,w4.heap.size=ob:=⟨_,rfl⟩;rw[xf]at Pw⊢;clear xf;refine(Xb _ gb g _ (vX.o.kept ((ad.refl _).alloc _))).mono ?_;rintro e w5 ⟨rv5,ov5,pv5,rfl,Fj,k5⟩;have jI:=aa Fj;obtain⟨ZQ,ZR,vw,_,_⟩:=Fj.r.form;obtain⟨O5,ZS,eG,_,_⟩:=Fj.o.form;obtain⟨ZT,ZU,tH,_,_⟩:=Fj.p.form;generalize (bw g.es).length=ZV at vw;generalize g.os.length=ZW at eG;generalize g.ps.length=ZX at tH;subst vw eG tH;have qM:ad w4 w5:=ad.call ((ad.refl _).alloc _) k5;have gv:=aa (ef.o.call qM);have kM:=aa (vX.o.kept qM);have ZY:=aa (ZD.o.kept qM);have mI:=aa (k5.heap Pw.o);have q0:=ap mI.o 0;have q1:=ap mI.o 1;have q2:=ap mI.o 2;have q3:=ap mI.o 3;have q4:=ap mI.o 4;have q5:=ap mI.o 5;have q6:=ap mI.o 6;have q7:=ap mI.o 7;have q8:=ap mI.o 8;have q9:=ap mI.o 9;have nH:=ap mI.o 10;have BD:=ap mI.o 11;have qjP:ob<w5.heap.size:=(aQ mI.o);clear Fj k5 qM Pw vX ef ZD;go_wp2_with fail
    have Px:=aa (l5 w5 (.cells #[.slice ZQ ZV ZR,.slice O5 ZW ZS,.slice ZT ZX ZU] 29));obtain⟨rb,D4⟩:∃ rb,w5.heap.size=rb:=⟨_,rfl⟩;rw[D4]at Px⊢;clear q0 q1 q2 q3 q4 q5 q6 q7 q8 q9 nH BD;have yY:ad w5 (w5.alloc (.cells #[.slice ZQ ZV ZR,.slice O5 ZW ZS,.slice ZT ZX ZU] 29)):=(ad.refl _).alloc _;refine(qjL (2*(i:Int)) (By (2*(i:Int)) g) gb g ⟨pq,c0,s0,t0,ZP,oh,BF,BG,.slice ZM ZO ZN,.slice ZE ZF NP,.slice ZG ZH ZI,.slice ZJ ZK ZL⟩ n _ (kM.o.kept yY) yX.o.pk ab ab (by rw[HW.o.1];exact gv.o.call yY) (ZY.o.kept yY) HW.o.2 cp.1).mono ?_;rintro e w6 ⟨er,fv,fl,g',rfl,qu,dw,ZZ,AR,dS,xy,k,c,s,t,aH,aJ,a',d1,d2,d3,d4,d5,d6,d7,d8,hK⟩;obtain⟨FA,gU,hfv,_,_⟩:=qu.form;subst hfv;obtain rfl:k=pq:=by have:(pq:Int)=k:=d1;omega
    obtain rfl:s=s0:=by have:(s0:Int)=s:=d6;omega
    obtain rfl:t=t0:=by have:(t0:Int)=t:=d7;omega
    obtain rfl:c=c0:=by have:(c0:Int)=c:=d5;omega
    have Z2:=aa (yX.o.step (kM.o.kept yY) ab d2 d3 d4 d8 hK);have Fk:ag (g'.w0=W0/\g'.n=n):=⟨ZZ.trans HW.o.1,AR.trans HW.o.2⟩;have aR:ag (ad W0 w6):=by have:=xy;rw[HW.o.1]at this;exact this
    have Z3:=aa hK;have E2:=aa qu;have eS:=aa dw;have IH:=aa ((jI.o.fr (.ar yY)).fr dS.j7);have Z4:=aa (dS.block _ _ _ (yY.heap mI.o) ak);have Z6:=aa (dS.block _ _ _ Px.o ak);clear hK qu dw dS yY xy ZZ AR mI Px jI kM gv ZY qjP D4 d1 d5 d6 d7 d8 HG yX HW;unfold gm;go_upto_region 13 with fail
    have BI:=aa (l5 w6 (.cells #[.int .i64 er,.slice FA fl.length gU] 42));have wu:ad w6 (w6.alloc (.cells #[.int .i64 er,.slice FA fl.length gU] 42)):=(ad.refl _).alloc _;obtain⟨AE,ib⟩:∃ AE,w6.heap.size=AE:=⟨_,rfl⟩;obtain⟨W7,lp⟩:∃ W,w6.alloc (.cells #[.int .i64 er,.slice FA fl.length gU] 42)=W:=⟨_,rfl⟩;rw[ib]at BI;rw[lp]at BI wu;have vQ:=aa (eS.o.kept wu);have fC:=aa (aR.o.call wu);have Py:=aa (E2.o.kept wu);have vr:=aa (IH.o.fr (.ar wu));have Js:=aa (wu.heap Z4.o);have Jt:=aa (wu.heap Z6.o);rw[lp,ib];clear lp ib wu eS aR E2 IH Z4 Z6;obtain⟨fn,Pz⟩:∃ fn,fl.length=fn:=⟨_,rfl⟩;have Z7:=aa Pz;rw[Pz]at BI Py;clear Pz;go_cut [62] (λc wx=>∃ b:Bool,c= .bool b/\ag (b=true->k=8/\0<fn)/\wx=W7)
    case first=>
     have q0:=ap Js.o 0;have bj:=ap BI.o 1;by_cases h8:k=8
     ·have e3:((k:Int)==8)=true:=by simp;omega
      have HH:ag (decide (0<fn)=true->k=8/\0<fn):=λh=>⟨h8,qck h⟩;clear h8;go_wp2_with fail
      go_meet
      case rel=>exact⟨_,rfl,HH,rfl⟩
     ·have e3:((k:Int)==8)=false:=by simp;omega
      have HH:ag (false=true->k=8/\0<fn):=λh=>by cases h
      clear h8;go_wp2_with fail
      go_meet
      case rel=>exact⟨_,rfl,HH,rfl⟩
    case rest=>
     obtain⟨b,rfl,pe,rfl⟩:=hcut;go_upto_if 62 with fail
     go_cut [15] (λsv wx=>ag (ad wc wx))
     case first=>
      cases b
      rotate_left
      ·have hc:=pe.o rfl;obtain⟨v,qu,Z8⟩:=qjN Z3.o hc.1 (by rw[Z7.o];exact hc.2);have Z9:=aa (qjJ (a:=s) (b:=t) jW.o.fit.up Z8);obtain⟨qjQ,qlS,qlT,qlU,vs,vpa,vpn,vpc,LB⟩:=v;simp only at Z9;subst qu;have hf0:0<fn:=hc.2;obtain⟨zJ,ic,rfl,_,Z'⟩:=Py.o.af (i:=0) rfl;obtain⟨y0,y1,y2,y3,y4,y5⟩:=o5 Z';simp only[Nat.zero_mul,Nat.add_zero]at y0;have q2:=ap Js.o 2;have q3:=ap Js.o 3;have bj:=ap BI.o 1;have z0:=ap Jt.o 0;have z1:=ap Jt.o 1;have z2:=ap Jt.o 2;clear hc Z8 Z' pe;go_wp2_with fail
       refine(qjF (s:Int) (t:Int) vr.o jW.o).mono ?_;rintro e w8 ⟨qjR,n8,qjS,rfl,I1,k8⟩;have HS8:=aa I1;have v8:=aa k8;have bj:=k8.af bj;have y0:=k8.af y0;clear I1 k8 q2 q3 z0 z1 z2 y1 y2 y3 y4 y5;go_wp2_with fail
       refine(Zx qjR n8 qjS _ qjQ _ HS8.o Z9.o).mono ?_;rintro e w9 ⟨r,rfl,hr,k9⟩;have hd9:decide (r<0)=false:=by simp;omega
       have e':=aa (v8.o.call k9);clear k9;go_wp2_with fail
       go_meet
       case rel=>exact e'
      ·clear pe;go_wp2_with fail
       go_meet
       case rel=>exact ad.refl _
     case rest=>
      have PD:=aa hcut.o;clear hcut;obtain⟨W8,rfl⟩:∃ W,W=wc:=⟨_,rfl⟩;have PE:2*(((i+1:Nat)):Int)=2*(i:Int)+2:=ab;have rE:ag (aT W8 (2*(((i+1:Nat)):Int)) gb g'):=by rw[PE];exact vQ.o.kept PD.o
      have PF:ag (mD (2*(((i+1:Nat)):Int)) g'):=by rw[PE];exact Z2.o
      have v8:=aa (fC.o.call PD.o);have PG:ag (eA g'.es g'.os g'.ps g'.ps.length):=by obtain⟨V,_,mE⟩:=rE.o;exact mE.a6.fit
      clear PD vQ fC Py vr Js Jt BI Z2 Z3 jW Z7 PE;go_wp2_with fail
      refine(Xb _ gb g' _ rE.o).mono ?_;rintro e w9 ⟨rv9,ov9,pv9,rfl,fA,k9⟩;have oC:=aa fA;obtain⟨qjT,rc9,vw,_,_⟩:=fA.r.form;obtain⟨O9,oc9,eG,_,_⟩:=fA.o.form;obtain⟨qjU,pc9,tH,_,_⟩:=fA.p.form;generalize (bw g'.es).length=rn9 at vw;generalize g'.os.length=on9 at eG;generalize g'.ps.length=pn9 at tH;subst vw eG tH;have e':=aa (v8.o.call k9);have vT:=aa (rE.o.kept k9);clear fA k9 v8 rE;go_wp2_with fail
      refine(qjG (oC.o.fr (.ar ((ad.refl _).alloc _))) PG.o).mono ?_;rintro e yz ⟨rfl,PH⟩;have oG:=aa (PH.heap (l5 w9 (.cells #[.slice qjT rn9 rc9,.slice O9 on9 oc9,.slice qjU pn9 pc9] 29)));have Ju:ad w9 yz:=ad.call ((ad.refl _).alloc _) PH;have yA:=aa (e'.o.call Ju);have I7:=aa (vT.o.kept Ju);have PI:=aa (oC.o.fr (.ar Ju));obtain⟨nb,aL⟩:∃ nb,w9.heap.size=nb:=⟨_,rfl⟩;rw[aL]at oG⊢;clear aL PH Ju e' vT oC;have z0:=ap oG.o 0;have z1:=ap oG.o 1;have z2:=ap oG.o 2;go_wp2_with fail
      refine(qjH key PI.o PG.o).mono ?_;rintro e yM ⟨r,rfl,hr,sR⟩;have qjV:decide (r<0)=false:=by simp;omega
      have oG:=aa (sR.heap oG.o);have EY:=aa (yA.o.call sR);have PJ:=aa (I7.o.kept sR);have qjW:=aa (PI.o.fr (.ar sR));clear sR yA I7 PI z0 z1 z2;go_wp2_with fail
      clear qjV hr;go_loopw [18] (λsv wr=>∃ s2:Nat,s2<=n/\sv= .int .i64 s2/\ag (ad yM wr)) (λsv _=>n-(intOf sv).toNat)
      case atStart=>exact⟨0,ab,rfl,ad.refl _⟩
      case round=>
       obtain⟨s2,dp,rfl,BJ⟩:=hrel;have tL:=aa (BJ.o.heap oG.o);have z0:=ap tL.o 0;have z1:=ap tL.o 1;have z2:=ap tL.o 2;by_cases iT:s2<n
       ·go_wp2_with fail
        refine(qjI s2 ab (qjW.o.fr (.ar BJ.o)) PG.o).mono ?_;rintro e Zl ⟨D,gR,dz,rfl,qaa,k12⟩;have qab:=aa qaa;have sN:=aa (BJ.o.call k12);clear qaa k12 z0 z1 z2;go_wp2_with fail
        refine(qht _ gb g' s2 _ (PJ.o.kept sN.o) ab ab (by rw[Fk.o.2];exact iT)).mono ?_;rintro e w13 ⟨hv,hl,rfl,bU,hhl,PK⟩;obtain⟨vU,bQ,hvf,qjX,qlV⟩:=bU.form;obtain⟨eO,PL⟩:∃ k,hl.length=k:=⟨_,rfl⟩;have sw:=aa PL;rw[PL]at hvf qjX;have qI:eO<=9223372036854775807:=ab;subst hvf;have cN:=aa bU;have HHL:=aa hhl;have qjY:=aa (qab.o.keep PK);have qac:=aa (sN.o.call PK);clear bU hhl PK PL qab sN tL BJ;go_wp2_with fail
        obtain⟨W12,rfl⟩:∃ W,W=wr:=⟨_,rfl⟩;go_loopw [21] (λkv wr=>∃ k2:Nat,k2<=eO/\kv= .int .i64 k2/\ag (ad w13 wr)) (λkv _=>eO-(intOf kv).toNat)
        case atStart=>exact⟨0,ab,rfl,ad.refl _⟩
        case round=>
         obtain⟨k2,bb,rfl,Jv⟩:=hrel;by_cases sI:k2<eO
         ·obtain⟨d,hd⟩:∃ d,hl[k2]? =some d:=⟨_,jc (by rw[sw.o];exact sI)⟩;have e7:=aa (qjK (PJ.o.kept qac.o) (by rw[Fk.o.2];exact iT) HHL.o (zV hd));have bA:=e7.o;rw[PF.o.own s2 (by rw[Fk.o.2];exact iT)]at bA;have e7:=aa bA;obtain⟨Lf,dof,rfl,_,tq⟩:=(cN.o.kept Jv.o).af hd;obtain⟨oO,dnn,dss⟩:=d;obtain⟨y0,y1,y2⟩:=kQ tq;clear bA hd tq;go_wp2_with fail
          refine(Zx D gR dz _ oO _ (qjY.o.keep Jv.o) e7.o).mono ?_;rintro e w15 ⟨r,rfl,hr,k15⟩;have qlW:decide (r<0)=false:=by simp;omega
          have qad:=aa (Jv.o.call k15);clear k15 y0 y1 y2;go_wp2_with fail
          go_roundw
          case rel=>first|exact⟨k2+1,ab,aA,qad⟩|((repeat apply R7);exact⟨⟨k2+1,ab,aA,qad⟩,rfl⟩)
          case measure=>simp[intOf];omega
         ·obtain rfl:k2=eO:=ab;have Fl:=aa (qac.o.call Jv.o);go_wp2_with fail
          go_roundw
          case rel=>first|exact⟨s2+1,ab,aA,Fl⟩|((repeat apply R7);exact⟨⟨s2+1,ab,aA,Fl⟩,rfl⟩)
          case measure=>simp[intOf];omega
       ·obtain rfl:s2=n:=ab;have mA:=aa (PJ.o.kept BJ.o);have Fl:=aa (EY.o.call BJ.o);clear z0 z1 z2;go_wp2_with fail
        go_roundw
        case rel=>first|exact⟨i+1,g',ab,ab,aA,mA,PF,Fk,Fl⟩|((repeat apply R7);exact⟨⟨i+1,g',ab,ab,aA,mA,PF,Fk,Fl⟩,rfl⟩)
        case measure=>simp[intOf];omega
   ·rcases(by omega:nl<=i∨(i<nl/\50<=i))with g1|g1
    ·have e1:decide ((i:Int)<nl)=false:=by simp;omega
     go_wp2_with fail
     go_meet
     case rel=>exact⟨i,g,Pu,HG,HW,ep⟩
    ·have e1:decide ((i:Int)<nl)=true:=by simp;omega
     have e2:decide ((i:Int)<50)=false:=by simp;omega
     go_wp2_with fail
     go_meet
     case rel=>exact⟨i,g,Pu,HG,HW,ep⟩
 case rest=>
  obtain⟨i,g,Pu,HG,HW,ep⟩:=hcut;have Jw:=aa (ep.o.heap Jq.o);have b0:=ap Jw.o 0;have b1:=ap Jw.o 1;have b2:=ap Jw.o 2;have HDc:=aa (uA.o.fr (.ar ep.o))
  have cE:1<=eJ/\eJ<=100:=by
   have h1:=uA.o.2.2.2.1.fit.len;have h2:=uA.o.2.2.2.1.fit.up.cV;have h3:=oB.o;omega
  clear Ps yX Pt eI px HL HA HX HY HZ;go_upto_region 31 with fail
  refine qg7 (T:=λw w'=>bN w w') ⟨λk=> .ar k,λh k=>h.trans k⟩ [0,1,2,3,4,5,7,8,6,9,10,11,12,13] 11 [none,none,none,none,none,none,none,none,some (λu w'=>∃ q,u= .slice (some ⟨q,0,none⟩) eJ eJ/\w'.heap[q]? =some (.cells (madeCells (Value.int .i64 0).cells eJ) 3 (0,0))),none,none,some (λu w'=>∃ A n c,u=gm 1 (.slice A n c)/\aT w' (2*(i:Int)+2) gb g),some (λu w'=>∃ q,u= .pointer (some ⟨q,0,none⟩)/\wc.heap.size<=q/\w'.heap[q]? =some (.cells #[.int .i64 0,.slice none 0 0] 42 (0,0)))] av av rfl ?_ _ (by(try simp only[List.append_eq,List.cons_append,List.nil_append,List.toList_toArray]);exact rfl) ?_
  ·intro U R hj hR v w' w2 hv ht;have yL:U<13:=by have:=(bg hR);simpa using this
   have OO:U=8∨U=12:=by
    rcases(show U=0∨U=1∨U=2∨U=3∨U=4∨U=5∨U=6∨U=7∨U=8∨U=9∨U=10∨U=11∨U=12 by omega)with rfl|rfl|rfl|rfl|rfl|rfl|rfl|rfl|rfl|rfl|rfl|rfl|rfl <;>first|exact .inl rfl|exact .inr rfl|(exact absurd rfl hj)|(simp at hR)
   rcases OO with rfl|rfl
   ·simp only[List.getElem?_cons_succ,List.getElem?_cons_zero,Option.some.injEq]at hR;subst hR;obtain⟨q,e1,e2⟩:=hv;exact⟨q,e1,ht.block _ _ _ e2 ak⟩
   ·simp only[List.getElem?_cons_succ,List.getElem?_cons_zero,Option.some.injEq]at hR;subst hR;obtain⟨q,e1,e2,e3⟩:=hv;exact⟨q,e1,e2,ht.block _ _ _ e3 ak⟩
  simp only[List.map_cons,List.map_nil,Option.map_some,Option.map_none,List.toList_toArray,List.getElem?_cons_zero,List.getElem?_cons_succ,Option.getD_some,kO];have hT:oL (λw w'=>bN w w'):=⟨λk=> .ar k,λh k=>h.trans k⟩;obtain⟨i0,gr,a7,aY,aW⟩:=ql0 oZ
  have lT:∀ (w:World),(Instr.makeSlice 22 (.int .i64 (eJ:Int)) (.int .i64 (eJ:Int))).run Tryz.prog w= .ok (.slice (some ⟨w.heap.size,0,none⟩) eJ eJ) (w.alloc (.cells (madeCells (Value.int .i64 0).cells eJ) 3)):=λw=>by
   have h:=run_makeSlice (P:=Tryz.prog) w 22 3 i0 (.int .i64 0) Tryz.underlying22 gr a7 .i64 .i64 eJ eJ ab ab (by rw[aY];simp;omega) (by rw[aW];omega) ab;rw[aY]at h;simpa using h
  iterate 8 (apply SX.one hT av;(focus (intro wd hI hF;clear hF;have oz:=hI.block _ _ _ Jw.o ak;have td0:=aE oz 0;have ai:=aE oz 1;have aj:=aE oz 2;(simp only[List.getElem?_toArray,List.getElem?_cons_zero,List.getElem?_cons_succ]at td0 ai aj);go_wp2_with (fail);refine bd.mk _ rfl ⟨rfl,?_⟩;exact al));simp only[Act.put,List.setIfInBounds_toArray,List.set_cons_succ,List.set_cons_zero])
  refine SX.ev hT ak ?_ (λv1=> ?_)
  ·intro wd hI hF;clear hF;have sm:=lT wd;go_wp2_with (fail)
   refine bd.mk _ rfl ⟨⟨_,rfl,l5 _ _⟩,?_⟩;exact al
  simp only[Act.put,List.setIfInBounds_toArray,List.set_cons_succ,List.set_cons_zero];refine SX.one hT (v:= .agg #[.slice j' kf ka,v1,.slice kd n ke]) av ?_ ?_
  ·intro wd hI hF;obtain⟨⟨w9,⟨q,rfl,_⟩,_⟩,_⟩:=hF;go_wp2_with (fail);refine bd.mk _ rfl ⟨rfl,?_⟩;exact al
  simp only[Act.put,List.setIfInBounds_toArray,List.set_cons_succ,List.set_cons_zero];refine SX.one hT (v:= .agg #[.int .i64 12,.int .i64 0,.int .i64 0,.int .i64 0,.int .i64 0,.int .i64 0,.string ⟨#[]⟩,.string ⟨#[]⟩,.slice none 0 0,.slice j' kf ka,v1,.slice kd n ke]) av ?_ ?_
  ·intro wd hI hF;obtain⟨⟨w9,⟨q,rfl,_⟩,_⟩,_⟩:=hF;go_wp2_with (fail);refine bd.mk _ rfl ⟨rfl,?_⟩;exact al
  simp only[Act.put,List.setIfInBounds_toArray,List.set_cons_succ,List.set_cons_zero];refine SX.Nt hT rfl ?_ (λv2=> ?_)
  ·intro wd hI hF;obtain⟨w9,⟨q,rfl,hq⟩,k9⟩:=hF.1 av;have bU:=aa (qjM (k9.heap hq) cE.2);have hI:ad wc wd:=hI;have hDw:=aa (HDc.o.fr (.ar hI));have hlr:ag ((List.replicate eJ (0:Int)).length=es.length+1):=by unfold ag;rw[List.length_replicate,<- oB.o];exact uA.o.2.2.2.1.fit.len
   have ou:ag (oa (List.replicate eJ (0:Int)) 0=0):=by unfold ag oa;rw[List.getElem?_replicate,if_pos ab];rfl
   clear hF hq k9;go_wp2_with (go_at_call 9;go_must (refine(qiH (2*(i:Int)) gb g (.slice j' kf ka) (.slice (some ⟨q,0,none⟩) eJ eJ) (.slice kd n ke) es (List.replicate eJ 0) ps wd (HG.o.kept hI) ab ab ⟨hDw.o.1,bU.o,hDw.o.2.2.1⟩ uA.o.2.2.2.1.fit.up hlr.o ou.o (by rw[pL.o];omega) (by rw[pL.o];omega)).mono ?_;rintro e w5 ⟨A5,n5,c5,rfl,h5,f5⟩))
   exact bd.mk _ rfl ⟨⟨A5,n5,c5,rfl,h5⟩,f5⟩
  simp only[Act.put,List.setIfInBounds_toArray,List.set_cons_succ,List.set_cons_zero];refine SX.ev hT ak ?_ (λv3=> ?_)
  ·intro wd hI hF;clear hF;have bu:wc.heap.size<=wd.heap.size:=(show bN wc wd from hI).size;go_wp2_with (fail)
   refine bd.mk _ rfl ⟨⟨_,rfl,bu,l5 _ _⟩,?_⟩;exact al
  simp only[Act.put,List.setIfInBounds_toArray,List.set_cons_succ,List.set_cons_zero];refine SX.more hT av λwd hI hF=> ?_;obtain⟨⟨wa,⟨q,rfl,hq,Fg⟩,nw⟩,⟨wb,⟨A5,n5,c5,rfl,hG⟩,kb⟩,_⟩:=hF;have HI:ag (bN wc wd):=hI;have mA:=aa (hG.kept kb);have eD:=aa (nw.heap Fg);have q0:=ap eD.o 0;have q1:=ap eD.o 1;have f0:=aI eD.o 0;have f1:=aI eD.o 1;have vZ:q<wd.heap.size:=(aQ eD.o);clear hI Fg hG nw kb b0 b1 b2;unfold gm;go_wp2_with fail
  go_ret;have bG:=ah.bC (w:=wd) q (.int .i64 1) (.slice A5 n5 c5);have hGF:bN wc _:=HI.o.old bG hq;have mR:=(mA.o.Ws eD.o bG).below (by rw[HW.o.1];exact(Fr.ar ep.o).trans hGF);rw[HW.o.1]at mR;exact⟨rfl,mq.o.call mR⟩
end Go.Proofs.YtehaoggjlciobaaGreat

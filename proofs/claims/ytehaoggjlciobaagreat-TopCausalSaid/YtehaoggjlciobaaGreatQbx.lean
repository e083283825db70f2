/- Part 39 of 40. -/
import Derived.Test.YtehaoggjlciobaaGreatQbv
import Derived.Test.YtehaoggjlciobaaGreatQbt
set_option linter.all false
set_option maxRecDepth 20000
set_option maxHeartbeats 16000000
namespace Go.Proofs.YtehaoggjlciobaaGreat
open Go.RowKit Go.Proofs.Tryz
variable {L:List nK} {i:Nat} {y:nK}
def SeenL (L:List nK) (i:Nat) (l:List aD):Prop:=∀ d∈l,∃ (k:Nat) (x:nK),Ahd L k i/\L[k]? =some x/\x.kind=1/\d=evD x
theorem rseen (v:Value) (L:List nK) (i:Nat) (w:World) (mR:EvAt w v L) (hl:L.length<=10000) (hi:i<L.length):
  Calls prog 35 #[v,.int .i64 i] w λr w'=>∃ v' l',r= .returned v'/\Rw w' 60 3 aS v' l'/\SeenL L i l'/\ad w w':=by
 obtain⟨A,c,rfl,bl,bQ⟩:=mR.row.form;have HL:=aa hl;have HI:=aa hi;obtain⟨n,hn⟩:=eqQ L.length;rw[hn]at bl hl hi;have HN:=aa hn;have HE:=aa mR;simp only[hn]at HE⊢;clear mR hn;go_in;go_wp2_with fail
 refine(rahead _ L i _ (HE.o.kept al) HL.o HI.o).mono ?_;rintro r w1 ⟨xz,M,rfl,ha,hM,Mh,k1⟩;obtain⟨MQ,mc,rfl,hmc,hmc9⟩:=ha.form;obtain⟨m,hm⟩:=eqQ M.length;rw[hm]at hmc Mh ha⊢;rw[HN.o]at Mh;have HA:=aa ha;have HM:=aa hM;have HMN:=aa hm;have K1:ad w w1:=ad.call al k1;clear ha hM hm k1;go_wp2_with fail
 go_loopw [5,7] (λov kv wr=>∃ (k:Nat) (qln:Value) (l:List aD),k<=m/\kv= .int .i64 k/\qln=ov/\ad w1 wr/\ag (Rw wr 60 3 aS qln l)/\ag (SeenL L i l/\l.length<=k)) (λ_ kv _=>m-(intOf kv).toNat)
 case atStart=>exact⟨0,_,[],ab,rfl,rfl,ad.refl _,Rw.nil _,⟨λx hx=>(by cases hx),ak⟩⟩
 case round=>
  obtain⟨k,qln,l,hk,rfl,rfl,kr,ho,hs⟩:=hrel;have K2:=K1.call kr;by_cases an:k<m
  ·obtain⟨a,ha⟩:=exQ M k (by rw[HMN.o];exact an);obtain⟨b,off,rfl,dZ,hc⟩:=(HA.o.kept kr).af ha;obtain⟨p,rfl,hp,hah⟩:=HM.o a (zV ha);rw[HN.o]at hp;have c0:=hc 0 _ rfl;rw[Nat.mul_one,Nat.add_zero]at c0;obtain⟨x,hx⟩:=exQ L p (by rw[HN.o];exact hp);obtain⟨b2,gA,rfl,qjc,cz⟩:=HE.o.row.af hx;have HK:=aa (HE.o.key x (zV hx));have yK:ag (x.kind=1->SeenL L i [evD x]):=λh d hd=>⟨p,x,hah,hx,h,At.1 hd⟩;obtain⟨x0,x1,x2,x3,x4,x5,x6,x7,x8⟩:=x;obtain⟨d0,d1,d2,d3,d4,d5⟩:=o5 λU u hu=>K2.af (cz U u hu);have fL:l.length<=100000:=by have:=hs.o.2;omega
   clear hc cz hx ha hah;by_cases h1:x0=1
   ·subst h1;have HS8:=aa (yK.o rfl);clear yK;go_wp2_with fail
    refine(radd _ l ⟨x2,x3,x4⟩ _ fL (ho.o.kept al) HK.o).mono ?_;rintro r w3 ⟨v3,l3,rfl,h3,yw,Lm,k3⟩;have K3:ad w1 w3:=ad.call al k3;have H3:=aa h3
    have ny:ag (SeenL L i l3/\l3.length<=k+1):=⟨λd hd=>by
     rcases yw d hd with g|rfl
     ·exact hs.o.1 d g
     ·exact HS8.o _ (At.2 rfl),by have:=hs.o.2;omega⟩
    clear h3 yw Lm k3;go_wp2_with fail
    go_roundw
    case rel=>(try(repeat apply R7);refine⟨?_,rfl⟩);exact⟨k+1,_,l3,ab,aA,rfl,K3,H3,ny⟩
    case measure=>exact dY
   ·have e1:(x0==1)=false:=by simp[h1]
    go_wp2_with fail
    go_roundw
    case rel=>(try(repeat apply R7);refine⟨?_,rfl⟩);exact⟨k+1,_,l,ab,aA,rfl,al,ho.o.kept al,⟨hs.o.1,by have:=hs.o.2;omega⟩⟩
    case measure=>exact dY
  ·obtain rfl:k=m:=ab;go_wp2_with fail
   go_ret;exact⟨_,l,rfl,ho.o,hs.o.1,K2⟩
theorem gt_any (l:List aD) (k:ByteArray):gt l k=(0,0)∨∃ d∈l,d.key=k/\gt l k=(d.n,d.s):=by
 induction l with
 |nil=>exact .inl rfl
 |cons d t ih=>
  have h:gt (d::t) k=if d.key=k then(d.n,d.s)else gt t k:=rfl;rw[h];by_cases e:d.key=k
  ·rw[if_pos e];exact .inr ⟨d,List.mem_cons_self ..,e,rfl⟩
  ·rw[if_neg e];rcases ih with h|⟨x,hx,h1,h2⟩
   ·exact .inl h
   ·exact .inr ⟨x,zM _ hx,h1,h2⟩
theorem FineP.less (h:FineP L) {l:List aD} (hy:L[i]? =some y) (hr:y.kind=2) (hs:SeenL L i l):c8 y.n y.s (gt l y.key).1 (gt l y.key).2=false:=by
 rcases gt_any l y.key with e|⟨d,hd,e1,e2⟩
 ·rw[e];rcases(h.ev y (zV hy)).2.2 with g|⟨g1,g2⟩
  ·exact GE.zero g
  ·rw[g1,g2];exact xB _ _
 ·obtain⟨k,x,ha,hx,_,rfl⟩:=hs d hd;rw[e2];exact h.ge ha hx hy hr e1
def TherP (L:List nK) (y:nK) (U:Nat) (iC:Bool):Prop:=((y.n=0/\y.s=0)∨∃ k x,k<U/\L[k]? =some x/\x.kind=1/\x.n=y.n/\x.s=y.s/\x.key=y.key)->iC=true
theorem TherP.no {e:nK} {U:Nat} {iC:Bool} (h:TherP L e U iC) (hy:L[U]? =some y) (hn:¬(y.kind=1/\y.n=e.n/\y.s=e.s/\y.key=e.key)):TherP L e (U+1) iC:=λg=>by
 rcases g with g|⟨k,x,hk,hx,h1,h2,h3,h4⟩
 ·exact h (.inl g)
 rcases R6 k U with g|g
 ·exact h (.inr ⟨k,x,g,hx,h1,h2,h3,h4⟩)
 ·obtain rfl:k=U:=ab;rw[hy]at hx;injection hx with hx;subst hx;exact absurd ⟨h1,h2,h3,h4⟩ hn
theorem FineP.ther (h:FineP L) {iC:Bool} (hy:L[i]? =some y) (hr:y.kind=2) (ht:TherP L y i iC):iC=true:=by
 rcases(h.right i y hy).kind with ⟨q,_⟩|⟨_,_,q⟩
 ·omega
 ·exact ht q
theorem thrM9 {p:Prop} (h:p:=by
  go_wp2_with fail
  go_quiet (fail)
  go_wp2_with fail
  go_roundw
  case rel=>(try(repeat apply R7);refine⟨?_,rfl⟩);exact⟨k+1,_,ab,aA,rfl,al,nz⟩
  case measure=>exact dY):p:=h
theorem rfine (v:Value) (L:List nK) (w:World) (mR:EvAt w v L) (hl:L.length<=10000) (hF:FineP L):
  Calls prog 12 #[v] w λr w'=>r= .returned (.int .i64 (-1))/\ad w w':=by
 obtain⟨A,c,rfl,bl,bQ⟩:=mR.row.form;have HL:=aa hl;obtain⟨n,hn⟩:=eqQ L.length;rw[hn]at bl hl;have HN:=aa hn;have HE:=aa mR;have HF:=aa hF;simp only[hn]at HE⊢;clear mR hn hF;go_in;go_wp2_with fail
 go_loopw [3] (λiv wr=>∃ i:Nat,i<=n/\iv= .int .i64 i/\ad w wr) (λiv _=>n-(intOf iv).toNat)
 case atStart=>exact⟨0,ab,rfl,al⟩
 case round=>
  obtain⟨i,hi,rfl,kr⟩:=hrel;by_cases an:i<n
  ·obtain⟨y,hy⟩:=exQ L i (by rw[HN.o];exact an);obtain⟨b,off,rfl,dZ,hc⟩:=HE.o.row.af hy;have HY:=aa hy;obtain⟨y0,y1,y2,y3,y4,y5,y6,y7,y8⟩:=y;obtain⟨d0,d1,d2,d3,d4,d5⟩:=o5 hc;clear hc hy;by_cases h2:y0=2
   ·subst h2;have e0:=kr.af d0;have e2:=kr.af d2;have e3:=kr.af d3;have e4:=kr.af d4
    have HNZ:ag (¬(y3=0/\y4=0)->TherP L ⟨2,y1,y2,y3,y4,y5,y6,y7,y8⟩ 0 false):=λh g=>by
     rcases g with g|⟨k,_,hk,_⟩
     ·exact absurd g h
     ·omega
    go_upto_region 5 with fail
    go_cut [4] (λc wx=>∃ iC:Bool,c= .bool iC/\ag (TherP L ⟨2,y1,y2,y3,y4,y5,y6,y7,y8⟩ 0 iC)/\ad wr wx)
    case first=>
     by_cases z3:y3=0
     ·by_cases z4:y4=0
      ·subst z3 z4;go_wp2_with fail
       go_meet
       case rel=>exact⟨true,rfl,λ_=>rfl,al⟩
      ·have HT:=aa (HNZ.o λh=>z4 h.2);have g4:(y4==0)=false:=by simp[z4]
       subst z3;clear z4;go_wp2_with fail
       go_meet
       case rel=>exact⟨false,rfl,HT,al⟩
     ·have HT:=aa (HNZ.o λh=>z3 h.1);have g3:(y3==0)=false:=by simp[z3]
      clear z3;go_wp2_with fail
      go_meet
      case rel=>exact⟨false,rfl,HT,al⟩
    case rest=>
     obtain⟨tb0,rfl,Zc,kc⟩:=hcut;have K1:=kr.call kc;obtain⟨W1,eZ⟩:=eqR wc;clear e0 e2 e3 e4 HNZ;go_wp2_with fail
     go_loopw [4,5] (λnT kv w2=>∃ (k:Nat) (iC:Bool),k<=i/\kv= .int .i64 k/\nT= .bool iC/\ad w w2/\ag (TherP L ⟨2,y1,y2,y3,y4,y5,y6,y7,y8⟩ k iC)) (λ_ kv _=>i-(intOf kv).toNat)
     case atStart=>exact⟨0,tb0,ab,rfl,rfl,K1,Zc⟩
     case round=>
      obtain⟨k,iC,hk,rfl,rfl,qhK,HT⟩:=hrel;have e2:=qhK.af d2;have e3:=qhK.af d3;have e4:=qhK.af d4;by_cases Co:k<i
      ·obtain⟨u,hu⟩:=exQ L k (by rw[HN.o];omega);obtain⟨b2,gA,Ah,_,SI⟩:=HE.o.row.af hu
       cases Ah
       have HU:=aa λ(h:¬(u.kind=1/\u.n=y3/\u.s=y4/\u.key=y2))=>HT.o.no hu h;obtain⟨u0,u1,u2,u3,u4,u5,u6,u7,u8⟩:=u;obtain⟨v0,v1,v2,v3,v4,v5⟩:=o5 λU u hu=>qhK.af (SI U u hu);simp only at HU;clear SI hu v1 v5
       cases iC
       rotate_left
       ·have nz:ag (TherP L ⟨2,y1,y2,y3,y4,y5,y6,y7,y8⟩ (k+1) true):=λ_=>rfl;exact thrM9
       by_cases p0:u0=1
       rotate_left
       ·have g0:(u0==1)=false:=by simp[p0]
        have nz:=aa (HU.o λh=>p0 h.1);exact thrM9
       have g0:(u0==1)=true:=by simp[p0]
       by_cases p2:u2.toList=y2.toList
       rotate_left
       ·have g3:(u2.toList==y2.toList)=false:=by simp[p2]
        have nz:=aa (HU.o λh=>p2 (by rw[h.2.2.2]));exact thrM9
       have g3:(u2.toList==y2.toList)=true:=by simp[p2]
       by_cases p3:u3=y3
       rotate_left
       ·have nz:=aa (HU.o λh=>p3 h.2.1);exact thrM9
       by_cases p4:u4=y4
       rotate_left
       ·have nz:=aa (HU.o λh=>p4 h.2.2.1);exact thrM9
       subst p3 p4;have nz:ag (TherP L ⟨2,y1,y2,u3,u4,y5,y6,y7,y8⟩ (k+1) true):=λ_=>rfl;exact thrM9
      ·obtain rfl:k=i:=ab;obtain rfl:iC=true:=HF.o.ther HY.o rfl HT.o;clear HT Zc K1 eZ;go_wp2_with fail
       refine ku [0,1,3,4,5,6,7,2,8,9,10] [none,none,none,none,none,none,none,some (λu w'=>∃ l,Rw w' 60 3 aS u l/\SeenL L k l),some (λu w'=>∃ n1 s1,u= .agg #[.int .i64 n1,.int .i64 s1]/\∃ l,SeenL L k l/\gt l y2=(n1,s1)),some (λu w'=>∃ q,u= .pointer (some ⟨q,0,none⟩)/\wr.heap.size<=q/\w'.heap[q]? =some (.cells #[.int .i64 0,.int .i64 0] 45 (0,0)))] (λwB=>ad w wB/\ad wr wB/\wB.cell? ⟨b,off+k*6+2,none⟩=some (.string y2)/\wB.cell? ⟨b,off+k*6+3,none⟩=some (.int .i64 y3)/\wB.cell? ⟨b,off+k*6+4,none⟩=some (.int .i64 y4)) λwB SS=> ?_;iterate 7 refine SP.on ?_
       refine SP.ew ?_ λv1=> ?_
       ·intro wd hI hF;obtain⟨ae,ay,ai,aj,aq⟩:=SS.o wd hI;clear hF;go_wp2_with ((go_at_call 35;refine(rseen _ L k _ (HE.o.kept ae) HL.o (by rw[HN.o];exact an)).mono ?_;rintro r w5 ⟨v',l',rfl,h5,h6,k5⟩));exact bn rfl ⟨l',h5,h6⟩
       refine SP.ew ?_ λv2=> ?_
       ·intro wd hI hF;obtain⟨ae,ay,ai,aj,aq⟩:=SS.o wd hI;have h1:=hF.1 av;clear hF;go_wp2_with ((go_at_call 34;obtain⟨wa,⟨l,hl,hs⟩,nw⟩:=h1;refine(rget _ l y2 _ (hl.kept nw)).mono ?_;rintro r w5 ⟨n1,s1,rfl,hg,k5⟩));exact bn rfl ⟨n1,s1,rfl,l,hs,hg⟩
       refine SP.ew ?_ λv3=> ?_
       ·intro wd hI hF;obtain⟨ae,ay,ai,aj,aq⟩:=SS.o wd hI;clear hF;go_wp2_with (fail);exact bn rfl ⟨_,rfl,ay.size,yY _ _⟩
       refine SP.ml SS ?_;rintro wd hI hF ⟨ae,ay,ai,aj,aq⟩;have h2:=hF.2.1;have h3:=hF.1;clear hF SS;obtain⟨wa,⟨n1,s1,rfl,l,hs,hg⟩,_⟩:=h2;obtain⟨wb,⟨q,rfl,hq,hqh⟩,kb⟩:=h3;have Fg:=kb.heap hqh;have f0:=aI Fg 0;have f1:=aI Fg 1;have q0:=ap Fg 0;have q1:=ap Fg 1;have hwq:w.heap.size<=q:=qcg qhK.size hq;have OG:b<w.heap.size:=dZ
       have cM:ag (c8 y3 y4 n1 s1=false):=by
        have h:=HF.o.less HY.o rfl hs;simp only at h;rw[hg]at h;exact h
       have K4:ad w ((wd.setCell ⟨q,0,none⟩ (.int .i64 n1)).setCell ⟨q,1,none⟩ (.int .i64 s1)):=al;have Hj:q<wd.heap.size:=(aQ Fg);clear hs hg hqh Fg kb;go_wp2_with fail
       refine bz (λwB=>ad w wB/\wB.cell? ⟨b,off+k*6+3,none⟩=some (.int .i64 y3)/\wB.cell? ⟨b,off+k*6+4,none⟩=some (.int .i64 y4)/\wB.cell? ⟨q,0,none⟩=some (.int .i64 n1)/\wB.cell? ⟨q,1,none⟩=some (.int .i64 s1)) λwB SS=> ?_;obtain⟨au,aB,aC,aF,aX⟩:=SS.o _ (ad.refl _);repeat(first|(apply DW.ct;(focus (intro wd hI;obtain⟨ae,ai,aj,aq,az⟩:=SS.o wd hI;go_wp2_with (go_at_call 36;refine(rless_any y3 y4 n1 s1 _).mono ?_;rintro r w5 ⟨he,k5⟩;rw[show c8 y3 y4 n1 s1=false from cM.o]at he;obtain rfl:=he);exact aP));refine DW.np ?_)|(refine DW.bt av ?_;intro wd hI;obtain⟨ae,ai,aj,aq,az⟩:=SS.o wd hI;go_wp2_with (go_at_call 36;refine(rless_any y3 y4 n1 s1 _).mono ?_;rintro r w5 ⟨he,k5⟩;rw[show c8 y3 y4 n1 s1=false from cM.o]at he;obtain rfl:=he);refine cu hI SS (λbf SS=> ?_) rfl;obtain⟨au,aB,aC,aF,aX⟩:=SS.o _ (ad.refl _)))
       refine DW.nl SS ?_;rintro wd hI ⟨ae,ai,aj,aq,az⟩;go_wp2_with fail
       go_roundw
       case rel=>(try(repeat apply R7);refine⟨?_,rfl⟩);exact⟨k+1,ab,aA,ae⟩
       case measure=>exact dY
   ·have g2:(y0 !=2)=true:=by simp[h2]
    have e0:=kr.af d0;go_wp2_with fail
    go_roundw
    case rel=>exact⟨i+1,ab,aA,kr⟩
    case measure=>exact dY
  ·obtain rfl:i=n:=ab;go_wp2_with fail
   go_ret;exact⟨rfl,kr⟩
end Go.Proofs.YtehaoggjlciobaaGreat

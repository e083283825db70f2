/- Part 37 of 40. -/
import Derived.Test.YtehaoggjlciobaaGreatQbg
import Derived.BigQuiet
import Derived.Deep.CutBlock
import Derived.Deep.DeepCutAuto
set_option linter.all false
set_option maxRecDepth 20000
set_option maxHeartbeats 16000000
namespace Go.Proofs.YtehaoggjlciobaaGreat
open Go.RowKit Go.Proofs.Tryz
variable {a n q:Nat} {P:Nat->Prop} {w:World}
def DirB (L:List nK) (i U:Nat) (r:Ending):Prop:=∃ b:Bool,r= .returned (.bool b)/\(b=true->Dir L i U)
theorem nxtM9 {p:Prop} (h:p:=by
  go_wp2_with fail
  go_quiet (fail)
  go_wp2_with fail
  go_roundw
  case rel=>(try(repeat apply R7);refine⟨?_,rfl⟩);exact⟨z+1,ab,aA,al⟩
  case measure=>exact dY):p:=h
theorem rdirect (v:Value) (L:List nK) (i U:Nat) (w:World) (mR:EvAt w v L) (fV:i<U) (hj:U<L.length):
  Calls prog 254 #[v,.int .i64 i,.int .i64 U] w λr w'=>DirB L i U r/\ad w w':=by
 obtain⟨A,c,rfl,bl,bQ⟩:=mR.row.form;obtain⟨x,hx⟩:=exQ L i ab;obtain⟨y,hy⟩:=exQ L U hj;obtain⟨b,off,rfl,hb,zU⟩:=mR.row.af hx;obtain⟨b2,gA,Ah,_,hcy⟩:=mR.row.af hy
 cases Ah
 have HE:=aa mR;have HD1:ag (x.Ij=y.Ij->Dir L i U):=λh=>⟨fV,x,y,hx,hy,.inl h⟩;have HD2:ag (y.kind=2->x.kind=1->x.key=y.key->x.n=y.n->x.s=y.s->Dir L i U):=λh1 h2 h3 h4 h5=>⟨fV,x,y,hx,hy,.inr ⟨h1,h2,h3,h4,h5⟩⟩;have HX:=aa hx;obtain⟨n,hn⟩:=eqQ L.length;have HN:=aa hn;rw[hn]at bl hj⊢;simp only[hn]at HE;obtain⟨x0,x1,x2,x3,x4,x5,x6,x7,x8⟩:=x;obtain⟨y0,y1,y2,y3,y4,y5,y6,y7,y8⟩:=y;obtain⟨c0,c1,c2,c3,c4,c5⟩:=o5 zU;obtain⟨d0,d1,d2,d3,d4,d5⟩:=o5 hcy;simp only at HD1 HD2;have kq:=d0;have hU:=d2;have uR:=d3;have Mb:=d4;clear zU hcy mR hx hy hn d2;go_in;have g0:decide ((U:Int)<=(i:Int))=false:=by simp;omega
 go_wp2_with fail
 go_loopw [7,8] (λlv kv wr=>∃ (k:Nat) (q:Bool),k<=U/\kv= .int .i64 k/\lv= .bool q/\ad w wr) (λ_ kv _=>U-(intOf kv).toNat)
 case atStart=>exact⟨i+1,true,ab,aA,rfl,al⟩
 case round=>
  obtain⟨k,q,hk,rfl,rfl,kr⟩:=hrel;have d1:=kr.af d1;by_cases an:k<U
  ·obtain⟨z,hz⟩:=exQ L k (by rw[HN.o];omega);obtain⟨ck,off3,Ah,_,hcz⟩:=HE.o.row.af hz
   cases Ah
   have z1:=kr.af (hcz 1 _ rfl);clear hcz hz;obtain⟨qC,vd⟩:=eqQ z.Ij;rw[vd]at z1;clear vd;by_cases he:qC=y1
   ·have g1:(qC==y1)=true:=by simp[he]
    go_wp2_with fail
    go_quiet (fail)
    go_wp2_with fail
    go_roundw
    case rel=>(try(repeat apply R7);refine⟨?_,rfl⟩);exact⟨k+1,_,ab,aA,rfl,al⟩
    case measure=>exact dY
   ·have g1:(qC==y1)=false:=by simp[he]
    go_wp2_with fail
    go_quiet (fail)
    go_wp2_with fail
    go_roundw
    case rel=>(try(repeat apply R7);refine⟨?_,rfl⟩);exact⟨k+1,_,ab,aA,rfl,al⟩
    case measure=>exact dY
  ·obtain rfl:k=U:=ab;have c1:=kr.af c1;go_upto_region 9 with fail
   go_cut [45] (λc wx=>∃ t:Bool,c= .bool t/\ag (t=true->x1=y1)/\ad w wx)
   case first=>
    by_cases he:x1=y1
    ·have g1:(x1==y1)=true:=by simp[he]
     have HH:ag (q=true->x1=y1):=λ_=>he;clear he;go_quiet (fail)
     go_wp2_with fail
     go_meet
     case rel=>exact⟨_,rfl,HH,al⟩
    ·have g1:(x1==y1)=false:=by simp[he]
     have HH:ag (false=true->x1=y1):=λh=>(by cases h);clear he;go_quiet (fail)
     go_wp2_with fail
     go_meet
     case rel=>exact⟨_,rfl,HH,al⟩
   case rest=>
    obtain⟨t,rfl,HT,kc⟩:=hcut;have d0:=kc.af d0;have d3:=kc.af d3;have d4:=kc.af d4;clear c1 d1 kr
    cases t
    rotate_left
    ·have HR:=aa (HD1.o (HT.o rfl));go_wp2_with fail
     go_ret;exact⟨⟨true,rfl,λ_=>HR.o⟩,kc⟩
    go_upto_region 11 with fail
    go_cut [9] (λc wx=>∃ t:Bool,c= .bool t/\ad w wx)
    case first=>
     go_wp2_with fail
     all_goals
      go_meet
      case rel=>exact⟨_,rfl,al⟩
    case rest=>
     obtain⟨t,rfl,kc2⟩:=hcut;have d0:=kc2.af kq;by_cases h2:y0=2
     rotate_left
     ·have g2:(y0 !=2)=true:=by simp[h2]
      clear h2;go_wp2_with fail
      go_ret;exact⟨⟨false,rfl,λh=>(by cases h)⟩,al⟩
     have g2:(y0 !=2)=false:=by simp[h2]
     cases t
     rotate_left
     ·clear h2;go_wp2_with fail
      go_ret;exact⟨⟨false,rfl,λh=>(by cases h)⟩,al⟩
     have HK:=aa h2;clear HT kc d3 d4 HD1 h2;go_wp2_with fail
     go_loopw [10] (λkv wr=>∃ z:Nat,z<=n/\kv= .int .i64 z/\ad w wr) (λkv _=>n-(intOf kv).toNat)
     case atStart=>exact⟨0,ab,rfl,kc2⟩
     case round=>
      obtain⟨z,hz,rfl,qhK⟩:=hrel;have d2:=qhK.af hU;have d3:=qhK.af uR;have d4:=qhK.af Mb;by_cases an:z<n
      ·obtain⟨u,hu⟩:=exQ L z (by rw[HN.o];exact an);obtain⟨ck,off3,Ah,_,SI⟩:=HE.o.row.af hu
       cases Ah
       have HU:ag (z=i->u.kind=1->u.key=y2->u.n=y3->u.s=y4->Dir L i k):=λe h1 h2 h3 h4=>by
        subst e;rw[HX.o]at hu;injection hu with hu;subst hu;exact HD2.o HK.o h1 h2 h3 h4
       obtain⟨u0,u1,u2,u3,u4,u5,u6,u7,u8⟩:=u;obtain⟨v0,v1,v2,v3,v4,v5⟩:=o5 λU u hu=>qhK.af (SI U u hu);simp only at HU;clear SI hu v1 v5;by_cases p0:u0=1
       ·have g0:(u0==1)=true:=by simp[p0]
        by_cases p2:u2.toList=y2.toList
        ·have g3:(u2.toList==y2.toList)=true:=by simp[p2]
         have zI:ag (z=i->u3=y3->u4=y4->Dir L i k):=λe h3 h4=>HU.o e p0 (toList_inj p2) h3 h4;clear HU p2;by_cases p3:u3=y3
         ·by_cases p4:u4=y4
          ·subst p3 p4;go_wp2_with fail
           go_quiet (fail)
           go_wp2_with fail
           go_ret;exact⟨⟨_,rfl,λh=>zI.o (by have:=eq_of_beq h;omega) ao ao⟩,al⟩
          ·exact nxtM9
         ·exact nxtM9
        ·have g3:(u2.toList==y2.toList)=false:=by simp[p2]
         exact nxtM9
       ·have g0:(u0==1)=false:=by simp[p0]
        exact nxtM9
      ·obtain rfl:z=n:=ab;go_wp2_with fail
       go_ret;exact⟨⟨false,rfl,λh=>(by cases h)⟩,qhK⟩
def dpC (p:Nat×Nat):List Value:=[.int .i64 p.1,.int .i64 p.2]
theorem infoDP:(prog.info? 119).map (λi=>(i.zero,i.size,i.bytes))=some (some (.agg #[.int .i64 0,.int .i64 0]),2,16):=av
theorem dpC_len:∀ a,(dpC a).length=2:=λ_=>rfl
theorem dpC_one:∀ (l:List (Nat×Nat)),∀ u∈l.flatMap dpC,u.oneCell'=true:=λl u hu=>by
 obtain⟨x,_,hx⟩:=List.mem_flatMap.1 hu;simp only[dpC,KX,List.not_mem_nil,or_false]at hx;rcases hx with rfl|rfl <;>rfl
def DirL (L:List nK) (M:List (Nat×Nat)):Prop:=∀ p∈M,Dir L p.1 p.2/\p.2<L.length
theorem DirL.add {L:List nK} {M:List (Nat×Nat)} {i U:Nat} (h:DirL L M) (k:Dir L i U) (hj:U<L.length):DirL L (M++[(i,U)]):=λp hp=>by
 rcases Pv.1 hp with g|g
 ·exact h p g
 ·rw[At.1 g];exact⟨k,hj⟩
theorem redges (v:Value) (L:List nK) (w:World) (mR:EvAt w v L) (hl:L.length<=10000):
  Calls prog 198 #[v] w λr w'=>∃ v' M,r= .returned v'/\w'.ownsRow w.heap.size 119 2 v' M.length (M.flatMap dpC)/\DirL L M/\M.length<=10000*10000/\ad w w':=by
 obtain⟨A,c,rfl,bl,bQ⟩:=mR.row.form;obtain⟨n,hn⟩:=eqQ L.length;rw[hn]at bl hl;have HN:=aa hn;have HE:=aa mR;simp only[hn]at HE⊢;clear mR hn;have ra:=ql0 infoDP;obtain⟨i0,HI,a7,aY,aW⟩:=ra;have HI:=aa HI;go_in;go_wp2_with fail
 go_loopw [3,4] (λov jv wr=>∃ (U:Nat) (qln:Value) (M:List (Nat×Nat)),U<=n/\jv= .int .i64 U/\qln=ov/\ad w wr/\ag (wr.ownsRow w.heap.size 119 2 qln M.length (M.flatMap dpC))/\ag (DirL L M/\M.length<=U*10000)) (λ_ jv _=>n-(intOf jv).toNat)
 case atStart=>exact⟨0,_,[],ab,rfl,rfl,al,qcb _ _ _ _,⟨λp hp=>(by cases hp),ak⟩⟩
 case round=>
  obtain⟨U,qln,M,hj,rfl,rfl,kr,ho,hm⟩:=hrel;by_cases an:U<n
  ·go_wp2_with fail
   obtain⟨W0,gh⟩:=eqR wr;go_loopw [3,5] (λov iv w2=>∃ (i:Nat) (v2:Value) (M2:List (Nat×Nat)),i<=U/\iv= .int .i64 i/\v2=ov/\ad w w2/\ag (w2.ownsRow w.heap.size 119 2 v2 M2.length (M2.flatMap dpC))/\ag (DirL L M2/\M2.length<=U*10000+i)) (λ_ iv _=>U-(intOf iv).toNat)
   case atStart=>exact⟨0,_,M,ab,rfl,rfl,kr,ho,⟨hm.o.1,by simpa using hm.o.2⟩⟩
   case round=>
    obtain⟨i,v2,M2,hi,rfl,rfl,k2,dA,gd⟩:=hrel;by_cases iQ:i<U
    ·have HLM:ag (M2.length<=100000000):=by have:=gd.o.2;unfold ag;omega
     go_wp2_with fail
     refine(rdirect _ L i U _ (HE.o.kept al) iQ (by rw[HN.o];exact an)).mono ?_;rintro r w3 ⟨⟨d,rfl,hd⟩,k3⟩;have HD:=aa hd;have K3:ad w w3:=k2.call (ad.call al k3);have eR:=aa (ad.own dA.o (ad.call al k3));have mS:=K3.size;clear hd k3
     cases d
     ·go_wp2_with fail
      go_roundw
      case rel=>exact⟨i+1,_,M2,ab,aA,rfl,K3,eR,⟨gd.o.1,by have:=gd.o.2;omega⟩⟩
      case measure=>exact dY
     ·have CT:ag (DirL L (M2++[(i,U)])/\(M2++[(i,U)]).length<=U*10000+(i+1)):=⟨gd.o.1.add (HD.o rfl) (by rw[HN.o];exact an),by rw[zH];have:=gd.o.2;simp;omega⟩;go_wp2_with (at_builtin;refine jh rfl _ _ 264 119 _ 2 16 dpC rfl underlying264 infoDP rfl ak ak dpC_len dpC_one w.heap.size _ M2 [(i,U)] rfl (ad.own eR.o (by exact al:ad w3 _)) _ 0 1 1 rfl (Rw.one (ea ao)) (by have:=HLM.o;simp;omega) (by simp;omega) ?_;intro v4 w4 mI hB4 hg4;have GO:=aa mI;have K4:ad w w4:=ad.but al hB4 (λx hx=>((ad.own eR.o (by exact al:ad w3 _)).lt x (Option.mem_toList.1 hx)).1);clear mI hB4)
      go_roundw
      case rel=>exact⟨i+1,v4,_,ab,aA,rfl,K4,GO,CT⟩
      case measure=>exact dY
    ·obtain rfl:i=U:=ab;go_wp2_with fail
     go_roundw
     case rel=>exact⟨i+1,_,M2,ab,aA,rfl,k2,dA,⟨gd.o.1,by have:=gd.o.2;omega⟩⟩
     case measure=>exact dY
  ·obtain rfl:U=n:=ab;go_wp2_with fail
   go_ret;exact⟨_,M,rfl,ho.o,hm.o.1,qcg hm.o.2 (Nat.mul_le_mul_right 10000 hl),kr⟩
def BitB (w:World) (q n:Nat) (P:Nat->Prop):Prop:=∃ cur,w.heap[q]? =some (.cells cur 4 (0,0))/\∀ k,k<n->∃ b,cur[k]? =some (.bool b)/\(b=true->P k)
theorem BitB.new:BitB (w.alloc (.cells (madeCells (Value.bool false).cells n) 4)) w.heap.size n P:=
 ⟨_,yY w _,λk hk=>⟨false,qbR n k hk,λh=>(by cases h)⟩⟩
theorem BitB.kept {w2:World} (h:BitB w q n P) (k:ad w w2):BitB w2 q n P:=by
 obtain⟨cur,h1,h2⟩:=h;exact⟨cur,k.heap h1,h2⟩
theorem BitB.set (h:BitB w q n P) (ha:P a):BitB (w.setCell ⟨q,a,none⟩ (.bool true)) q n P:=by
 obtain⟨cur,h1,h2⟩:=h;refine⟨_,Ok w q a cur _ _ h1,λk hk=> ?_⟩;by_cases e:a=k
 ·subst e;obtain⟨b,hb,_⟩:=h2 a hk;exact⟨true,by rw[Array.getElem?_setIfInBounds_self_of_lt (aQ hb)],λ_=>ha⟩
 ·obtain⟨b,hb,hp⟩:=h2 k hk;exact⟨b,by rw[Array.getElem?_setIfInBounds_ne e];exact hb,hp⟩
theorem BitB.af {k:Nat} (h:BitB w q n P) (hk:k<n):∃ b,w.cell? ⟨q,k,none⟩=some (.bool b)/\(b=true->P k)/\w.frozen? ⟨q,k,none⟩=false/\q<w.heap.size:=by
 obtain⟨cur,h1,h2⟩:=h;obtain⟨b,hb,hp⟩:=h2 k hk;exact⟨b,by rw[aE h1];exact hb,hp,aI h1 k,(aQ h1)⟩
theorem BitB.fr_set (h:BitB w q n P) (u:Value):Fr (λe=>e≠4) w (w.setCell ⟨q,a,none⟩ u):=by
 obtain⟨cur,h1,_⟩:=h;refine Fr.gn (S:=[q]) ((ah.refl _ w).setCell (.inl ao) u) λs hs jb e he aN=> ?_;rw[At.1 hs,h1]at he;simp only[Option.some.injEq,Obj.cells.injEq]at he;exact aN he.2.1.symm
theorem rmarks (v:Value) (L:List nK) (i:Nat) (w:World) (mR:EvAt w v L) (hl:L.length<=10000):
  Calls prog 127 #[v,.int .i64 i] w λr w'=>∃ q,r= .returned (.slice (some ⟨q,0,none⟩) L.length L.length)/\BitB w' q L.length (λk=>Ahd L k i)/\ad w w':=by
 obtain⟨A,c,rfl,bl,bQ⟩:=mR.row.form;obtain⟨n,hn⟩:=eqQ L.length;have HL:=aa hl;rw[hn]at bl hl;have HN:=aa hn;have HE:=aa mR;simp only[hn]at HE⊢;clear mR hn;obtain⟨i0,hi,a7,aY,aW⟩:=ql0 qbQ
 have lT:∀ (w:World),(Instr.makeSlice 204 (.int .i64 (n:Int)) (.int .i64 (n:Int))).run prog w= .ok (.slice (some ⟨w.heap.size,0,none⟩) n n) (w.alloc (.cells (madeCells (Value.bool false).cells n) 4)):=λw=>by
  have h:=run_makeSlice (P:=prog) w 204 4 i0 (.bool false) underlying204 hi a7 .i64 .i64 n n ab ab (by rw[aY];simp;omega) (by rw[aW];omega) ab;rw[aY]at h;simpa using h
 clear hi;go_in;go_wp2_with fail
 have Jq:=aa (BitB.new (w:=w) (n:=n) (P:=λk=>Ahd L k i));refine(redges _ L _ (HE.o.kept al) HL.o).mono ?_;rintro r w1 ⟨v1,M,rfl,ho,hd,Mh,k1⟩;obtain⟨MQ,mc,hvf⟩:=ca ho;obtain⟨m,hm⟩:=eqQ M.length;have HM:=aa hm;rw[hm]at hvf Mh;subst hvf;have HR:=aa (Rw.bp ho dpC_len ak);have tw:=aa (Jq.o.kept k1);have HD:=aa hd;have K1:ad w w1:=ad.call al k1;clear ho hd k1 hm Jq;go_wp2_with fail
 go_loopw [7] (λkv wr=>∃ k:Nat,k<=m/\kv= .int .i64 ((k:Int)-1)/\ad w wr/\ag (BitB wr w.heap.size n (λk=>Ahd L k i))/\ag (Fr (λe=>e≠4) w1 wr)) (λkv _=>(intOf kv+1).toNat)
 case atStart=>exact⟨m,ab,rfl,K1,tw,Fr.ar (ad.refl _)⟩
 case round=>
  obtain⟨k,hk,rfl,kr,hb,hf⟩:=hrel
  cases k with
  |zero=>
   have g0:decide ((0:Int)<=((0:Nat):Int)-1)=false:=ak;go_wp2_with fail
   go_ret;exact⟨w.heap.size,rfl,hb.o,kr⟩
  |succ k=>
   obtain⟨p,hp⟩:=exQ M k (by rw[HM.o];omega);obtain⟨b,off,rfl,dZ,hc⟩:=(HR.o.fr hf.o ak).af hp;obtain⟨hd,h2⟩:=HD.o p (zV hp);have yC:=hd.1;have HDI:=aa hd;obtain⟨p1,p2⟩:=p;simp only at h2 yC;rw[HN.o]at h2;have c0:=hc 0 _ rfl;have c1:=hc 1 _ rfl;rw[Nat.add_zero]at c0;obtain⟨b1,y1,_,f1,kp⟩:=hb.o.af (show p1<n by omega);obtain⟨b2,y2,gg,_,_⟩:=hb.o.af h2;have ll:=aa gg;have g0:decide ((0:Int)<=((k+1:Nat):Int)-1)=true:=ql3 ab;have eN:((k+1:Nat):Int)-1=(k:Int):=ab;rw[eN]at g0⊢;clear hc hp hd gg;by_cases he:p2=i
   ·have HS:ag (Ahd L p1 i):= .one (by have:=HDI.o;rw[<- he];exact this);have e1:((p2:Int)==(i:Int))=true:=by simp[he]
    have iZ:ag (BitB (wr.setCell ⟨w.heap.size,p1,none⟩ (.bool true)) w.heap.size n (λk=>Ahd L k i)):=hb.o.set HS.o;have nG:ag (Fr (λe=>e≠4) w1 (wr.setCell ⟨w.heap.size,p1,none⟩ (.bool true))):=hf.o.trans (hb.o.fr_set _);go_wp2_with fail
    go_roundw
    case rel=>exact⟨k,ab,aA,al,iZ,nG⟩
    case measure=>simp[intOf]
   ·have e1:((p2:Int)==(i:Int))=false:=by simp;omega
    cases b2
    ·go_wp2_with fail
     go_roundw
     case rel=>exact⟨k,ab,aA,kr,hb,hf⟩
     case measure=>simp[intOf]
    ·have HS:ag (Ahd L p1 i):=Ahd.cons HDI.o (ll.o rfl);have iZ:ag (BitB (wr.setCell ⟨w.heap.size,p1,none⟩ (.bool true)) w.heap.size n (λk=>Ahd L k i)):=hb.o.set HS.o;have nG:ag (Fr (λe=>e≠4) w1 (wr.setCell ⟨w.heap.size,p1,none⟩ (.bool true))):=hf.o.trans (hb.o.fr_set _);go_wp2_with fail
     go_roundw
     case rel=>exact⟨k,ab,aA,al,iZ,nG⟩
     case measure=>simp[intOf]
theorem numC_oneA:∀ (l:List Int),∀ u∈l.flatMap cJ,u.oneCell'=true:=λl u hu=>by
 obtain⟨x,_,hx⟩:=List.mem_flatMap.1 hu;simp only[cJ,KX,List.not_mem_nil,or_false]at hx;rw[hx];rfl
def AhdL (L:List nK) (i:Nat) (M:List Int):Prop:=∀ x∈M,∃ k:Nat,x=(k:Int)/\k<L.length/\Ahd L k i
theorem rahead (v:Value) (L:List nK) (i:Nat) (w:World) (mR:EvAt w v L) (hl:L.length<=10000) (hi:i<L.length):
  Calls prog 72 #[v,.int .i64 i] w λr w'=>∃ v' M,r= .returned v'/\Rw w' 3 1 cJ v' M/\AhdL L i M/\M.length<=L.length/\ad w w':=by
 obtain⟨A,c,rfl,bl,bQ⟩:=mR.row.form;have HL:=aa hl;obtain⟨n,hn⟩:=eqQ L.length;rw[hn]at bl hl hi;have HN:=aa hn;have HE:=aa mR;simp only[hn]at HE⊢;have g0:decide ((i:Int)<0)=false:=ao;have g1:decide ((n:Int)<=(i:Int))=false:=by simp;omega
 clear mR hn;go_in;go_wp2_with fail
 refine(rmarks _ L i _ (HE.o.kept al) HL.o).mono ?_;rintro r w1 ⟨q,rfl,hb,k1⟩;rw[HN.o]at hb⊢;have HB:=aa hb;have K1:ad w w1:=ad.call al k1;clear hb k1 g0 g1;go_wp2_with fail
 go_loopw [5,7] (λov kv wr=>∃ (k:Nat) (qln:Value) (M:List Int),k<=n/\kv= .int .i64 k/\qln=ov/\ad w1 wr/\ag (wr.ownsRow w1.heap.size 3 1 qln M.length (M.flatMap cJ))/\ag (AhdL L i M/\M.length<=k)) (λ_ kv _=>n-(intOf kv).toNat)
 case atStart=>exact⟨0,_,[],ab,rfl,rfl,ad.refl _,qcb _ _ _ _,⟨λx hx=>(by cases hx),ak⟩⟩
 case round=>
  obtain⟨k,qln,M,hk,rfl,rfl,kr,ho,hm⟩:=hrel;have K2:=K1.call kr;have aW:=kr.size;by_cases an:k<n
  ·obtain⟨b,y,ha,_,hq⟩:=(HB.o.kept kr).af an;have HA:=aa ha;clear ha
   cases b
   ·go_wp2_with fail
    go_roundw
    case rel=>exact⟨k+1,_,M,ab,aA,rfl,kr,ho,⟨hm.o.1,by have:=hm.o.2;omega⟩⟩
    case measure=>exact dY
   ·have Mh:=hm.o.2
    have CT:ag (AhdL L i (M++[(k:Int)])/\(M++[(k:Int)]).length<=k+1):=⟨λx hx=>by
     rcases Pv.1 hx with g|g
     ·exact hm.o.1 x g
     ·exact⟨k,At.1 g,by rw[HN.o];exact an,HA.o rfl⟩,by rw[zH];simp;omega⟩
    go_wp2_with (at_builtin;refine jh rfl _ _ 22 3 _ 1 8 cJ rfl underlying22 oZ rfl ak ak Wl numC_oneA w1.heap.size _ M [(k:Int)] rfl (ad.own ho.o (by exact al:ad wr _)) _ 0 1 1 rfl (Rw.one (ea ao)) (by simp;omega) (by simp;omega) ?_;intro v4 w4 mI hB4 hg4;have GO:=aa mI;have K4:ad w1 w4:=ad.but al hB4 (λx hx=>(ho.o.lt x (Option.mem_toList.1 hx)).1);clear mI hB4)
    go_roundw
    case rel=>exact⟨k+1,v4,_,ab,aA,rfl,K4,GO,CT⟩
    case measure=>exact dY
  ·obtain rfl:k=n:=ab;go_wp2_with fail
   go_ret;exact⟨_,M,rfl,.bp ho.o Wl ak,hm.o.1,by have:=hm.o.2;omega,K2⟩
end Go.Proofs.YtehaoggjlciobaaGreat

/- Part Pbx. -/
import Derived.Test.YtehaoggjlciobaaGreatPbj
import Derived.Deep.CutBlock
import Derived.Deep.DeepCutAuto
import Derived.Test.YtehaoggjlciobaaGreatPao
set_option linter.all false
set_option maxRecDepth 20000
set_option maxHeartbeats 16000000
namespace Go.Proofs.YtehaoggjlciobaaGreat
open Go.Maps Go.RowKit Go.ChangeShapes Go.Deep Go.Joins Go.WideShapes
structure qd (ps:List Int):Prop where
 one:1<=ps.length
 root:pa ps 0= -1
 up:∀ i,1<=i->i<ps.length->0<=pa ps i/\pa ps i<i
theorem qd.two:qd [-1,0]:=⟨ao,rfl,λi h1 h2=>by
 obtain rfl:i=1:=by simp at h2;omega
 exact⟨ak,ak⟩⟩
theorem qd.snoc {ps:List Int} (h:qd ps) {x:Int} (h0:0<=x) (h1:x<ps.length):qd (ps++[x]):=by
 have hp:=h.one;refine⟨ao,?_,λi hi hl=> ?_⟩
 ·unfold pa;rw[qlZ ab];exact h.root
 ·rcases R6 i ps.length with g|g
  ·unfold pa;rw[qlZ g];exact h.up i hi g
  ·obtain rfl:i=ps.length:=by simp at hl;omega
   unfold pa;rw[List.getElem?_append_right ab];simp;omega
theorem qd.tree {ps:List Int} (h:qd ps) (h6:ps.length<=6):cH ps:=by
 have hp:=h.one
 have hm:Made ps ps.length 0 (λi=>(pa ps i).toNat):=by
  refine⟨rfl,ab,h6,λi h1 h2=> ?_,λi hi=> ?_⟩
  ·have:=h.up i ab h2;omega
  ·rw[Nat.add_zero,Nat.mod_eq_of_lt hi];by_cases h0:i=0
   ·subst h0;rw[if_pos rfl,h.root]
   ·have:=h.up i ab hi;rw[if_neg h0,Nat.add_zero,Nat.mod_eq_of_lt ab];omega
 exact hm.tree
structure iq (w wr:World) (X R Q fO:Nat) (qv:Array Value) (rv ov pv:Value) (rs:List Rg) (os ps:List Int):Prop where
 k:ad w wr
 x:wr.heap[X]? =some (.cells qv 67 (0,0))
 rb:wr.heap[R]? =some (.cells #[.slice none 0 0,.slice none 0 0,.slice none 0 0] 29 (0,0))
 qb:wr.heap[Q]? =some (.cells #[rv,ov,pv] 29 (0,0))
 ne:R≠Q
 q:w.heap.size<=Q
 E7:w.heap.size<=fO
 r:wr.ownsRow w.heap.size 63 2 rv rs.length (rs.flatMap bZ)
 o:wr.ownsRow fO 3 1 ov os.length (os.flatMap cJ)
 p:wr.ownsRow w.heap.size 3 1 pv ps.length (ps.flatMap cJ)
section
variable {w wr w2:World} {X R Q fO:Nat} {qv:Array Value} {rv ov pv v6:Value} {rs OX:List Rg} {os aJ ps a':List Int}
theorem iq.go (h:iq w wr X R Q fO qv rv ov pv rs os ps) (hk:ad wr w2):iq w w2 X R Q fO qv rv ov pv rs os ps:=
 ⟨h.k.call hk,hk.heap h.x,hk.heap h.rb,hk.heap h.qb,h.ne,h.q,h.E7,ad.own h.r hk,ad.own h.o hk,ad.own h.p hk⟩
theorem iq.OY (h:iq w wr X R Q fO qv rv (.slice none 0 0) pv rs [] ps) (hB:ah pv.ownBlock.toList wr w2) (ho:w2.ownsRow w.heap.size 3 1 v6 a'.length (a'.flatMap cJ)):
  iq w (w2.setCell ⟨Q,2,none⟩ v6) X R Q fO qv rv (.slice none 0 0) v6 rs [] a':=by
 have hs:=ah.set (w:=w2) Q 2 v6;have q6:=hB.heap h.qb (ec h.p h.qb ak);have x6:=hB.heap h.x (ec h.p h.x ak);have r6:=hB.heap h.rb (ec h.p h.rb ak)
 exact⟨(h.k.but hB λy hy=>(h.p.lt y (Option.mem_toList.1 hy)).1).but hs (by simpa using h.q),hs.heap x6 (by simpa using fB x6 q6 ak),hs.heap r6 (by simpa using h.ne),Ok w2 Q 2 _ _ v6 q6,h.ne,h.q,h.E7,
  cB (cB h.r hB (nJ h.r h.p ak)) hs (gL (cB h.r hB (nJ h.r h.p ak)) q6 ak),qcb _ _ _ _,cB ho hs (gL ho q6 ak)⟩
theorem iq.Y0 (h:iq w wr X R Q fO qv rv ov pv rs os ps) (hB:ah rv.ownBlock.toList wr w2) (ho:w2.ownsRow w.heap.size 63 2 v6 OX.length (OX.flatMap bZ)):
  iq w (w2.setCell ⟨Q,0,none⟩ v6) X R Q fO qv v6 ov pv OX os ps:=by
 have hs:=ah.set (w:=w2) Q 0 v6;have q6:=hB.heap h.qb (ec h.r h.qb ak);have x6:=hB.heap h.x (ec h.r h.x ak);have r6:=hB.heap h.rb (ec h.r h.rb ak);have Y1:=cB h.o hB (nJ h.o h.r ak);have p6:=cB h.p hB (nJ h.p h.r ak)
 exact⟨(h.k.but hB λy hy=>(h.r.lt y (Option.mem_toList.1 hy)).1).but hs (by simpa using h.q),hs.heap x6 (by simpa using fB x6 q6 ak),hs.heap r6 (by simpa using h.ne),Ok w2 Q 0 _ _ v6 q6,h.ne,h.q,h.E7,
  cB ho hs (gL ho q6 ak),cB Y1 hs (gL Y1 q6 ak),cB p6 hs (gL p6 q6 ak)⟩
theorem iq.Y2 (h:iq w wr X R Q fO qv rv ov pv rs os ps) (hp:∀ g,pv.ownBlock=some g->g<fO) (hB:ah ov.ownBlock.toList wr w2) (ho:w2.ownsRow fO 3 1 v6 aJ.length (aJ.flatMap cJ)):
  iq w (w2.setCell ⟨Q,1,none⟩ v6) X R Q fO qv rv v6 pv rs aJ ps:=by
 have hs:=ah.set (w:=w2) Q 1 v6;have q6:=hB.heap h.qb (ec h.o h.qb ak);have x6:=hB.heap h.x (ec h.o h.x ak);have r6:=hB.heap h.rb (ec h.o h.rb ak);have Y3:=cB h.r hB (nJ h.r h.o ak)
 have p6:=cB h.p hB λg hg hy=>by
  have h1:=hp g hg;have h2:=(h.o.lt g (Option.mem_toList.1 hy)).1;omega
 exact⟨(h.k.but hB λy hy=>qcg h.E7 (h.o.lt y (Option.mem_toList.1 hy)).1).but hs (by simpa using h.q),hs.heap x6 (by simpa using fB x6 q6 ak),hs.heap r6 (by simpa using h.ne),Ok w2 Q 1 _ _ v6 q6,h.ne,h.q,h.E7,
  cB Y3 hs (gL Y3 q6 ak),cB ho hs (gL ho q6 ak),cB p6 hs (gL p6 q6 ak)⟩
theorem iq.base (h:iq w wr X R Q fO qv rv (.slice none 0 0) pv rs [] ps):iq w wr X R Q wr.heap.size qv rv (.slice none 0 0) pv rs [] ps:=
 ⟨h.k,h.x,h.rb,h.qb,h.ne,h.q,h.k.size,h.r,qcb _ _ _ _,h.p⟩
end
theorem E8 (x k:Int) (hk:0<k):∃ r:Nat,(x.tmod k+k).tmod k=r/\(r:Int)<k:=by
 have hb:=ww x k hk;have h2:=Int.tmod_nonneg k (show 0<=x.tmod k+k by omega);have h3:=Int.tmod_lt_of_pos (x.tmod k+k) hk;exact⟨_,(Int.toNat_of_nonneg h2).symm,ab⟩
def yS (n:Nat) (w':World) (rv ov pv:Value) (es:List Nat) (os ps:List Int):Prop:=
 Rw w' 63 2 bZ rv (bw es)/\Rw w' 3 1 cJ ov os/\Rw w' 3 1 cJ pv ps/\eA es os ps ps.length/\2<=ps.length/\ps.length<=5/\(n≠0->ps.length=n)
theorem OZ {α:Type} (l:List α) (x:α):(l++[x]).length=l.length+1:=ao
theorem qja {w:World} {base Ii e k n:Nat} {v:Value} {xs:List Value} (h:w.ownsRow base e k v n xs) (hb:Ii<=base):w.ownsRow Ii e k v n xs:=by
 refine⟨h.1,h.2.imp id ?_⟩;rintro⟨g,cap,cur,rfl,h1,h2⟩;exact⟨g,cap,cur,rfl,qcg hb h1,h2⟩
theorem yU:∀ a,(cJ a).length=1:=λ_=>rfl
theorem O3:∀ a,(bZ a).length=2:=λ_=>rfl
theorem Fa:∀ (l:List Int),∀ u∈l.flatMap cJ,u.oneCell'=true:=λl u hu=>by
 obtain⟨a,_,ha⟩:=List.mem_flatMap.1 hu;simp only[cJ,KX,List.not_mem_nil,or_false]at ha;subst ha;rfl
theorem Y':∀ (l:List Rg),∀ u∈l.flatMap bZ,u.oneCell'=true:=λl u hu=>by
 obtain⟨a,_,ha⟩:=List.mem_flatMap.1 hu;simp only[bZ,KX,List.not_mem_nil,or_false]at ha;rcases ha with rfl|rfl <;>rfl
theorem Za (A B C:Option Addr) (m c m2 c2 m3 c3:Nat) (xs ys zs:List Int) (n:Nat) (w:World) (hx:bo w A m c xs) (hy:bo w B m2 c2 ys) (hz:bo w C m3 c3 zs) (hn:n=0∨2<=n/\n<=5):
  Calls Tryz.prog 21 #[.agg #[.slice A m c,.slice B m2 c2,.slice C m3 c3],.int .i64 n] w λe w'=>∃ rv ov pv es os ps,e= .returned (.agg #[rv,ov,pv])/\yS n w' rv ov pv es os ps/\ad w w':=by
 have HX:=aa hx;have HY:=aa hy;have HZ:=aa hz;have gB:=aa hn;have hm:m<=c/\c<=9223372036854775807:=by have h1:=hx.2.1;have h2:=hx.2.2.1;unfold maxLen at h2;omega
 have gd:m2<=c2/\c2<=9223372036854775807:=by have h1:=hy.2.1;have h2:=hy.2.2.1;unfold maxLen at h2;omega
 have yw:m3<=c3/\c3<=9223372036854775807:=by have h1:=hz.2.1;have h2:=hz.2.2.1;unfold maxLen at h2;omega
 have NZ:n<=5:=ab;clear hx hy hz hn;go_in;go_upto_block 0 with fail
 have wg:ag (iq w ((((w.alloc (.cells #[.slice A m c,.slice B m2 c2,.slice C m3 c3] 67)).alloc (.cells #[.slice none 0 0,.slice none 0 0,.slice none 0 0] 29)).alloc (.cells #[.int .i64 (-1),.int .i64 0] 3)).alloc (.cells #[.slice none 0 0,.slice none 0 0,.slice (some ⟨w.heap.size+1+1,0,none⟩) 2 2] 29)) w.heap.size (w.heap.size+1) (w.heap.size+1+1+1) w.heap.size #[.slice A m c,.slice B m2 c2,.slice C m3 c3] (.slice none 0 0) (.slice none 0 0) (.slice (some ⟨w.heap.size+1+1,0,none⟩) 2 2) [] [] [-1,0]):=by
  obtain⟨W1,eZ⟩:∃ W1,w.alloc (.cells #[.slice A m c,.slice B m2 c2,.slice C m3 c3] 67)=W1:=⟨_,rfl⟩;have z1:W1.heap.size=w.heap.size+1:=by rw[<- eZ,World.size_alloc]
  have bj:=l5 w (.cells #[.slice A m c,.slice B m2 c2,.slice C m3 c3] 67);have k1:ad w W1:=eZ▸(ad.refl w).alloc _;rw[eZ]at bj⊢;obtain⟨W2,fw⟩:∃ W2,W1.alloc (.cells #[.slice none 0 0,.slice none 0 0,.slice none 0 0] 29)=W2:=⟨_,rfl⟩;have z2:W2.heap.size=w.heap.size+1+1:=by rw[<- fw,World.size_alloc,z1]
  have a2:=l5 W1 (.cells #[.slice none 0 0,.slice none 0 0,.slice none 0 0] 29);have k2:ad W1 W2:=fw▸(ad.refl W1).alloc _;rw[fw,z1]at a2;rw[fw];have h3:=BK W2 3 [.int .i64 (-1),.int .i64 0] 2 1 rfl (by unfold maxLen;omega);obtain⟨W3,db⟩:∃ W3,W2.alloc (.cells #[.int .i64 (-1),.int .i64 0] 3)=W3:=⟨_,rfl⟩;have z3:W3.heap.size=w.heap.size+1+1+1:=by rw[<- db,World.size_alloc,z2]
  have k3:ad W2 W3:=db▸(ad.refl W2).alloc _;have e3:([.int .i64 (-1),.int .i64 0]:List Value).toArray= #[.int .i64 (-1),.int .i64 0]:=rfl;rw[e3,db,z2]at h3;rw[db];have a4:=l5 W3 (.cells #[.slice none 0 0,.slice none 0 0,.slice (some ⟨w.heap.size+1+1,0,none⟩) 2 2] 29);have k4:=(ad.refl W3).alloc (.cells #[.slice none 0 0,.slice none 0 0,.slice (some ⟨w.heap.size+1+1,0,none⟩) 2 2] 29);rw[z3]at a4;exact⟨((k1.call k2).call k3).call k4,(((k2.call k3).call k4)).heap bj,(k3.call k4).heap a2,a4,ab,ab,CP _,qcb _ _ _ _,qcb _ _ _ _,qja (ad.own h3 k4) ab⟩
 generalize ((((w.alloc (.cells #[.slice A m c,.slice B m2 c2,.slice C m3 c3] 67)).alloc (.cells #[.slice none 0 0,.slice none 0 0,.slice none 0 0] 29)).alloc (.cells #[.int .i64 (-1),.int .i64 0] 3)).alloc (.cells #[.slice none 0 0,.slice none 0 0,.slice (some ⟨w.heap.size+1+1,0,none⟩) 2 2] 29))=qlL at wg⊢;have hR1:w.heap.size<w.heap.size+1:=ab;have hQ1:w.heap.size+1<w.heap.size+1+1+1:=ab;generalize (.slice (some ⟨w.heap.size+1+1,0,none⟩) 2 2:Value)=pv0 at wg⊢;generalize w.heap.size+1+1+1=Q at*;generalize w.heap.size+1=R at*;go_cut [6] (λiv wx=>∃ (ps:List Int) (pv:Value),ag (iq w wx w.heap.size R Q w.heap.size #[.slice A m c,.slice B m2 c2,.slice C m3 c3] (.slice none 0 0) (.slice none 0 0) pv [] [] ps)/\ag (qd ps)/\ag (2<=ps.length/\ps.length<=5/\(n≠0->ps.length=2)))
 case first=>
  go_wp2_with fail
  go_loopw [6] (λiv wr=>∃ (U:Nat) (ps:List Int) (pv:Value),U<=m3/\U<=3/\iv= .int .i64 U/\ag (iq w wr w.heap.size R Q w.heap.size #[.slice A m c,.slice B m2 c2,.slice C m3 c3] (.slice none 0 0) (.slice none 0 0) pv [] [] ps)/\ag (qd ps)/\ag (ps.length=U+2)/\ag (n≠0->U=0)) (λiv _=>m3-(intOf iv).toNat)
  case atStart=>exact⟨0,_,_,ab,ab,rfl,wg,qd.two,rfl,λ_=>rfl⟩
  case round=>
   obtain⟨U,ps,pv,s5,hj3,rfl,HM,HT,cM,HJ0⟩:=hrel;have rA:=ap HM.o.x 2;have q2:=ap HM.o.qb 2;obtain⟨PA,pc,cv⟩:=ca HM.o.p;rw[cM.o]at cv;subst cv;by_cases an:U<m3/\U<3/\n=0
   ·have e1:decide ((U:Int)<m3)=true:=by simp;omega
    have e2:decide ((U:Int)<3)=true:=by simp;omega
    have e3:((n:Int)==0)=true:=by simp;omega
    obtain⟨hj1,yL,sg⟩:=an;have HN0:=aa sg;clear sg;obtain⟨O4,O8,rfl,vd⟩:=HZ.o.2.2.2.2 ab;have RG:=HM.o.k.af (vd U hj1);generalize zs[U]?.getD (-2)=x at*;have hb:=ww x ((U:Int)+2) ab;obtain⟨r,hr,b3⟩:=E8 x ((U:Int)+2) ab;have mg:(x.tmod ((U:Int)+2)+(U:Int)+2).tmod ((U:Int)+2)=(r:Int):=by rw[Int.add_assoc];exact hr
    have nz:=aa (HT.o.snoc (x:=(r:Int)) ab (by rw[cM.o];omega));have vu:ag ((ps++[(r:Int)]).length=U+1+2):=by unfold ag;rw[OZ,cM.o]
    have qjb:((U:Int)+2==0)=false:=by simp;omega
    have C6:ag (n≠0->U+1=0):=λg=>absurd HN0.o g;clear vd hr;go_wp2_with fail
    refine bz (λwB=>ad wr wB/\wB.cell? ⟨Q,2,none⟩=some (.slice PA (U+2) pc)/\wB.cell? ⟨w.heap.size,2,none⟩=some (.slice (some ⟨O4,O8,none⟩) m3 c3)/\wB.cell? ⟨O4,O8+U,none⟩=some (.int .i64 x)) λwB SS=> ?_;obtain⟨au,aB,aC,aF⟩:=SS.o _ (ad.refl _);iterate 17 (first|refine DW.dt ?_|(refine DW.bt av ?_;intro wd hI;obtain⟨ae,ai,aj,aq⟩:=SS.o wd hI;go_wp2_with (fail);refine cu hI SS (λbf SS=> ?_) rfl;obtain⟨au,aB,aC,aF⟩:=SS.o _ (ad.refl _)))
    refine DW.tail av λwd hI=> ?_;obtain⟨ae,ai,aj,aq⟩:=SS.o wd hI;clear SS;go_wp2_with (at_builtin;go_must (refine jh rfl _ _ 22 3 _ 1 8 cJ rfl Tryz.underlying22 oZ rfl ak ak yU Fa w.heap.size _ ps [(r:Int)] rfl (ad.own HM.o.p ae) _ 0 1 1 rfl (Rw.one (hI.heap (l5 _ _))) (by(have:=cM.o);simp;omega) (qcg HM.o.k.size (ad.size ae)) ?_;intro v6 w6 O6 cj jM;have q6:=cj.heap (ad.heap ae HM.o.qb) (ec (ad.own HM.o.p ae) (ad.heap ae HM.o.qb) ak);obtain⟨A6,gu,cy⟩:=ca O6;rw[show(ps++[(r:Int)]).length=U+2+1 from(by rw[qC,cM.o];rfl)]at cy;subst cy;have M6:=aa ((HM.o.go ae).OY cj O6);have nj:=cj.size;have g6:=aE q6 2;have f6:=aI q6 2;clear O6 cj jM q6))
    go_roundw
    case rel=>first|exact⟨U+1,_,_,ab,ab,aA,M6,nz,vu,C6⟩|((repeat apply R7);exact⟨⟨U+1,_,_,ab,ab,aA,M6,nz,vu,C6⟩,rfl⟩)
    case measure=>simp[intOf];omega
   ·have mQ:ag (2<=ps.length/\ps.length<=5/\(n≠0->ps.length=2)):=⟨by rw[cM.o];omega,by rw[cM.o];omega,λg=>by rw[cM.o,HJ0.o g]⟩;rcases(by omega:m3<=U∨(U<m3/\3<=U)∨(U<m3/\U<3/\n≠0))with g1|g1|g1
    ·have e1:decide ((U:Int)<m3)=false:=by simp;omega
     go_wp2_with fail
     go_meet
     case rel=>exact⟨ps,_,HM,HT,mQ⟩
    ·have e1:decide ((U:Int)<m3)=true:=by simp;omega
     have e2:decide ((U:Int)<3)=false:=by simp;omega
     go_wp2_with fail
     go_meet
     case rel=>exact⟨ps,_,HM,HT,mQ⟩
    ·have e1:decide ((U:Int)<m3)=true:=by simp;omega
     have e2:decide ((U:Int)<3)=true:=by simp;omega
     have e3:((n:Int)==0)=false:=by simp;omega
     go_wp2_with fail
     go_meet
     case rel=>exact⟨ps,_,HM,HT,mQ⟩
 case rest=>
  obtain⟨O',qlM,Zb,Zc,tW⟩:=hcut;have Jj:ag (2<=O'.length/\O'.length<=5/\(n≠0->O'.length=2/\2<=n)/\(n=0->True)):=⟨tW.o.1,tW.o.2.1,λg=>⟨tW.o.2.2 g,by have:=gB.o;omega⟩,λ_=>trivial⟩;clear wg;go_wp2_with fail
  go_loopw [7] (λiv wr=>∃ (i:Nat) (ps:List Int) (pv:Value),2<=i/\iv= .int .i64 i/\ag (iq w wr w.heap.size R Q w.heap.size #[.slice A m c,.slice B m2 c2,.slice C m3 c3] (.slice none 0 0) (.slice none 0 0) pv [] [] ps)/\ag (qd ps)/\ag (2<=ps.length/\ps.length<=5/\(n≠0->ps.length=i/\i<=n)/\(n=0->i=2))) (λiv _=>n-(intOf iv).toNat)
  case atStart=>exact⟨2,_,_,ab,rfl,Zb,Zc,⟨Jj.o.1,Jj.o.2.1,Jj.o.2.2.1,λ_=>rfl⟩⟩
  case round=>
   obtain⟨i,ps,pv,eE,rfl,HM,HT,HL⟩:=hrel;obtain⟨PA,pc,cv⟩:=ca HM.o.p;have rA:=ap HM.o.x 2;by_cases an:i<n
   ·have cO:=HL.o.2.2.1 ab;have cM:ag (ps.length=i):=cO.1;rw[cM.o]at cv;subst cv;have q2:=ap HM.o.qb 2;have vZ:Q<wr.heap.size:=(aQ HM.o.qb);clear cO;by_cases kk:i<m3
    ·obtain⟨O4,O8,rfl,vd⟩:=HZ.o.2.2.2.2 ab;have j8:decide ((i:Int)<m3)=true:=by simp;omega
     have RG:=HM.o.k.af (vd i kk);generalize zs[i]?.getD (-2)=x at*;have hb:=ww x (i:Int) ab;obtain⟨r,hr,b3⟩:=E8 x (i:Int) ab;have nz:=aa (HT.o.snoc (x:=(r:Int)) ab (by rw[cM.o];omega))
     have Fb:ag (2<=(ps++[(r:Int)]).length/\(ps++[(r:Int)]).length<=5/\(n≠0->(ps++[(r:Int)]).length=i+1/\i+1<=n)/\(n=0->i+1=2)):=by
      unfold ag;rw[OZ,cM.o];exact⟨ab,ab,λ_=>⟨rfl,ab⟩,λg=>ab⟩
     have qjb:((i:Int)==0)=false:=by simp;omega
     clear vd;go_wp2_with (at_builtin;go_must (refine jh rfl _ _ 22 3 _ 1 8 cJ rfl Tryz.underlying22 oZ rfl ak ak yU Fa w.heap.size _ ps [(r:Int)] rfl (ad.own HM.o.p ((ad.refl wr).alloc (.cells #[.int .i64 (r:Int)] 3))) _ 0 1 1 rfl (Rw.one (ea rfl)) (by(have:=cM.o);simp;omega) (qcg HM.o.k.size (ad.size ((ad.refl wr).alloc (.cells #[.int .i64 (r:Int)] 3)))) ?_;intro v6 w6 O6 cj jM;have q6:=cj.heap (ad.heap ((ad.refl wr).alloc (.cells #[.int .i64 (r:Int)] 3)) HM.o.qb) (ec (ad.own HM.o.p ((ad.refl wr).alloc (.cells #[.int .i64 (r:Int)] 3))) (ad.heap ((ad.refl wr).alloc (.cells #[.int .i64 (r:Int)] 3)) HM.o.qb) ak);obtain⟨A6,gu,cy⟩:=ca O6;rw[show(ps++[(r:Int)]).length=i+1 from(by rw[qC,cM.o];rfl)]at cy;subst cy;have M6:=aa ((HM.o.go ((ad.refl wr).alloc _)).OY cj O6);have nj:=cj.size;have g6:=aE q6 2;have f6:=aI q6 2;clear O6 cj jM q6))
     go_roundw
     case rel=>first|exact⟨i+1,_,_,ab,aA,M6,nz,Fb⟩|((repeat apply R7);exact⟨⟨i+1,_,_,ab,aA,M6,nz,Fb⟩,rfl⟩)
     case measure=>simp[intOf];omega
    ·have j8:decide ((i:Int)<m3)=false:=by simp;omega
     have nz:=aa (HT.o.snoc (x:=(0:Int)) ab (by rw[cM.o];omega))
     have Fb:ag (2<=(ps++[(0:Int)]).length/\(ps++[(0:Int)]).length<=5/\(n≠0->(ps++[(0:Int)]).length=i+1/\i+1<=n)/\(n=0->i+1=2)):=by
      unfold ag;rw[OZ,cM.o];exact⟨ab,ab,λ_=>⟨rfl,ab⟩,λg=>ab⟩
     go_wp2_with (at_builtin;go_must (refine jh rfl _ _ 22 3 _ 1 8 cJ rfl Tryz.underlying22 oZ rfl ak ak yU Fa w.heap.size _ ps [(0:Int)] rfl (ad.own HM.o.p ((ad.refl wr).alloc (.cells #[.int .i64 0] 3))) _ 0 1 1 rfl (Rw.one (ea rfl)) (by(have:=cM.o);simp;omega) (qcg HM.o.k.size (ad.size ((ad.refl wr).alloc (.cells #[.int .i64 0] 3)))) ?_;intro v6 w6 O6 cj jM;have q6:=cj.heap (ad.heap ((ad.refl wr).alloc (.cells #[.int .i64 0] 3)) HM.o.qb) (ec (ad.own HM.o.p ((ad.refl wr).alloc (.cells #[.int .i64 0] 3))) (ad.heap ((ad.refl wr).alloc (.cells #[.int .i64 0] 3)) HM.o.qb) ak);obtain⟨A6,gu,cy⟩:=ca O6;rw[show(ps++[(0:Int)]).length=i+1 from(by rw[qC,cM.o];rfl)]at cy;subst cy;have M6:=aa ((HM.o.go ((ad.refl wr).alloc _)).OY cj O6);have nj:=cj.size;have g6:=aE q6 2;have f6:=aI q6 2;clear O6 cj jM q6))
     go_roundw
     case rel=>first|exact⟨i+1,_,_,ab,aA,M6,nz,Fb⟩|((repeat apply R7);exact⟨⟨i+1,_,_,ab,aA,M6,nz,Fb⟩,rfl⟩)
     case measure=>simp[intOf];omega
   ·have jY:ag (2<=ps.length/\ps.length<=5/\(n≠0->ps.length=n)):=⟨HL.o.1,HL.o.2.1,λg=>by have:=HL.o.2.2.1 g;omega⟩;obtain⟨W1,rfl⟩:∃ W1,W1=wr:=⟨_,rfl⟩;obtain⟨pl,cO⟩:∃ pl,ps.length=pl:=⟨_,rfl⟩;have kG:=aa cO;rw[cO]at cv;subst cv;clear cO Zb Zc tW Jj;go_upto_block 4 with fail
    have Zd:ag (Up []):=Gu;go_cut [9,10] (λfF iv wx=>∃ (es:List Nat) (rv:Value),fF= .string (fr es es.length)/\es.length<=4/\ag (Up es)/\ag (iq w wx w.heap.size R Q w.heap.size #[.slice A m c,.slice B m2 c2,.slice C m3 c3] rv (.slice none 0 0) (.slice PA pl pc) (pre es) [] ps))
    case first=>
     go_wp2_with fail
     go_loopw [9,10] (λfF iv wr=>∃ (i:Nat) (es:List Nat) (rv:Value),i<=m/\i<=4/\iv= .int .i64 i/\fF= .string (fr es es.length)/\es.length<=i/\ag (Up es)/\ag (iq w wr w.heap.size R Q w.heap.size #[.slice A m c,.slice B m2 c2,.slice C m3 c3] rv (.slice none 0 0) (.slice PA pl pc) (pre es) [] ps)) (λ_ iv _=>m-(intOf iv).toNat)
     case atStart=>exact⟨0,[],_,ab,ab,rfl,rfl,ao,Gu,HM⟩
     case round=>
      clear HM Zd rA;obtain⟨i,es,rv,kk,hi4,rfl,rfl,Ze,jm,HM⟩:=hrel;have cM:ag ((pre es).length=es.length):=Sb es;obtain⟨RA,rc,ei⟩:=ca HM.o.r;rw[cM.o]at ei;subst ei;have rA:=ap HM.o.x 0;have q0:=ap HM.o.qb 0;have vZ:Q<wr.heap.size:=(aQ HM.o.qb);have bP:w.heap.size<wr.heap.size:=(aQ HM.o.x);by_cases an:i<m/\i<4
      ·have e1:decide ((i:Int)<m)=true:=by simp;omega
       have e2:decide ((i:Int)<4)=true:=by simp;omega
       obtain⟨b,off,rfl,hc⟩:=HX.o.2.2.2.2 ab;have cl:=HM.o.k.af (hc i an.1);have kX:b<wr.heap.size:=Aa wr _ cl;generalize xs[i]?.getD (-2)=x at*;have dW:=ww x 8 ab;obtain⟨r,hr,Bd⟩:=E8 x 8 ab;have gF:=Sd wr r;rcases Int.lt_or_le (hv (fr es es.length)) (97+r:Nat)with gX|hhi
       ·obtain⟨qlN,qjc⟩:=qcA jm.o (c:=97+r) ab gX;have Zf:=aa (jm.o.snoc (e:=97+r) ab ab ab gX);have Jk:=aa (qcx es (97+r));have Zg:=aa (qcz es (97+r));have Dc:ag ((es++[97+r]).length=es.length+1):=by unfold ag;simp
        clear gX hc;generalize es++[97+r]=aH at*;generalize fr es es.length=af at*;generalize ch (97+r)=e_ at*;generalize hLe:es.length=le at*;clear hLe;go_wp2_with (at_builtin;go_must (refine jh rfl _ _ 27 63 _ 2 32 bZ rfl Tryz.underlying27 rU rfl ak ak O3 Y' w.heap.size _ (pre es) [(af,e_)] rfl (ad.own HM.o.r (((ad.refl wr).alloc (.cells #[.int .u8 (97+(r:Int))] 5)).alloc (.cells #[.string af,.string e_] 63))) _ 0 1 1 rfl (Rw.one (ea ao)) (by(have:=cM.o);simp;omega) (qcg HM.o.k.size (ad.size (((ad.refl wr).alloc (.cells #[.int .u8 (97+(r:Int))] 5)).alloc (.cells #[.string af,.string e_] 63)))) ?_;intro v6 w6 O6 cj jM;have q6:=cj.heap (ad.heap (((ad.refl wr).alloc (.cells #[.int .u8 (97+(r:Int))] 5)).alloc (.cells #[.string af,.string e_] 63)) HM.o.qb) (ec (ad.own HM.o.r (((ad.refl wr).alloc (.cells #[.int .u8 (97+(r:Int))] 5)).alloc (.cells #[.string af,.string e_] 63))) (ad.heap (((ad.refl wr).alloc (.cells #[.int .u8 (97+(r:Int))] 5)).alloc (.cells #[.string af,.string e_] 63)) HM.o.qb) ak);obtain⟨A6,gu,cy⟩:=ca O6;rw[show((pre es)++[(af,e_)]).length=le+1 from(by rw[qC,cM.o];rfl)]at cy;subst cy;have M6:=aa ((HM.o.go (((ad.refl wr).alloc _).alloc _)).Y0 cj O6);have nj:=cj.size;have g6:=aE q6 0;have f6:=aI q6 0;clear O6 cj jM q6))
        have M7:=M6;rw[<- Jk.o]at M7;go_roundw
        case rel=>first|exact⟨i+1,aH,_,ab,ab,aA,by rw[Zg.o],by rw[Dc.o];omega,Zf,M7⟩|((repeat apply R7);exact⟨⟨i+1,aH,_,ab,ab,aA,by rw[Zg.o],by rw[Dc.o];omega,Zf,M7⟩,rfl⟩)
        case measure=>simp[intOf];omega
       ·have dZ:=qcB jm.o (c:=97+r) ab ab ab;have M7:=aa (HM.o.go ((ad.refl wr).alloc (.cells #[.int .u8 (97+(r:Int))] 5)));obtain⟨af,fq⟩:∃ a,fr es es.length=a:=⟨_,rfl⟩;have kL:=aa fq;rw[fq]at dZ⊢;clear hhi hc fq;generalize ch (97+r)=e_ at*;rcases dZ with dZ|⟨dZ,qjc⟩
        ·go_wp2_with fail
         go_roundw
         case rel=>first|exact⟨i+1,es,_,ab,ab,aA,by rw[kL.o],ab,jm,M7⟩|((repeat apply R7);exact⟨⟨i+1,es,_,ab,ab,aA,by rw[kL.o],ab,jm,M7⟩,rfl⟩)
         case measure=>simp[intOf];omega
        ·go_wp2_with fail
         go_roundw
         case rel=>first|exact⟨i+1,es,_,ab,ab,aA,by rw[kL.o],ab,jm,M7⟩|((repeat apply R7);exact⟨⟨i+1,es,_,ab,ab,aA,by rw[kL.o],ab,jm,M7⟩,rfl⟩)
         case measure=>simp[intOf];omega
      ·rcases(by omega:m<=i∨(i<m/\4<=i))with g1|g1
       ·have e1:decide ((i:Int)<m)=false:=by simp;omega
        go_wp2_with fail
        go_meet
        case rel=>exact⟨es,_,rfl,ab,jm,HM⟩
       ·have e1:decide ((i:Int)<m)=true:=by simp;omega
        have e2:decide ((i:Int)<4)=false:=by simp;omega
        go_wp2_with fail
        go_meet
        case rel=>exact⟨es,_,rfl,ab,jm,HM⟩
    case rest=>
     clear HM Zd rA;obtain⟨es,rv,rfl,Ze,HUP,HM⟩:=hcut;have cM:ag ((pre es).length=es.length):=Sb es;obtain⟨RA,rc,ei⟩:=ca HM.o.r;rw[cM.o]at ei;subst ei;have q0:=ap HM.o.qb 0;have vZ:Q<wc.heap.size:=(aQ HM.o.qb);have Jk:=aa (qcy es);generalize fr es es.length=af at*;obtain⟨le,hle⟩:∃ a,es.length=a:=⟨_,rfl⟩;have Db:=aa hle;rw[hle]at Ze q0 cM HM;clear hle;go_wp2_with (at_builtin;go_must (refine jh rfl _ _ 27 63 _ 2 32 bZ rfl Tryz.underlying27 rU rfl ak ak O3 Y' w.heap.size _ (pre es) [(af,nil)] rfl (ad.own HM.o.r ((ad.refl wc).alloc (.cells #[.string af,.string ⟨#[]⟩] 63))) _ 0 1 1 rfl (Rw.one (ea rfl)) (by(have:=cM.o);simp;omega) (qcg HM.o.k.size (ad.size ((ad.refl wc).alloc (.cells #[.string af,.string ⟨#[]⟩] 63)))) ?_;intro v6 w6 O6 cj jM;have q6:=cj.heap (ad.heap ((ad.refl wc).alloc (.cells #[.string af,.string ⟨#[]⟩] 63)) HM.o.qb) (ec (ad.own HM.o.r ((ad.refl wc).alloc (.cells #[.string af,.string ⟨#[]⟩] 63))) (ad.heap ((ad.refl wc).alloc (.cells #[.string af,.string ⟨#[]⟩] 63)) HM.o.qb) ak);obtain⟨A6,gu,cy⟩:=ca O6;rw[show((pre es)++[(af,nil)]).length=le+1 from(by rw[qC,cM.o];rfl)]at cy;subst cy;have M6:=aa ((HM.o.go ((ad.refl wc).alloc _)).Y0 cj O6);have nj:=cj.size;have g6:=aE q6 0;have f6:=aI q6 0;clear O6 cj jM q6))
     have M7:=M6;rw[<- Jk.o]at M7;have KP:=M7.o.k.size;generalize w6.setCell ⟨Q,0,none⟩ (.slice A6 (le+1) gu)=W2 at*;clear M6 g6 f6 HM q0 cM Jk vZ;have Zh:pl<=6:=by have:=jY.o.2.1;rw[kG.o]at this;omega
     go_loopw [12,13] (λfF kv w9=>∃ k:Nat,k<=pl/\fF= .int .i64 ((2 ^ k:Nat):Int)/\kv= .int .i64 k/\ag (w9=W2)) (λ_ kv _=>pl-(intOf kv).toNat)
     case atStart=>exact⟨0,ab,rfl,rfl,rfl⟩
     case round=>
      obtain⟨k,hk,rfl,rfl,Fc⟩:=hrel;have q2c:wr.cell? ⟨Q,2,none⟩=some (.slice PA pl pc):=by rw[Fc.o];exact aE M7.o.qb 2
      by_cases tm:k<pl
      ·have fN:=tb (n:=k) ab;have ez:ag (2 ^ (k+1)=2*2 ^ k):=by unfold ag;rw[Nat.pow_succ,Nat.mul_comm]
       generalize 2 ^ k=t at*;go_wp2_with fail
       go_roundw
       case rel=>first|exact⟨k+1,ab,by rw[ez.o];go_num,aA,Fc⟩|((repeat apply R7);exact⟨⟨k+1,ab,by rw[ez.o];go_num,aA,Fc⟩,rfl⟩)
       case measure=>simp[intOf];omega
      ·obtain rfl:k=pl:=ab;have hw:=Fc.o;clear Fc;subst hw;obtain⟨W2,rfl⟩:∃ W2,W2=wr:=⟨_,rfl⟩;have kC:=tb (n:=k) ab
       have gg:2<=2 ^ k:=by
        have h2:2<=k:=by rw[<- kG.o];exact jY.o.1
        have:=Nat.pow_le_pow_right (n:=2) ab (show 1<=k by omega);omega
       have hae:ag (2 ^ k=2 ^ k):=rfl;generalize ha:2 ^ k=a at*;have HA:=aa ha;clear ha hae;have E4:=aa (M7.o.base);have CO:ag (∀ g,(Value.slice PA k pc).ownBlock=some g->g<W2.heap.size):=λg hg=>(M7.o.p.lt g hg).2;have Zi:ag (∃ fO,W2.heap.size=fO):=⟨_,rfl⟩;obtain⟨fO,Pb⟩:=Zi.o;rw[Pb]at E4 CO;have HBO:=aa Pb;clear Pb Zi M7;go_wp2_with fail
       go_loopw [14] (λkv w9=>∃ (U:Nat) (os:List Int) (ov:Value),U<=le+1/\kv= .int .i64 U/\ag (iq w w9 w.heap.size R Q fO #[.slice A m c,.slice B m2 c2,.slice C m3 c3] (.slice A6 (le+1) gu) ov (.slice PA k pc) (bw es) os ps)/\ag (os.length=U/\∀ x∈os,1<=x/\x<(a:Int))/\ag (fO<=w9.heap.size)) (λkv _=>le+1-(intOf kv).toNat)
       case atStart=>exact⟨0,[],_,ab,rfl,E4,⟨rfl,λx hx=>by cases hx⟩,Nat.le_of_eq HBO.o.symm⟩
       case round=>
        clear E4;obtain⟨U,os,ov,hj,rfl,HM,wh,oq⟩:=hrel;have cM:ag (os.length=U):=wh.o.1;obtain⟨OA,oc,cE⟩:=ca HM.o.o;rw[cM.o]at cE;subst cE;have rA:=ap HM.o.x 1;have q0:=ap HM.o.qb 0;have q1:=ap HM.o.qb 1;have q2:=ap HM.o.qb 2;have vZ:Q<wr.heap.size:=(aQ HM.o.qb);have bP:w.heap.size<wr.heap.size:=(aQ HM.o.x);have nC:=oq.o;by_cases rR:U<le+1
        ·by_cases s5:U<m2
         ·obtain⟨Wc,qi7,rfl,E'⟩:=HY.o.2.2.2.2 ab;have qlO:=HM.o.k.af (E' U s5);have j8:decide ((U:Int)<m2)=true:=by simp;omega
          generalize ys[U]?.getD (-2)=y at*;have dW:=ww y ((a:Int)-1) ab
          obtain⟨o,ej,qlP⟩:∃ r:Nat,(y.tmod ((a:Int)-1)+a-1).tmod ((a:Int)-1)=r/\r+1<a:=by
           have h2:=Int.tmod_nonneg ((a:Int)-1) (show 0<=y.tmod ((a:Int)-1)+a-1 by omega);have h3:=Int.tmod_lt_of_pos (y.tmod ((a:Int)-1)+a-1) (show 0<(a:Int)-1 by omega);exact⟨_,(Int.toNat_of_nonneg h2).symm,ab⟩
          have Fe:ag ((os++[1+(o:Int)]).length=U+1/\∀ x∈os++[1+(o:Int)],1<=x/\x<(a:Int)):=by
           refine⟨by rw[qC,wh.o.1];rfl,λx hx=> ?_⟩;rcases Pv.1 hx with hx|hx
           ·exact wh.o.2 x hx
           ·obtain rfl:x=1+(o:Int):=by simpa using hx
            omega
          clear E';go_wp2_with (at_builtin;go_must (refine jh rfl _ _ 22 3 _ 1 8 cJ rfl Tryz.underlying22 oZ rfl ak ak yU Fa fO _ os [1+(o:Int)] rfl (ad.own HM.o.o ((ad.refl wr).alloc (.cells #[.int .i64 (1+(o:Int))] 3))) _ 0 1 1 rfl (Rw.one (ea rfl)) (by(have:=cM.o);simp;omega) (qcg nC (ad.size ((ad.refl wr).alloc (.cells #[.int .i64 (1+(o:Int))] 3)))) ?_;intro v6 w6 O6 cj jM;have q6:=cj.heap (ad.heap ((ad.refl wr).alloc (.cells #[.int .i64 (1+(o:Int))] 3)) HM.o.qb) (ec (ad.own HM.o.o ((ad.refl wr).alloc (.cells #[.int .i64 (1+(o:Int))] 3))) (ad.heap ((ad.refl wr).alloc (.cells #[.int .i64 (1+(o:Int))] 3)) HM.o.qb) ak);obtain⟨A7,tO,cy⟩:=ca O6;rw[show(os++[1+(o:Int)]).length=U+1 from(by rw[qC,cM.o];rfl)]at cy;subst cy;have M6:=aa ((HM.o.go ((ad.refl wr).alloc (.cells #[.int .i64 (1+(o:Int))] 3))).Y2 CO.o cj O6);have nj:=cj.size;have g6:=aE q6 1;have f6:=aI q6 1;clear O6 cj jM q6))
          have Ff:ag (fO<=(w6.setCell ⟨Q,1,none⟩ (.slice A7 (U+1) tO)).heap.size):=by unfold ag;rw[World.size_setCell];rw[World.size_alloc]at nj;omega
          go_roundw
          case rel=>first|exact⟨U+1,_,_,ab,aA,M6,Fe,Ff⟩|((repeat apply R7);exact⟨⟨U+1,_,_,ab,aA,M6,Fe,Ff⟩,rfl⟩)
          case measure=>simp[intOf];omega
         ·have j8:decide ((U:Int)<m2)=false:=by simp;omega
          have Fe:ag ((os++[1+((a:Int)-2)]).length=U+1/\∀ x∈os++[1+((a:Int)-2)],1<=x/\x<(a:Int)):=by
           refine⟨by rw[qC,wh.o.1];rfl,λx hx=> ?_⟩;rcases Pv.1 hx with hx|hx
           ·exact wh.o.2 x hx
           ·obtain rfl:x=1+((a:Int)-2):=by simpa using hx
            omega
          go_wp2_with (at_builtin;go_must (refine jh rfl _ _ 22 3 _ 1 8 cJ rfl Tryz.underlying22 oZ rfl ak ak yU Fa fO _ os [1+((a:Int)-2)] rfl (ad.own HM.o.o ((ad.refl wr).alloc (.cells #[.int .i64 (1+((a:Int)-2))] 3))) _ 0 1 1 rfl (Rw.one (ea rfl)) (by(have:=cM.o);simp;omega) (qcg nC (ad.size ((ad.refl wr).alloc (.cells #[.int .i64 (1+((a:Int)-2))] 3)))) ?_;intro v6 w6 O6 cj jM;have q6:=cj.heap (ad.heap ((ad.refl wr).alloc (.cells #[.int .i64 (1+((a:Int)-2))] 3)) HM.o.qb) (ec (ad.own HM.o.o ((ad.refl wr).alloc (.cells #[.int .i64 (1+((a:Int)-2))] 3))) (ad.heap ((ad.refl wr).alloc (.cells #[.int .i64 (1+((a:Int)-2))] 3)) HM.o.qb) ak);obtain⟨A7,tO,cy⟩:=ca O6;rw[show(os++[1+((a:Int)-2)]).length=U+1 from(by rw[qC,cM.o];rfl)]at cy;subst cy;have M6:=aa ((HM.o.go ((ad.refl wr).alloc (.cells #[.int .i64 (1+((a:Int)-2))] 3))).Y2 CO.o cj O6);have nj:=cj.size;have g6:=aE q6 1;have f6:=aI q6 1;clear O6 cj jM q6))
          have Ff:ag (fO<=(w6.setCell ⟨Q,1,none⟩ (.slice A7 (U+1) tO)).heap.size):=by unfold ag;rw[World.size_setCell];rw[World.size_alloc]at nj;omega
          go_roundw
          case rel=>first|exact⟨U+1,_,_,ab,aA,M6,Fe,Ff⟩|((repeat apply R7);exact⟨⟨U+1,_,_,ab,aA,M6,Fe,Ff⟩,rfl⟩)
          case measure=>simp[intOf];omega
        ·obtain rfl:U=le+1:=ab;have hH:=HM.o.rb;have hRs:R<wr.heap.size:=(aQ hH);have r0:=ap hH 0;have r1:=ap hH 1;have r2:=ap hH 2;have p0:=aI hH 0;have p1:=aI hH 1;have p2:=aI hH 2;clear hH;go_wp2_with fail
         have hH:=HM.o.rb;have s1:=Ok wr R 0 _ _ (.slice A6 (le+1) gu) hH;have s2:=Ok _ R 1 _ _ (.slice OA (le+1) oc) s1;have s3:=Ok _ R 2 _ _ (.slice PA k pc) s2;have Jl:ah [R] wr (((wr.setCell ⟨R,0,none⟩ (.slice A6 (le+1) gu)).setCell ⟨R,1,none⟩ (.slice OA (le+1) oc)).setCell ⟨R,2,none⟩ (.slice PA k pc)):=(((ah.refl _ _).setCell (.inl ao) _).setCell (.inl ao) _).setCell (.inl ao) _
         (try simp only[Exit.inBlock,Exit.then])
         refine KV (results_cell_row rfl _ _ R _ #[.slice A6 (le+1) gu,.slice OA (le+1) oc,.slice PA k pc] (0,0) _ rfl s3 Tryz.underlying29 rfl av) rfl ?_;have hRw:w.heap.size<=R:=ab;refine⟨_,_,_,es,os,ps,rfl,⟨Rw.bp (cB HM.o.r Jl (gL HM.o.r hH ak)) O3 ak,Rw.bp (cB HM.o.o Jl (gL HM.o.o hH ak)) yU ak,Rw.bp (cB HM.o.p Jl (gL HM.o.p hH ak)) yU ak,⟨⟨HUP.o,by rw[wh.o.1,Db.o],λi hi=> ?_,by rw[kG.o];have:=jY.o.1;rw[kG.o]at this;omega,by rw[kG.o];exact Zh⟩,HT.o.tree (by rw[kG.o];exact Zh)⟩,jY.o⟩,HM.o.k.but Jl (by simpa using hRw)⟩;have eE:i<os.length:=by rw[wh.o.1];have:=Db.o;omega
         rw[kG.o,HA.o];unfold oa;rw[jc eE];exact wh.o.2 _ (List.getElem_mem eE)
structure Sl where
 A:Option Addr
 n:Nat
 c:Nat
 x:Nat->Int
def Sl.v (s:Sl):Value:= .slice s.A s.n s.c
def Sl.l (s:Sl):List Int:=(List.range s.n).map s.x
def Sl.ok (w:World) (s:Sl):Prop:=bo w s.A s.n s.c s.l
structure yV where
 k:Int
 c:Int
 s:Int
 t:Int
 a:Int
 h:Int
 y:Int
 u:Int
 ks:Sl
 r0:Sl
 r1:Sl
 r2:Sl
def wi (a:yV):List Value:=[.int .i64 a.k,.int .i64 a.c,.int .i64 a.s,.int .i64 a.t,.int .i64 a.a,.int .i64 a.h,.int .i64 a.y,.int .i64 a.u,a.ks.v,a.r0.v,a.r1.v,a.r2.v]
def wj (w:World) (a:yV):Prop:=a.ks.ok w/\a.r0.ok w/\a.r1.ok w/\a.r2.ok w
theorem wj.kept {w w2:World} {a:yV} (h:wj w a) (hk:ad w w2):wj w2 a:=⟨bo.keep h.1 hk,bo.keep h.2.1 hk,bo.keep h.2.2.1 hk,bo.keep h.2.2.2 hk⟩
theorem Zj:Tryz.prog.cellsOf 3=1:=av
theorem Zk:Tryz.prog.cellsOf 22=1:=av
theorem qjd:Tryz.prog.cellsOf 24=3:=av
theorem Jm {H:Type} {enc:TypeId×Value->H} {w:World} {spare:Nat->Bool} {held:Bool} {m:Nat} {c:Value} {y:DataW H×List MemPlace}
  (h:DataW.trod enc Tryz.prog w 0 spare held m 22 [c]=some y):∃ s:Sl,c=s.v/\s.ok w:=by
 obtain⟨A,n,ni,x,h1,h2,_⟩:=Gv Tryz.underlying22 Tryz.underlying3 Zj h;simp only[List.cons.injEq,and_true]at h1;exact⟨⟨A,n,ni,x⟩,h1,.Gx h2⟩
theorem qje {H:Type} {enc:TypeId×Value->H} {P:Program} {w:World} {base:Nat} {spare:Nat->Bool} {held:Bool} {t:TypeId} {f0 f1 f2 f3 f4 f5 f6 f7 f8 f9:Field} {et:Nat} {cs:List Value} {x:DataW H×List MemPlace} (ht:P.underlying t=some (.struct #[f0,f1,f2,f3,f4,f5,f6,f7,f8,f9])) (h:DataW.trod enc P w base spare held et t cs=some x):
  ∃ y0 y1 y2 y3 y4 y5 y6 y7 y8 y9 n,DataW.trod enc P w base spare held n f0.type ((cs.drop f0.offset).take (P.cellsOf f0.type))=some y0/\
   DataW.trod enc P w base spare held n f1.type ((cs.drop f1.offset).take (P.cellsOf f1.type))=some y1/\DataW.trod enc P w base spare held n f2.type ((cs.drop f2.offset).take (P.cellsOf f2.type))=some y2/\
   DataW.trod enc P w base spare held n f3.type ((cs.drop f3.offset).take (P.cellsOf f3.type))=some y3/\DataW.trod enc P w base spare held n f4.type ((cs.drop f4.offset).take (P.cellsOf f4.type))=some y4/\DataW.trod enc P w base spare held n f5.type ((cs.drop f5.offset).take (P.cellsOf f5.type))=some y5/\
   DataW.trod enc P w base spare held n f6.type ((cs.drop f6.offset).take (P.cellsOf f6.type))=some y6/\DataW.trod enc P w base spare held n f7.type ((cs.drop f7.offset).take (P.cellsOf f7.type))=some y7/\DataW.trod enc P w base spare held n f8.type ((cs.drop f8.offset).take (P.cellsOf f8.type))=some y8/\
   DataW.trod enc P w base spare held n f9.type ((cs.drop f9.offset).take (P.cellsOf f9.type))=some y9:=by
 obtain⟨xs,n,_,rfl,hl,hlen,hf⟩:=DataW.trod_struct ht h
 match xs,hlen with
 |[y0,y1,y2,y3,y4,y5,y6,y7,y8,y9],_=>exact⟨y0,y1,y2,y3,y4,y5,y6,y7,y8,y9,n,by simpa using hf 0 f0 rfl,by simpa using hf 1 f1 rfl,by simpa using hf 2 f2 rfl,by simpa using hf 3 f3 rfl,by simpa using hf 4 f4 rfl,by simpa using hf 5 f5 rfl,by simpa using hf 6 f6 rfl,by simpa using hf 7 f7 rfl,by simpa using hf 8 f8 rfl,by simpa using hf 9 f9 rfl⟩
theorem qjf {H:Type} {enc:TypeId×Value->H} {w:World} {spare:Nat->Bool} {held:Bool} {a:Option Addr} {n c:Nat} {d:DataW H} {p:List MemPlace}
  (h:DataW.Trod enc Tryz.prog w 0 spare held 25 (.slice a n c) d p):∃ x:Nat->yV,la w a n c 12 (λi=>wi (x i))/\∀ i,i<n->wj w (x i):=
 Sf Tryz.underlying25 av ab wi (wj w) ⟨0,0,0,0,0,0,0,0,⟨none,0,0,λ_=>0⟩,⟨none,0,0,λ_=>0⟩,⟨none,0,0,λ_=>0⟩,⟨none,0,0,λ_=>0⟩⟩ (λm cs y hl hy=>by
  obtain⟨y0,y1,y2,y3,y4,y5,y6,y7,y8,y9,k,r0,r1,r2,r3,r4,r5,r6,r7,BB,BC⟩:=qje Tryz.underlying38 hy
  match cs,hl with
  |[v0,v1,v2,v3,v4,v5,v6,v7,IM,v9,v10,v11],_=>
   simp[Zj,Zk,qjd]at r0 r1 r2 r3 r4 r5 r6 r7 BB BC;obtain⟨a0,e0,_,w0⟩:=DataW.trod_int Tryz.underlying3 r0;obtain⟨bj,e1,_,w1⟩:=DataW.trod_int Tryz.underlying3 r1;obtain⟨a2,e2,_,w2⟩:=DataW.trod_int Tryz.underlying3 r2;obtain⟨a3,e3,_,w3⟩:=DataW.trod_int Tryz.underlying3 r3;obtain⟨a4,e4,_,w4⟩:=DataW.trod_int Tryz.underlying3 r4;obtain⟨a5,e5,_,w5⟩:=DataW.trod_int Tryz.underlying3 r5;obtain⟨Bq,lB,_,w6⟩:=DataW.trod_int Tryz.underlying3 r6;obtain⟨Br,j8,_,w7⟩:=DataW.trod_int Tryz.underlying3 r7;obtain⟨qjg,ua,qjh⟩:=Jm BB;obtain⟨z0,z1,z2,k2,_,_,q0,q1,q2⟩:=trod_struct3 Tryz.underlying24 BC;simp[Zk]at q0 q1 q2;obtain⟨qji,fJ,CS⟩:=Jm q0;obtain⟨s10,ry,o10⟩:=Jm q1;obtain⟨s11,rz,o11⟩:=Jm q2;simp at e0 e1 e2 e3 e4 e5 lB j8;exact⟨⟨a0,bj,a2,a3,a4,a5,Bq,Br,qjg,qji,s10,s11⟩,by simp[wi,e0,e1,e2,e3,e4,e5,lB,j8,ua,fJ,ry,rz],qjh,CS,o10,o11⟩) h
theorem qjj {w:World} {A:Option Addr} {n c:Nat} {x:Nat->yV} (h:la w A n c 12 (λi=>wi (x i))) {i:Nat} (hi:i<n):
  ∃ b off,A=some ⟨b,off,none⟩/\b<w.heap.size/\∀ U u,(wi (x i))[U]? =some u->w.cell? ⟨b,off+i*12+U,none⟩=some u:=by
 obtain⟨b,off,h1,h2,h3⟩:=h.2.2.2 ab;exact⟨b,off,h1,h2,h3 i hi⟩
end Go.Proofs.YtehaoggjlciobaaGreat

/- Part 31 of 40. -/
import Derived.Test.YtehaoggjlciobaaGreatQbk
import Derived.Test.YtehaoggjlciobaaGreatQbm
import Derived.Test.YtehaoggjlciobaaGreatQbn
set_option linter.all false
set_option maxRecDepth 20000
set_option maxHeartbeats 16000000
namespace Go.Proofs.YtehaoggjlciobaaGreat
open Go.Maps Go.RowKit Go.Proofs.Tryz
def qiw (g:aG) (i:Nat) (k vl:ByteArray) (gD:Bool) (ds:List aD):Prop:=¬b4 (g.σ i).own k∨(∃ s∈iO g i (-1) k,¬Room (g.st i s))∨¬WC ⟨k,vl,gD,(kH ((g.σ i).cn,(g.σ i).cs) ds).1+1,i,none,0,0,ds⟩ ds
def yP (B:Int) (g:aG) (c i:Nat) (k vl:ByteArray) (gD:Bool) (er:Int) (fl:List ax) (g':aG):Prop:=
 (er≠0/\fl=[]/\g'=g/\qiw g i k vl gD (g.ss c).2)∨(er=0/\(∀ s∈iO g i (-1) k,Room (g.st i s))/\∃ v σ' ev p',fl=[v]/\WO B i (g.σ i) k vl gD (g.ss c).2 v σ'/\ev.kind=1/\ev.Ij=(c:Int)/\ev.key=k/\ev.n=v.n/\ev.s=v.s/\ev.ds=(g.ss c).2/\cA ((g.ss c).2++lm v) p'/\
  g'={g with σ:=ed g.σ i σ',st:=jK g.st i (iO g i (-1) k) ⟨(l9 v v.ds).toArray⟩,bJ:=g.bJ++[ev],ss:=ed g.ss c ((i:Int),p')})
theorem Yq {p:Prop} (h:p:=by
  have bL:(g.p i).sb<w.heap.size/\(g.p i).mb<w.heap.size:=by
   have hs:=HS.o w (ad.refl w);obtain⟨cur,t1⟩:=hs.nL;obtain⟨es,dD,t3⟩:=hs.mw;exact⟨(aQ t1),(aQ t3)⟩
  have n1:gb∉[(g.p i).sb,(g.p i).mb]:=by
   have hs:=HS.o w (ad.refl w);obtain⟨cur,t1⟩:=hs.nL;obtain⟨es,dD,t3⟩:=hs.mw;have hG:=H1.o;rw[GB]at hG;simp only[KX,List.not_mem_nil,or_false,not_or];exact⟨fB hG t1 ak,λe=>by rw[e,t3]at hG;cases hG⟩
  have n2:SK∉[(g.p i).sb,(g.p i).mb]:=by
   have hs:=HS.o w (ad.refl w);obtain⟨cur,t1⟩:=hs.nL;obtain⟨es,dD,t3⟩:=hs.mw;obtain⟨qlD,hG⟩:=kL.o.dD;simp only[KX,List.not_mem_nil,or_false,not_or];exact⟨fB hG t1 ak,λe=>by rw[e,t3]at hG;cases hG⟩
  have n3:w.heap.size∉[(g.p i).sb,(g.p i).mb]:=by simp;omega
  have n4:q1∉[(g.p i).sb,(g.p i).mb]:=by simp;omega
  have om:i<g.n:=by rw[HN.o];exact hi
  have qix:ag (∀ W,ad w4 W->ba W B (g.p i) i (g.σ i)/\Rw W 60 3 aS (.slice PA pl pc) ps/\aT W B gb g):=λW hW=>⟨HS.o W (ef.o.call hW),kL.o.jB.kept (ef.o.call hW),vX.o.kept hW⟩;have HNS:=aa (⟨n1,n2,n3,n4⟩:gb∉[(g.p i).sb,(g.p i).mb]/\SK∉[(g.p i).sb,(g.p i).mb]/\w.heap.size∉[(g.p i).sb,(g.p i).mb]/\q1∉[(g.p i).sb,(g.p i).mb]);refine WK (T:=WN [(g.p i).sb,(g.p i).mb]) (vL _) 14 [none,none,none,none,none,none,none,none,none,none,none,none,none,none,some (λu w'=>∃ v er σ',u= .tuple #[aM v,.int .i64 er]/\Uq w' B i (g.σ i) bT VL GN ps v er σ'/\aT w' (B+1) gb {g with σ:=ed g.σ i σ'}/\bN w4 w'),none,none,none,some (λu w'=>∃ q,u= .pointer (some ⟨q,0,none⟩)/\w4.heap.size<=q/\VB w' q (.string ⟨#[]⟩) (.string ⟨#[]⟩) (.bool false) (.int .i64 0) (.int .i64 0) (.slice none 0 0))] av av rfl ?_ _ (by(try simp only[List.append_eq,List.cons_append,List.nil_append,List.toList_toArray]);exact rfl) ?_
  ·intro U R hj hR v w' w2 hv ht;have yL:U<19:=by have:=(bg hR);simpa using this
   have OO:U=18:=by
    rcases(show U=0∨U=1∨U=2∨U=3∨U=4∨U=5∨U=6∨U=7∨U=8∨U=9∨U=10∨U=11∨U=12∨U=13∨U=14∨U=15∨U=16∨U=17∨U=18 by omega)with rfl|rfl|rfl|rfl|rfl|rfl|rfl|rfl|rfl|rfl|rfl|rfl|rfl|rfl|rfl|rfl|rfl|rfl|rfl <;>first|rfl|(exact absurd rfl hj)|(simp at hR)
   subst OO;simp only[List.getElem?_cons_succ,List.getElem?_cons_zero,Option.some.injEq]at hR;subst hR;obtain⟨q,e1,e2,e3⟩:=hv;exact⟨q,e1,e2,ht.2.block _ _ _ e3 ak⟩
  simp only[List.map_cons,List.map_nil,Option.map_some,Option.map_none,List.toList_toArray];iterate 14 (apply SX.one (vL _) av;(focus (intro wd hI hF;clear hF;have ai:=hI.1.af lB n3;have aj:=hI.1.af s0 n4;have aq:=hI.1.af s1 n4;have az:=hI.1.af c3 n1;have aK:=hI.1.af dU n2;go_wp2_with (fail);refine bd.mk _ rfl ⟨rfl,?_⟩;exact al));simp only[Act.put,List.setIfInBounds_toArray,List.set_cons_succ,List.set_cons_zero])
  refine SX.Nt (vL _) rfl ?_ (λv1=> ?_)
  ·intro wd hI hF;clear hF;obtain⟨l1,l2,l3⟩:=qix.o wd hI;have L1:=aa l1;have L2:=aa l2;have qiy:=aa l3;clear l1 l2 l3;have cO:=jY.o;rw[cO]at L2⊢;have hW:=qeC B (g.p i) i (g.σ i) bT VL GN PA pc ps wd L1.o (by have:=H2.o.a6.fit.fit.cV;simp only[aG.n]at*;omega) hk L2.o bX.o kG.o jF.o hB ab;go_wp2_with (go_at_call 87;refine hW.mono ?_;rintro e w5 ⟨v,er,σ',rfl,h1,h2,h3,h4⟩)
   obtain⟨r1,r2⟩:=qiy.o.tY om h1 (h3.mono (by intro y hy;simp at hy⊢;rcases hy with rfl|rfl <;>simp)) h4 ab;refine bd.mk _ rfl ⟨⟨v,er,σ',rfl,h2,r1,(Fr.ar hI).trans r2⟩,h3,h4⟩
  simp only[Act.put,List.setIfInBounds_toArray,List.set_cons_succ,List.set_cons_zero];refine SX.one (v:=v1) (vL _) av ?_ ?_
  ·intro wd hI hF;clear hF;go_wp2_with (fail);refine bd.mk _ rfl ⟨rfl,?_⟩;exact al
  simp only[Act.put,List.setIfInBounds_toArray,List.set_cons_succ,List.set_cons_zero];refine SX.one (v:=eH v1 0) (vL _) av ?_ ?_
  ·intro wd hI hF;obtain⟨⟨w9,⟨v,er,σ',rfl,_⟩,_⟩,_⟩:=hF;go_wp2_with (fail);refine bd.mk _ rfl ⟨rfl,?_⟩;exact al
  simp only[Act.put,List.setIfInBounds_toArray,List.set_cons_succ,List.set_cons_zero];refine SX.one (v:=eH v1 1) (vL _) av ?_ ?_
  ·intro wd hI hF;obtain⟨⟨w9,⟨v,er,σ',rfl,_⟩,_⟩,_⟩:=hF;go_wp2_with (fail);refine bd.mk _ rfl ⟨rfl,?_⟩;exact al
  simp only[Act.put,List.setIfInBounds_toArray,List.set_cons_succ,List.set_cons_zero];refine SX.ev (vL _) ak ?_ (λv2=> ?_)
  ·intro wd hI hF;clear hF;go_wp2_with (fail);refine bd.mk _ rfl ⟨⟨_,rfl,hI.1.size,yY _ _⟩,?_⟩;exact al
  simp only[Act.put,List.setIfInBounds_toArray,List.set_cons_succ,List.set_cons_zero];refine SX.late (vL _) [17] av av ?_;intro wd hI hF;obtain⟨⟨w8,⟨q,rfl,ko,hq⟩,k8⟩,⟨w9,⟨v,er,σ',rfl,fU,Yr,qt⟩,k9⟩,_⟩:=hF;simp only[tz,tA];have V2:VB wd q (.string ⟨#[]⟩) (.string ⟨#[]⟩) (.bool false) (.int .i64 0) (.int .i64 0) (.slice none 0 0):=k8.heap hq;obtain⟨z0,z1,z2,z3,z4,z5,zf,zl⟩:=V2.cells;have eY:=aa V2;have g0:=zf 0;have g1:=zf 1;have g2:=zf 2;have g3:=zf 3;have g4:=zf 4;have g5:=zf 5;have iI:=aa fU;have e':=aa k9;obtain⟨x0,x1,x2,x3,x4,x5,x6,x7,x8⟩:=v;unfold aM;clear fU k8 hq V2 zf k9;refine TL.go ?_;refine TL.go ?_;refine TL.nil ?_;obtain⟨W5,jZ⟩:=eqR ((((((wd.setCell ⟨q,0,none⟩ (.string x0)).setCell ⟨q,1,none⟩ (.string x1)).setCell ⟨q,2,none⟩ (.bool x2)).setCell ⟨q,3,none⟩ (.int .i64 x3)).setCell ⟨q,4,none⟩ (.int .i64 x4)).setCell ⟨q,5,none⟩ (.slice x5 x6 x7));have dB:ah [q] wd W5:=by rw[jZ];exact ah.all q _ _ _ _ _ _
  have HX:VB W5 q (.string x0) (.string x1) (.bool x2) (.int .i64 x3) (.int .i64 x4) (.slice x5 x6 x7):=by rw[jZ];exact eY.o.all _ _ _ _ _ _
  rw[<- jZ];have sk:Fz q wd W5:=⟨dB,eY.o,_,_,_,_,_,_,HX⟩;have yQ:bN w4 W5:=(qt.trans (.ar e'.o)).old dB ko;have mi:=aa yQ;have kM:=aa ((Yr.kept e'.o).ln sk);have dh:=aa (gY lF.o yQ);have fb:=aa (yQ.block _ _ _ sO.o ak);have dQ:ag (SB W5 q1 (.int .i64 i) (.slice PA pl pc)):=yQ.block _ _ _ l4.o ak;have sG:=aa HX;have qiz:=aa (qiA.o.fr yQ ak);have qiB:=aa ((kL.o.jB.kept ef.o).fr yQ ak)
  have IT:ag (er=0->b7 W5 (B+1) ⟨x0,x1,x2,x3,x4,x5,x6,x7,x8⟩/\WO B i (g.σ i) bT VL GN ps ⟨x0,x1,x2,x3,x4,x5,x6,x7,x8⟩ σ'):=λh0=>by
   rcases iI.o with ⟨aN,_⟩|⟨_,bj,a2,a3,a4,a5,Bq,Br,Bt,a9⟩
   ·exact absurd h0 aN
   ·exact⟨(Bt.kept e'.o).ln sk,bj,a2,a3,a4,a5,Bq,Br,Bt.n,Bt.wc,a9⟩
  have Ys:ag (er≠0->σ'=g.σ i/\Uo i (g.σ i) bT VL GN ps):=λh0=>by
   rcases iI.o with ⟨_,_,h⟩|⟨h,_⟩
   ·exact h
   ·exact absurd h h0
  have xS:w.heap.size+1<W5.heap.size:=(aQ dh.o);clear jZ dB sk Yr qt e' eY z0 z1 z2 z3 z4 z5 g0 g1 g2 g3 g4 g5 zl yQ hI HX s0 s1 e0 e1 lB j8 c3 dU;obtain⟨z0,z1,z2,z3,z4,z5,_,_⟩:=sG.o.cells;obtain⟨s0,s1,_,_⟩:=dQ.o.cells;have e1:=ap fb.o 1;by_cases Jf:er=0
  ·subst Jf;obtain⟨Yt,Yu⟩:=IT.o rfl;have HV:=aa Yt;have Yv:=aa Yu;obtain⟨uu,Bu⟩:∃ uu:aG,uu={g with σ:=ed g.σ i σ'}:=⟨_,rfl⟩;have lA:=aa Bu;have kM:ag (aT W5 (B+1) gb uu):=by rw[Bu];exact kM.o
   have Yw:uu.n=g.n:=by rw[Bu];rfl
   have F3:uu.st=g.st:=by rw[Bu]
   have Yx:uu.bJ.length=g.bJ.length:=by rw[Bu]
   have OP:=aa Yw;have qlE:=aa F3;have qiC:=aa Yx;clear Yt Yu Bu Yw F3 Yx;go_wp2_with fail
   refine(Wp (B+1) gb uu i _ (iO g i (-1) bT) ⟨x0,x1,x2,x3,x4,x5,x6,x7,x8⟩ _ kM.o ab (by rw[OP.o];exact om) (λs hs=>by rw[OP.o];exact Et s hs) (WL _ _ _ _) qiz.o HV.o).mono ?_;rintro e w7 ⟨rfl,xo,iB⟩;have vQ:=aa xo;have Bc:=aa (mi.o.trans iB);have p9:=aa (gY dh.o iB);have Bh:=aa (iB.block _ _ _ fb.o ak);have qW:ag (SB w7 q1 (.int .i64 i) (.slice PA pl pc)):=iB.block _ _ _ dQ.o ak;have nA:ag (VB w7 q (.string x0) (.string x1) (.bool x2) (.int .i64 x3) (.int .i64 x4) (.slice x5 x6 x7)):=iB.block _ _ _ sG.o ak;have Yy:=aa (qiB.o.fr iB ak);have qiD:ag (b7 w7 (B+1) ⟨x0,x1,x2,x3,x4,x5,x6,x7,x8⟩):=HV.o.fr iB.j7;have EE:w.heap.size+1<w7.heap.size:=(aQ p9.o);clear xo iB z0 z1 z2 z3 z4 z5 s0 s1 e1;obtain⟨z0,z1,z2,z3,z4,z5,_,_⟩:=nA.o.cells;obtain⟨s0,s1,_,_⟩:=qW.o.cells;have e1:=ap Bh.o 1;obtain⟨uv,Jg⟩:∃ uv:aG,uv={uu with st:=jK uu.st i (iO g i (-1) bT) ⟨(l9 (⟨x0,x1,x2,x3,x4,x5,x6,x7,x8⟩:ax) x8).toArray⟩}:=⟨_,rfl⟩;have Yz:=aa Jg;have vQ:ag (aT w7 (B+2) gb uv):=by rw[Jg];have:=vQ.o;rw[show B+1+1=B+2 by omega]at this;exact this
   have YA:uv.bJ.length=g.bJ.length:=by rw[Jg];exact qiC.o
   have NN:=aa YA;clear Jg YA;go_wp2_with fail
   refine(Na (B+2) (B+2) gb uv ⟨1,c,x0,x3,x4,PA,pl,pc,ps⟩ w7 vQ.o ab h9 (by have:=NN.o;omega) Yy.o jY.o.symm).mono ?_;rintro e wa ⟨rfl,jL,ia⟩;have HGe:=aa jL;have HFe:=aa (Bc.o.trans ia);have AW:=aa (gY p9.o ia);have HXe:=aa (ia.block _ _ _ Bh.o ak);have HSe:ag (SB wa q1 (.int .i64 i) (.slice PA pl pc)):=ia.block _ _ _ qW.o ak;have OQ:ag (VB wa q (.string x0) (.string x1) (.bool x2) (.int .i64 x3) (.int .i64 x4) (.slice x5 x6 x7)):=ia.block _ _ _ nA.o ak;have HPe:=aa (Yy.o.fr ia ak);have nx:ag (b7 wa (B+1) ⟨x0,x1,x2,x3,x4,x5,x6,x7,x8⟩):=qiD.o.fr ia.j7;have hqe:w.heap.size+1<wa.heap.size:=(aQ AW.o);have qlF:gb<wa.heap.size:=jL.lt;have hqa:q<wa.heap.size:=(aQ OQ.o);clear jL ia z0 z1 z2 z3 z4 z5 s0 s1 e1;obtain⟨z0,z1,z2,z3,z4,z5,_,_⟩:=OQ.o.cells;obtain⟨s0,s1,_,_⟩:=HSe.o.cells;have e1:=ap HXe.o 1;go_wp2_with fail
   refine ku [0,1,2,3,4,7,8,5,6,9,10] [none,none,none,none,none,none,none,some (λu w'=>∃ q9,u= .slice (some ⟨q9,0,none⟩) 1 1/\w'.heap[q9]? =some (.cells #[.string x0,.string x1,.bool x2,.int .i64 x3,.int .i64 x4,.slice x5 x6 x7] 48 (0,0))),some (λu w'=>∃ A n c p,u=cY i (.slice A n c)/\Rw w' 60 3 aS (.slice A n c) p/\p.length=n/\cA (ps++lm ⟨x0,x1,x2,x3,x4,x5,x6,x7,x8⟩) p)] (λwB=>ad wa wB/\wB.cell? ⟨w.heap.size,1,none⟩=some (.int .i64 c)/\wB.cell? ⟨q1,0,none⟩=some (.int .i64 i)/\wB.cell? ⟨q1,1,none⟩=some (.slice PA pl pc)/\wB.cell? ⟨q,0,none⟩=some (.string x0)/\wB.cell? ⟨q,1,none⟩=some (.string x1)/\wB.cell? ⟨q,2,none⟩=some (.bool x2)/\wB.cell? ⟨q,3,none⟩=some (.int .i64 x3)/\wB.cell? ⟨q,4,none⟩=some (.int .i64 x4)/\wB.cell? ⟨q,5,none⟩=some (.slice x5 x6 x7)) λwB SS=> ?_;iterate 7 refine SP.on ?_
   refine SP.ew ?_ λv1=> ?_
   ·intro wd hI hF;obtain⟨ae,ai,aj,aq,az,aK,a1,cw,d',jf⟩:=SS.o wd hI;clear hF;go_wp2_with (fail);exact bn rfl ⟨_,rfl,yY _ _⟩
   refine SP.ew ?_ λv2=> ?_
   ·intro wd hI hF;obtain⟨ae,ai,aj,aq,az,aK,a1,cw,d',jf⟩:=SS.o wd hI;have h1:=hF.1 av;clear hF;go_wp2_with ((go_at_call 90;obtain⟨Ac,⟨q9,rfl,hh⟩,nw⟩:=h1;refine(WE (B+1) i PA pl pc ps ⟨x0,x1,x2,x3,x4,x5,x6,x7,x8⟩ q9 _ (nw.heap hh) (HPe.o.kept ae) bX.o (nx.o.kept ae)).mono ?_;rintro e w6 ⟨A,tt,c',p,rfl,h4,h5,h6,k5⟩));exact bn rfl ⟨A,tt,c',p,rfl,h4,h5,h6⟩
   refine SP.ml SS ?_;rintro wd hI hF ⟨ae,ai,aj,aq,az,aK,a1,cw,d',jf⟩;have h2:=hF.1;clear hF SS;obtain⟨wb,⟨NA,nn,nc,Er,rfl,ez,Iu,iN⟩,kb⟩:=h2;have mg:=ez.kept kb;have pX:=aa iN;have qR:=HGe.o.kept ae;obtain⟨V5,rn,AV⟩:=qR;obtain⟨y0,y1⟩:=rn.bY bO;have f0:=rn.fP (5+c*2);have f1:=rn.fP (5+c*2+1)
   have vJ:∀ d∈Er,d.n<=B+2:=λd hd=>by
    have:=pX.o.mem d hd;simp only[lm,Pv,At]at this;rcases this with h|h|rfl
    ·have:=kG.o d h;omega
    ·have:=nx.o.gR d h;omega
    ·have:=nx.o.n;simp only[Dz]at*;omega
   have Hj:({uv with bJ:=uv.bJ++[(⟨1,c,x0,x3,x4,PA,pl,pc,ps⟩:nK)]}:aG).n=g.n:=by rw[Yz.o];exact OP.o
   have qiE:(-1:Int)<=(i:Int)/\(i:Int)<(({uv with bJ:=uv.bJ++[(⟨1,c,x0,x3,x4,PA,pl,pc,ps⟩:nK)]}:aG).n:Int):=by rw[Hj];omega
   obtain⟨r1,r2⟩:=aT.Ef ⟨V5,rn,AV⟩ bO (s:=i) mg pX.o.cg vJ qiE;have dv:=aa r1;have di:=aa r2;have HAf:=aa (ae.heap AW.o);have Nq:=aa (gY HAf.o r2);have cy:VB wd q (.string x0) (.string x1) (.bool x2) (.int .i64 x3) (.int .i64 x4) (.slice x5 x6 x7):=ae.heap OQ.o;have Ns:VB ((wd.setCell ⟨gb,5+c*2,none⟩ (.int .i64 i)).setCell ⟨gb,5+c*2+1,none⟩ (.slice NA nn nc)) q (.string x0) (.string x1) (.bool x2) (.int .i64 x3) (.int .i64 x4) (.slice x5 x6 x7):=r2.block _ _ _ cy ak;obtain⟨z0,z1,z2,z3,z4,z5,_,_⟩:=Ns.cells;have xU:=aa ae;have Gj:=ae.size;have qlG:w.heap.size<=w4.heap.size:=ef.o.size;have qiu:gb≠q:=ab;have Ar:q≠gb:=ab;have qlH:gb≠w.heap.size+1:=ab;unfold cY;clear r1 r2 rn AV ez mg vJ iN kb;go_wp2_with fail
   refine(AQ _ 1 1 _).mono ?_;rintro e w6 ⟨rfl,k6⟩;have K6:ad ((wd.setCell ⟨gb,5+c*2,none⟩ (.int .i64 i)).setCell ⟨gb,5+c*2+1,none⟩ (.slice NA nn nc)) w6:=ad.call al k6;have cN:ag (Rw w6 48 6 a8 (.slice (some ⟨wd.heap.size,0,none⟩) 1 1) [⟨x0,x1,x2,x3,x4,x5,x6,x7,x8⟩]):=(Rw.one (ea (by simp[World.setCell]))).kept k6;have aZ:=aa (K6.heap Nq.o);have aR:=aa K6;clear k6;obtain⟨p0,p1,p2,p3⟩:=dg aZ.o;go_wp2_with fail
   have aL:=bC aZ.o (.int .i64 0) (.slice (some ⟨wd.heap.size,0,none⟩) 1 1);have y0:=ap aL 0;have y1:=ap aL 1;refine KV (v:= .agg #[.int .i64 0,.slice (some ⟨wd.heap.size,0,none⟩) 1 1]) (by simp[results,results56,go_sem,y0,y1]) rfl ?_;obtain⟨r1,r2⟩:=df ef.o ab lF.o (dv.o.kept aR.o) (((HFe.o.trans (.ar xU.o)).trans di.o).trans (.ar aR.o));refine⟨0,_,[⟨x0,x1,x2,x3,x4,x5,x6,x7,x8⟩],_,rfl,cN.o.fr (yq aZ.o) (by unfold bq;decide),r1,.inr ⟨rfl,N1.o,⟨x0,x1,x2,x3,x4,x5,x6,x7,x8⟩,σ',⟨1,c,x0,x3,x4,PA,pl,pc,ps⟩,Er,rfl,by rw[jz.o];exact Yv.o,rfl,rfl,Yv.o.2.1,rfl,rfl,by rw[jz.o],by rw[jz.o];exact pX.o,?_⟩,r2⟩;rw[Yz.o,lA.o]
  ·go_wp2_with fail
   refine(gl er _).mono ?_;rintro e w6 ⟨rfl,k6⟩;have aZ:=aa (k6.heap dh.o);have aR:=aa k6;clear k6;obtain⟨p0,p1,p2,p3⟩:=dg aZ.o;go_wp2_with fail
   have aL:=bC aZ.o (.int .i64 er) (.slice none 0 0);have y0:=ap aL 0;have y1:=ap aL 1;refine KV (v:= .agg #[.int .i64 er,.slice none 0 0]) (by simp[results,results56,go_sem,y0,y1]) rfl ?_;obtain⟨r1,r2⟩:=df ef.o ab lF.o (kM.o.kept aR.o) (mi.o.trans (.ar aR.o));exact⟨er,_,[],_,rfl,Rw.nil _,r1.mono ab,.inl ⟨Jf,rfl,by rw[(Ys.o Jf).1,Wv],by rw[jz.o];exact(Ys.o Jf).2.elim .inl (λh=> .inr (.inr h))⟩,r2⟩):p:=h
theorem YB (B:Int) (gb:Nat) (g:aG) (qD:ee) (c i:Nat) (w:World) (h:aT w B gb g) (hB:0<=B) (h9:B+2<=900) (hc:qD.c=c) (bO:c<4) (ji:(g.ss c).1=(i:Int)) (hk:Let qD.key) (o8:qD.val.size<=1000) (vl:ByteArray) (gD:Bool) (YC:(qD.k=1/\vl=qD.val/\gD=false)∨(qD.k=2/\vl=⟨#[]⟩/\gD=true)):
  Calls prog 56 #[.pointer (some ⟨gb,0,none⟩),dx qD] w λe w'=>∃ er fv fl g',e= .returned (gm er fv)/\Rw w' 48 6 a8 fv fl/\aT w' (B+2) gb g'/\yP B g c i qD.key vl gD er fl g'/\bN w w':=by
 have bR:=(show ∃ V,GB w gb g V/\fo w B gb g V from h);have HG:=aa h;have an:=h.lt;obtain⟨V,h1,h2⟩:=h;have cX:=h2.cX;obtain⟨hi,cg,pn,PA,pl,pc,SK,so,sc,cO,fq⟩:=t'.of h1 h2 bO ji;have bX:=aa cg;have kG:=aa pn;have jY:=aa cO;have kL:=aa fq;have H1:=aa h1;have H2:=aa h2;have HS:ag (∀ W,ad w W->ba W B (g.p i) i (g.σ i)):=λW hW=>(H2.o.bi i hi).kept hW;obtain⟨fx,nQ,_,c3,dU,_⟩:=fq;obtain⟨ps,b'⟩:=eqQ ((g.ss c).2);have jz:=aa b';rw[b']at bX kG kL jY;obtain⟨n,hn⟩:=eqQ g.n;have HN:=aa hn;rw[hn]at c3 hi;clear h1 h2 cg pn cO b' hn;obtain⟨ok,oc,os,ot,oa,oh,bT,dj,dq,dH,dI,dJ⟩:=qD;unfold dx il;simp only at*;obtain⟨bS,dT⟩:=pU (w:=w) (xs:= #[.int .i64 ok,.int .i64 oc,.int .i64 os,.int .i64 ot,.int .i64 oa,.int .i64 oh,.string bT,.string dj,dq,dH,dI,dJ]) (ys:= #[.int .i64 0,.slice none 0 0]) (a:=36) (b:=42);have dG:=aa bS;have dy:=aa dT;clear bS dT;subst hc;obtain⟨RA,rc,ei,_,_⟩:=H2.o.a6.row.r.form;obtain⟨RB,rd,cE,_,_⟩:=H2.o.a6.row.qD.form;obtain⟨RC,vO,cv,_,_⟩:=H2.o.a6.row.p.form;have cU:=aa H2.o.a6.row;have jW:ag (eA g.es g.os g.ps g.ps.length):=H2.o.a6.fit;have r0:w.cell? ⟨gb,0,none⟩=some V.rv:=aE H1.o 0;have r1:w.cell? ⟨gb,1,none⟩=some V.ov:=aE H1.o 1;have r2:w.cell? ⟨gb,2,none⟩=some V.pv:=aE H1.o 2;rw[ei]at r0;rw[cE]at r1;rw[cv]at r2;rw[ei,cE,cv]at cU;generalize (bw g.es).length=m1 at r0 cU;generalize g.os.length=m2 at r1 cU;generalize yw:g.ps.length=m3 at r2 cU;clear bR ei cE cv;have HKI:=aa YC;clear YC;go_in;go_wp2_with fail
 refine ey [none,none,none,none,none,none,none,some (λu w'=>∃ q,u= .pointer (some ⟨q,0,none⟩)/\w.heap.size+1+1<=q/\SB w' q (.int .i64 0) (.slice none 0 0))] (λwB=>ad w wB/\ad ((w.alloc (.cells #[.int .i64 ok,.int .i64 c,.int .i64 os,.int .i64 ot,.int .i64 oa,.int .i64 oh,.string bT,.string dj,dq,dH,dI,dJ] 36)).alloc (.cells #[.int .i64 0,.slice none 0 0] 42)) wB/\wB.cell? ⟨w.heap.size,1,none⟩=some (.int .i64 c)/\wB.cell? ⟨gb,5+c*2,none⟩=some (.int .i64 i)/\wB.cell? ⟨gb,5+c*2+1,none⟩=some (.slice PA pl pc)) λwB SS=> ?_;obtain⟨au,br,aB,aC,aF⟩:=SS.o _ (ad.refl _);iterate 7 refine SP.on ?_
 refine SP.ew ?_ λv1=> ?_
 ·intro wd hI hF;obtain⟨ae,ay,ai,aj,aq⟩:=SS.o wd hI;clear hF;go_wp2_with (fail);exact bn rfl ⟨_,rfl,by have:=ay.size;simpa using this,yY _ _⟩
 refine SP.ml SS ?_;rintro wd hI hF ⟨ae,ay,ai,aj,aq⟩;have h1:=hF.1;clear hF SS;obtain⟨w8,⟨q1,rfl,kp,pP⟩,k8⟩:=h1;have S2:SB wd q1 (.int .i64 0) (.slice none 0 0):=k8.heap pP;obtain⟨z0,z1,zf,zl⟩:=S2.cells;have g0:=zf 0;have g1:=zf 1;obtain⟨W1,eZ⟩:=eqR ((wd.setCell ⟨q1,0,none⟩ (.int .i64 i)).setCell ⟨q1,1,none⟩ (.slice PA pl pc));have b1:ah [q1] wd W1:=by rw[eZ];exact ah.bC q1 _ _
 have jV:ag (SB W1 q1 (.int .i64 i) (.slice PA pl pc)):=by rw[eZ];exact(S2.s0 _).s1 _
 have K1:ad w W1:=ad.but ae b1 (by simp;omega);have yr:=ad.but ay b1 (by simp;omega);have cC:=aa (yr.heap dy.o);have b6:=aa (yr.heap dG.o);have Nl:q1<W1.heap.size:=by have:=b1.size;omega
 clear pP k8 zf S2;go_wp2_with fail
 rw[<- eZ];clear b1 yr eZ;obtain⟨s0,s1,sf,sl⟩:=jV.o.cells;have lB:=ap b6.o 6;have c3:=K1.af c3;have dU:=K1.af dU;have r0:=K1.af r0;have r1:=K1.af r1;have r2:=K1.af r2;clear sf z0 z1 g0 g1 zl ae ay au br hI fx nQ ai aj aq aB aC aF;refine ey [none,none,none,none,none,none,none,none,some (λu w'=>∃ A n c,u= .slice A n c/\Rw w' 3 1 cJ (.slice A n c) (ints (iO g i (-1) bT)))] (λwB=>ad w wB/\ad W1 wB/\wB.cell? ⟨w.heap.size,6,none⟩=some (.string bT)/\wB.cell? ⟨q1,0,none⟩=some (.int .i64 i)/\wB.cell? ⟨gb,0,none⟩=some (.slice RA m1 rc)/\wB.cell? ⟨gb,1,none⟩=some (.slice RB m2 rd)/\wB.cell? ⟨gb,2,none⟩=some (.slice RC m3 vO)) λwB SS=> ?_;obtain⟨au,br,aB,aC,aF,aX,bK⟩:=SS.o _ (ad.refl _);iterate 8 refine SP.on ?_
 refine SP.ew ?_ λv1=> ?_
 ·intro wd hI hF;obtain⟨ae,ay,ai,aj,aq,az,aK⟩:=SS.o wd hI;clear hF;go_wp2_with ((go_at_call 83;refine(WM _ _ _ g.es g.os g.ps i (-1) bT _ (cU.o.fr (.ar ae)) jW.o).mono ?_;rintro e w5 ⟨A,n,c,rfl,h5,k5⟩));exact bn rfl ⟨A,n,c,rfl,h5⟩
 refine SP.ml SS ?_;rintro wd hI hF ⟨ae,ay,ai,aj,aq,az,aK⟩;have h1:=hF.1;clear hF SS;obtain⟨w9,⟨qhZ,qh0,qh1,rfl,gq⟩,k9⟩:=h1;have yn:=aa (gq.kept k9);have eb:=aa ae;have qiF:=aa ay;have c3:=ay.af c3;have dU:=ay.af dU;have lB:=ay.af lB;have s0:=ay.af s0;clear gq k9 au br hI ai aj aq az aK aB aC aF aX bK ae ay;obtain⟨W2,rfl⟩:=eqR wd;go_wp2_with fail
 refine ku [0,1,2,3,4,5,6,7,9,10,8,11,12,13] [none,none,none,none,none,none,none,none,none,none,some (λu w'=>Rw w' 63 2 bZ u (g.σ i).own),some (λu w'=>∃ r:Int,u= .int .i64 r/\(r<0↔¬b4 (g.σ i).own bT))] (λwB=>ad W2 wB/\wB.cell? ⟨w.heap.size,6,none⟩=some (.string bT)/\wB.cell? ⟨q1,0,none⟩=some (.int .i64 i)/\wB.cell? ⟨gb,3,none⟩=some (.slice (some ⟨SK,so,none⟩) n sc)/\wB.cell? ⟨SK,so+i,none⟩=some (.pointer (some ⟨(g.p i).sb,0,none⟩))) λwB SS=> ?_;obtain⟨au,aB,aC,aF,aX⟩:=SS.o _ (ad.refl _);iterate 10 refine SP.on ?_
 refine SP.ew ?_ λv1=> ?_
 ·intro wd hI hF;obtain⟨ae,ai,aj,aq,az⟩:=SS.o wd hI;clear hF;go_wp2_with ((go_at_call 85;refine(tD B (g.p i) i (g.σ i) _ (HS.o _ (eb.o.call ae))).mono ?_;rintro e w4 ⟨v',rfl,h4,k4⟩));exact bn rfl h4
 refine SP.ew ?_ λv2=> ?_
 ·intro wd hI hF;obtain⟨ae,ai,aj,aq,az⟩:=SS.o wd hI;have h1:=hF.1 av;clear hF;go_wp2_with ((go_at_call 84;obtain⟨wb,hr,kb⟩:=h1;refine(Eu _ _ bT _ (hr.kept kb)).mono ?_;rintro e w5 ⟨r,rfl,h5,k5⟩));exact bn rfl ⟨r,rfl,h5⟩
 refine SP.ml SS ?_;rintro wd hI hF ⟨ae,ai,aj,aq,az⟩;have h2:=hF.1;clear hF SS;obtain⟨w8,⟨r,rfl,bA⟩,k8⟩:=h2;have e7:=aa bA;have eI:=aa (eb.o.call ae);have OR:=aa (qiF.o.call ae);have YD:=aa (yn.o.kept ae);have pV:=aa (HG.o.kept eI.o);have gM:=aa (OR.o.heap cC.o);have im:=aa (OR.o.heap b6.o);have ny:ag (SB wd q1 (.int .i64 i) (.slice PA pl pc)):=OR.o.heap jV.o;have Lr:w.heap.size+1<wd.heap.size:=(aQ gM.o);obtain⟨s0,s1,_,_⟩:=ny.o.cells;have c3:=ae.af c3;have dU:=ae.af dU;have e0:=ap im.o 0;have e1:=ap im.o 1;have lB:=ap im.o 6;have j8:=ap im.o 7;clear bA k8 ae au hI ai aj aq az aB aC aF aX;by_cases hr:r<0
 ·go_wp2_with fail
  refine(gl 14 _).mono ?_;rintro e w6 ⟨rfl,k6⟩;have aZ:=aa (k6.heap gM.o);have aR:=aa k6;clear k6;obtain⟨p0,p1,p2,p3⟩:=dg aZ.o;go_wp2_with fail
  have aL:=bC aZ.o (.int .i64 14) (.slice none 0 0);have y0:=ap aL 0;have y1:=ap aL 1;refine KV (v:= .agg #[.int .i64 14,.slice none 0 0]) (by simp[results,results56,go_sem,y0,y1]) rfl ?_;obtain⟨r1,r2⟩:=df eI.o ab gM.o (pV.o.kept aR.o) (.ar aR.o);exact⟨14,_,[],_,rfl,Rw.nil _,r1.mono ab,.inl ⟨ak,rfl,rfl,.inl (e7.o.1 hr)⟩,r2⟩
 ·have qlI:ag (b4 (g.σ i).own bT):=Classical.byContradiction λe=>hr (e7.o.2 e);go_wp2_with fail
  refine(Wm B gb g i _ (iO g i (-1) bT) _ pV.o ab (by rw[HN.o];exact hi) (λs hs=>Et s hs) YD.o).mono ?_;rintro e w4 ⟨b,rfl,YE,YF,k4⟩;have N0:=aa YE;have qiG:=aa YF;have ef:=aa (eI.o.call k4);have qiA:=aa (YD.o.kept k4);have vX:=aa (pV.o.kept k4);have lF:=aa (k4.heap gM.o);have sO:=aa (k4.heap im.o);have l4:ag (SB w4 q1 (.int .i64 i) (.slice PA pl pc)):=k4.heap ny.o;have Ls:w.heap.size+1<w4.heap.size:=(aQ lF.o);obtain⟨s0,s1,_,_⟩:=l4.o.cells;have c3:=k4.af c3;have dU:=k4.af dU;have e0:=k4.af e0;have e1:=k4.af e1;have lB:=k4.af lB;have j8:=k4.af j8;clear YE YF k4
  cases b
  ·have N1:=aa (N0.o rfl);rcases HKI.o with ⟨rfl,rfl,rfl⟩|⟨rfl,rfl,rfl⟩
   ·go_wp2_with fail
    have jF:ag (vl.size<=9223372036854775807):=by unfold ag;omega
    let VL:ByteArray:=vl
    let GN:Bool:=false
    exact Yq
   ·go_wp2_with fail
    have jF:ag ((⟨#[]⟩:ByteArray).size<=9223372036854775807):=by unfold ag;decide
    let VL:ByteArray:=⟨#[]⟩
    let GN:Bool:=true
    exact Yq
  ·go_wp2_with fail
   refine(gl 15 _).mono ?_;rintro e w6 ⟨rfl,k6⟩;have aZ:=aa (k6.heap lF.o);have aR:=aa k6;clear k6;obtain⟨p0,p1,p2,p3⟩:=dg aZ.o;go_wp2_with fail
   have aL:=bC aZ.o (.int .i64 15) (.slice none 0 0);have y0:=ap aL 0;have y1:=ap aL 1;refine KV (v:= .agg #[.int .i64 15,.slice none 0 0]) (by simp[results,results56,go_sem,y0,y1]) rfl ?_;obtain⟨r1,r2⟩:=df ef.o ab lF.o (vX.o.kept aR.o) (.ar aR.o);exact⟨15,_,[],_,rfl,Rw.nil _,r1.mono ab,.inl ⟨ak,rfl,rfl,.inr (.inl (qiG.o (by trivial)))⟩,r2⟩
def YG (n:Nat) (aH:List Nat) (aJ a':List Int):Prop:=(a'.length=n/\eA aH aJ a' a'.length)∨(Up aH/\aJ.length=aH.length+1/\oa aJ 0=0/\1<=a'.length/\a'.length<=6)
def sT (B:Int) (P:Nat->my->Prop) (g:aG) (qD:ee) (k c s t:Nat) (aH:List Nat) (aJ a':List Int) (er:Int) (fl:List ax) (g':aG):Prop:=match k with
 |1=>∃ i:Nat,(g.ss c).1=(i:Int)/\yP B g c i qD.key qD.val false er fl g'
 |2=>∃ i:Nat,(g.ss c).1=(i:Int)/\yP B g c i qD.key ⟨#[]⟩ true er fl g'
 |3=>∃ i:Nat,(g.ss c).1=(i:Int)/\WG g c i qD.key er fl g'
 |4=>er=0/\fl=[]/\g'={g with ss:=ed g.ss c (-1,(g.ss c).2)}
 |5=>fl=[]/\WB g c s er g'
 |6=>∃ i:Nat,(g.ss c).1=(i:Int)/\Yi g c er fl g'
 |7=>∃ i:Nat,(g.ss c).1=(i:Int)/\XL g c i er fl g'
 |8=>WQ B P g s t qD.a (bits .and .i64 qD.h 3) er fl g'
 |9=>fl=[]/\Wy g s t er g'
 |10=>Wu g qD er fl g'
 |11=>er=0/\fl=[]/\WR g g'
 |_=>fl=[]/\(er≠0/\g'=g∨er=0/\a'.length=g.n/\eA aH aJ a' a'.length/\(∀ i,i<g.n->(g.σ i).wait=[])/\(∀ a c,a<6->c<6->de g.n a c=true->(g.st a c).T.length<=(g.st a c).lo)/\g.pins=[]/\Xa g aH aJ a' g')/\(oa aJ 0=0->Up aH->er=1)
theorem E3 {w:World} {B:Int} {gb:Nat} {g:aG} {c:Nat} (h:aT w B gb g) (hc:c<4) (hi:(g.ss c).1≠ -1):∃ i:Nat,(g.ss c).1=(i:Int):=by
 obtain⟨V,_,h2⟩:=h;obtain⟨_,_,_,h3,_⟩:=h2.a6.bY c hc;exact⟨(g.ss c).1.toNat,ab⟩
theorem OS (B:Int) (P:Nat->my->Prop) (gb:Nat) (g:aG) (qD:ee) (k c s t:Nat) (keys:List ByteArray) (aH:List Nat) (aJ a':List Int) (w:World) (h:aT w B gb g) (hB:0<=B) (h9:B+2<=900) (hk:qD.k=k) (h1:1<=k) (h2:k<=12) (hc:qD.c=c) (bO:c<4) (hs:qD.s=s) (ht:qD.t=t) (fR:s<6) (fT:t<6)
  (mf:Let qD.key) (o8:qD.val.size<=1000) (qa:Rw w 9 1 cd qD.kv keys) (kV:∀ k∈keys,Let k) (tm:keys.length<=5) (s9:de g.n s t=true->∀ U d,(g.st s t).T[U]? =some d->uc B (P U) d)
  (hr:k=12->fm w qD.rv qD.ov qD.pv aH aJ a'/\YG g.n aH aJ a'):
  Calls prog 9 #[.pointer (some ⟨gb,0,none⟩),dx qD] w λe w'=>∃ er fv fl g',e= .returned (gm er fv)/\Rw w' 48 6 a8 fv fl/\aT w' (B+2) gb g'/\(sT B P g qD k c s t aH aJ a' er fl g'∨er≠0/\fl=[]/\g'=g/\(g.ss c).1= -1)/\bN w w':=by
 rcases(by omega:k=1∨k=2∨k=3∨k=4∨k=5∨k=6∨k=7∨k=8∨k=9∨k=10∨k=11∨k=12)with rfl|rfl|rfl|rfl|rfl|rfl|rfl|rfl|rfl|rfl|rfl|rfl
 ·refine p8 B (B+2) gb g qD 1 c _ w _ h ab hk h1 h2 hc bO rfl (λargs w=>enters_of func56 av rfl args w) λhn W hW=> ?_;obtain⟨i,hi⟩:=E3 h bO (hn ab ab);refine(YB B gb g qD c i W (h.kept hW) hB ab hc bO hi mf o8 qD.val false (.inl ⟨hk,rfl,rfl⟩)).mono ?_;rintro e w' ⟨er,fv,fl,g',rfl,q1,q2,q3,q4⟩;exact⟨er,fv,fl,g',rfl,q1,q2,⟨i,hi,q3⟩,q4⟩
 ·refine p8 B (B+2) gb g qD 2 c _ w _ h ab hk h1 h2 hc bO rfl (λargs w=>enters_of func56 av rfl args w) λhn W hW=> ?_;obtain⟨i,hi⟩:=E3 h bO (hn ab ab);refine(YB B gb g qD c i W (h.kept hW) hB ab hc bO hi mf o8 ⟨#[]⟩ true (.inr ⟨hk,rfl,rfl⟩)).mono ?_;rintro e w' ⟨er,fv,fl,g',rfl,q1,q2,q3,q4⟩;exact⟨er,fv,fl,g',rfl,q1,q2,⟨i,hi,q3⟩,q4⟩
 ·refine p8 B (B+2) gb g qD 3 c _ w _ h ab hk h1 h2 hc bO rfl (λargs w=>enters_of func57 av rfl args w) λhn W hW=> ?_;obtain⟨i,hi⟩:=E3 h bO (hn ab ab);refine(qg5 B gb g qD c i W (h.kept hW) hB ab hc bO hi mf).mono ?_;rintro e w' ⟨er,fv,fl,g',rfl,q1,q2,q3,q4⟩;exact⟨er,fv,fl,g',rfl,q1,q2.mono ab,⟨i,hi,q3⟩,q4⟩
 ·refine p8 B (B+2) gb g qD 4 c _ w _ h ab hk h1 h2 hc bO rfl (λargs w=>enters_of func58 av rfl args w) λhn W hW=> ?_;refine(qgX B gb g qD c W (h.kept hW) hc bO).mono ?_;rintro e w' ⟨rfl,q2,q4⟩;exact⟨0,_,[],_,rfl,Rw.nil _,q2.mono ab,⟨rfl,rfl,rfl⟩,q4⟩
 ·refine p8 B (B+2) gb g qD 5 c _ w _ h ab hk h1 h2 hc bO rfl (λargs w=>enters_of func59 av rfl args w) λhn W hW=> ?_;refine(qg2 B gb g qD c s W (h.kept hW) hB ab hc bO hs).mono ?_;rintro e w' ⟨er,g',rfl,q2,q3,q4⟩;exact⟨er,_,[],g',rfl,Rw.nil _,q2.mono ab,⟨rfl,q3⟩,q4⟩
 ·refine p8 B (B+2) gb g qD 6 c _ w _ h ab hk h1 h2 hc bO rfl (λargs w=>enters_of func60 av rfl args w) λhn W hW=> ?_;obtain⟨i,hi⟩:=E3 h bO (hn ab ab);refine(qil B gb g qD c i keys W (h.kept hW) hB ab hc bO hi (qa.kept hW) kV tm).mono ?_;rintro e w' ⟨er,fv,fl,g',rfl,q1,q2,q3,q4⟩;exact⟨er,fv,fl,g',rfl,q1,q2.mono ab,⟨i,hi,q3⟩,q4⟩
 ·refine p8 B (B+2) gb g qD 7 c _ w _ h ab hk h1 h2 hc bO rfl (λargs w=>enters_of func61 av rfl args w) λhn W hW=> ?_;obtain⟨i,hi⟩:=E3 h bO (hn ab ab);refine(qh9 B gb g qD c i W (h.kept hW) hB ab hc bO hi).mono ?_;rintro e w' ⟨er,fv,fl,g',rfl,q1,q2,q3,q4⟩;exact⟨er,fv,fl,g',rfl,q1,q2.mono ab,⟨i,hi,q3⟩,q4⟩
 ·refine p8 B (B+2) gb g qD 8 c _ w _ h ab hk h1 h2 hc bO rfl (λargs w=>enters_of func62 av rfl args w) λhn W hW=> ?_;refine(qhU B gb g qD s t W (h.kept hW) hB ab hs ht fR fT P s9).mono ?_;rintro e w' ⟨er,fv,fl,g',rfl,q1,q2,q3,q4⟩;exact⟨er,fv,fl,g',rfl,q1,q2.mono ab,q3,q4⟩
 ·refine p8 B (B+2) gb g qD 9 c _ w _ h ab hk h1 h2 hc bO rfl (λargs w=>enters_of func63 av rfl args w) λhn W hW=> ?_;refine(qg1 B gb g qD s t W (h.kept hW) hB ab hs ht fR fT).mono ?_;rintro e w' ⟨er,g',rfl,q2,q3,q4⟩;exact⟨er,_,[],g',rfl,Rw.nil _,q2.mono ab,⟨rfl,q3⟩,q4⟩
 ·refine p8 B (B+2) gb g qD 10 c _ w _ h ab hk h1 h2 hc bO rfl (λargs w=>enters_of func64 av rfl args w) λhn W hW=> ?_;refine(qg0 B gb g qD W (h.kept hW) hB ab).mono ?_;rintro e w' ⟨er,fv,fl,g',rfl,q1,q2,q3,q4⟩;exact⟨er,fv,fl,g',rfl,q1,q2.mono ab,q3,q4⟩
 ·refine p8 B (B+2) gb g qD 11 c _ w _ h ab hk h1 h2 hc bO rfl (λargs w=>enters_of func65 av rfl args w) λhn W hW=> ?_;refine(qhe B gb g qD W (h.kept hW) hB ab).mono ?_;rintro e w' ⟨g',rfl,q2,q3,q4⟩;exact⟨0,_,[],g',rfl,Rw.nil _,q2.mono ab,⟨rfl,rfl,q3⟩,q4⟩
 ·refine p8 B (B+2) gb g qD 12 c _ w _ h ab hk h1 h2 hc bO rfl (λargs w=>enters_of func66 av rfl args w) λhn W hW=> ?_;obtain⟨nR,bh⟩:=hr rfl;have nR:=nR.fr (.ar hW);rcases bh with ⟨cp,eG⟩|⟨hu,hl,hz,mM,lM⟩
  ·refine(qhw B gb g qD aH aJ a' W (h.kept hW) hB ab nR cp eG).mono ?_;rintro e w' ⟨er,g',rfl,q2,q3,q4⟩;refine⟨er,_,[],g',rfl,Rw.nil _,q2.mono ab,⟨rfl,?_,λhz _=> ?_⟩,q4⟩
   ·rcases q3 with q3|⟨bj,a2,a3,a4,a5⟩
    ·exact .inl q3
    ·exact .inr ⟨bj,cp,eG,a2,a3,a4,a5⟩
   ·have h5:=eG.fit.own 0 ab;rw[hz]at h5;omega
  ·refine(Xs B gb g qD aH aJ a' W (h.kept hW) hB ab nR hu hl hz mM lM).mono ?_;rintro e w' ⟨rfl,q2,q4⟩;exact⟨1,_,[],g,rfl,Rw.nil _,q2.mono ab,⟨rfl,.inl ⟨ak,rfl⟩,λ_ _=>rfl⟩,q4⟩
end Go.Proofs.YtehaoggjlciobaaGreat

/- Part 32 of 40. -/
import Derived.Test.YtehaoggjlciobaaGreatQbo
set_option linter.all false
set_option maxRecDepth 20000
set_option maxHeartbeats 16000000
namespace Go.Proofs.YtehaoggjlciobaaGreat
open Go.Maps Go.RowKit Go.Proofs.Tryz
variable {os ps:List Int} {S es:List Nat} {xs:List Value} {N b c gb n:Nat} {P:TypeId->Prop} {ov pv rv sv v:Value} {w w2:World}
theorem qiI:(prog.info? 83).map (λi=>(i.zero,i.size,i.bytes))=some (some (.pointer none),1,8):=av
theorem qiJ {w0 wd:World} {x:Value} {t:TypeId} (h:ad (w0.alloc (.cells #[x] t)) wd):∀ (U:Nat) (u:Value),[x][U]? =some u->wd.cell? ((⟨w0.heap.size,0,none⟩:Addr).add U)=some u:=
 λU u hu=>h.af (cell_one_new _ _ _ U u hu)
def Bv (W:World) (b:Nat) (v:Value) (n:Nat) (xs:List Value):Prop:=W.ownsRow b 83 1 v n xs
theorem Bv.kept {W:World} (h:Bv W b v n xs) (k:ad W w2):Bv w2 b v n xs:=ad.own h k
theorem qiK {W:World} {x:cZ} {U:Nat} (hs:ba W 0 x U (sJ es os U)) (hS:S=v.ownBlock.toList) (ho:Bv W b v n xs) (hb:ah S W w2):ba w2 0 x U (sJ es os U):=by
 subst hS;have ht:∀ y∈v.ownBlock.toList,∃ cur,W.heap[y]? =some (.cells cur 83 (0,0)):=λy hy=>j5 ho (Option.mem_toList.1 hy);obtain⟨c1,t1⟩:=hs.nL;obtain⟨c2,t2⟩:=hs.rm;obtain⟨yv,dD,t3⟩:=hs.mw
 exact ba.Iz hs hb (Fr.gn hb λy hy cur e he hp=>by
  obtain⟨lQ,h9⟩:=ht y hy;rw[h9]at he;simp only[Option.some.injEq,Obj.cells.injEq]at he;obtain⟨_,rfl,_⟩:=he
  exact absurd hp (by unfold AZ;decide)) (ec ho t1 ak) (ec ho t2 ak) (λhy=>by
  obtain⟨lQ,h9⟩:=ht _ hy;rw[t3]at h9;cases h9)
def sn (n c i:Nat):Int:=if i<c then((i%n:Nat):Int)else 0
def yR (rv ov pv sv:Value) (N n c:Nat):Array Value:= #[rv,ov,pv,sv,.pointer (some ⟨N,0,none⟩),.int .i64 (sn n c 0),.slice none 0 0,.int .i64 (sn n c 1),.slice none 0 0,.int .i64 (sn n c 2),.slice none 0 0,.int .i64 (sn n c 3),.slice none 0 0,.slice none 0 0,.slice none 0 0,.slice none 0 0,.slice none 0 0,.slice none 0 0,.slice none 0 0,.slice none 0 0,.slice none 0 0,.slice none 0 0,.slice none 0 0]
theorem qiL (hc:c<4):(yR rv ov pv sv N n c)[5+c*2]? =some (.int .i64 0)/\(yR rv ov pv sv N n c)[5+c*2+1]? =some (.slice none 0 0):=by
 rcases(by omega:c=0∨c=1∨c=2∨c=3)with rfl|rfl|rfl|rfl <;>exact⟨rfl,rfl⟩
theorem qiM (h:w.heap[gb]? =some (.cells (yR rv ov pv sv N n c) 82 (0,0))) (hc:c<4):
  ((w.setCell ⟨gb,5+c*2,none⟩ (.int .i64 ((c%n:Nat):Int))).setCell ⟨gb,5+c*2+1,none⟩ (.slice none 0 0)).heap[gb]? =some (.cells (yR rv ov pv sv N n (c+1)) 82 (0,0)):=by
 have h2:=Ok _ gb (5+c*2+1) _ _ (.slice none 0 0) (Ok w gb (5+c*2) _ _ (.int .i64 ((c%n:Nat):Int)) h);refine h2.trans ?_;rcases(by omega:c=0∨c=1∨c=2∨c=3)with rfl|rfl|rfl|rfl <;>rfl
def qiN (w:World) (es:List Nat) (os ps:List Int) (p:Nat->cZ):aG:=⟨es,os,ps,p,λi=>sJ es os i,λ_ _=>sC,λc=>(((c%ps.length:Nat):Int),[]),λ_=>([],[]),[],[],w⟩
theorem sK.made {wr:World} {p:Nat->cZ} (hn:ps.length=n) (h:sK w wr gb N n n rv ov pv sv es os ps p) (eP:w.heap.size<=gb) (hf:eA es os ps n) (hb:ah [gb] wr w2) (hblk:w2.heap[gb]? =some (.cells (yR rv ov pv sv N n 4) 82 (0,0))):
  aT w2 0 gb (qiN w es os ps p)/\ad w w2:=by
 subst hn;have gV:=hf.fit.one;have hF:∀ {P:TypeId->Prop},¬P 82->Fr P wr w2:=λ{P} hp=>Fr.one hb h.bB hp;have hZ:gb<wr.heap.size:=(aQ h.bB);refine⟨⟨⟨rv,ov,pv,sv,N,λ_=> .slice none 0 0,λ_=> .slice none 0 0,λ_=> .slice none 0 0,.slice none 0 0,.slice none 0 0⟩,hblk,?_⟩,h.k.but hb (by simpa using eP)⟩;refine⟨⟨h.row.fr (hF (by unfold bq;decide)),hf,(Rw.bp h.own WX ak).fr (hF (P:=λe=>e=83) ak) rfl,λc hc=>⟨Rw.nil _,?_,λd hd=>(by cases hd),by show(-1:Int)<=((c%ps.length:Nat):Int);omega,by have:=Nat.mod_lt c (show 0<ps.length by omega);show((c%ps.length:Nat):Int)<(ps.length:Int);omega⟩,λc hc=>⟨Rw.nil _,Rw.nil _,λk hk=>(by cases hk),by show 0<=4;omega,rfl,λs hs=>(by cases hs)⟩,⟨⟨Rw.nil _,λx hx=>(by cases hx)⟩,.nil,by show 0<=8;omega,λx hx=>(by cases hx)⟩,λe he=>(by cases he)⟩,λi hi=> ?_,h.apart,?_,λa b _ _=>⟨by show((0:Nat):Int)<=0;omega,by show((0:Nat):Int)<=32+0;omega⟩,qcb _ _ _ _,by show((0:Nat):Int)<=8*0;omega,⟨qcg h.k.size hb.size,eP,λi hi=>h.ND i hi,λb an=> .inl ((h.k.but hb (by simpa using eP)).block b an)⟩⟩
 ·exact b9.nil
 ·have hs:=h.bi i hi;obtain⟨c1,t1⟩:=hs.nL;obtain⟨c2,t2⟩:=hs.rm;obtain⟨yv,dD,t3⟩:=hs.mw;refine ba.Iz hs hb (hF (by unfold AZ;decide)) ?_ ?_ ?_
  ·exact λhy=>fB t1 h.bB ak (At.1 hy)
  ·exact λhy=>fB t2 h.bB ak (At.1 hy)
  ·exact λhy=>by
    have e:=At.1 hy;have hq:=h.bB;rw[<- e]at hq;have gE:=t3.symm.trans hq
    cases gE
 ·obtain⟨M,k,S,F,A8⟩:=h.cm
  have h9:=A8.oK hb λy hy _=>by
   simp only[At]at hy;subst hy;exact .inr ⟨_,_,h.bB,ak,ak⟩
  exact⟨M,k,S,F,h9⟩
def Jh (w:World) (es:List Nat) (os ps:List Int) (g:aG):Prop:=
 g.es=es/\g.os=os/\g.ps=ps/\(∀ i,i<ps.length->g.σ i=sJ es os i)/\g.st=(λ_ _=>sC)/\(∀ c,c<4->g.ss c=(((c%ps.length:Nat):Int),[]))/\g.pins=[]/\g.bJ=[]/\(g.jn=λ_=>([],[]))/\g.w0=w
theorem YH (rv ov pv:Value) (es:List Nat) (os ps:List Int) (w:World) (h:fm w rv ov pv es os ps) (hf:eA es os ps ps.length):
  Calls prog 7 #[.agg #[rv,ov,pv]] w λe w'=>∃ gb g,e= .returned (.pointer (some ⟨gb,0,none⟩))/\aT w' 0 gb g/\Jh w es os ps g/\ad w w':=by
 obtain⟨A,B,C,n1,c1,n2,c2,c3,hh,hr⟩:=h.mu;injection hh with hh;have jl:=congrArg Array.toList hh;simp only[List.cons.injEq,and_true]at jl;obtain⟨rfl,rfl,rfl⟩:=jl;have gV:=hf.fit.one;have jJ:=hf.fit.cV;have cX:=NG hf.fit rfl;obtain⟨n,hn⟩:=eqQ ps.length;have HN:=aa hn;have HR:=aa hr;have HH:=aa h;have HF:=aa hf;have uo:=aa cX;have j4:n1=es.length+1:=by rw[<- ju];exact hr.rs.1.symm
 have qZ:=aa j4;have bQ:=hr.nX;rw[hn]at gV jJ HR HH HF bQ⊢;clear h hr hf hh hn cX j4;go_in;go_wp2_with fail
 have Lw:=aa (yY w (.cells #[.slice A n1 c1,.slice B n2 c2,.slice C n c3] 29));refine(zT A B C n1 c1 n2 c2 n c3 es os ps _ (HR.o.keep al) HF.o).mono ?_;rintro e w1 ⟨rfl,k1⟩;have cx:ag (ad w w1):=ad.call al k1;have b6:=aa (k1.heap Lw.o);have aY:=cx.o.size;have lR:w.heap.size<w1.heap.size:=(aQ b6.o);have x0:=ap b6.o 0;have x1:=ap b6.o 1;have x2:=ap b6.o 2;clear k1;go_wp2_with fail
 refine(zh _ _ _ _ _ _ ab ⟨_,_,_,rfl⟩ ⟨_,_,_,rfl⟩).mono ?_;rintro e w2 ⟨rfl,k2⟩;have eb:ag (ad w w2):=cx.o.call k2;have iE:=aa (k2.heap b6.o);have x0:=k2.af x0;have x1:=k2.af x1;have x2:=k2.af x2;have lV:w.heap.size<w2.heap.size:=by have:=k2.size;omega
 clear k2;go_wp2_with fail
 refine(M8 _ _ _ es os ps _ (HH.o.fr (.ar eb.o)) ⟨uo.o.1,uo.o.2.1,uo.o.2.2⟩).mono ?_;rintro e w3 ⟨r2,o2,p2,rfl,bR,k3⟩;have eI:ag (ad w w3):=eb.o.call k3;have im:=aa (k3.heap iE.o);obtain⟨RA,sU,ei,_,_⟩:=bR.r.form;obtain⟨RB,rb,cE,_,_⟩:=bR.qD.form;obtain⟨RC,rc,cv,_,_⟩:=bR.p.form;rw[ju,<- qZ.o]at ei;rw[HN.o]at cv;subst ei cE cv;obtain⟨ol,lY⟩:=eqQ os.length;rw[lY]at bR⊢;have cU:=aa bR;clear k3 bR lY;go_wp2_with fail
 refine(qgp n w3 gV jJ).mono ?_;rintro e w4 ⟨N,rfl,YI,k4⟩;have ef:ag (ad w w4):=eI.o.call k4;have sO:=aa (k4.heap im.o);have qiO:=aa (cU.o.fr (.ar k4));have vN:=aa YI;clear k4 YI;obtain⟨i0,gr,a7,Nl,qiP⟩:=ql0 qiI;have ze:=aa gr;have xx:w.heap.size<w4.heap.size:=(aQ sO.o)
 have YJ:sK w (w4.alloc (.cells #[.slice RA n1 sU,.slice RB ol rb,.slice RC n rc,.slice none 0 0,.pointer (some ⟨N,0,none⟩),.int .i64 0,.slice none 0 0,.int .i64 0,.slice none 0 0,.int .i64 0,.slice none 0 0,.int .i64 0,.slice none 0 0,.slice none 0 0,.slice none 0 0,.slice none 0 0,.slice none 0 0,.slice none 0 0,.slice none 0 0,.slice none 0 0,.slice none 0 0,.slice none 0 0,.slice none 0 0] 82)) w4.heap.size N n 0 (.slice RA n1 sU) (.slice RB ol rb) (.slice RC n rc) (.slice none 0 0) es os ps (λ_=>⟨0,0,0⟩):=
  ⟨ef.o.alloc _,yY _ _,qiO.o.fr (.ar ((ad.refl _).alloc _)),qcb _ _ _ _,λi hi=>ab,λi k hi=>ab,λi hi=>ab,((vN.o.keep ((ad.refl _).alloc _)).base (eI.o.size)).qhn (λx hx=>hx)⟩
 have YK:=aa YJ;have fb:ag ((w4.alloc (.cells #[.slice RA n1 sU,.slice RB ol rb,.slice RC n rc,.slice none 0 0,.pointer (some ⟨N,0,none⟩),.int .i64 0,.slice none 0 0,.int .i64 0,.slice none 0 0,.int .i64 0,.slice none 0 0,.int .i64 0,.slice none 0 0,.slice none 0 0,.slice none 0 0,.slice none 0 0,.slice none 0 0,.slice none 0 0,.slice none 0 0,.slice none 0 0,.slice none 0 0,.slice none 0 0,.slice none 0 0] 82)).heap[w.heap.size]? =some (.cells #[.slice A n1 c1,.slice B n2 c2,.slice C n c3] 29 (0,0))):=((ad.refl _).alloc _).heap sO.o;obtain⟨gb,eP⟩:=eqQ w4.heap.size;have vg:=aa eP;rw[eP]at YK xx;clear YJ gr eP x0 x1 x2;go_wp2_with fail
 rw[vg.o];go_loopw [19] (λiv wr=>∃ (U:Nat) (sv:Value) (p:Nat->cZ),U<=n/\iv= .int .i64 U/\ag (sK w wr gb N n U (.slice RA n1 sU) (.slice RB ol rb) (.slice RC n rc) sv es os ps p)/\ag (wr.heap[w.heap.size]? =some (.cells #[.slice A n1 c1,.slice B n2 c2,.slice C n c3] 29 (0,0)))) (λiv _=>n-(intOf iv).toNat)
 case atStart=>exact⟨0,_,_,ab,rfl,YK,fb⟩
 case round=>
  obtain⟨U,sv,p,hj,rfl,gz,hx⟩:=hrel;have ep:=aa gz.o.k;have ou:=ep.o.size;have g3:=ap gz.o.bB 3;have x0:=ap hx.o 0;have x1:=ap hx.o 1;have x2:=ap hx.o 2;have hZ:gb<wr.heap.size:=(aQ gz.o.bB);have dN:w.heap.size<wr.heap.size:=(aQ hx.o);by_cases an:U<n
  ·obtain⟨SA,sc,rfl⟩:=ca gz.o.own;have Iq:=ec gz.o.own gz.o.bB ak;have Nc:=ec gz.o.own hx.o ak;have rQ:∀ y∈(Value.slice SA U sc).ownBlock.toList,w.heap.size<=y:=λy hy=>(gz.o.own.lt y (Option.mem_toList.1 hy)).1;have mA:=aa rQ
   have hlen:ag ((((List.range U).map λi=>(p i).sb).flatMap qk).length=U*1):=by
    unfold ag;rw[eF WX];simp
   obtain⟨xs,bP⟩:=eqQ (((List.range U).map λi=>(p i).sb).flatMap qk);have ly:=aa bP;have jr:ag (Bv wr w.heap.size (.slice SA U sc) U xs):=by rw[<- bP];exact gz.o.own
   rw[bP]at hlen;clear bP rQ;go_wp2_with fail
   refine oY (oS (((Value.slice SA U sc).ownBlock.toList))) (λwB=>ah (((Value.slice SA U sc).ownBlock.toList)) wr wB/\wB.cell? ⟨gb,3,none⟩=some (.slice SA U sc)/\wB.cell? ⟨w.heap.size,0,none⟩=some (.slice A n1 c1)/\wB.cell? ⟨w.heap.size,1,none⟩=some (.slice B n2 c2)/\wB.cell? ⟨w.heap.size,2,none⟩=some (.slice C n c3)/\ag (Bv wB w.heap.size (.slice SA U sc) U xs)) ?_ av av _ (by(try simp only[List.append_eq,List.cons_append,List.nil_append,List.toList_toArray]);exact rfl) ?_
   ·exact⟨by exact hD,by first|assumption|go_simp,by first|assumption|go_simp,by first|assumption|go_simp,by first|assumption|go_simp,by first|assumption|skip⟩
   rintro wB ⟨au,aB,aC,aF,aX,jr⟩;repeat((first|(apply DW.ct;(focus (intro wd hI;have ae:=au.trans hI;have ai:=hI.af aB bk;have aj:=hI.af aC bk;have aq:=hI.af aF bk;have az:=hI.af aX bk;go_wp2_with (fail);refine bd.mk _ rfl ⟨rfl,?_⟩;exact al)))|(refine DW.bt av ?_;intro wd hI;have ae:=au.trans (ah.ar hI);have ai:=hI.af aB;have aj:=hI.af aC;have aq:=hI.af aF;have az:=hI.af aX;go_wp2_with (first|(go_at_call 27;go_must (refine(UQ A B C n1 c1 n2 c2 n c3 es os ps U _ (HR.o.keep (ep.o.but ae mA.o)) HF.o.fit).mono ?_;rintro e w5 ⟨D,c4,b0,rfl,h5,_,_,k5⟩;have zF:ag (Rw w5 63 2 bZ (.slice D (dd es os U n1).length c4) (dd es os U n1)):=Rw.bp h5 nZ ak;clear h5;have jr:=aa (jr.o.kept (hI.call k5));have dB:ah (Value.slice SA U sc).ownBlock.toList wd w5:=ah.ar k5))|(go_at_call 26;go_must (refine(qeF 0 U _ (dd es os U n1) _ ⟨ab,ab⟩ (zF.o.kept hI) (by have:=Ho es os U n1;have:=HF.o.fit.up.cV;have:=qZ.o;omega) (Int.le_refl _)).mono ?_;rintro e w6 ⟨x,rfl,fR,q1,q2,q3,k6⟩;have su:ag (ba w6 0 x U (sJ es os U)):=(by rw[qZ.o]at fR;exact fR);have Ey:=aa (⟨qcg ae.size q1,qcg ae.size q2,qcg ae.size q3⟩:wr.heap.size<=x.sb/\wr.heap.size<=x.hb/\wr.heap.size<=x.mb);have jr:=aa (jr.o.kept (hI.call k6));have qiQ:=jr;clear fR q1 q2 q3;have Uug:ah (Value.slice SA U sc).ownBlock.toList wd w6:=ah.ar k6))|(at_builtin;go_must (refine wpList_append_own _ rfl _ _ 73 rfl w.heap.size 83 i0 (.pointer none) 1 8 underlying73 ze.o a7 Nl qiP rfl ak _ U _ rfl (jr.o.kept hI) _ 1 1 [.pointer (some ⟨x.sb,0,none⟩)] rfl rfl (qiJ hI) (by simp[Value.oneCell']) (by unfold maxLen;omega) ab (by have:=(ep.o.but ae mA.o).size;omega) ?_;intro v7 w7 O7 xo _;have tN:=aa O7;obtain⟨A7,tO,rfl⟩:=ca O7;have qB:ah (Value.slice SA U sc).ownBlock.toList wd w7:=(ah.refl _ _).grown xo (λg hg=> .inl (Option.mem_toList.2 hg));have qW:=aa (qiK su.o rfl qiQ.o (((b5.trans (ah.ar hI)).trans qB)));clear O7 xo)));refine bd.bt _ rfl (by exact hD) (λbf=> ?_);have b5:=(ah.ar (S:=((Value.slice SA U sc).ownBlock.toList)) hI).trans bf;have au:=au.trans b5;have aB:=b5.af aB bk;have aC:=b5.af aC bk;have aF:=b5.af aF bk;have aX:=b5.af aX bk;(first|have jr:=aa (jr.o.kept (ad.call hI (ad.tQ bf)))|have jr:=aa (jr.o.kept (ad.call hI (ad.tR bf)))|skip)));simp only[Act.put,List.setIfInBounds_toArray,List.set_cons_succ,List.set_cons_zero])
   refine DW.tail av ?_;intro wd hI;have ae:=au.trans (ah.ar hI);have ai:=hI.af aB;have aj:=hI.af aC;have aq:=hI.af aF;have az:=hI.af aX;have ho9:=ad.own tN.o hI;have IA:=qW.o.kept hI;have qiR:=ae.heap gz.o.bB Iq;have f3:wd.frozen? ⟨gb,3,none⟩=false:=aI qiR 3;have aN:gb≠w.heap.size:=by have:=xx;omega
   have oV:=aa (gz.o.next ae IA Ey.o.1 Ey.o.2.1 Ey.o.2.2 (by rw[ly.o];exact ho9) (Nat.le_of_lt xx));have hxx:=aa ((ah.set (w:=wd) gb 3 (.slice A7 (U+1) tO)).heap (ae.heap hx.o Nc) (by simpa using Ne.symm aN));go_wp2_with fail
   go_roundw
   case rel=>exact⟨U+1,_,_,ab,aA,oV,hxx⟩
   case measure=>exact dY
  ·obtain rfl:n=U:=ab;obtain⟨SA,sc,rfl⟩:=ca gz.o.own;obtain⟨W5,rfl⟩:=eqR wr;have E4:=gz;have dW:ag (ah [gb] W5 W5):=ah.refl _ _;have ng:ag (W5.heap[gb]? =some (.cells (yR (.slice RA n1 sU) (.slice RB ol rb) (.slice RC n rc) (.slice SA n sc) N n 0) 82 (0,0))):=gz.o.bB;clear an g3 x0 x1 x2 hx ou ep gz;go_wp2_with fail
   go_loopw [37] (λe6 wx=>∃ c:Nat,c<=4/\e6= .int .i64 c/\ag (ah [gb] W5 wx)/\ag (wx.heap[gb]? =some (.cells (yR (.slice RA n1 sU) (.slice RB ol rb) (.slice RC n rc) (.slice SA n sc) N n c) 82 (0,0)))) (λe6 _=>4-(intOf e6).toNat)
   case atStart=>exact⟨0,ab,rfl,dW,ng⟩
   case round=>
    obtain⟨c,bO,rfl,bS,dZ⟩:=hrel;by_cases an:c<4
    ·have fa:=qiL (rv:= .slice RA n1 sU) (ov:= .slice RB ol rb) (pv:= .slice RC n rc) (sv:= .slice SA n sc) (N:=N) (n:=n) an;have y0:=aE dZ.o (5+c*2);have y1:=aE dZ.o (5+c*2+1);have f0:=aI dZ.o (5+c*2);have f1:=aI dZ.o (5+c*2+1);rw[fa.1]at y0;rw[fa.2]at y1;have qlJ:gb<wr.heap.size:=(aQ dZ.o);have Mb:decide ((c:Int)<4)=true:=by simp;omega
     have sg:((n:Int)==0)=false:=by simp;omega
     have hm:Int.tmod (c:Int) (n:Int)=((c%n:Nat):Int):=by rw[Int.tmod_eq_emod_of_nonneg ab];rfl
     go_wp2_with fail
     refine bz (λwB=>ad wr wB/\wB.cell? ⟨gb,5+c*2,none⟩=some (.int .i64 0)/\wB.cell? ⟨gb,5+c*2+1,none⟩=some (.slice none 0 0)) λwB SS=> ?_;obtain⟨au,aB,aC⟩:=SS.o _ (ad.refl _);repeat(first|(apply DW.ct;(focus (intro wd hI;obtain⟨ae,ai,aj⟩:=SS.o wd hI;go_wp2_with (go_at_call 28;refine(TY _ _).mono ?_;rintro e w5 ⟨rfl,cF⟩);exact aP));refine DW.np ?_)|(refine DW.bt av ?_;intro wd hI;obtain⟨ae,ai,aj⟩:=SS.o wd hI;go_wp2_with (go_at_call 28;refine(TY _ _).mono ?_;rintro e w5 ⟨rfl,cF⟩);refine cu hI SS (λbf SS=> ?_) rfl;obtain⟨au,aB,aC⟩:=SS.o _ (ad.refl _)))
     refine DW.tail av λwd hI=> ?_;obtain⟨ae,ai,aj⟩:=SS.o wd hI;clear SS;have OT:=ae.heap dZ.o;have f0:=aI OT (5+c*2);have f1:=aI OT (5+c*2+1);have dV:=aa (qiM OT an);have hby:ag (ah [gb] W5 ((wd.setCell ⟨gb,5+c*2,none⟩ (.int .i64 ((c%n:Nat):Int))).setCell ⟨gb,5+c*2+1,none⟩ (.slice none 0 0))):=(bS.o.trans (ah.ar ae)).trans ((ah.set gb _ _).trans (ah.set gb _ _));unfold cY;go_wp2_with fail
     have gd:(c:Int)%(n:Int)=((c%n:Nat):Int):=rfl;rw[gd];refine⟨⟨c+1,ab,aA,hby,dV⟩,by simp[intOf];omega⟩
    ·obtain rfl:c=4:=ab;have YL:=E4.o.made HN.o (Nat.le_of_lt xx) HF.o bS.o dZ.o;go_wp2_with fail
     go_ret;refine⟨gb,_,rfl,YL.1,⟨rfl,rfl,rfl,λi _=>rfl,rfl,λc _=>rfl,rfl,rfl,rfl,rfl⟩,YL.2⟩
theorem uc.mono {B B2:Int} {P Q:my->Prop} {d:ByteArray} (h:uc B P d) (hB:B<=B2) (hq:∀ c,P c->Q c):uc B2 Q d:=by
 obtain⟨v,h1,h2,h3,h4,h5,h6,h7⟩:=h;exact⟨v,h1,h2,h3,h4,Int.le_trans h5 hB,λx hx=>Int.le_trans (h6 x hx) hB,hq _ h7⟩
theorem YN (x:bF) (i h:Int):x.lo<=(mr x i h).lo/\(mr x i h).T=x.T:=by
 unfold mr;split
 ·exact⟨CP _,rfl⟩
 ·split
  ·split <;>exact⟨CP _,rfl⟩
  ·split
   ·exact⟨CP _,rfl⟩
   ·split
    ·exact⟨Nat.le_succ _,rfl⟩
    ·exact⟨CP _,rfl⟩
theorem OU {g:aG} {i:Nat} {s:ci} (h:∀ i,i<g.n->(g.σ i).own=lE g.es g.os i) (hs:s.own=(g.σ i).own):∀ U,U<g.n->(ed g.σ i s U).own=lE g.es g.os U:=λU hj=>by
 by_cases e:U=i
 ·subst e;rw[nO,hs];exact h U hj
 ·rw[pT e];exact h U hj
structure rG where
 er:Int
 uw:Option Addr
 fn:Nat
 gU:Nat
 fl:List ax
def Bz (a:rG):List Value:=[.int .i64 a.er,.slice a.uw a.fn a.gU]
def YP (qD:ee):List Value:=[.int .i64 qD.k,.int .i64 qD.c,.int .i64 qD.s,.int .i64 qD.t,.int .i64 qD.a,.int .i64 qD.h,.string qD.key,.string qD.val,qD.kv,qD.rv,qD.ov,qD.pv]
theorem YQ:∀ a,(Bz a).length=2:=λ_=>rfl
theorem qiT:∀ (l:List rG),∀ u∈l.flatMap Bz,u.oneCell'=true:=λl u hu=>by
 obtain⟨a,_,h⟩:=List.mem_flatMap.1 hu;simp only[Bz,KX,List.not_mem_nil,or_false]at h;rcases h with rfl|rfl <;>rfl
theorem qiU:(prog.info? 42).map (λi=>(i.zero,i.size,i.bytes))=some (some (.agg #[.int .i64 0,.slice none 0 0]),2,32):=av
theorem qiV {base e k:Nat} (h:w.ownsRow base e k v n xs) (hf:Fr P w w2) (hp:P e):w2.ownsRow base e k v n xs:=by
 refine⟨h.1,h.2.imp id ?_⟩;rintro⟨g,cap,cur,rfl,h1,h2,h3⟩;exact⟨g,cap,cur,rfl,h1,hf.block g cur e h2 hp,h3⟩
theorem Fr.olds {w3:World} (hf:Fr P w w2) (hb:ah S w2 w3) (hq:∀ y∈S,w.heap.size<=y):Fr P w w3:=
 ⟨hb.os.trans hf.os,hb.tape.trans hf.tape,hb.output.trans hf.output,qcg hf.size hb.size,λb cur e h1 h2=>hb.heap (hf.block b cur e h1 h2) (λhy=>by have:=(aQ h1);have:=hq b hy;omega)⟩
theorem YR {p:Nat} {a0 bj a2 a3 a4 a5 Bq Br Bt a9 YS YT:Value} (h:∀ U u,[a0,bj,a2,a3,a4,a5,Bq,Br,Bt,a9,YS,YT][U]? =some u->w.cell? ⟨b,p+U,none⟩=some u):
  w.cell? ⟨b,p,none⟩=some a0/\w.cell? ⟨b,p+1,none⟩=some bj/\w.cell? ⟨b,p+2,none⟩=some a2/\w.cell? ⟨b,p+3,none⟩=some a3/\w.cell? ⟨b,p+4,none⟩=some a4/\w.cell? ⟨b,p+5,none⟩=some a5/\w.cell? ⟨b,p+6,none⟩=some Bq/\w.cell? ⟨b,p+7,none⟩=some Br/\w.cell? ⟨b,p+8,none⟩=some Bt/\w.cell? ⟨b,p+9,none⟩=some a9/\w.cell? ⟨b,p+10,none⟩=some YS/\w.cell? ⟨b,p+11,none⟩=some YT:=
 ⟨h 0 _ rfl,h 1 _ rfl,h 2 _ rfl,h 3 _ rfl,h 4 _ rfl,h 5 _ rfl,h 6 _ rfl,h 7 _ rfl,h 8 _ rfl,h 9 _ rfl,h 10 _ rfl,h 11 _ rfl⟩
theorem qiW (gb:Nat) (A:Option Addr) (c:Nat) (ops:List ee) (w:World) (J:Nat->World->List rG->Prop) (YU:Rw w 36 12 YP (.slice A ops.length c) ops) (hl:ops.length<=1000) (eK:∀ qD∈ops,qD.kv= .slice none 0 0/\qD.rv= .slice none 0 0/\qD.ov= .slice none 0 0/\qD.pv= .slice none 0 0) (h0:J 0 w [])
  (hk:∀ U W W2 ys,J U W ys->ad W W2->J U W2 ys) (hb:∀ U W W2 ys S,J U W ys->ah S W W2->(∀ y∈S,∃ cur,W.heap[y]? =some (.cells cur 42 (0,0)))->J U W2 ys)
  (hs:∀ U qD W ys,ops[U]? =some qD->J U W ys->Calls prog 9 #[.pointer (some ⟨gb,0,none⟩),dx qD] W λe W'=>∃ a:rG,e= .returned (gm a.er (.slice a.uw a.fn a.gU))/\J (U+1) W' (ys++[a])/\bN W W'):
  Calls prog 20 #[.pointer (some ⟨gb,0,none⟩),.slice A ops.length c] w λe w'=>∃ v ys,e= .returned v/\J ops.length w' ys/\ys.length=ops.length/\Rw w' 42 2 Bz v ys/\bN w w':=by
 have YV:=aa YU;have HS:=aa hs;have Ap:=aa hk;have HBJ:=aa hb;have H0:=aa h0;have yk:=aa eK;obtain⟨m,hm⟩:=eqQ ops.length;have HM:=aa hm;rw[hm]at YV hl⊢;clear YU hs hk hb h0 hm eK;go_in;go_wp2_with fail
 go_loopw [5,10] (λov iv wr=>∃ (U:Nat) (ys:List rG),U<=m/\iv= .int .i64 U/\ag (J U wr ys)/\ag (ys.length=U)/\ag (wr.ownsRow w.heap.size 42 2 ov ys.length (ys.flatMap Bz))/\ag (bN w wr)) (λ_ iv _=>m-(intOf iv).toNat)
 case atStart=>exact⟨0,[],ab,rfl,H0,rfl,qcb _ _ _ _,.ar (ad.refl _)⟩
 case round=>
  obtain⟨U,ys,hj,rfl,kK,hL,hO,hG⟩:=hrel;obtain⟨YW,OV,cE⟩:=ca hO.o;rw[hL.o]at cE;subst cE;by_cases an:U<m
  ·obtain⟨qD,ho⟩:=exQ ops U (by rw[HM.o];exact an);have YX:=YV.o.fr hG.o ak;obtain⟨b,off,rfl,dZ,hc⟩:=YX.af ho;have hS:=aa (HS.o U qD (wr.alloc (.cells (il qD) 36)) ys ho (Ap.o _ _ _ _ kK.o ((ad.refl _).alloc _)));have YY:=yk.o qD (zV ho);obtain⟨ok,oc,os,ot,oa,oh,bT,dj,dq,dH,dI,dJ⟩:=qD;simp only at YY;obtain⟨rfl,rfl,rfl,rfl⟩:=YY;simp only[YP]at hc;obtain⟨x0,x1,x2,x3,x4,x5,x6,x7,x8,Be,Bf,Bg⟩:=YR hc;clear hc ho YX;go_wp2_with fail
   refine hS.o.mono ?_;rintro e w2 ⟨⟨er,uw,fn,gU,fl⟩,rfl,tP,yh⟩;have YZ:=aa tP;have vA:=aa yh;have dC:=aa (qiV (ad.own hO.o ((ad.refl _).alloc (.cells (il ⟨ok,oc,os,ot,oa,oh,bT,dj,.slice none 0 0,.slice none 0 0,.slice none 0 0,.slice none 0 0⟩) 36))) yh ak);have aW:=yh.size;have hzg:=hG.o.size;rw[World.size_alloc]at aW;clear tP yh;unfold gm;go_wp2_with (at_builtin;refine jh rfl _ _ 64 42 _ 2 32 Bz rfl underlying64 qiU rfl ak ak YQ qiT w.heap.size _ ys [⟨er,uw,fn,gU,fl⟩] rfl (ad.own dC.o ((ad.refl _).alloc _)) _ 0 1 1 rfl (Rw.one (yY _ _)) (by have:=hL.o;simp;omega) (by simp;omega) ?_;intro v6 w6 O6 cj jM;have eo:=aa O6;have qV:=aa cj;clear O6 cj jM)
   have e':ad w2 (w2.alloc (.cells #[.int .i64 er,.slice uw fn gU] 42)):=(ad.refl _).alloc _;have EK:∀ y∈(Value.slice YW U OV).ownBlock.toList,w.heap.size<=y:=λy hy=>(dC.o.lt y (Option.mem_toList.1 hy)).1
   have hJ6:ag (J (U+1) w6 (ys++[⟨er,uw,fn,gU,fl⟩])):=HBJ.o _ _ _ _ _ (Ap.o _ _ _ _ YZ.o e') qV.o λy hy=>by
    obtain⟨cur,fE⟩:=j5 dC.o (Option.mem_toList.1 hy);exact⟨cur,e'.heap fE⟩
   have dw:ag (bN w w6):=Fr.olds (((hG.o.trans (.ar ((ad.refl _).alloc _))).trans vA.o).trans (.ar e')) qV.o EK;have hL6:ag ((ys++[(⟨er,uw,fn,gU,fl⟩:rG)]).length=U+1):=by unfold ag;rw[zH,hL.o];rfl
   clear dC YZ vA qV;go_roundw
   case rel=>exact⟨U+1,_,ab,aA,hJ6,hL6,eo,dw⟩
   case measure=>exact dY
  ·obtain rfl:U=m:=ab;go_wp2_with fail
   go_ret;exact⟨_,ys,rfl,kK.o,hL.o,by rw[<- hL.o];exact Rw.bp (by rw[hL.o];rw[hL.o]at hO;exact hO.o) YQ ak,hG.o⟩
structure qd (ps:List Int):Prop where
 one:1<=ps.length
 root:pa ps 0= -1
 up:∀ i,1<=i->i<ps.length->0<=pa ps i/\pa ps i<i
theorem qd.two:qd [-1,0]:=⟨ao,rfl,λi h1 h2=>by
 obtain rfl:i=1:=by simp at h2;omega
 exact⟨ak,ak⟩⟩
theorem qd.snoc (h:qd ps) {x:Int} (h0:0<=x) (h1:x<ps.length):qd (ps++[x]):=by
 have hp:=h.one;refine⟨ao,?_,λi hi hl=> ?_⟩
 ·unfold pa;rw[qlZ ab];exact h.root
 ·rcases R6 i ps.length with g|g
  ·unfold pa;rw[qlZ g];exact h.up i hi g
  ·obtain rfl:i=ps.length:=by simp at hl;omega
   unfold pa;rw[List.getElem?_append_right ab];simp;omega
theorem qd.tree (h:qd ps) (h6:ps.length<=6):cH ps:=by
 have hp:=h.one
 have hm:Made ps ps.length 0 (λi=>(pa ps i).toNat):=by
  refine⟨rfl,ab,h6,λi h1 h2=> ?_,λi hi=> ?_⟩
  ·have:=h.up i ab h2;omega
  ·rw[Nat.add_zero,Nat.mod_eq_of_lt hi];by_cases h0:i=0
   ·subst h0;rw[if_pos rfl,h.root]
   ·have:=h.up i ab hi;rw[if_neg h0,Nat.add_zero,Nat.mod_eq_of_lt ab];omega
 exact hm.tree
structure iq (w wr:World) (X R Q fO:Nat) (qv:Array Value) (rv ov pv:Value) (rs:List Rg) (os ps:List Int):Prop where
 k:ad w wr
 x:wr.heap[X]? =some (.cells qv 67 (0,0))
 rb:wr.heap[R]? =some (.cells #[.slice none 0 0,.slice none 0 0,.slice none 0 0] 29 (0,0))
 qb:wr.heap[Q]? =some (.cells #[rv,ov,pv] 29 (0,0))
 ne:R≠Q
 q:w.heap.size<=Q
 E7:w.heap.size<=fO
 r:wr.ownsRow w.heap.size 63 2 rv rs.length (rs.flatMap bZ)
 qD:wr.ownsRow fO 3 1 ov os.length (os.flatMap cJ)
 p:wr.ownsRow w.heap.size 3 1 pv ps.length (ps.flatMap cJ)
section
variable {w wr w2:World} {X R Q fO:Nat} {qv:Array Value} {rv ov pv v6:Value} {rs OX:List Rg} {os aJ ps a':List Int}
theorem iq.go (h:iq w wr X R Q fO qv rv ov pv rs os ps) (hk:ad wr w2):iq w w2 X R Q fO qv rv ov pv rs os ps:=
 ⟨h.k.call hk,hk.heap h.x,hk.heap h.rb,hk.heap h.qb,h.ne,h.q,h.E7,ad.own h.r hk,ad.own h.qD hk,ad.own h.p hk⟩
theorem iq.OY (h:iq w wr X R Q fO qv rv (.slice none 0 0) pv rs [] ps) (hB:ah pv.ownBlock.toList wr w2) (ho:w2.ownsRow w.heap.size 3 1 v6 a'.length (a'.flatMap cJ)):
  iq w (w2.setCell ⟨Q,2,none⟩ v6) X R Q fO qv rv (.slice none 0 0) v6 rs [] a':=by
 have hs:=ah.set (w:=w2) Q 2 v6;have q6:=hB.heap h.qb (ec h.p h.qb ak);have x6:=hB.heap h.x (ec h.p h.x ak);have r6:=hB.heap h.rb (ec h.p h.rb ak)
 exact⟨(h.k.but hB λy hy=>(h.p.lt y (Option.mem_toList.1 hy)).1).but hs (by simpa using h.q),hs.heap x6 (by simpa using fB x6 q6 ak),hs.heap r6 (by simpa using h.ne),Ok w2 Q 2 _ _ v6 q6,h.ne,h.q,h.E7,
  cB (cB h.r hB (nJ h.r h.p ak)) hs (gL (cB h.r hB (nJ h.r h.p ak)) q6 ak),qcb _ _ _ _,cB ho hs (gL ho q6 ak)⟩
theorem iq.Y0 (h:iq w wr X R Q fO qv rv ov pv rs os ps) (hB:ah rv.ownBlock.toList wr w2) (ho:w2.ownsRow w.heap.size 63 2 v6 OX.length (OX.flatMap bZ)):
  iq w (w2.setCell ⟨Q,0,none⟩ v6) X R Q fO qv v6 ov pv OX os ps:=by
 have hs:=ah.set (w:=w2) Q 0 v6;have q6:=hB.heap h.qb (ec h.r h.qb ak);have x6:=hB.heap h.x (ec h.r h.x ak);have r6:=hB.heap h.rb (ec h.r h.rb ak);have Y1:=cB h.qD hB (nJ h.qD h.r ak);have p6:=cB h.p hB (nJ h.p h.r ak)
 exact⟨(h.k.but hB λy hy=>(h.r.lt y (Option.mem_toList.1 hy)).1).but hs (by simpa using h.q),hs.heap x6 (by simpa using fB x6 q6 ak),hs.heap r6 (by simpa using h.ne),Ok w2 Q 0 _ _ v6 q6,h.ne,h.q,h.E7,
  cB ho hs (gL ho q6 ak),cB Y1 hs (gL Y1 q6 ak),cB p6 hs (gL p6 q6 ak)⟩
theorem iq.Y2 (h:iq w wr X R Q fO qv rv ov pv rs os ps) (hp:∀ g,pv.ownBlock=some g->g<fO) (hB:ah ov.ownBlock.toList wr w2) (ho:w2.ownsRow fO 3 1 v6 aJ.length (aJ.flatMap cJ)):
  iq w (w2.setCell ⟨Q,1,none⟩ v6) X R Q fO qv rv v6 pv rs aJ ps:=by
 have hs:=ah.set (w:=w2) Q 1 v6;have q6:=hB.heap h.qb (ec h.qD h.qb ak);have x6:=hB.heap h.x (ec h.qD h.x ak);have r6:=hB.heap h.rb (ec h.qD h.rb ak);have Y3:=cB h.r hB (nJ h.r h.qD ak)
 have p6:=cB h.p hB λg hg hy=>by
  have h1:=hp g hg;have h2:=(h.qD.lt g (Option.mem_toList.1 hy)).1;omega
 exact⟨(h.k.but hB λy hy=>qcg h.E7 (h.qD.lt y (Option.mem_toList.1 hy)).1).but hs (by simpa using h.q),hs.heap x6 (by simpa using fB x6 q6 ak),hs.heap r6 (by simpa using h.ne),Ok w2 Q 1 _ _ v6 q6,h.ne,h.q,h.E7,
  cB Y3 hs (gL Y3 q6 ak),cB ho hs (gL ho q6 ak),cB p6 hs (gL p6 q6 ak)⟩
theorem iq.base (h:iq w wr X R Q fO qv rv (.slice none 0 0) pv rs [] ps):iq w wr X R Q wr.heap.size qv rv (.slice none 0 0) pv rs [] ps:=
 ⟨h.k,h.x,h.rb,h.qb,h.ne,h.q,h.k.size,h.r,qcb _ _ _ _,h.p⟩
end
theorem E8 (x k:Int) (hk:0<k):∃ r:Nat,(x.tmod k+k).tmod k=r/\(r:Int)<k:=by
 have hb:=ww x k hk;have h2:=Int.tmod_nonneg k (show 0<=x.tmod k+k by omega);have h3:=Int.tmod_lt_of_pos (x.tmod k+k) hk;exact⟨_,(Int.toNat_of_nonneg h2).symm,ab⟩
def yS (n:Nat) (w':World) (rv ov pv:Value) (es:List Nat) (os ps:List Int):Prop:=
 Rw w' 63 2 bZ rv (bw es)/\Rw w' 3 1 cJ ov os/\Rw w' 3 1 cJ pv ps/\eA es os ps ps.length/\2<=ps.length/\ps.length<=5/\(n≠0->ps.length=n)
theorem OZ {α:Type} (l:List α) (x:α):(l++[x]).length=l.length+1:=ao
end Go.Proofs.YtehaoggjlciobaaGreat

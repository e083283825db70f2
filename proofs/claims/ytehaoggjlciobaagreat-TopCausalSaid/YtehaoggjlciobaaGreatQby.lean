/- Part 40 of 40. -/
import Derived.Test.YtehaoggjlciobaaGreatQbx
import Derived.Test.YtehaoggjlciobaaGreatQbw
set_option linter.all false
set_option maxRecDepth 20000
set_option maxHeartbeats 16000000
namespace Go.Proofs.YtehaoggjlciobaaGreat
open Go.Maps Go.RowKit Go.Proofs.Tryz
variable {p:Prop} {w w2:World}
def j:Array Value:= #[.string ⟨#[]⟩,.string ⟨#[]⟩,.bool false,.int .i64 0,.int .i64 0,.slice none 0 0]
theorem zc_at {k U:Nat} {u:Value} (h:(Builtin.zeroCells j k)[U]? =some u):j[U%6]? =some u:=by
 obtain⟨hj,h⟩:=qch.1 h;simp only[Builtin.zeroCells,Array.getElem_map,Array.getElem_range]at h;rw[<- h];have:=Nat.mod_lt U (show 0<6 by omega);change j[U%6]? =some j[U%6]!
 generalize U%6=r at this
 match r,this with
 |0,_|1,_|2,_|3,_|4,_|5,_=>rfl
def By (n:Nat) (cur:Array Value):Prop:=∀ U u,n*6<=U->cur[U]? =some u->j[U%6]? =some u
def OwnZ (w:World) (base:Nat) (v:Value) (ws:List ax):Prop:=
 w.ownsRow base 48 6 v ws.length (ws.flatMap a8)/\∀ x cur,v.ownBlock=some x->w.heap[x]? =some (.cells cur 48 (0,0))->By ws.length cur
theorem OwnZ.fr {P:TypeId->Prop} {base:Nat} {v:Value} {ws:List ax} (h:OwnZ w base v ws) (hf:Fr P w w2) (hp:P 48):OwnZ w2 base v ws:=
 ⟨qiV h.1 hf hp,λx cur hx hc=>by
  obtain⟨jb,h2⟩:=j5 h.1 hx;rw[hf.block _ _ _ h2 hp]at hc;injection hc with hc;injection hc with hc;exact hc▸h.2 x jb hx h2⟩
def Slk (base:Nat) (w w2:World):Prop:=∃ S,ah S w w2/\∀ y∈S,base<=y/\∃ n cur jb,w.heap[y]? =some (.cells cur 48 (0,0))/\w2.heap[y]? =some (.cells jb 48 (0,0))/\(∀ U,U<n*6->jb[U]? =cur[U]?)/\By n cur
theorem Slk.refl (base:Nat) (w:World):Slk base w w:=⟨[],ah.refl _ _,λ_ h=>(by cases h)⟩
section
variable {base:Nat} {w w2:World} (s:Slk base w w2)
include s
theorem Slk.fr:Fr (λe=>e≠48) w w2:=by
 obtain⟨S,hb,hS⟩:=s;refine .gn hb λy hy cur e he hn=> ?_;obtain⟨_,n,cur1,_,g1,_⟩:=hS y hy;rw[he]at g1;injection g1 with g1;injection g1 with _ g1;exact hn g1
theorem Slk.kept {a:World} (h:ad a w) (hb:a.heap.size<=base):ad a w2:=by
 obtain⟨S,hk,hS⟩:=s;exact h.but hk λy hy=>qcg hb (hS y hy).1
theorem Slk.rw {v:Value} {l:List ax} (hl:∀ x∈l,Let x.key) (h:Rw w 48 6 a8 v l):Rw w2 48 6 a8 v l:=by
 obtain⟨S,hb,hS⟩:=s;obtain⟨A,c,rfl,h1,h2,h3,h4⟩:=h;refine⟨A,c,rfl,h1,h2,h3,λp hp=> ?_⟩;obtain⟨b,off,cur,rfl,hc,hx⟩:=h4 p hp;by_cases hbS:b∈S
 ·obtain⟨_,n,cur1,jb,g1,g2,g3,g4⟩:=hS b hbS;rw[hc]at g1;injection g1 with g1;injection g1 with g1;subst g1;refine⟨b,off,jb,rfl,g2,λi a ha U u hu=> ?_⟩;have hj:U<6:=(bg hu);by_cases an:off+i*6+5<n*6
  ·rw[g3 _ ab];exact hx i a ha U u hu
  ·exfalso
   have e5:=g4 _ _ ab (hx i a ha 5 _ rfl);have e0:=hx i a ha 0 _ rfl
   have hr:(off+i*6+5)%6=5:=by
    have:=Nat.mod_lt (off+i*6+5) (show 0<6 by omega);generalize (off+i*6+5)%6=r at this e5
    match r,this,e5 with
    |0,_,e|1,_,e|2,_,e|3,_,e|4,_,e=>simp[j]at e
    |5,_,_=>rfl
   have e1:=g4 _ _ ab e0;rw[show(off+i*6+0)%6=0 by omega]at e1;simp only[j,List.getElem?_toArray,List.getElem?_cons_zero,Option.some.injEq,Value.string.injEq]at e1;obtain⟨c,_,_,e⟩:=hl a (zV ha);rw[<- e1]at e;have:=congrArg ByteArray.size e;rw[JQ]at this;exact absurd this ak
 ·exact⟨b,off,cur,rfl,hb.heap hc hbS,hx⟩
theorem Slk.geo {B:Int} {gb:Nat} {g:aG} (h:aT w B gb g):aT w2 B gb g:=by
 obtain⟨V,h1,h2⟩:=h;have hf:=s.fr;have hR:=λ{v l}=>s.rw (v:=v) (l:=l);obtain⟨S,hb,hS⟩:=s;have mE:∀ {x},b7 w B x->b7 w2 B x:=λh=>⟨h.key,h.n,h.jB.fr hf ak,h.cg,h.gR,h.wc⟩;have d:=h2.a6
 refine⟨V,hf.block _ _ _ h1 ak,⟨⟨d.row.r.fr hf ak,d.row.qD.fr hf ak,d.row.p.fr hf ak⟩,d.fit,d.sites.fr hf ak,λc hc=>⟨(d.bY c hc).1.fr hf ak,(d.bY c hc).2⟩,λc hc=>⟨(d.oJ c hc).1.fr hf ak,(d.oJ c hc).2.1.fr hf ak,(d.oJ c hc).2.2⟩,
  ⟨⟨d.pins.1.1.fr hf ak,λx hx=>⟨(d.pins.1.2 x hx).1.fr hf ak,(d.pins.1.2 x hx).2⟩⟩,d.pins.2⟩,λe he=>⟨(d.rl e he).1.fr hf ak,(d.rl e he).2⟩⟩,λi hi=> ?_,h2.apart,h2.cm.oK hb λy hy _=> ?_,h2.bx,qiV h2.bJ hf ak,h2.cX,h2.old.but hb λy hy _=> ?_⟩
 ·obtain⟨⟨A,c,h3,h4⟩,⟨⟨v,h5,h6⟩,h7,C,h8,h9⟩,h10,h11,yC⟩:=h2.bi i hi;refine⟨⟨A,c,hf.block _ _ _ h3 ak,hR (λx hx=>(h10 x hx).1.key) h4⟩,⟨⟨v,hf.block _ _ _ h5 ak,h6.fr hf ak⟩,h7,C,h8.but hb λhy=> ?_,λk hk=> ?_⟩,λx hx=>⟨mE (h10 x hx).1,(h10 x hx).2⟩,h11,yC⟩
  ·obtain⟨D,⟨es,clock,g1,_⟩,_⟩:=h8;obtain⟨_,_,_,_,g2,_⟩:=hS _ hy;rw[g1]at g2;cases g2
  ·obtain⟨⟨r1,r2,r3⟩,yC⟩:=h9 k hk;exact⟨⟨hR (λx hx=>(r2 x hx).1.key) r1,λx hx=>⟨mE (r2 x hx).1,(r2 x hx).2⟩,r3⟩,yC⟩
 ·obtain⟨_,_,_,_,g2,_⟩:=hS _ hy;exact .inr ⟨_,_,g2,ak,ak⟩
 ·obtain⟨_,_,_,_,g2,_⟩:=hS _ hy;exact .inr ⟨_,_,g2,ak⟩
end
theorem app_z {ops:Array Oper} {rest:List Oper} {qD:Oper} {a:Act} {Q:Exit->Act->World->Prop} (qR:qD.guard=none) (s x:Operand) (ho:qD.op= .call {callee:= .builtin .append,args:= #[s,x],argTypes:= #[33,33]})
  (base:Nat) (v:Value) (ws:List ax) (hs:a.eval s=v) (bA:OwnZ w base v ws) (y:ax) (b off c:Nat) (hx:a.eval x= .slice (some ⟨b,off,none⟩) 1 c) (hy:Rw w 48 6 a8 (.slice (some ⟨b,off,none⟩) 1 c) [y]) (hl:ws.length<=1000) (qS:base<=w.heap.size)
  (h:∀ v' w',OwnZ w' base v' (ws++[y])->Slk base w w'->wpList prog ops Q rest (a.put qD.dst v') w'):wpList prog ops Q (qD::rest) a w:=by
 obtain⟨i0,hi,a7,aY,aW⟩:=ql0 ql;obtain⟨hm,hc⟩:=hy.flat gp ak;have hlen:(a8 y).length=1*i0.size:=by rw[aY];rfl
 have gV:∀ u∈a8 y,u.oneCell'=true:=λu hu=>uO [y] u (by simpa using hu);have cz:∀ U u,(a8 y)[U]? =some u->w.cell? ((⟨b,off,none⟩:Addr).add U)=some u:=λU u hu=>hc U u (by simpa using hu);refine wpList_plain qR λK hK=> ?_
 have key:∃ v' w',(Builtin.append_ #[33,33] qD.type #[v,.slice (some ⟨b,off,none⟩) 1 c]).run prog w= .ok v' w'/\OwnZ w' base v' (ws++[y])/\Slk base w w':=by
  obtain⟨v',w',hr,h2,h3,_,h5⟩:=run_append_own_at (P:=prog) w base 33 qD.type 48 i0 _ 6 80 underlying33 hi a7 aY aW rfl ak v ws.length _ bA.1 ⟨b,off,none⟩ 1 c (a8 y) rfl cz gV (by unfold maxLen;omega) ab qS;have jy:(ws.flatMap a8).length=ws.length*6:=bA.1.1;have Rm:w'.ownsRow base 48 6 v' (ws++[y]).length ((ws++[y]).flatMap a8):=by rw[zH,List.flatMap_append,List.flatMap_cons,List.flatMap_nil,List.append_nil];exact h2
  have fresh:∀ (A:Array Value) (k:Nat),A.size=(ws++[y]).length*6->By (ws++[y]).length (A++Builtin.zeroCells j k):=λA k hA U u hj hu=>by
   rw[Array.getElem?_append_right ab]at hu;have:=zc_at hu;rwa [show(U-A.size)%6=U%6 by omega]at this
  have made:∀ (A:Array Value) (k cap:Nat),A.size=(ws++[y]).length*6->v'= .slice (some ⟨w.heap.size,0,none⟩) (ws++[y]).length cap->w'=w.drew.alloc (.cells (A++Builtin.zeroCells j k) 48)->∃ v' w',(Builtin.append_ #[33,33] qD.type #[v,.slice (some ⟨b,off,none⟩) 1 c]).run prog w= .ok v' w'/\OwnZ w' base v' (ws++[y])/\Slk base w w':=λA k cap hA e1 e2=>by
   subst e1 e2;refine⟨_,_,hr,⟨Rm,λx cur hx hc=> ?_⟩,[],⟨rfl,rfl,rfl,ao,λk hk _=>heap_alloc_old w.drew _ hk⟩,λ_ h=>(by cases h)⟩;injection hx with hx;subst hx;have:=yY w.drew (.cells (A++Builtin.zeroCells j k) 48);rw[show w.drew.heap.size=w.heap.size from rfl,hc]at this;injection this with this;injection this with this;exact this▸fresh A k hA
  rcases bA.1.2 with ⟨rfl,hn⟩|⟨g,cap,cur,rfl,o7,dm,hg3,hg4,pW,jM⟩
  ·obtain rfl:=ql2 hn;have b3:=run_append_nil (P:=prog) w 33 qD.type 48 i0 _ underlying33 hi a7 ⟨b,off,none⟩ 1 c (a8 y) hlen cz ak ak ab;rw[hr]at b3;injection b3 with e1 e2;exact made _ _ _ rfl e1 e2
  ·by_cases fK:ws.length+1<=cap
   ·have b3:=run_append_room (P:=prog) w 33 qD.type 48 i0 underlying33 hi g ws.length cap cur dm ⟨b,off,none⟩ 1 c (a8 y) hlen cz gV fK (by rw[aY,gp];omega);rw[hr]at b3;injection b3 with e1 e2;rw[aY,gp]at e2;subst e1 e2;have om:=setRow_heap w g cur ((cur.toList.take (ws.length*6)++a8 y++cur.toList.drop (ws.length*6+6)).toArray) 48 _ dm;have hz:By ws.length cur:=bA.2 g cur rfl dm;have AR:(cur.toList.take (ws.length*6)).length=ws.length*6:=by rw[jM,jy]
    refine⟨_,_,hr,⟨Rm,λx jb hx hc=> ?_⟩,[g],⟨rfl,rfl,rfl,ao,λk _ hk=>setRow_other w g k _ (by simpa using hk)⟩,λq hq=> ?_⟩
    ·injection hx with hx;subst hx;rw[om]at hc;injection hc with hc;injection hc with hc;subst hc;intro U u hj hu;rw[zH]at hj;simp only[List.length_cons,List.length_nil]at hj;rw[List.getElem?_toArray,List.getElem?_append_right (by rw[zH,AR,gp];omega),zH,AR,gp,List.getElem?_drop,show ws.length*6+6+(U-(ws.length*6+6))=U by omega,Array.getElem?_toList]at hu;exact hz U u ab hu
    ·obtain rfl:=At.1 hq;refine⟨o7,ws.length,cur,_,dm,om,λU hj=> ?_,hz⟩;rw[List.getElem?_toArray,List.append_assoc,qlZ ab,List.getElem?_take,if_pos hj,Array.getElem?_toList]
   ·have b3:=run_append_grow (P:=prog) w 33 qD.type 48 i0 _ underlying33 hi a7 ⟨g,0,none⟩ ws.length cap (ws.flatMap a8) (by rw[jy,aY]) (bA.1.cells (g:=g) rfl) ⟨b,off,none⟩ 1 c (a8 y) hlen cz ab ab (growslice_fits ab (by rw[aW];omega));rw[hr]at b3;injection b3 with e1 e2;exact made _ _ _ (by simp[gp,eF gp];omega) (by rw[zH];exact e1) e2
 obtain⟨v',w',hr,h2,h3⟩:=key;unfold Oper.wp execOp;simp only[ho,resolve,invoke,builtin,Sem.run_bind,Sem.run_pure,Result.andThen_ok,List.map_toArray,List.map_cons,List.map_nil,hs,hx,hr];exact hK _ _ (h v' w' h2 h3)
def WrQ (b:Bool) (er:Int) (k:Nat):Prop:=b=true->er=0/\(k=1∨k=2)
def NoQ (b:Bool) (ws:List ax) (V:List my):Prop:=b=false->ws.map ax.ir=ws.map ax.ir++V
def ThrQ (p z:Nat) (v:Value):Prop:=∃ b:Bool,v= .bool b/\(p<z->b=true)
theorem ux.kept {n:Nat} {qD:ee} (h:ux n w qD) (hk:ad w w2):ux n w2 qD:=by
 obtain⟨k,c,s,t,keys,d1,d2,d3,d4,d5,d6,d7,d8,d9,d10,d11,d12,d13,d14,d15,d16⟩:=h;refine⟨k,c,s,t,keys,d1,d2,d3,d4,d5,d6,d7,d8,d9,d10,d11,d12.kept hk,d13,d14,λbb=> ?_,d16⟩;obtain⟨es,os,ps,h⟩:=d15 bb;exact⟨es,os,ps,h.fr (.ar hk)⟩
theorem nxtA9 (h:p:=by
  go_wp2_with fail
  go_roundw
  case rel=>(try(repeat apply R7);refine⟨?_,rfl⟩);exact⟨i+1,g',pk',yu,_,_,ab,ab,by rw[HMN.o];exact hwl2,rfl,rfl,HEV2,aA,lA,Z2,Xg,HOB,Fk,HKB,rX⟩
  case measure=>exact dY
  all_goals exact absurd lB bk):p:=h
theorem rndA9 (h:p:=by
  go_wp2_with fail
  go_quiet (fail)
  go_wp2_with fail
  go_roundw
  case rel=>(try(repeat apply R7);refine⟨?_,rfl⟩);exact⟨z+1,ab,aA,by first|exact hzp|exact⟨_,rfl,hzp _⟩,al⟩
  case measure=>exact dY):p:=h
theorem outA9 (h:p:=by
  go_wp2_with fail
  go_meet
  case rel=>exact⟨i,g,pk,ws,hi60,HG,HCA,HW.o.1,ep⟩):p:=h
theorem cutA9 (h:p:=by
  go_wp2_with fail
  go_meet
  case rel=>exact⟨_,rfl,by unfold WrQ;simp,by unfold NoQ;first|(simp;done)|simp[IU.o],rfl⟩):p:=h
theorem topCausal_walk (A:Option Addr) (m c:Nat) (x:Nat->Int) (B:Option Addr) (m2 c2:Nat) (y:Nat->Int) (C:Option Addr) (m3 c3:Nat) (z:Nat->Int) (L:Option Addr) (nl cl:Nat) (xs:Nat->yV) (w:World)
  (rx:la w A m c 1 (λi=>[.int .i64 (x i)])) (_rx:∀ i,i<m->(Lit.int .i64 (x i)).wf=true) (Zy:la w B m2 c2 1 (λi=>[.int .i64 (y i)])) (_ry:∀ i,i<m2->(Lit.int .i64 (y i)).wf=true) (Zz:la w C m3 c3 1 (λi=>[.int .i64 (z i)])) (_rz:∀ i,i<m3->(Lit.int .i64 (z i)).wf=true)
  (Jp:la w L nl cl 12 (λi=>wi (xs i))) (sU:∀ i,i<nl->wj w (xs i)):
  Calls prog 3 #[.agg #[.slice A m c,.slice B m2 c2,.slice C m3 c3],.slice L nl cl] w λe w'=>e= .returned (.bool true)/\ad w w':=by
 have HX:=aa (bo.Gx rx);have HY:=aa (bo.Gx Zy);have HZ:=aa (bo.Gx Zz);have HL:=aa Jp;have HA:=aa sU;have bl:nl<=cl/\cl<=9223372036854775807:=by have h1:=Jp.1;have h2:=Jp.2.1;unfold maxLen at h2;omega
 clear rx Zy Zz Jp sU _rx _ry _rz;go_in;go_wp2_with fail
 refine(qi5 _).mono ?_;rintro e w1 ⟨rfl,k1⟩;have cx:ag (ad w w1):=ad.call al k1;have zP:ag (w1.heap[w.heap.size]? =some (.cells #[.slice A m c,.slice B m2 c2,.slice C m3 c3] 24 (0,0))):=k1.heap (yY w _);have b0:=ap zP.o 0;have b1:=ap zP.o 1;have b2:=ap zP.o 2;clear k1;go_wp2_with fail
 refine(qjq ⟨A,m,c,x⟩ ⟨B,m2,c2,y⟩ ⟨C,m3,c3,z⟩ _ (bo.keep HX.o cx.o) (bo.keep HY.o cx.o) (bo.keep HZ.o cx.o)).mono ?_;rintro e w2 ⟨rv,ov,pv,es,os,ps,rfl,hd,k2⟩;have eb:ag (ad w w2):=cx.o.call k2;have HD:=aa hd;obtain⟨j',ka,iy,_,_⟩:=hd.1.form;obtain⟨mG,mH,b3,_,_⟩:=hd.2.1.form;obtain⟨kd,ke,gG,_,_⟩:=hd.2.2.1.form;obtain⟨n,hn⟩:=eqQ ps.length;have pL:=aa hn;generalize (bw es).length=kf at iy;obtain⟨eJ,jS⟩:=eqQ os.length;have oB:=aa jS;rw[jS]at b3;rw[hn]at gG;subst iy b3 gG;have cp:2<=n/\n<=5:=by have:=hd.2.2.2.2.1;have:=hd.2.2.2.2.2.1;omega
 clear hd k2 b0 b1 b2 hn jS;go_wp2_with fail
 have Jq:=aa (yY w2 (.cells #[.slice j' kf ka,.slice mG eJ mH,.slice kd n ke] 29));obtain⟨cb,DR⟩:=eqQ w2.heap.size;rw[DR]at Jq⊢;obtain⟨W0,gh⟩:=eqQ (w2.alloc (.cells #[.slice j' kf ka,.slice mG eJ mH,.slice kd n ke] 29));have mq:ag (ad w W0):=gh▸eb.o.alloc _;have uA:ag (yS 0 W0 (.slice j' kf ka) (.slice mG eJ mH) (.slice kd n ke) es os ps):=HD.o.fr (gh▸(Fr.ar ((ad.refl w2).alloc _)));rw[gh]at Jq⊢;clear gh HD cx eb zP DR;refine(YH _ _ _ es os ps W0 ⟨uA.o.1,uA.o.2.1,uA.o.2.2.1⟩ uA.o.2.2.2.1).mono ?_;rintro e w3 ⟨gb,g0,rfl,hg,Jr,k3⟩;have Ps:=aa hg;have yX:ag (OwnA g0):=OwnA.new Jr;have HCA:ag (Cau 0 g0 [] λ_ _=>[]):=Cau.new Jr;have hh0:g0.bJ.length=0:=by rw[Jr.2.2.2.2.2.2.2.1];rfl
 have HH0:=aa hh0;have Pt:ag (g0.w0=W0/\g0.n=n):=⟨Jr.2.2.2.2.2.2.2.2.2,by unfold aG.n;rw[Jr.2.2.1,pL.o]⟩;have eI:=aa k3;have px:=aa (k3.heap Jq.o);have b2:=ap px.o 2;clear hg Jr k3 hh0;go_upto_block 0 with fail
 clear b2;go_cut [10] (λiv wx=>∃ (i:Nat) (g:aG) (pk:Nat->Nat->List my) (ws:List ax),i<=60/\ag (aT wx (2*(i:Int)) gb g)/\ag (Cau (2*(i:Int)) g (ws.map ax.ir) pk)/\ag (g.w0=W0)/\ag (ad W0 wx))
 case first=>
  go_wp2_with fail
  go_loopw [8,9,10] (λwv ev iv wr=>∃ (i:Nat) (g:aG) (pk:Nat->Nat->List my) (ws:List ax) (qln:Value) (ev2:Value),i<=60/\i<=nl/\ws.length<=i/\wv=qln/\ev=ev2/\ag (ev2= .int .i64 g.bJ.length)/\iv= .int .i64 i/\ag (aT wr (2*(i:Int)) gb g)/\ag (OwnA g)/\ag (Cau (2*(i:Int)) g (ws.map ax.ir) pk)/\ag (OwnZ wr w3.heap.size qln ws)/\ag (g.w0=W0/\g.n=n)/\ag (ad W0 wr)/\w3.heap.size<=wr.heap.size) (λ_ _ iv _=>nl-(intOf iv).toNat)
  case atStart=>exact⟨0,g0,_,[],_,_,ab,ab,ak,rfl,rfl,by unfold ag;rw[HH0.o];rfl,rfl,Ps,yX,HCA,⟨qcb _ _ _ _,λ_ _ h=>(by cases h)⟩,Pt,eI,CP _⟩
  case round=>
   clear Ps yX Pt px HCA HH0;obtain⟨i,g,pk,ws,qln,ev2,hi60,c7,Mg,rfl,rfl,HEV,rfl,HG,yX,HCA,e7,HW,ep,mS⟩:=hrel;have ZA:ag (ad w wr):=mq.o.call ep.o;by_cases an:i<nl/\i<60
   ·have e1:decide ((i:Int)<nl)=true:=by simp;omega
    have e2:decide ((i:Int)<60)=true:=by simp;omega
    obtain⟨b,off,rfl,dZ,hc⟩:=qjj HL.o an.1;have ZB:=aa (wj.kept (HA.o i an.1) ZA.o);obtain⟨a,ha⟩:=eqQ (xs i);rw[ha]at hc ZB;clear ha;obtain⟨x0,x1,x2,x3,x4,x5,x6,x7,x8,Be,Bf,Bg⟩:=YR (λU u hu=>ZA.o.af (hc U u hu));have y2:wr.cell? ⟨cb,2,none⟩=some (.slice kd n ke):=ep.o.af (aE Jq.o 2);clear hc;go_wp2_with fail
    refine ey [none,none,none,none,none,none,none,some (λu w'=>∃ qD,u=dx qD/\ux n w' qD),some (λu w'=>∃ q,u= .pointer (some ⟨q,0,none⟩)/\wr.heap.size<=q/\w'.heap[q]? =some (.cells rJ 36 (0,0)))] (λwB=>ad wr wB/\wB.cell? ⟨b,off+i*12,none⟩=some (.int .i64 a.k)/\wB.cell? ⟨b,off+i*12+1,none⟩=some (.int .i64 a.c)/\wB.cell? ⟨b,off+i*12+2,none⟩=some (.int .i64 a.s)/\wB.cell? ⟨b,off+i*12+3,none⟩=some (.int .i64 a.t)/\wB.cell? ⟨b,off+i*12+4,none⟩=some (.int .i64 a.a)/\wB.cell? ⟨b,off+i*12+5,none⟩=some (.int .i64 a.h)/\wB.cell? ⟨b,off+i*12+6,none⟩=some (.int .i64 a.y)/\wB.cell? ⟨b,off+i*12+7,none⟩=some (.int .i64 a.u)/\wB.cell? ⟨b,off+i*12+8,none⟩=some (a.ks.v)/\wB.cell? ⟨b,off+i*12+9,none⟩=some (a.r0.v)/\wB.cell? ⟨b,off+i*12+10,none⟩=some (a.r1.v)/\wB.cell? ⟨b,off+i*12+11,none⟩=some (a.r2.v)/\wB.cell? ⟨cb,2,none⟩=some (.slice kd n ke)) λwB SS=> ?_;iterate 7 refine SP.on ?_
    refine SP.ew ?_ λv1=> ?_
    ·intro wd hI hF;obtain⟨ae,ai,aj,aq,az,aK,a1,cw,d',jf,td10,td11,td12,td13⟩:=SS.o wd hI;clear hF;go_wp2_with ((go_at_call 8;refine(qjr a n _ (ZB.o.kept ae) cp).mono ?_;rintro r w4 ⟨qD,rfl,h5,k5⟩));exact bn rfl ⟨qD,rfl,h5⟩
    refine SP.ew ?_ λv2=> ?_
    ·intro wd hI hF;obtain⟨ae,ai,aj,aq,az,aK,a1,cw,d',jf,td10,td11,td12,td13⟩:=SS.o wd hI;clear hF;go_wp2_with (fail);exact bn rfl ⟨_,rfl,ae.size,yY _ _⟩
    refine SP.ml SS ?_;rintro wd hI hF ⟨ae,ai,aj,aq,az,aK,a1,cw,d',jf,td10,td11,td12,td13⟩;have h1:=hF.2.1;have h2:=hF.1;clear hF SS;obtain⟨w4,⟨qD,rfl,hod0⟩,k4d⟩:=h1;obtain⟨w9,⟨ob,rfl,hq,Fg⟩,k9⟩:=h2;unfold rJ at Fg;have eD:=aa (k9.heap Fg);have ZC:=hod0.kept k4d;have HODa:=aa ZC;obtain⟨pq,c0,s0,t0,qjO,p1,_,_,p4,_,p6,_,BE,_,_,_,d12,_,_,_,⟨ZE,ZF,NP,h2⟩,⟨ZG,ZH,ZI,h3⟩,⟨ZJ,ZK,ZL,h4⟩⟩:=ZC;obtain⟨ZM,ZN,h1,_,_⟩:=d12.form;generalize qjO.length=ZO at h1;obtain⟨ok,oc,os9,ot,ZP,oh,BF,BG,ov1,ov2,ov3,ov4⟩:=qD;simp only at h1 h2 h3 h4 p1 p4 p6 BE;subst h1 h2 h3 h4 p1 p4 p6 BE;unfold dx il;simp only;obtain⟨⟨q0,q1,q2,q3,q4,q5,q6,q7,q8,q9,nH,BD⟩,f0,f1,f2,f3,f4,f5,f6,f7,f8,f9,f10,f11⟩:=c12 eD.o;clear hod0 k4d k9 Fg ai aj aq az aK a1 cw d' jf td10 td11 td12 td13 x0 x1 x2 x3 x4 x5 x6 x7 x8 Be Bf Bg y2;go_wp2_with fail
    clear q0 f0 q1 f1 q2 f2 q3 f3 q4 f4 q5 f5 q6 f6 q7 f7 q8 f8 q9 f9 nH f10 BD f11;refine Calls.mono (qjL (2*(i:Int)) (λa b U c=>(pk a b)[U]? =some c) gb g ⟨pq,c0,s0,t0,ZP,oh,BF,BG,.slice ZM ZO ZN,.slice ZE ZF NP,.slice ZG ZH ZI,.slice ZJ ZK ZL⟩ n _ (HG.o.kept (ae.but ah.rH (by simpa using hq))) (λa b hf=>(HCA.o.pkt a b hf).2) ab ab (by rw[HW.o.1];exact ep.o.call (ae.but ah.rH (by simpa using hq))) (HODa.o.fr ah.rH eD.o) HW.o.2 cp.1) ?_;rintro e w6 ⟨er,fv,fl,g',rfl,qu,dw,ZZ,AR,hgf0,xy,k,c,s,t,aH,aJ,a',d1,d2,d3,d4,d5,d6,d7,d8,hK⟩;obtain⟨W4,dS,hB4,oy⟩:∃ W,bN W w6/\ah [ob] wd W/\W.heap[ob]? =some (.cells #[.int .i64 pq,.int .i64 c0,.int .i64 s0,.int .i64 t0,.int .i64 ZP,.int .i64 oh,.string BF,.string BG,.slice ZM ZO ZN,.slice ZE ZF NP,.slice ZG ZH ZI,.slice ZJ ZK ZL] 36 (0,0)):=⟨_,hgf0,ah.rH,rH eD.o⟩;have Bw:=ae.but hB4 (by simpa using hq);obtain⟨FA,gU,hfv,_,_⟩:=qu.form;subst hfv;simp only at d1 d5 d6 d7;obtain⟨rfl,rfl,rfl,rfl⟩:k=pq/\s=s0/\t=t0/\c=c0:=ab;have Z2:ag (OwnA g'):=yX.o.step d2 d3 hK;have HP:=aa (Pln.of (HG.o.kept Bw) yX.o);have DJ:=aa (Pln.of dw Z2.o);obtain⟨V,pk',Z',mE,Q3,Cq,jy⟩:=Cau.step HP.o DJ.o HCA.o d2 d3 d4 d8 hK;have HV:=aa mE;have sq:=aa Z';have yf:=aa Q3;have jX:=aa λ(he:er≠0) (h:k=1∨k=2)=>sT.none_ hK he h;have cM:=aa (And.intro Cq jy);have Z9:=aa λ(he:er=0) (h:k=1∨k=2)=>sT.some_ hK he h;have Fk:ag (g'.w0=W0/\g'.n=n):=⟨ZZ.trans HW.o.1,AR.trans HW.o.2⟩;have aR:ag (ad W0 w6):=by have:=xy;rw[HW.o.1]at this;exact this
    have E2:=aa qu;have eS:=aa dw;have qiQ:=aa ((e7.o.fr (P:=λ_=>True) (.ar Bw) trivial).fr dS ak);have Z4:=aa (dS.block _ _ _ oy ak);have nj:w3.heap.size<=w6.heap.size:=qcg (qcg mS Bw.size) dS.size;clear hK qu dw dS hgf0 hB4 oy xy ZZ AR d1 d5 d6 d7 d8 d12 yX HW mE Z' Q3 Cq jy HP DJ HCA Bw ae hI hq eD HODa HG ep e7;unfold gm;go_upto_region 13 with fail
    have BI:=aa (yY w6 (.cells #[.int .i64 er,.slice FA fl.length gU] 42));have wu:ad w6 (w6.alloc (.cells #[.int .i64 er,.slice FA fl.length gU] 42)):=(ad.refl _).alloc _;obtain⟨AE,ib⟩:=eqQ w6.heap.size;obtain⟨W7,lp⟩:=eqQ (w6.alloc (.cells #[.int .i64 er,.slice FA fl.length gU] 42));rw[ib]at BI;rw[lp]at BI wu;have vQ:=aa (eS.o.kept wu);have fC:=aa (aR.o.call wu);have Py:=aa (E2.o.kept wu);have Js:=aa (wu.heap Z4.o);have HOW7:=aa (qiQ.o.fr (P:=λ_=>True) (.ar wu) trivial);have hz7:=qcg nj wu.size;rw[lp,ib];clear lp ib wu eS aR E2 Z4 qiQ nj;obtain⟨fn,Pz⟩:=eqQ fl.length;have Z7:=aa Pz;have hfb:fn<=9223372036854775807:=by obtain⟨_,_,h9,h8,h7⟩:=Py.o.form;injection h9 with _ h6 _;omega
    rw[Pz]at BI Py;clear Pz;have q0:=ap Js.o 0;have a0:=ap BI.o 0;have bj:=ap BI.o 1;go_cut [59] (λc wx=>∃ b:Bool,c= .bool b/\WrQ b er k/\NoQ b ws V/\wx=W7)
    case first=>
     have G0:ag (¬(er=0/\(k=1∨k=2))->V=[]):=λh=>by
      rw[HV.o];split
      ·rename_i h2;rw[jX.o (λe=>h ⟨e,h2⟩) h2];rfl
      ·rfl
     by_cases he:er=0
     ·subst he;by_cases h1:k=1
      ·subst h1;exact cutA9
      by_cases h2:k=2
      ·subst h2;exact cutA9
      have IU:=aa (G0.o ab);have g1:((k:Int)==1)=false:=by simp;omega
      have g2:((k:Int)==2)=false:=by simp;omega
      clear h1 h2;exact cutA9
     ·have IU:=aa (G0.o ab);have g1:(er==0)=false:=by simp[he]
      clear he;exact cutA9
    case rest=>
    obtain⟨jA,rfl,tw,iZ,rfl⟩:=hcut;go_upto_if 59 with fail
    go_cut [8] (λsv wx=>∃ (yu:List ax) (v2:Value),sv=v2/\yu.length<=i+1/\ag (yu.map ax.ir=ws.map ax.ir++V)/\ag (OwnZ wx w3.heap.size v2 yu)/\ag (Slk w3.heap.size wc wx))
    case first=>
     cases jA
     ·have Mx:=aa (iZ rfl);go_wp2_with fail
      go_meet
      case rel=>exact⟨ws,_,rfl,ab,Mx,HOW7,Slk.refl _ _⟩
     ·obtain⟨he,yC⟩:=tw rfl;obtain⟨v,hv⟩:=Z9.o he yC;subst hv;obtain⟨zJ,ic,rfl,_,_⟩:=Py.o.af (i:=0) rfl;have Mx:ag ((ws++[v]).map ax.ir=ws.map ax.ir++V):=by unfold ag;rw[HV.o,if_pos yC,List.map_append]
      obtain rfl:fn=1:=Z7.o.symm;have fL:(ws++[v]).length<=i+1:=by rw[zH];simp;omega
      clear he yC;go_wp2_with (at_builtin;go_must (refine app_z rfl _ _ rfl w3.heap.size _ ws rfl (HOW7.o.fr (P:=λ_=>True) (.ar al) trivial) v zJ ic gU rfl (Py.o.kept al) ab (by first|omega|(simp;omega)) ?_;intro IM w8 we hB8;have HO8:=aa we;have v8:=aa hB8;clear we hB8))
      go_meet
      case rel=>exact⟨_,IM,rfl,fL,Mx,HO8,v8⟩
    case rest=>
     obtain⟨yu,v2,rfl,hwl2,HWE,HO8,v8⟩:=hcut;obtain⟨W8,rfl⟩:=eqR wc;obtain⟨YW,OV,hvf⟩:=ca HO8.o.1;obtain⟨m,hm⟩:=eqQ yu.length;have HMN:=aa hm;rw[hm]at hvf hwl2;subst hvf;have cN:ag (Rw W8 48 6 a8 (.slice YW m OV) yu):=Rw.bp HO8.o.1 gp ak;have HAB8:=aa (v8.o.fr.block _ _ _ BI.o ak);have HFL8:=aa (v8.o.rw (λx hx=>(sq.o.jH x.ir (yf.o x hx)).1) Py.o);have rE:=aa (v8.o.geo vQ.o);have e':=aa (v8.o.kept fC.o eI.o.size);have hz8:=qcg hz7 v8.o.fr.size;have HFW:=aa λ(x:ax) (hx:x∈fl)=>wr_step HWE.o yf.o hx;clear hm q0 a0 bj HV yf jX Z9 vQ fC Py BI Js HOW7 hz7 v8;go_wp2_with fail
     go_loopw [13] (λkv wr=>∃ U:Nat,U<=fn/\kv= .int .i64 U/\ag (ad W8 wr)) (λkv _=>fn-(intOf kv).toNat)
     case atStart=>exact⟨0,ab,rfl,ad.refl _⟩
     case round=>
      obtain⟨U,hj,rfl,ep⟩:=hrel;obtain⟨W9,rfl⟩:=eqR wr;have bj:=ap (ep.o.heap HAB8.o) 1;by_cases DV:U<fn
      ·obtain⟨x,hx⟩:=exQ fl U (by rw[Z7.o];exact DV);obtain⟨ck,off3,rfl,dO,hc3⟩:=(HFL8.o.kept ep.o).af hx;obtain⟨p,y,hp,hy⟩:=HFW.o x (zV hx);obtain⟨x0,x1,x2,x3,x4,x5,x6,x7,x8⟩:=x;obtain⟨c0,c1,c2,c3,c4,c5⟩:=o5 hc3;simp only at hy;have HP:=aa hp;have HY:=aa hy;have iN:p<m:=by have:=(bg hp);rw[HMN.o]at this;exact this
       clear hx hc3 hp hy;go_wp2_with fail
       obtain⟨vb,kT⟩:=eqQ W9.heap.size;have Ir:=aa (yY W9 (.cells #[.string x0,.string x1,.bool x2,.int .i64 x3,.int .i64 x4,.slice x5 x6 x7] 48));obtain⟨Jc,Ym⟩:=eqQ (W9.alloc (.cells #[.string x0,.string x1,.bool x2,.int .i64 x3,.int .i64 x4,.slice x5 x6 x7] 48));have HKA:ag (ad W8 Jc):=Ym▸ep.o.alloc _;rw[Ym,kT]at Ir⊢;clear Ym kT c0 c1 c2 c3 c4 c5 bj;go_loopw [15,16] (λnT jv wr=>∃ z:Nat,z<=m/\jv= .int .i64 z/\ThrQ p z nT/\ad Jc wr) (λ_ jv _=>m-(intOf jv).toNat)
       case atStart=>exact⟨0,ab,rfl,⟨false,rfl,λh=>absurd h ab⟩,ad.refl _⟩
       case round=>
        obtain⟨z,Sj,rfl,⟨iC,rfl,HT⟩,kr⟩:=hrel;by_cases hlz:z<m
        ·obtain⟨u,hu⟩:=exQ yu z (by rw[HMN.o];exact hlz);obtain⟨iV,off4,rfl,ga,bO⟩:=(cN.o.kept (HKA.o.call kr)).af hu
         have HU:ag (p=z->u.key=x0/\u.n=x3/\u.s=x4/\u.val=x1/\u.gone=x2):=λe=>by
          have:=HP.o;rw[e,hu]at this;injection this with this;subst this;exact HY.o
         obtain⟨u0,u1,u2,u3,u4,u5,u6,u7,u8⟩:=u;obtain⟨d0,d1,d2,d3,d4,d5⟩:=o5 bO;simp only at HU;have hvh:=kr.heap Ir.o;have v0:=ap hvh 0;have v1:=ap hvh 1;have v2:=ap hvh 2;have v3:=ap hvh 3;have v4:=ap hvh 4;clear hu bO d5 hvh
         cases iC
         rotate_left
         ·have hzp:ThrQ p (z+1) (.bool true):=⟨_,rfl,λ_=>rfl⟩;exact rndA9
         have mj:¬p<z:=λh=>by cases HT h
         by_cases e:p=z
         ·obtain⟨rfl,rfl,rfl,rfl,rfl⟩:=HU.o e;have hzp:ThrQ p (z+1) (.bool true):=⟨_,rfl,λ_=>rfl⟩;have g0:(u0.toList==u0.toList)=true:=ao;have g1:(u1.toList==u1.toList)=true:=ao;have g2:(u2==u2)=true:=ao;clear e;exact rndA9
         have hzp:∀ b:Bool,p<z+1->b=true:=λb h=>absurd h ab;clear e mj;by_cases p0:u0.toList=x0.toList
         rotate_left
         ·have g0:(u0.toList==x0.toList)=false:=by simp[p0]
          exact rndA9
         have g0:(u0.toList==x0.toList)=true:=by simp[p0]
         by_cases p3:u3=x3
         rotate_left
         ·exact rndA9
         by_cases p4:u4=x4
         rotate_left
         ·exact rndA9
         subst p3 p4;by_cases p1:u1.toList=x1.toList
         rotate_left
         ·have g1:(u1.toList==x1.toList)=false:=by simp[p1]
          exact rndA9
         have g1:(u1.toList==x1.toList)=true:=by simp[p1]
         by_cases p2:u2=x2
         rotate_left
         ·have g2:(u2==x2)=false:=by simp[p2]
          exact rndA9
         have g2:(u2==x2)=true:=by simp[p2]
         exact rndA9
        ·obtain rfl:z=m:=ab;obtain rfl:iC=true:=HT iN;have Fl:=aa (HKA.o.call kr);go_wp2_with fail
         go_roundw
         case rel=>(try(repeat apply R7);refine⟨?_,rfl⟩);exact⟨U+1,ab,aA,Fl⟩
         case measure=>exact dY
      ·obtain rfl:U=fn:=ab;have PE:2*(((i+1:Nat)):Int)=2*(i:Int)+2:=ab;have vT:ag (aT W9 (2*(((i+1:Nat)):Int)) gb g'):=by rw[PE];exact rE.o.kept ep.o
       have Xg:ag (Cau (2*(((i+1:Nat)):Int)) g' (yu.map ax.ir) pk'):=by rw[PE,HWE.o];exact sq.o
       have Fl:=aa (e'.o.call ep.o);go_wp2_with fail
       clear bj;refine(g_history _ gb g' _ vT.o ab).mono ?_;rintro e yz ⟨hv,rfl,h10,PH⟩;obtain⟨vU,bQ,hvf,qjX,qlV⟩:=h10.form;obtain⟨hn2',PL⟩:=eqQ g'.bJ.length;obtain⟨j4,hhn1⟩:=eqQ g.bJ.length;have hl:=cM.o;rw[PL,hhn1]at hl;have HHL:=aa hl;rw[PL]at hvf qjX;subst hvf;have hev:=HEV.o;rw[hhn1]at hev;subst hev;have a0:=ap ((ep.o.call PH).heap HAB8.o) 0;have HEV2:ag ((Value.int .i64 (hn2':Int))= .int .i64 g'.bJ.length):=by unfold ag;rw[PL]
       have lA:=aa (vT.o.kept PH);have HKB:=aa (Fl.o.call PH);have HOB:=aa (HO8.o.fr (P:=λ_=>True) (.ar (ep.o.call PH)) trivial);have rX:w3.heap.size<=yz.heap.size:=qcg hz8 (ep.o.call PH).size;have lB:=hl.1;have e3:decide ((hn2':Int)<(j4:Int))=false:=by simp;omega
       clear hl h10 PH PL hhn1 HEV cM;by_cases he:er=0
       ·have e4:(er !=0)=false:=by simp[he]
        exact nxtA9
       ·have e4:(er !=0)=true:=by simp[he]
        have e5:((hn2':Int)!=(j4:Int))=false:=by rw[HHL.o.2 he];simp
        exact nxtA9
   ·rcases(by omega:nl<=i∨(i<nl/\60<=i))with g1|g1
    ·have e1:decide ((i:Int)<nl)=false:=by simp;omega
     exact outA9
    ·have e1:decide ((i:Int)<nl)=true:=by simp;omega
     have e2:decide ((i:Int)<60)=false:=by simp;omega
     exact outA9
 case rest=>
  obtain⟨i,g,pk,ws,hi60,HG,HCA,HW,ep⟩:=hcut;clear Ps yX Pt eI px HL HA HX HY HZ HH0 Jq;go_wp2_with fail
  refine(g_history _ gb g _ HG.o ab).mono ?_;rintro e w4 ⟨hv,rfl,h4,k4⟩;have HE:=aa (ev_at HG.o HCA.o h4 k4);have Fl:=aa (mq.o.call (ep.o.call k4));have Db:ag (g.bJ.length<=10000):=by have:=HG.o.hlen;unfold ag;omega
  clear h4 k4;go_wp2_with fail
  refine(rhcheck _ g.bJ _ (HE.o.kept al) HCA.o.Sk.right).mono ?_;rintro e w5 ⟨rfl,k5⟩;have K5:ad w4 w5:=ad.call al k5;go_wp2_with fail
  refine(rfine _ g.bJ _ (HE.o.kept (K5.call al)) Db.o HCA.o.fine).mono ?_;rintro e w6 ⟨rfl,k6⟩;have K6:ad w4 w6:=K5.call (ad.call al k6);go_wp2_with fail
  go_ret;exact⟨rfl,Fl.o.call K6⟩
end Go.Proofs.YtehaoggjlciobaaGreat

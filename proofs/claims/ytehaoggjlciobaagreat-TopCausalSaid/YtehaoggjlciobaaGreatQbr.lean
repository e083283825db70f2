/- Part 34 of 40. -/
import Derived.Test.YtehaoggjlciobaaGreatQbq
set_option linter.all false
set_option maxRecDepth 20000
set_option maxHeartbeats 16000000
namespace Go.Proofs.YtehaoggjlciobaaGreat
open Go.ChangeShapes Go.Deep Go.Joins Go.RowKit Go.WideShapes Go.Maps Go.Proofs.Tryz
variable {fF:Array Value} {held:Bool} {keys:List ByteArray} {Q R X i n q:Nat} {spare:Nat->Bool} {t:TypeId} {qf rI y0 y1 y10 y11 y2 y3 y4 y5 y6 y7 y8 y9 z0 z1 z2 z3 z4 z5 z6 z7 z8 z9:Value} {w w2 wr:World}
structure Sl where
 A:Option Addr
 n:Nat
 c:Nat
 x:Nat->Int
def Sl.v (s:Sl):Value:= .slice s.A s.n s.c
def Sl.l (s:Sl):List Int:=(List.range s.n).map s.x
def Sl.ok (w:World) (s:Sl):Prop:=bo w s.A s.n s.c s.l
structure yV where
 k:Int
 c:Int
 s:Int
 t:Int
 a:Int
 h:Int
 y:Int
 u:Int
 ks:Sl
 r0:Sl
 r1:Sl
 r2:Sl
def wi (a:yV):List Value:=[.int .i64 a.k,.int .i64 a.c,.int .i64 a.s,.int .i64 a.t,.int .i64 a.a,.int .i64 a.h,.int .i64 a.y,.int .i64 a.u,a.ks.v,a.r0.v,a.r1.v,a.r2.v]
def wj (w:World) (a:yV):Prop:=a.ks.ok w/\a.r0.ok w/\a.r1.ok w/\a.r2.ok w
theorem wj.kept {a:yV} (h:wj w a) (hk:ad w w2):wj w2 a:=⟨bo.keep h.1 hk,bo.keep h.2.1 hk,bo.keep h.2.2.1 hk,bo.keep h.2.2.2 hk⟩
theorem Zj:prog.cellsOf 3=1:=av
theorem Zk:prog.cellsOf 22=1:=av
theorem qjd:prog.cellsOf 24=3:=av
theorem Jm {H:Type} {enc:TypeId×Value->H} {m:Nat} {c:Value} {y:DataW H×List MemPlace}
  (h:DataW.trod enc prog w 0 spare held m 22 [c]=some y):∃ s:Sl,c=s.v/\s.ok w:=by
 obtain⟨A,n,ni,x,h1,h2,_⟩:=Gv underlying22 underlying3 Zj h;simp only[List.cons.injEq,and_true]at h1;exact⟨⟨A,n,ni,x⟩,h1,.Gx h2⟩
theorem qje {H:Type} {enc:TypeId×Value->H} {P:Program} {base:Nat} {f0 f1 f2 f3 f4 f5 f6 f7 f8 f9:Field} {et:Nat} {cs:List Value} {x:DataW H×List MemPlace} (ht:P.underlying t=some (.struct #[f0,f1,f2,f3,f4,f5,f6,f7,f8,f9])) (h:DataW.trod enc P w base spare held et t cs=some x):
  ∃ y0 y1 y2 y3 y4 y5 y6 y7 y8 y9 n,DataW.trod enc P w base spare held n f0.type ((cs.drop f0.offset).take (P.cellsOf f0.type))=some y0/\
   DataW.trod enc P w base spare held n f1.type ((cs.drop f1.offset).take (P.cellsOf f1.type))=some y1/\DataW.trod enc P w base spare held n f2.type ((cs.drop f2.offset).take (P.cellsOf f2.type))=some y2/\
   DataW.trod enc P w base spare held n f3.type ((cs.drop f3.offset).take (P.cellsOf f3.type))=some y3/\DataW.trod enc P w base spare held n f4.type ((cs.drop f4.offset).take (P.cellsOf f4.type))=some y4/\DataW.trod enc P w base spare held n f5.type ((cs.drop f5.offset).take (P.cellsOf f5.type))=some y5/\
   DataW.trod enc P w base spare held n f6.type ((cs.drop f6.offset).take (P.cellsOf f6.type))=some y6/\DataW.trod enc P w base spare held n f7.type ((cs.drop f7.offset).take (P.cellsOf f7.type))=some y7/\DataW.trod enc P w base spare held n f8.type ((cs.drop f8.offset).take (P.cellsOf f8.type))=some y8/\
   DataW.trod enc P w base spare held n f9.type ((cs.drop f9.offset).take (P.cellsOf f9.type))=some y9:=by
 obtain⟨xs,n,_,rfl,hl,hlen,hf⟩:=DataW.trod_struct ht h
 match xs,hlen with
 |[y0,y1,y2,y3,y4,y5,y6,y7,y8,y9],_=>exact⟨y0,y1,y2,y3,y4,y5,y6,y7,y8,y9,n,by simpa using hf 0 f0 rfl,by simpa using hf 1 f1 rfl,by simpa using hf 2 f2 rfl,by simpa using hf 3 f3 rfl,by simpa using hf 4 f4 rfl,by simpa using hf 5 f5 rfl,by simpa using hf 6 f6 rfl,by simpa using hf 7 f7 rfl,by simpa using hf 8 f8 rfl,by simpa using hf 9 f9 rfl⟩
theorem qjf {H:Type} {enc:TypeId×Value->H} {w:World} {spare:Nat->Bool} {held:Bool} {a:Option Addr} {n c:Nat} {d:DataW H} {p:List MemPlace}
  (h:DataW.Trod enc prog w 0 spare held 25 (.slice a n c) d p):∃ x:Nat->yV,la w a n c 12 (λi=>wi (x i))/\∀ i,i<n->wj w (x i):=
 Sf underlying25 av ab wi (wj w) ⟨0,0,0,0,0,0,0,0,⟨none,0,0,λ_=>0⟩,⟨none,0,0,λ_=>0⟩,⟨none,0,0,λ_=>0⟩,⟨none,0,0,λ_=>0⟩⟩ (λm cs y hl hy=>by
  obtain⟨y0,y1,y2,y3,y4,y5,y6,y7,y8,y9,k,r0,r1,r2,r3,r4,r5,r6,r7,BB,BC⟩:=qje underlying38 hy
  match cs,hl with
  |[v0,v1,v2,v3,v4,v5,v6,v7,IM,v9,v10,v11],_=>
   simp[Zj,Zk,qjd]at r0 r1 r2 r3 r4 r5 r6 r7 BB BC;obtain⟨a0,e0,_,w0⟩:=DataW.trod_int underlying3 r0;obtain⟨bj,e1,_,w1⟩:=DataW.trod_int underlying3 r1;obtain⟨a2,e2,_,w2⟩:=DataW.trod_int underlying3 r2;obtain⟨a3,e3,_,w3⟩:=DataW.trod_int underlying3 r3;obtain⟨a4,e4,_,w4⟩:=DataW.trod_int underlying3 r4;obtain⟨a5,e5,_,w5⟩:=DataW.trod_int underlying3 r5;obtain⟨Bq,lB,_,w6⟩:=DataW.trod_int underlying3 r6;obtain⟨Br,j8,_,w7⟩:=DataW.trod_int underlying3 r7;obtain⟨qjg,ua,qjh⟩:=Jm BB;obtain⟨z0,z1,z2,k2,_,_,q0,q1,q2⟩:=trod_struct3 underlying24 BC;simp[Zk]at q0 q1 q2;obtain⟨qji,fJ,CS⟩:=Jm q0;obtain⟨s10,ry,o10⟩:=Jm q1;obtain⟨s11,rz,o11⟩:=Jm q2;simp at e0 e1 e2 e3 e4 e5 lB j8;exact⟨⟨a0,bj,a2,a3,a4,a5,Bq,Br,qjg,qji,s10,s11⟩,by simp[wi,e0,e1,e2,e3,e4,e5,lB,j8,ua,fJ,ry,rz],qjh,CS,o10,o11⟩) h
theorem qjj {A:Option Addr} {c:Nat} {x:Nat->yV} (h:la w A n c 12 (λi=>wi (x i))) (hi:i<n):
  ∃ b off,A=some ⟨b,off,none⟩/\b<w.heap.size/\∀ U u,(wi (x i))[U]? =some u->w.cell? ⟨b,off+i*12+U,none⟩=some u:=by
 obtain⟨b,off,h1,h2,h3⟩:=h.2.2.2 ab;exact⟨b,off,h1,h2,h3 i hi⟩
theorem qjk:∀ (l:List ByteArray),∀ u∈l.flatMap cd,u.oneCell'=true:=λl u hu=>by
 obtain⟨a,_,ha⟩:=List.mem_flatMap.1 hu;simp only[cd,KX,List.not_mem_nil,or_false]at ha;subst ha;rfl
def qe (x c:Int):Nat:=(bits .and .i64 x c).toNat
theorem yW (x c:Int) (h0:0<=c) (h1:c<9223372036854775808):bits .and .i64 x c=(qe x c:Int)/\(qe x c:Int)<=c:=by
 have h:=qai x c h0 h1;unfold qe;omega
def js (x:Int):ByteArray:=ch (97+qe x 7)
theorem Jn (x:Int):Let (js x):=⟨97+qe x 7,ab,by have:=(yW x 7 ab ab).2;omega,rfl⟩
theorem Pc (x:Int) (w:World):Calls prog 55 #[.int .i64 x] w λe w'=>e= .returned (.string (js x))/\ad w w':=by
 obtain⟨hr,b3⟩:=yW x 7 ab ab;have HK:ag (ch (97+qe x 7)=js x):=rfl;generalize qe x 7=r at*;have gF:=Sd w r;go_in;go_wp2_with fail
 go_ret;exact⟨by rw[<- HK.o];rfl,al⟩
theorem c12 (h:w.heap[q]? =some (.cells #[z0,z1,z2,z3,z4,z5,z6,z7,z8,z9,rI,qf] t (0,0))):
  (w.cell? ⟨q,0,none⟩=some z0/\w.cell? ⟨q,1,none⟩=some z1/\w.cell? ⟨q,2,none⟩=some z2/\w.cell? ⟨q,3,none⟩=some z3/\w.cell? ⟨q,4,none⟩=some z4/\w.cell? ⟨q,5,none⟩=some z5/\w.cell? ⟨q,6,none⟩=some z6/\w.cell? ⟨q,7,none⟩=some z7/\w.cell? ⟨q,8,none⟩=some z8/\w.cell? ⟨q,9,none⟩=some z9/\w.cell? ⟨q,10,none⟩=some rI/\w.cell? ⟨q,11,none⟩=some qf)/\w.frozen? ⟨q,0,none⟩=false/\w.frozen? ⟨q,1,none⟩=false/\w.frozen? ⟨q,2,none⟩=false/\w.frozen? ⟨q,3,none⟩=false/\w.frozen? ⟨q,4,none⟩=false/\w.frozen? ⟨q,5,none⟩=false/\w.frozen? ⟨q,6,none⟩=false/\w.frozen? ⟨q,7,none⟩=false/\w.frozen? ⟨q,8,none⟩=false/\w.frozen? ⟨q,9,none⟩=false/\w.frozen? ⟨q,10,none⟩=false/\w.frozen? ⟨q,11,none⟩=false:=
 ⟨⟨aE h 0,aE h 1,aE h 2,aE h 3,aE h 4,aE h 5,aE h 6,aE h 7,aE h 8,aE h 9,aE h 10,aE h 11⟩,aI h 0,aI h 1,aI h 2,aI h 3,aI h 4,aI h 5,aI h 6,aI h 7,aI h 8,aI h 9,aI h 10,aI h 11⟩
theorem rH (h:w.heap[q]? =some (.cells #[z0,z1,z2,z3,z4,z5,z6,z7,z8,z9,rI,qf] t (0,0))):
  ((((((((((((w.setCell ⟨q,0,none⟩ y0).setCell ⟨q,1,none⟩ y1).setCell ⟨q,2,none⟩ y2).setCell ⟨q,3,none⟩ y3).setCell ⟨q,4,none⟩ y4).setCell ⟨q,5,none⟩ y5).setCell ⟨q,6,none⟩ y6).setCell ⟨q,7,none⟩ y7).setCell ⟨q,8,none⟩ y8).setCell ⟨q,9,none⟩ y9).setCell ⟨q,10,none⟩ y10).setCell ⟨q,11,none⟩ y11).heap[q]? =some (.cells #[y0,y1,y2,y3,y4,y5,y6,y7,y8,y9,y10,y11] t (0,0)):=by
 have:=Ok _ q 11 _ _ y11 (Ok _ q 10 _ _ y10 (Ok _ q 9 _ _ y9 (Ok _ q 8 _ _ y8 (Ok _ q 7 _ _ y7 (Ok _ q 6 _ _ y6 (Ok _ q 5 _ _ y5 (Ok _ q 4 _ _ y4 (Ok _ q 3 _ _ y3 (Ok _ q 2 _ _ y2 (Ok _ q 1 _ _ y1 (Ok _ q 0 _ _ y0 h)))))))))));simpa only[List.setIfInBounds_toArray,List.set_cons_zero,List.set_cons_succ]using this
theorem ah.rH:ah [q] w ((((((((((((w.setCell ⟨q,0,none⟩ y0).setCell ⟨q,1,none⟩ y1).setCell ⟨q,2,none⟩ y2).setCell ⟨q,3,none⟩ y3).setCell ⟨q,4,none⟩ y4).setCell ⟨q,5,none⟩ y5).setCell ⟨q,6,none⟩ y6).setCell ⟨q,7,none⟩ y7).setCell ⟨q,8,none⟩ y8).setCell ⟨q,9,none⟩ y9).setCell ⟨q,10,none⟩ y10).setCell ⟨q,11,none⟩ y11):=by
 iterate 12 (refine ah.setCell ?_ (.inl ao) _)
 exact ah.refl _ _
theorem qjl (W:World) (q c:Nat) (h:W.heap[q]? =some (.cells #[.int .u8 (c:Int)] 5 (0,0))):
  (convert 105 9 (.slice (some ⟨q,0,none⟩) 1 1)).run prog W= .ok (.string (ch c)) W:=by
 have h2:=run_convert_bytes_arg W 105 5 underlying105 av q 0 1 1 [(c:Int)] rfl (λi hi=>by
  obtain rfl:i=0:=ab;rw[cell_of_row _ _ 0 _ _ (0,0) h];rfl) 9 av
 have e:ch c=⟨#[UInt8.ofNat (c:Int).toNat]⟩:=rfl;rw[e];exact h2
def wm:Array Value:= #[.int .i64 1,.int .i64 1,.int .i64 1,.int .i64 2,.int .i64 3,.int .i64 3,.int .i64 4,.int .i64 5,.int .i64 6,.int .i64 7,.int .i64 8,.int .i64 8,.int .i64 8,.int .i64 9,.int .i64 10,.int .i64 11]
theorem qjm (h:i<16):∃ k:Nat,wm[i]? =some (.int .i64 k)/\1<=k/\k<=11:=by
 match i,h with
 |0,_|1,_|2,_|3,_|4,_|5,_|6,_|7,_|8,_|9,_|10,_|11,_|12,_|13,_|14,_|15,_=>exact⟨_,rfl,ak,ak⟩
 |_+16,h=>omega
def Pe (v:Value):Prop:=∃ A n c,v= .slice A n c
def ux (n:Nat) (w:World) (qD:ee):Prop:=∃ (k c s t:Nat) (keys:List ByteArray),qD.k=k/\1<=k/\k<=12/\qD.c=c/\c<4/\qD.s=s/\s<5/\qD.t=t/\t<5/\Let qD.key/\qD.val.size<=1000/\Rw w 9 1 cd qD.kv keys/\(∀ k∈keys,Let k)/\keys.length<=5/\(k=12->∃ es os ps,yS n w qD.rv qD.ov qD.pv es os ps)/\Pe qD.rv/\Pe qD.ov/\Pe qD.pv
def rJ:Array Value:= #[.int .i64 0,.int .i64 0,.int .i64 0,.int .i64 0,.int .i64 0,.int .i64 0,.string ⟨#[]⟩,.string ⟨#[]⟩,.slice none 0 0,.slice none 0 0,.slice none 0 0,.slice none 0 0]
structure uy (w wr:World) (X R Q:Nat) (fF:Array Value) (qD:ee) (keys:List ByteArray):Prop where
 k:ad w wr
 x:wr.heap[X]? =some (.cells fF 87 (0,0))
 rb:wr.heap[R]? =some (.cells rJ 36 (0,0))
 qb:wr.heap[Q]? =some (.cells (il qD) 36 (0,0))
 ne:R≠Q
 q:w.heap.size<=Q
 own:wr.ownsRow w.heap.size 9 1 qD.kv keys.length (keys.flatMap cd)
theorem yS.fr {rv ov pv:Value} {es:List Nat} {os ps:List Int} (h:yS n w rv ov pv es os ps) (hf:Fr (λe=>e=63∨e=3) w w2):yS n w2 rv ov pv es os ps:=
 ⟨h.1.fr hf (.inl rfl),h.2.1.fr hf (.inr rfl),h.2.2.1.fr hf (.inr rfl),h.2.2.2⟩
theorem uy.go {qD:ee} (h:uy w wr X R Q fF qD keys) (hk:ad wr w2):uy w w2 X R Q fF qD keys:=
 ⟨h.k.call hk,hk.heap h.x,hk.heap h.rb,hk.heap h.qb,h.ne,h.q,ad.own h.own hk⟩
theorem uy.qjn {qD:ee} {Pf:List ByteArray} {v6:Value} (h:uy w wr X R Q fF qD keys) (hB:ah qD.kv.ownBlock.toList wr w2) (ho:w2.ownsRow w.heap.size 9 1 v6 Pf.length (Pf.flatMap cd)):
  uy w (w2.setCell ⟨Q,8,none⟩ v6) X R Q fF {qD with kv:=v6} Pf:=by
 have hs:=ah.set (w:=w2) Q 8 v6;have q6:=hB.heap h.qb (ec h.own h.qb ak);have x6:=hB.heap h.x (ec h.own h.x ak);have r6:=hB.heap h.rb (ec h.own h.rb ak);exact⟨(h.k.but hB λy hy=>(h.own.lt y (Option.mem_toList.1 hy)).1).but hs (by simpa using h.q),hs.heap x6 (by simpa using fB x6 q6 ak),hs.heap r6 (by simpa using h.ne),Ok w2 Q 8 _ _ v6 q6,h.ne,h.q,cB ho hs (gL ho q6 ak)⟩
theorem qjo (lI ac lJ af kN eU eC lK:Int) (KA:Option Addr) (kn kc:Nat) (Pg:List Int) (A:Option Addr) (m mc:Nat) (xs:List Int) (B:Option Addr) (m2 c2:Nat) (ys:List Int) (C:Option Addr) (m3 c3:Nat) (zs:List Int) (n:Nat) (w:World) (h0:bo w KA kn kc Pg) (h1:bo w A m mc xs) (h2:bo w B m2 c2 ys) (h3:bo w C m3 c3 zs) (hn:2<=n/\n<=5):
  Calls prog 29 #[.agg #[.int .i64 lI,.int .i64 ac,.int .i64 lJ,.int .i64 af,.int .i64 kN,.int .i64 eU,.int .i64 eC,.int .i64 lK,.slice KA kn kc,.slice A m mc,.slice B m2 c2,.slice C m3 c3],.int .i64 n] w λe w'=>∃ qD,e= .returned (dx qD)/\ux n w' qD/\ad w w':=by
 have HK:=aa h0;have H1:=aa h1;have H2:=aa h2;have H3:=aa h3;have HN:=aa hn;have tm:kn<=kc/\kc<=9223372036854775807:=by have h1:=h0.2.1;have h2:=h0.2.2.1;unfold maxLen at h2;omega
 clear h0 h1 h2 h3 hn;obtain⟨eN,bb⟩:=yW lI 15 ab ab;obtain⟨og,cz⟩:=yW ac 3 ab ab;obtain⟨kC,gg⟩:=yW kN 7 ab ab;obtain⟨hu1,pd⟩:=yW lK 7 ab ab;obtain⟨F6,jl⟩:=yW eU 3 ab ab;obtain⟨sr,l0,dp⟩:=E8 lJ 5 ab;obtain⟨tr,ht1,ht2⟩:=E8 af 5 ab;have qL:=ww lJ 5 ab;have fk:=ww af 5 ab;generalize qe lI 15=kr at*;generalize qe ac 3=j9 at*;generalize qe kN 7=mF at*;generalize qe lK 7=ur at*;generalize qe eU 3=hr at*;obtain⟨kv,qa,qlQ,qlR⟩:=qjm (i:=kr) ab;have xG:=aa qa;clear qa;go_in;go_upto_region 2 with fail
 obtain⟨fF,bM⟩:∃ fF:Array Value,fF= #[.int .i64 lI,.int .i64 ac,.int .i64 lJ,.int .i64 af,.int .i64 kN,.int .i64 eU,.int .i64 eC,.int .i64 lK,.slice KA kn kc,.slice A m mc,.slice B m2 c2,.slice C m3 c3]:=⟨_,rfl⟩;obtain⟨W1,hW⟩:=eqQ (((w.alloc (.cells fF 87)).alloc (.cells rJ 36)).alloc (.cells wm 127));have sV:ag (W1.heap[w.heap.size]? =some (.cells fF 87 (0,0))):=by subst hW;exact(((ad.refl _).alloc _).alloc _).heap (yY w _)
 have Zn:ag (W1.heap[w.heap.size+1]? =some (.cells rJ 36 (0,0))):=by subst hW;exact((ad.refl _).alloc _).heap (ea ao)
 have Zo:ag (W1.heap[w.heap.size+1+1]? =some (.cells wm 127 (0,0))):=by subst hW;exact ea ao
 have Ic:ag (ad w W1):=by subst hW;exact(((ad.refl _).alloc _).alloc _).alloc _
 have a7:W1.heap.size=w.heap.size+1+1+1:=by subst hW;simp
 unfold rJ wm at*;have hx:=sV.o;rw[bM]at hW hx;rw[hW];have HAV:=aa bM;clear hW bM;obtain⟨⟨x0,x1,x2,x3,x4,x5,x6,x7, -⟩, -⟩:=c12 hx;have t0:W1.cell? ⟨w.heap.size+1+1,kr,none⟩=some (.int .i64 kv):=(aE Zo.o kr).trans xG.o;clear hx;have Zp:((112+ur:Nat):Int)=112+(ur:Int):=ab;have qjp:=aa Zp;clear Zp;refine ey [none,none,none,none,none,none,none,none,none,none,none,none,none,none,none,none,none,none,none,none,none,none,none,none,none,none,none,none,none,none,none,some (λu w'=>∃ q,u= .slice (some ⟨q,0,none⟩) 1 1/\w'.heap[q]? =some (.cells #[.int .u8 (112+(ur:Int))] 5 (0,0))),none,none,some (λu w'=>∃ q,u= .pointer (some ⟨q,0,none⟩)/\W1.heap.size<=q/\w'.heap[q]? =some (.cells #[.int .i64 0,.int .i64 0,.int .i64 0,.int .i64 0,.int .i64 0,.int .i64 0,.string ⟨#[]⟩,.string ⟨#[]⟩,.slice none 0 0,.slice none 0 0,.slice none 0 0,.slice none 0 0] 36 (0,0)))] (λwB=>ad W1 wB/\wB.cell? ⟨w.heap.size,0,none⟩=some (.int .i64 lI)/\wB.cell? ⟨w.heap.size,1,none⟩=some (.int .i64 ac)/\wB.cell? ⟨w.heap.size,2,none⟩=some (.int .i64 lJ)/\wB.cell? ⟨w.heap.size,3,none⟩=some (.int .i64 af)/\wB.cell? ⟨w.heap.size,4,none⟩=some (.int .i64 kN)/\wB.cell? ⟨w.heap.size,5,none⟩=some (.int .i64 eU)/\wB.cell? ⟨w.heap.size,6,none⟩=some (.int .i64 eC)/\wB.cell? ⟨w.heap.size,7,none⟩=some (.int .i64 lK)/\wB.cell? ⟨w.heap.size+1+1,kr,none⟩=some (.int .i64 kv)) λwB SS=> ?_;obtain⟨au,_⟩:=SS.o _ (ad.refl _);iterate 25 refine SP.on ?_
 apply SP.one av
 ·intro wd hI hF;obtain⟨ae,ai,aj,aq,az,aK,a1,cw,d',jf⟩:=SS.o wd hI;clear hF;go_wp2_with ((go_at_call 55;refine(Pc eC _).mono ?_;rintro e w5 ⟨rfl,k5⟩));exact aP
 refine SP.np ?_;iterate 5 refine SP.on ?_
 refine SP.ew ?_ λv1=> ?_
 ·intro wd hI hF;obtain⟨ae,ai,aj,aq,az,aK,a1,cw,d',jf⟩:=SS.o wd hI;clear hF;go_wp2_with (fail);exact bn rfl ⟨_,rfl,yY _ _⟩
 refine SP.oe (v:= .string (ch (112+ur))) ?_ ?_
 ·intro wd hI hF;obtain⟨ae,ai,aj,aq,az,aK,a1,cw,d',jf⟩:=SS.o wd hI;have h1:=hF.1;clear hF;(obtain⟨w9,⟨q,rfl,hq⟩,k9⟩:=h1;have hq:=k9.heap hq;rw[<- qjp.o]at hq;have gF:=qjl wd q (112+ur) hq);go_wp2_with (fail);exact aP
 iterate 1 refine SP.on ?_
 refine SP.ew ?_ λv2=> ?_
 ·intro wd hI hF;obtain⟨ae,ai,aj,aq,az,aK,a1,cw,d',jf⟩:=SS.o wd hI;clear hF;go_wp2_with (fail);exact bn rfl ⟨_,rfl,ae.size,yY _ _⟩
 refine SP.ml SS ?_;rintro wd hI hF ⟨ae,ai,aj,aq,az,aK,a1,cw,d',jf⟩;have h2:=hF.1;clear hF SS;obtain⟨w9,⟨Q,rfl,hq,Fg⟩,k9⟩:=h2;have eD:=aa (k9.heap Fg);obtain⟨⟨q0,q1,q2,q3,q4,q5,q6,q7,q8,q9,nH,BD⟩,f0,f1,f2,f3,f4,f5,f6,f7,f8,f9,f10,f11⟩:=c12 eD.o;have b6:=aa (ae.heap sV.o);have dv:=aa (ae.heap Zn.o);have cx:=aa (Ic.o.call ae);have nm:ag (w.heap.size<=Q/\w.heap.size+1≠Q):=⟨ab,ab⟩;clear Fg k9 sV Zn Zo Ic;go_upto_block 0 with fail
 obtain⟨W2,fw⟩:=eqQ ((((((((((((wd.setCell ⟨Q,0,none⟩ (.int .i64 kv)).setCell ⟨Q,1,none⟩ (.int .i64 j9)).setCell ⟨Q,2,none⟩ (.int .i64 sr)).setCell ⟨Q,3,none⟩ (.int .i64 tr)).setCell ⟨Q,4,none⟩ (.int .i64 mF)).setCell ⟨Q,5,none⟩ (.int .i64 eU)).setCell ⟨Q,6,none⟩ (.string (js eC))).setCell ⟨Q,7,none⟩ (.string (ch (112+ur)))).setCell ⟨Q,8,none⟩ (.slice none 0 0)).setCell ⟨Q,9,none⟩ (.slice none 0 0)).setCell ⟨Q,10,none⟩ (.slice none 0 0)).setCell ⟨Q,11,none⟩ (.slice none 0 0));have dW:ah [Q] wd W2:=fw▸ah.rH;have ko:W2.heap[Q]? =some (.cells (il ⟨(kv:Int),(j9:Int),(sr:Int),(tr:Int),(mF:Int),eU,js eC,ch (112+ur),(.slice none 0 0),(.slice none 0 0),(.slice none 0 0),(.slice none 0 0)⟩) 36 (0,0)):=fw▸rH eD.o
 have wg:ag (uy w W2 w.heap.size (w.heap.size+1) Q fF ⟨(kv:Int),(j9:Int),(sr:Int),(tr:Int),(mF:Int),eU,js eC,ch (112+ur),(.slice none 0 0),(.slice none 0 0),(.slice none 0 0),(.slice none 0 0)⟩ []):=
  ⟨cx.o.but dW (by simpa using nm.o.1),dW.heap b6.o (by have:=nm.o;simp;omega),dW.heap dv.o (by simpa using nm.o.2),ko,nm.o.2,nm.o.1,qcb _ _ _ _⟩
 rw[fw];clear fw dW ko q0 f0 q1 f1 q2 f2 q3 f3 q4 f4 q5 f5 q6 f6 q7 f7 q8 f8 q9 f9 nH f10 BD f11 eD b6 dv cx ae au hI a7 x0 x1 x2 x3 x4 x5 x6 x7 t0;have cN:ag (w.heap.size<=w.heap.size+1):=by unfold ag;omega
 generalize w.heap.size+1=R at*;go_cut [7] (λiv wx=>∃ (v:Value) (keys:List ByteArray),ag (uy w wx w.heap.size R Q fF ⟨(kv:Int),(j9:Int),(sr:Int),(tr:Int),(mF:Int),eU,js eC,ch (112+ur),v,(.slice none 0 0),(.slice none 0 0),(.slice none 0 0)⟩ keys)/\ag (keys.length<=5/\∀ k∈keys,Let k))
 case first=>
  go_wp2_with fail
  go_loopw [7] (λiv wr=>∃ (i:Nat) (v:Value) (keys:List ByteArray),i<=kn/\i<=5/\iv= .int .i64 i/\ag (uy w wr w.heap.size R Q fF ⟨(kv:Int),(j9:Int),(sr:Int),(tr:Int),(mF:Int),eU,js eC,ch (112+ur),v,(.slice none 0 0),(.slice none 0 0),(.slice none 0 0)⟩ keys)/\ag (keys.length=i)/\ag (∀ k∈keys,Let k)) (λiv _=>kn-(intOf iv).toNat)
  case atStart=>exact⟨0,_,[],ab,ab,rfl,wg,rfl,λk hk=>by cases hk⟩
  case round=>
   clear wg;obtain⟨i,v,keys,Cn,hi5,rfl,HM,cM,uz⟩:=hrel;obtain⟨VA,vc,hv⟩:=ca HM.o.own;simp only at hv;rw[cM.o]at hv;subst hv;have hx:=HM.o.x;rw[HAV.o]at hx;have rA:=aE hx 8;have q8:=aE HM.o.qb 8;unfold il at q8;simp only[List.getElem?_toArray,List.getElem?_cons_zero,List.getElem?_cons_succ]at rA q8;clear hx;by_cases an:i<kn/\i<5
   ·have e1:decide ((i:Int)<kn)=true:=by simp;omega
    have e2:decide ((i:Int)<5)=true:=by simp;omega
    obtain⟨kb,EQ,rfl,OC⟩:=HK.o.2.2.2.2 ab;have dD:=HM.o.k.af (OC i an.1);generalize Pg[i]?.getD (-2)=x at*;have xU:ag (Let (js x)):=Jn x;generalize E1:js x=y at*;have HY:=aa E1;clear OC E1;go_wp2_with fail
    refine bz (λwB=>ad wr wB/\wB.cell? ⟨Q,8,none⟩=some (.slice VA i vc)/\wB.cell? ⟨w.heap.size,8,none⟩=some (.slice (some ⟨kb,EQ,none⟩) kn kc)/\wB.cell? ⟨kb,EQ+i,none⟩=some (.int .i64 x)) λwB SS=> ?_;obtain⟨au,aB,aC,aF⟩:=SS.o _ (ad.refl _);iterate 9 (first|(apply DW.ct;(focus (intro wd hI;obtain⟨ae,ai,aj,aq⟩:=SS.o wd hI;go_wp2_with (go_at_call 55;refine(Pc x _).mono ?_;rintro e w5 ⟨rfl,k5⟩;rw[HY.o]);exact aP));refine DW.np ?_)|(refine DW.bt av ?_;intro wd hI;obtain⟨ae,ai,aj,aq⟩:=SS.o wd hI;go_wp2_with (go_at_call 55;refine(Pc x _).mono ?_;rintro e w5 ⟨rfl,k5⟩;rw[HY.o]);refine cu hI SS (λbf SS=> ?_) rfl;obtain⟨au,aB,aC,aF⟩:=SS.o _ (ad.refl _)))
    refine DW.tail av λwd hI=> ?_;obtain⟨ae,ai,aj,aq⟩:=SS.o wd hI;clear SS;go_wp2_with (at_builtin;go_must (refine jh rfl _ _ 34 9 _ 1 16 cd rfl underlying34 B4 rfl ak ak jU qjk w.heap.size _ keys [y] rfl (ad.own HM.o.own ae) _ 0 1 1 rfl (Rw.one (hI.heap (yY _ _))) (by(have:=cM.o);simp;omega) (qcg HM.o.k.size ae.size) ?_;intro v6 w6 O6 cj jM;have q6:=cj.heap (ae.heap HM.o.qb) (ec (ad.own HM.o.own ae) (ae.heap HM.o.qb) ak);obtain⟨A6,gu,cy⟩:=ca O6;rw[show(keys++[y]).length=i+1 from(by rw[zH,cM.o];rfl)]at cy;subst cy;have M6:=aa ((HM.o.go ae).qjn cj O6);have g6:=aE q6 8;have f6:=aI q6 8;clear O6 cj jM q6))
    have fG:ag ((keys++[y]).length=i+1):=by unfold ag;rw[zH,cM.o];rfl
    have xy:ag (∀ k∈keys++[y],Let k):=λk hk=>by
     rcases Pv.1 hk with hk|hk
     ·exact uz.o k hk
     ·rw[At.1 hk];exact xU.o
    go_roundw
    case rel=>(try(repeat apply R7);refine⟨?_,rfl⟩);exact⟨i+1,_,_,ab,ab,aA,M6,fG,xy⟩
    case measure=>exact dY
   ·have mQ:ag (keys.length<=5/\∀ k∈keys,Let k):=⟨by rw[cM.o];exact hi5,uz.o⟩;rcases(by omega:kn<=i∨(i<kn/\5<=i))with g1|g1
    ·have e1:decide ((i:Int)<kn)=false:=by simp;omega
     go_wp2_with fail
     go_meet
     case rel=>exact⟨_,keys,HM,mQ⟩
    ·have e1:decide ((i:Int)<kn)=true:=by simp;omega
     have e2:decide ((i:Int)<5)=false:=by simp;omega
     go_wp2_with fail
     go_meet
     case rel=>exact⟨_,keys,HM,mQ⟩
 case rest=>
  clear wg;obtain⟨v,keys,HM,uz⟩:=hcut;obtain⟨VA,vc,hv⟩:=ca HM.o.own;simp only at hv;subst hv;obtain⟨kl,gC⟩:=eqQ keys.length;have ph:=aa gC;rw[gC]at HM;clear gC;have HQ:=aa HM.o.qb;have HR:=aa HM.o.rb;have hx:=HM.o.x;rw[HAV.o]at hx;unfold il at HQ;unfold rJ at HR;simp only at HQ;have vZ:Q<wc.heap.size:=(aQ HQ.o);have pJ:R<wc.heap.size:=(aQ HR.o);have aN:R≠Q:=HM.o.ne;obtain⟨⟨-, -, -, -, -,x5, -, -, -,Be,Bf,Bg⟩, -⟩:=c12 hx;obtain⟨⟨q0, -⟩,f0, -, -, -, -, -, -, -, -,f9,f10,f11⟩:=c12 HQ.o;have mq:=aa HM.o.k;have e7:=aa HM.o.own;have Zq:=aa HM.o.q;clear HM hx;by_cases Je:kv=11/\hr=3
  ·have e1:((kv:Int)==11)=true:=by simp;omega
   have e2:((hr:Int)==3)=true:=by simp;omega
   clear Je;go_wp2_with fail
   have bD:ah [Q] wc (wc.setCell ⟨Q,0,none⟩ (.int .i64 12)):=ah.set Q 0 _;have eN:ad w (wc.setCell ⟨Q,0,none⟩ (.int .i64 12)):=mq.o.but bD (by simpa using Zq.o);refine(Za A B C m mc m2 c2 m3 c3 xs ys zs n _ (bo.keep H1.o eN) (bo.keep H2.o eN) (bo.keep H3.o eN) (.inr HN.o)).mono ?_;rintro e w5 ⟨rv,ov,pv,es,os,ps,rfl,mK,k5⟩;have ii:=aa mK;obtain⟨j',ka,iy,_,_⟩:=mK.1.form;obtain⟨mG,mH,b3,_,_⟩:=mK.2.1.form;obtain⟨kd,ke,gG,_,_⟩:=mK.2.2.1.form;generalize (bw es).length=kf at iy;generalize os.length=eJ at b3;generalize ps.length=rK at gG;subst iy b3 gG;have gv:=aa (eN.call k5);have jE:=aa (k5.heap (Ok wc Q 0 _ _ (.int .i64 12) HQ.o));have jI:=aa (k5.heap (bD.heap HR.o (by simpa using aN)));have ie:=aa (ad.own (cB e7.o bD (gL e7.o HQ.o ak)) k5);have f9:=aI jE.o 9;have f10:=aI jE.o 10;have f11:=aI jE.o 11;have g9:=aE jE.o 9;have g10:=aE jE.o 10;have g11:=aE jE.o 11;simp only[List.getElem?_toArray,List.set_cons_zero,List.setIfInBounds_toArray,List.getElem?_cons_zero,List.getElem?_cons_succ]at g9 g10 g11;clear mK k5 bD eN;go_upto_region 10 with fail
   obtain⟨W6,pG⟩:=eqQ (((w5.setCell ⟨Q,9,none⟩ (.slice j' kf ka)).setCell ⟨Q,10,none⟩ (.slice mG eJ mH)).setCell ⟨Q,11,none⟩ (.slice kd rK ke));have cL:ah [Q] w5 W6:=pG▸(((ah.refl _ _).setCell (.inl ao) _).setCell (.inl ao) _).setCell (.inl ao) _;have EK:W6.heap[Q]? =some (.cells #[.int .i64 12,.int .i64 j9,.int .i64 sr,.int .i64 tr,.int .i64 mF,.int .i64 eU,.string (js eC),.string (ch (112+ur)),.slice VA kl vc,.slice j' kf ka,.slice mG eJ mH,.slice kd rK ke] 36 (0,0)):=pG▸Ok _ Q 11 _ _ _ (Ok _ Q 10 _ _ _ (Ok w5 Q 9 _ _ _ jE.o));rw[pG];have ii:=aa (ii.o.fr (Fr.one cL jE.o ak));have e7:=aa (cB ie.o cL (gL ie.o jE.o ak));have mq:=aa (gv.o.but cL (by simpa using Zq.o));have HR:=aa (cL.heap jI.o (by simpa using aN));have HQ:=aa EK;clear pG cL EK g9 g10 g11 f9 f10 f11 q0 f0 x5 Be Bf Bg jI jE ie gv;have vZ:Q<W6.heap.size:=(aQ HQ.o);have pJ:R<W6.heap.size:=(aQ HR.o);obtain⟨⟨q0,q1,q2,q3,q4,q5,q6,q7,q8,q9,nH,BD⟩, -⟩:=c12 HQ.o;obtain⟨⟨r0,r1,r2,r3,r4,r5,r6,r7,BB,BC,Ph,Pj⟩,p0,p1,p2,p3,p4,p5,p6,Pk,BE,Pl,Pm,Pn⟩:=c12 HR.o;go_wp2_with fail
   (try simp only[Exit.inBlock,Exit.then])
   refine KV (results_cell_row rfl _ _ R _ #[.int .i64 12,.int .i64 j9,.int .i64 sr,.int .i64 tr,.int .i64 mF,.int .i64 eU,.string (js eC),.string (ch (112+ur)),.slice VA kl vc,.slice j' kf ka,.slice mG eJ mH,.slice kd rK ke] (0,0) _ rfl (rH HR.o) underlying36 rfl av) rfl ?_;have rL:ah [R] _ _:=ah.rH (w:=W6) (q:=R) (y0:= .int .i64 12) (y1:= .int .i64 j9) (y2:= .int .i64 sr) (y3:= .int .i64 tr) (y4:= .int .i64 mF) (y5:= .int .i64 eU) (y6:= .string (js eC)) (y7:= .string (ch (112+ur))) (y8:= .slice VA kl vc) (y9:= .slice j' kf ka) (y10:= .slice mG eJ mH) (y11:= .slice kd rK ke);have Po:Fr (λe=>e=63∨e=3) W6 _:=Fr.one rL HR.o ak;have Fh:=cB e7.o rL (gL e7.o HR.o ak);have Fi:=mq.o.but rL (by simpa using cN.o);exact⟨⟨(12:Int),(j9:Int),(sr:Int),(tr:Int),(mF:Int),eU,js eC,ch (112+ur),(.slice VA kl vc),(.slice j' kf ka),(.slice mG eJ mH),(.slice kd rK ke)⟩,rfl,⟨12,j9,sr,tr,keys,rfl,ab,ab,rfl,ab,rfl,ab,rfl,ab,Jn eC,(show(1:Nat)<=1000 by omega),Rw.bp Fh jU ak,uz.o.2,uz.o.1,λ_=>⟨es,os,ps,ii.o.fr Po⟩,⟨_,_,_,rfl⟩,⟨_,_,_,rfl⟩,⟨_,_,_,rfl⟩⟩,Fi⟩
  ·have e:((kv:Int)==11)=false∨((kv:Int)==11)=true/\((hr:Int)==3)=false:=by simp;omega
   clear Je;rcases e with e1|⟨e1,e2⟩
   all_goals
    obtain⟨⟨q0,q1,q2,q3,q4,q5,q6,q7,q8,q9,nH,BD⟩, -⟩:=c12 HQ.o;obtain⟨⟨r0,r1,r2,r3,r4,r5,r6,r7,BB,BC,Ph,Pj⟩,p0,p1,p2,p3,p4,p5,p6,Pk,BE,Pl,Pm,Pn⟩:=c12 HR.o;go_wp2_with fail
    (try simp only[Exit.inBlock,Exit.then])
    refine KV (results_cell_row rfl _ _ R _ #[.int .i64 kv,.int .i64 j9,.int .i64 sr,.int .i64 tr,.int .i64 mF,.int .i64 eU,.string (js eC),.string (ch (112+ur)),.slice VA kl vc,.slice none 0 0,.slice none 0 0,.slice none 0 0] (0,0) _ rfl (rH HR.o) underlying36 rfl av) rfl ?_;have rL:ah [R] _ _:=ah.rH (w:=wc) (q:=R) (y0:= .int .i64 kv) (y1:= .int .i64 j9) (y2:= .int .i64 sr) (y3:= .int .i64 tr) (y4:= .int .i64 mF) (y5:= .int .i64 eU) (y6:= .string (js eC)) (y7:= .string (ch (112+ur))) (y8:= .slice VA kl vc) (y9:= .slice none 0 0) (y10:= .slice none 0 0) (y11:= .slice none 0 0);have Po:Fr (λe=>e=63∨e=3) wc _:=Fr.one rL HR.o ak;have Fh:=cB e7.o rL (gL e7.o HR.o ak);have Fi:=mq.o.but rL (by simpa using cN.o);exact⟨⟨(kv:Int),(j9:Int),(sr:Int),(tr:Int),(mF:Int),eU,js eC,ch (112+ur),(.slice VA kl vc),(.slice none 0 0),(.slice none 0 0),(.slice none 0 0)⟩,rfl,⟨kv,j9,sr,tr,keys,rfl,ab,ab,rfl,ab,rfl,ab,rfl,ab,Jn eC,(show(1:Nat)<=1000 by omega),Rw.bp Fh jU ak,uz.o.2,uz.o.1,λh=>absurd h ab,⟨_,_,_,rfl⟩,⟨_,_,_,rfl⟩,⟨_,_,_,rfl⟩⟩,Fi⟩
end Go.Proofs.YtehaoggjlciobaaGreat

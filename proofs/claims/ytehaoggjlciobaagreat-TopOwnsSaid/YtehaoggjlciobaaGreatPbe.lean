/- Part 31 of 53. -/
import Derived.Test.YtehaoggjlciobaaGreatPbd
set_option linter.all false
set_option maxRecDepth 20000
set_option maxHeartbeats 16000000
namespace Go.Proofs.YtehaoggjlciobaaGreat
open Go.RowKit
theorem qfo:(Tryz.prog.info? 198).map (λi=>(i.zero,i.size,i.bytes))=some (some (.agg #[.int .i64 0,.int .i64 0,.string ⟨#[]⟩,.string ⟨#[]⟩]),4,48):=av
structure Mv where
 to:Int
 ij:Int
 f:ByteArray
 t:ByteArray
def sB (m:Mv):List Value:=[.int .i64 m.to,.int .i64 m.ij,.string m.f,.string m.t]
theorem qfp:∀ a,(sB a).length=4:=λ_=>rfl
theorem qfq (m:Int):∃ r,DM m r:=by
 have h:∀ n:Nat,n<=6->(∀ i:Nat,i<n->cq m i=false)∨∃ i:Nat,i<n/\cq m i=true/\∀ U:Nat,U<i->cq m U=false:=by
  intro n
  induction n with
  |zero=>exact λ_=> .inl λi hi=>ab
  |succ n ih=>
   intro hn;rcases ih ab with h|⟨i,h1,h2,h3⟩
   ·cases hb:cq m n
    ·exact .inl λi hi=>by
      rcases R6 i n with g|g
      ·exact h i g
      ·obtain rfl:i=n:=ab;exact hb
    ·exact .inr ⟨n,ab,hb,h⟩
   ·exact .inr ⟨i,ab,h2,h3⟩
 rcases h 6 ab with h|⟨i,h1,h2,h3⟩
 ·exact⟨-1,.inl ⟨rfl,h⟩⟩
 ·exact⟨i,.inr ⟨i,rfl,h1,h2,h3⟩⟩
theorem qfr {m r vy:Int} (h:DM m r) (k:DM m vy):r=vy:=by
 rcases h with ⟨rfl,h1⟩|⟨i,rfl,h1,h2,h3⟩
 ·rcases k with ⟨rfl,_⟩|⟨U,rfl,k1,k2,_⟩
  ·rfl
  ·rw[h1 U k1]at k2;cases k2
 ·rcases k with ⟨rfl,k1⟩|⟨U,rfl,k1,k2,k3⟩
  ·rw[k1 i h1]at h2;cases h2
  ·rcases Nat.lt_trichotomy i U with g|g|g
   ·rw[k3 i g]at h2;cases h2
   ·rw[g]
   ·rw[h3 U g]at k2;cases k2
def ow (es:List Nat) (os:List Int) (k:ByteArray):Int:=oa os (bV es (hv k))
theorem qfs {es:List Nat} {os:List Int} {n:Nat} (hf:Fit es os n) (k:ByteArray):1<=ow es os k/\ow es os k<((2 ^ n:Nat):Int):=hf.own _ (by have:=nV es (hv k);omega)
theorem Vc {es:List Nat} {os:List Int} {n:Nat} (hf:Fit es os n) {k:ByteArray} {r:Int} (h:DM (ow es os k) r):0<=r/\r<n/\cq (ow es os k) r=true:=by
 obtain⟨h1,h2⟩:=qfs hf k;have gV:=hf.one;have jJ:=hf.cV;rcases h with ⟨rfl,h3⟩|⟨i,rfl,h3,h4,_⟩
 ·exfalso
  generalize ow es os k=m at*
  have hb:∀ i:Nat,i<6->¬(m/2 ^ i%2=1):=λi hi he=>by
   have:=h3 i hi;unfold cq at this;simp[he]at this;omega
  have b0:=hb 0 ab;have b1:=hb 1 ab;have b2:=hb 2 ab;have ck:=hb 3 ab;have iV:=hb 4 ab;have dB:=hb 5 ab;have hm:m<64:=by have:=tb jJ;omega
  simp only[Int.reducePow]at b0 b1 b2 ck iV dB;omega
 ·refine⟨ab,?_,h4⟩;generalize ow es os k=m at*;unfold cq at h4;simp only[Bool.and_eq_true,decide_eq_true_eq]at h4;obtain⟨_,h5⟩:=h4;rcases R6 i n with g|g
  ·omega
  ·exfalso
   have:m/2 ^ ((i:Nat):Int).toNat=0:=by
    apply Int.ediv_eq_zero_of_lt ab
    have hp:(2 ^ n:Nat)<=2 ^ i:=Nat.pow_le_pow_right ab g;have:((2 ^ n:Nat):Int)<=((2 ^ i:Nat):Int):=by exact_mod_cast hp
    simp only[Int.toNat_natCast];have e:((2 ^ i:Nat):Int)=(2:Int) ^ i:=ao;omega
   rw[this]at h5
   cases h5
def comes (es aH:List Nat) (os aJ:List Int) (f:ByteArray) (s:Int):Bool:=cq (ow aH aJ f) s&& !cq (ow es os f) s
theorem qft (NB RB OB:Nat) (s:Int) (f t:ByteArray) (A B C A' B' C':Option Addr) (n1 c1 n2 c2 n3 c3 m1 d1 m2 d2 d3:Nat) (es aH:List Nat) (os ps aJ a':List Int) (w:World)
  (hr:fY w A n1 c1 B n2 c2 C n3 c3 (bw es) os ps) (b3:fY w A' m1 d1 B' m2 d2 C' n3 d3 (bw aH) aJ a') (hf:Fit es os n3) (eG:Fit aH aJ n3)
  (a0:w.cell? ⟨OB,0,none⟩=some (.slice A n1 c1)) (bj:w.cell? ⟨OB,1,none⟩=some (.slice B n2 c2)) (a2:w.cell? ⟨OB,2,none⟩=some (.slice C n3 c3))
  (b0:w.cell? ⟨NB,0,none⟩=some (.slice A' m1 d1)) (b1:w.cell? ⟨NB,1,none⟩=some (.slice B' m2 d2)) (b2:w.cell? ⟨NB,2,none⟩=some (.slice C' n3 d3))
  (g0:w.cell? ⟨RB,0,none⟩=some (.string f)):
  Calls Tryz.prog 192 #[.int .i64 s,.pointer (some ⟨NB,0,none⟩),.pointer (some ⟨RB,0,none⟩),.pointer (some ⟨OB,0,none⟩)] w λe w'=>e= .returned (.bool (comes es aH os aJ f s))/\ad w w':=by
 have HR:=aa hr;have di:=aa b3;have HC:ag (comes es aH os aJ f s=(cq (ow aH aJ f) s&& !cq (ow es os f) s)):=rfl;have qfu:=aa (λw1 (K:ad w w1)=>Qw A' B' C' m1 d1 m2 d2 n3 d3 aH aJ a' s f w1 (b3.keep K) eG);have T2:=aa (λw1 (K:ad w w1)=>Qw A B C n1 c1 n2 c2 n3 c3 es os ps s f w1 (hr.keep K) hf);have e1:ag (oa aJ (bV aH (hv f))=ow aH aJ f):=rfl;have e2:ag (oa os (bV es (hv f))=ow es os f):=rfl;clear hr b3;go_in;go_wp2_with fail
 refine(qfu.o w (ad.refl _)).mono ?_;rintro e w1 ⟨rfl,k1⟩;rw[e1.o];have a0:=k1.af a0;have bj:=k1.af bj;have a2:=k1.af a2;have g0:=k1.af g0
 cases h1:cq (ow aH aJ f) s
 ·go_wp2;go_ret;exact⟨by rw[HC.o,h1];rfl,k1⟩
 ·go_wp2_with fail
  refine(T2.o w1 k1).mono ?_;rintro e w2 ⟨rfl,k2⟩;rw[e2.o];go_wp2;go_ret;exact⟨by rw[HC.o,h1];rfl,k1.call k2⟩
structure nF (es aH:List Nat) (os aJ:List Int) (n:Nat) (pt:List Rg) (i U:Nat) (mv:List Mv):Prop where
 bx:mv.length<=i*6+U
 ok:∀ m∈mv,0<=m.to/\m.to<n/\0<=m.ij/\m.ij<n/\cq (ow es os m.f) m.ij=true
 all:∀ (a:Nat) (s:Nat) (r:Rg),(a<i/\s<n∨a=i/\s<U)->pt[a]? =some r->comes es aH os aJ r.1 s=true->∃ m∈mv,m.to=s/\m.f=r.1/\m.t=r.2
theorem nF.next {es aH:List Nat} {os aJ:List Int} {n i:Nat} {pt:List Rg} {mv:List Mv} (h:nF es aH os aJ n pt i n mv) (hn:n<=6):nF es aH os aJ n pt (i+1) 0 mv:=
 ⟨by have:=h.bx;omega,h.ok,λa s r ha hr hc=>h.all a s r ab hr hc⟩
theorem nF.no {es aH:List Nat} {os aJ:List Int} {n i U:Nat} {pt:List Rg} {mv:List Mv} {r:Rg} (h:nF es aH os aJ n pt i U mv) (hr:pt[i]? =some r) (hc:comes es aH os aJ r.1 U=false):nF es aH os aJ n pt i (U+1) mv:=
 ⟨by have:=h.bx;omega,h.ok,λa s vy ha tJ eW=>by
  rcases ha with ha|⟨rfl,ha⟩
  ·exact h.all a s vy (.inl ha) tJ eW
  ·rcases R6 s U with g|g
   ·exact h.all a s vy (.inr ⟨rfl,g⟩) tJ eW
   ·obtain rfl:s=U:=ab;rw[hr]at tJ;cases tJ;rw[hc]at eW;cases eW⟩
theorem nF.yes {es aH:List Nat} {os aJ:List Int} {n i U:Nat} {pt:List Rg} {mv:List Mv} {r:Rg} {q:Int} (h:nF es aH os aJ n pt i U mv) (hr:pt[i]? =some r) (hj:U<n) (hq:0<=q/\q<n/\cq (ow es os r.1) q=true):nF es aH os aJ n pt i (U+1) (mv++[⟨U,q,r.1,r.2⟩]):=
 ⟨by have:=h.bx;rw[qC,List.length_singleton];omega,λm hm=>by
  rcases Pv.1 hm with hm|hm
  ·exact h.ok m hm
  ·simp only[At]at hm;subst hm
   exact⟨ao,by simp;omega,hq.1,hq.2.1,hq.2.2⟩,λa s vy ha tJ eW=>by
  rcases ha with ha|⟨rfl,ha⟩
  ·obtain⟨m,h1,h2⟩:=h.all a s vy (.inl ha) tJ eW;exact⟨m,List.mem_append_left _ h1,h2⟩
  ·rcases R6 s U with g|g
   ·obtain⟨m,h1,h2⟩:=h.all a s vy (.inr ⟨rfl,g⟩) tJ eW;exact⟨m,List.mem_append_left _ h1,h2⟩
   ·obtain rfl:s=U:=ab;rw[hr]at tJ;cases tJ;exact⟨⟨s,q,r.1,r.2⟩,List.mem_append_right _ ao,rfl,rfl,rfl⟩⟩
theorem qfv {w0 wd:World} {a b c d:Value} {t:TypeId} (h:ad (w0.alloc (.cells #[a,b,c,d] t)) wd):∀ (U:Nat) (u:Value),[a,b,c,d][U]? =some u->wd.cell? ((⟨w0.heap.size,0,none⟩:Addr).add U)=some u:=by
 intro U u hu;rw[Addr.add_lit,Nat.zero_add,aE (h.heap (l5 w0 _)) U,<- hu];exact List.getElem?_toArray
theorem qfw (mv:List Mv) (m:Mv):mv.flatMap sB++[.int .i64 m.to,.int .i64 m.ij,.string m.f,.string m.t]=(mv++[m]).flatMap sB:=by simp[sB]
def NM (e:TypeId):Prop:=e≠198
theorem ye {w w2:World} {base e k n:Nat} {v:Value} {xs:List Value} (h:w.ownsRow base e k v n xs) (hb:ah v.ownBlock.toList w w2):Fr (λt=>t≠e) w w2:=
 Fr.gn hb λs hs cur t ht aN=>by
  rcases h.2 with ⟨rfl,_⟩|⟨g,cap,jb,rfl,_,hg,_⟩
  ·simp[Value.ownBlock]at hs
  ·obtain rfl:s=g:=by simpa [Value.ownBlock]using hs
   rw[hg]at ht;simp only[Option.some.injEq,Obj.cells.injEq]at ht;exact aN ht.2.1.symm
def tK (es aH:List Nat) (os aJ:List Int) (n:Nat) (pt:List Rg) (w wr:World) (sv:Value) (i U:Nat):Prop:=∃ mv,wr.ownsRow w.heap.size 198 4 sv mv.length (mv.flatMap sB)/\nF es aH os aJ n pt i U mv
theorem tK.keep {es aH:List Nat} {os aJ:List Int} {n:Nat} {pt:List Rg} {w wr w2:World} {sv:Value} {i U:Nat} (h:tK es aH os aJ n pt w wr sv i U) (hk:ad wr w2):tK es aH os aJ n pt w w2 sv i U:=by
 obtain⟨mv,h1,h2⟩:=h;exact⟨mv,ad.own h1 hk,h2⟩
theorem qfx (v v2:Value) (es aH:List Nat) (os ps aJ a':List Int) (w:World) (h:pI w v es os ps) (h2:pI w v2 aH aJ a') (hf:eA es os ps ps.length) (eG:eA aH aJ a' a'.length) (hn:ps.length=a'.length):
  Calls Tryz.prog 121 #[v,v2] w λe w'=>∃ v' pt mv,e= .returned v'/\Rw w' 198 4 sB v' mv/\Hq es aH pt/\nF es aH os aJ ps.length pt pt.length 0 mv/\ad w w':=by
 have oF:=aa (λw1 (K:ad w w1)=>qfn v v2 es aH os ps aJ a' w1 (h.keep K) (h2.keep K) hf eG hn);obtain⟨A,B,C,n1,c1,n2,c2,c3,rfl,hr⟩:=h;obtain⟨A',B',C',m1,d1,m2,d2,d3,rfl,b3⟩:=h2;have HR:=aa hr;have di:=aa b3;have b1:=hr.nX;have b2:=b3.nX;have yf:=aa hf.fit;have Vd:=aa eG.fit;obtain⟨n,hN⟩:∃ n,ps.length=n:=⟨_,rfl⟩;have jJ:n<=6:=by rw[<- hN];exact hf.fit.cV
 rw[hN]at HR yf b1 oF⊢;rw[<- hn,hN]at di Vd b2 oF⊢;clear hr b3 hf eG hn hN;obtain⟨i0,qfy,a7,aY,aW⟩:=ql0 qfo;go_in;go_wp2_with fail
 refine(oF.o _ al).mono ?_;rintro e w1 ⟨pv,pt,rfl,MM,mX,k1⟩;obtain⟨PA,pc,rfl,qfz,qk3⟩:=MM.form;have Ve:w1.heap[w.heap.size]? =some (.cells #[.slice A n1 c1,.slice B n2 c2,.slice C n c3] 29 (0,0)):=k1.heap (((ad.refl _).alloc _).heap (l5 w _));have Vf:w1.heap[w.heap.size+1]? =some (.cells #[.slice A' m1 d1,.slice B' m2 d2,.slice C' n d3] 29 (0,0)):=k1.heap (by have h:=l5 (w.alloc (.cells #[.slice A n1 c1,.slice B n2 c2,.slice C n c3] 29)) (.cells #[.slice A' m1 d1,.slice B' m2 d2,.slice C' n d3] 29);rw[World.size_alloc]at h;exact h);have HOB:=aa Ve;have oG:=aa Vf;clear Ve Vf;have z1:=k1.size;simp only[World.size_alloc]at z1;have K1:ad w w1:=ad.call al k1;obtain⟨np,mj⟩:∃ np,pt.length=np:=⟨_,rfl⟩;have qk4:np<=201:=by rw[<- mj];exact mX.bx
 have pL:=aa mj;have ma:=aa MM;have qfA:=aa mX;rw[mj]at ma qfz⊢;clear MM mX k1 mj oF;go_wp2;go_loopw [5,14] (λsv iv wr=>∃ i:Nat,i<=np/\iv= .int .i64 i/\ag (Fr NM w1 wr)/\ad w wr/\ag (tK es aH os aJ n pt w wr sv i 0)) (λ_ iv _=>np-(intOf iv).toNat)
 case atStart=>exact⟨0,ab,rfl,Fr.ar (ad.refl _),K1,[],qcb _ _ _ _,ao,λm hm=>(by cases hm),λa s r ha=>ab⟩
 case round=>
  obtain⟨i,hi,rfl,cG,kr,hs⟩:=hrel;by_cases an:i<np
  ·obtain⟨r,hr⟩:∃ r,pt[i]? =some r:=⟨_,jc (by rw[pL.o];exact an)⟩;obtain⟨b,off,rfl,hb,hc⟩:=(ma.o.fr cG.o (by unfold NM;decide)).af hr;have Vg:=aa hr;obtain⟨r1,r2⟩:=r;obtain⟨c0',c1'⟩:=Uuh hc;have Hr:=aa (cG.o.block _ _ _ HOB.o (by unfold NM;decide));have Hs:=aa (cG.o.block _ _ _ oG.o (by unfold NM;decide));have a0:wr.cell? ⟨w.heap.size,0,none⟩=some (.slice A n1 c1):=aE Hr.o 0;have bj:wr.cell? ⟨w.heap.size,1,none⟩=some (.slice B n2 c2):=aE Hr.o 1;have a2:wr.cell? ⟨w.heap.size,2,none⟩=some (.slice C n c3):=aE Hr.o 2;have g0:wr.cell? ⟨w.heap.size+1,0,none⟩=some (.slice A' m1 d1):=aE Hs.o 0;have g1:wr.cell? ⟨w.heap.size+1,1,none⟩=some (.slice B' m2 d2):=aE Hs.o 1;have g2:wr.cell? ⟨w.heap.size+1,2,none⟩=some (.slice C' n d3):=aE Hs.o 2;have qfB:=cG.o.size;have y0:w.heap.size<wr.heap.size:=ab;have y1:w.heap.size+1<wr.heap.size:=ab;clear hc hr;go_wp2_with fail
   refine(zh _ _ _ _ _ _ ab ⟨_,_,_,rfl⟩ ⟨_,_,_,rfl⟩).mono ?_;rintro e w2 ⟨rfl,k2⟩;have K2:ad w w2:=(kr.alloc _).call k2;have Vh:ag (w2.heap[wr.heap.size]? =some (.cells #[.string r1,.string r2] 63 (0,0))):=k2.heap (l5 wr _);have dp:ag (tK es aH os aJ n pt w w2 u5 i 0):=hs.o.keep ((ad.refl _).alloc _ |>.call k2);have k3:ad wr w2:=((ad.refl _).alloc _).call k2;clear k2 hs;have Hu:=aa (k3.heap Hr.o);have tL:=aa (k3.heap Hs.o);have nG:ag (Fr NM w1 w2):=cG.o.trans (.ar k3);clear a0 bj a2 g0 g1 g2;have a0:w2.cell? ⟨w.heap.size,0,none⟩=some (.slice A n1 c1):=aE Hu.o 0;have bj:w2.cell? ⟨w.heap.size,1,none⟩=some (.slice B n2 c2):=aE Hu.o 1;have a2:w2.cell? ⟨w.heap.size,2,none⟩=some (.slice C n c3):=aE Hu.o 2;have g0:w2.cell? ⟨w.heap.size+1,0,none⟩=some (.slice A' m1 d1):=aE tL.o 0;have g1:w2.cell? ⟨w.heap.size+1,1,none⟩=some (.slice B' m2 d2):=aE tL.o 1;have g2:w2.cell? ⟨w.heap.size+1,2,none⟩=some (.slice C' n d3):=aE tL.o 2;have z2:=k3.size;obtain⟨RB,hRB⟩:∃ RB,wr.heap.size=RB:=⟨_,rfl⟩;rw[hRB]at Vh qfB y0 y1 z2⊢;go_wp2;go_loopw [5,21] (λsv jv w4=>∃ U:Nat,U<=n/\jv= .int .i64 U/\ag (Fr NM w2 w4)/\ad w w4/\ag (tK es aH os aJ n pt w w4 sv i U)) (λ_ jv _=>n-(intOf jv).toNat)
   case atStart=>exact⟨0,ab,rfl,Fr.ar (ad.refl _),K2,dp⟩
   case round=>
    obtain⟨U,hj,rfl,yg,Hv,DT⟩:=hrel;by_cases UK:U<n
    ·have MN:=aa (yg.o.block _ _ _ Hu.o (by unfold NM;decide));have MO:=aa (yg.o.block _ _ _ tL.o (by unfold NM;decide));have Vi:=aa (yg.o.block _ _ _ Vh.o (by unfold NM;decide));clear a0 bj a2 g0 g1 g2;have a0:wr.cell? ⟨w.heap.size,0,none⟩=some (.slice A n1 c1):=aE MN.o 0;have bj:wr.cell? ⟨w.heap.size,1,none⟩=some (.slice B n2 c2):=aE MN.o 1;have a2:wr.cell? ⟨w.heap.size,2,none⟩=some (.slice C n c3):=aE MN.o 2;have g0:wr.cell? ⟨w.heap.size+1,0,none⟩=some (.slice A' m1 d1):=aE MO.o 0;have g1:wr.cell? ⟨w.heap.size+1,1,none⟩=some (.slice B' m2 d2):=aE MO.o 1;have g2:wr.cell? ⟨w.heap.size+1,2,none⟩=some (.slice C' n d3):=aE MO.o 2;have q0:wr.cell? ⟨RB,0,none⟩=some (.string r1):=aE Vi.o 0;have q1:wr.cell? ⟨RB,1,none⟩=some (.string r2):=aE Vi.o 1;have qk5:=yg.o.size;have KJ:ad w wr:=Hv;have Ap:=aa KJ;have jd:=aa (qft (w.heap.size+1) RB w.heap.size U r1 r2 A B C A' B' C' n1 c1 n2 c2 n c3 m1 d1 m2 d2 d3 es aH os ps aJ a' wr (HR.o.keep KJ) (di.o.keep KJ) yf.o Vd.o a0 bj a2 g0 g1 g2 q0);clear KJ;go_wp2_with fail
     refine jd.o.mono ?_;rintro e w5 ⟨rfl,k5⟩;have a0:=k5.af a0;have bj:=k5.af bj;have a2:=k5.af a2;have q0:=k5.af q0;have q1:=k5.af q1;have z5:=k5.size;have pw:ag (tK es aH os aJ n pt w w5 u5 i U):=DT.o.keep k5;have gv:ag (ad w w5):=Ap.o.call k5
     cases iR:comes es aH os aJ r1 U
     ·have fR:ag (tK es aH os aJ n pt w w5 u5 i (U+1)):=by
       obtain⟨mv,h1,h2⟩:=pw.o;exact⟨mv,h1,h2.no Vg.o iR⟩
      have K5:=Hv.call k5;have MP:ag (Fr NM w2 w5):=yg.o.trans (.ar k5);clear pw DT jd iR k5;go_wp2;go_roundw
      case rel=>exact⟨U+1,ab,aA,MP,K5,fR⟩
      case measure=>simp[intOf];omega
     ·obtain⟨DU,fH⟩:=qfq (ow es os r1);have tM:=Vc yf.o fH
      have fR:ag (∃ mv,w5.ownsRow w.heap.size 198 4 u5 mv.length (mv.flatMap sB)/\mv.length<=2000/\nF es aH os aJ n pt i (U+1) (mv++[⟨U,DU,r1,r2⟩])):=by
       obtain⟨mv,h1,h2⟩:=pw.o;exact⟨mv,h1,by have:=h2.bx;omega,h2.yes Vg.o UK tM⟩
      have zg:ag (∀ w6,ad w w6->Calls Tryz.prog 98 #[.agg #[.slice A n1 c1,.slice B n2 c2,.slice C n c3],.string r1] w6 λe w'=>e= .returned (.int .i64 DU)/\ad w6 w'):=λw6 K6=>
       (UN A B C n1 c1 n2 c2 n c3 es os ps r1 w6 (HR.o.keep K6) yf.o).mono λe w' ⟨r,h1,h2,h3⟩=>⟨by rw[h1,qfr h2 fH],h3⟩
      have MP:ag (Fr NM w2 w5):=yg.o.trans (.ar k5);obtain⟨mv,r8,Mh,AJ⟩:=fR.o;have HMP:=aa AJ;have Aw:=aa r8;obtain⟨MQ,mc,rfl⟩:=ca r8;clear pw DT fR jd iR k5 fH tM AJ r8 Hv;go_wp2;refine bz (λwB=>ad w5 wB/\ad w wB/\wB.cell? ⟨w.heap.size,0,none⟩=some (.slice A n1 c1)/\wB.cell? ⟨w.heap.size,1,none⟩=some (.slice B n2 c2)/\wB.cell? ⟨w.heap.size,2,none⟩=some (.slice C n c3)/\wB.cell? ⟨RB,0,none⟩=some (.string r1)/\wB.cell? ⟨RB,1,none⟩=some (.string r2)) λwB SS=> ?_;obtain⟨au,br,aB,aC,aF,aX,bK⟩:=SS.o _ (ad.refl _);iterate 9 (first|(apply DW.ct;(focus (intro wd hI;obtain⟨ae,ay,ai,aj,aq,az,aK⟩:=SS.o wd hI;go_wp2_with (go_at_call 98;refine(zg.o _ (br.call hI)).mono ?_;rintro e w6 ⟨rfl,cL⟩);exact aP));refine DW.np ?_)|(refine DW.bt av ?_;intro wd hI;obtain⟨ae,ay,ai,aj,aq,az,aK⟩:=SS.o wd hI;go_wp2_with (go_at_call 98;refine(zg.o _ (br.call hI)).mono ?_;rintro e w6 ⟨rfl,cL⟩);refine cu hI SS (λbf SS=> ?_) rfl;obtain⟨au,br,aB,aC,aF,aX,bK⟩:=SS.o _ (ad.refl _)))
      refine DW.tail av λwd hI=> ?_;obtain⟨ae,ay,ai,aj,aq,az,aK⟩:=SS.o wd hI;clear SS;have AK:=aa (qfv hI);have pM:ag (wd.ownsRow w.heap.size 198 4 (.slice MQ mv.length mc) mv.length (mv.flatMap sB)):=ad.own Aw.o ae;have hz9:w.heap.size<=wd.heap.size:=ay.size;clear hI;go_wp2_with (at_builtin;refine wpList_append_own _ rfl _ _ 195 rfl w.heap.size 198 i0 (.agg #[.int .i64 0,.int .i64 0,.string ⟨#[]⟩,.string ⟨#[]⟩]) 4 48 Tryz.underlying195 qfy a7 aY aW rfl ak _ _ _ rfl pM.o _ 1 1 [.int .i64 (U:Int),.int .i64 DU,.string r1,.string r2] rfl rfl AK.o (by intro u hu;simp only[KX,List.not_mem_nil,or_false]at hu;rcases hu with rfl|rfl|rfl|rfl <;>rfl) (by unfold maxLen;omega) ab ab ?_;intro v7 w7 MR Vj _;have tN:ag (w7.ownsRow w.heap.size 198 4 v7 (mv++[(⟨U,DU,r1,r2⟩:Mv)]).length ((mv++[(⟨U,DU,r1,r2⟩:Mv)]).flatMap sB)):=(by rw[<- qfw,qC];exact MR);have K7:ah (Value.slice MQ mv.length mc).ownBlock.toList w5 w7:=(ah.ar ae).trans ((ah.refl _ _).grown Vj (λg hg=> .inl (Option.mem_toList.2 hg)));obtain⟨A7,tO,rfl⟩:=ca MR;clear MR Vj)
      go_roundw
      case rel=>exact⟨U+1,ab,aA,MP.o.trans (ye Aw.o K7),gv.o.but K7 (λx hx=>(Aw.o.lt x (Option.mem_toList.1 hx)).1),_,tN,HMP.o⟩
      case measure=>simp[intOf];omega
    ·obtain rfl:U=n:=ab
     have fR:ag (tK es aH os aJ U pt w wr u5 (i+1) 0):=by
      obtain⟨mv,h1,h2⟩:=DT.o;exact⟨mv,h1,h2.next jJ⟩
     have qfC:ag (Fr NM w1 wr):=nG.o.trans yg.o;clear DT;go_wp2;go_roundw
     case rel=>exact⟨i+1,ab,aA,qfC,Hv,fR⟩
     case measure=>simp[intOf];omega
  ·obtain rfl:i=np:=ab;go_wp2;go_ret;obtain⟨mv,h1,h2⟩:=hs.o;exact⟨_,pt,mv,rfl,Rw.bp h1 qfp ak,qfA.o,by rw[pL.o];exact h2,kr⟩
end Go.Proofs.YtehaoggjlciobaaGreat

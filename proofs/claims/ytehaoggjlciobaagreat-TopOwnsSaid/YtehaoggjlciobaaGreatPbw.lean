/- Part Pbw. -/
import Derived.Test.YtehaoggjlciobaaGreatPbv
import Derived.Test.YtehaoggjlciobaaGreatPbx
import Derived.Test.YtehaoggjlciobaaGreatPan
import Derived.Test.YtehaoggjlciobaaGreatPbb
set_option linter.all false
set_option maxRecDepth 20000
set_option maxHeartbeats 16000000
namespace Go.Proofs.YtehaoggjlciobaaGreat
open Go.Maps Go.RowKit
theorem Rw.bB {α:Type} {w:World} {e:TypeId} {k q:Nat} {f:α->List Value} {l:List α} (h:w.heap[q]? =some (.cells (l.flatMap f).toArray e (0,0))) (hf:∀ a,(f a).length=k) (hl:l.length<=1000):Rw w e k f (.slice (some ⟨q,0,none⟩) l.length l.length) l:=
 ⟨_,_,rfl,CP _,by unfold maxLen;omega,λg=>(by cases g),λp hp=>⟨q,0,_,by injection hp with hp;exact hp.symm,h,λi a ha U u hu=>by
  have:=rV hf l i a ha U u hu;rw[Nat.zero_add,List.getElem?_toArray];exact this⟩⟩
def oQ:ByteArray:=⟨#[97]⟩
def O0:ByteArray:=⟨#[120]⟩
def E9:ee:=⟨1,0,0,0,0,0,oQ,O0,.slice none 0 0,.slice none 0 0,.slice none 0 0,.slice none 0 0⟩
def BA:ee:=⟨3,0,0,0,0,0,oQ,⟨#[]⟩,.slice none 0 0,.slice none 0 0,.slice none 0 0,.slice none 0 0⟩
theorem Y4:Let oQ:=⟨97,ab,ab,rfl⟩
theorem qiX:lE [] [3] 0=[(nil,nil)]:=ak
theorem qiY:b4 (lE [] [3] ((0:Nat):Int)) oQ:=by
 rw[show((0:Nat):Int)=0 from rfl,qiX];exact⟨_,At.2 rfl,(BL (k:=oQ) Gu (i:=0) (CP 0)).trans ak⟩
theorem qiZ:eA [] [3] [-1,0] ([-1,0]:List Int).length:=⟨⟨Gu,rfl,λi hi=>by
 obtain rfl:i=0:=by simp at hi;omega
 exact⟨ak,ak⟩,ak,ak⟩,(qd.two).tree ak⟩
theorem sT.base {B:Int} {P:Nat->my->Prop} {g g':aG} {o:ee} {k c s t:Nat} {aH:List Nat} {aJ a':List Int} {er:Int} {fl:List ax} (h:sT B P g o k c s t aH aJ a' er fl g') (h1:1<=k) (h2:k<=12):g'.w0=g.w0:=by
 rcases(by omega:k=1∨k=2∨k=3∨k=4∨k=5∨k=6∨k=7∨k=8∨k=9∨k=10∨k=11∨k=12)with rfl|rfl|rfl|rfl|rfl|rfl|rfl|rfl|rfl|rfl|rfl|rfl
 ·obtain⟨i,_,h⟩:=h;rcases h with ⟨_,_,rfl,_⟩|⟨_,_,v,σ',ev,p',_,_,_,_,_,_,_,_,_,rfl⟩ <;>rfl
 ·obtain⟨i,_,h⟩:=h;rcases h with ⟨_,_,rfl,_⟩|⟨_,_,v,σ',ev,p',_,_,_,_,_,_,_,_,_,rfl⟩ <;>rfl
 ·obtain⟨i,_,h⟩:=h;rcases h with ⟨_,_,rfl,_⟩|⟨_,_,x,b,ev,_,_,_,_,_,_,_,⟨_,_,rfl⟩|⟨_,_,p',_,rfl⟩⟩ <;>rfl
 ·obtain⟨_,_,rfl⟩:=h;rfl
 ·obtain⟨_,h⟩:=h;rcases h with ⟨_,rfl⟩|⟨_,_,_,_,rfl⟩ <;>rfl
 ·obtain⟨i,_,h⟩:=h;rcases h with ⟨_,_,rfl⟩|⟨_,_,lH,b,rfl⟩ <;>rfl
 ·obtain⟨i,_,h⟩:=h;rcases h with ⟨_,_,lH,rfl⟩|⟨_,ds,low,p',bM,lH,pa,pn,pc,_,_,_,_,_,_,_,rfl⟩ <;>rfl
 ·rcases h with ⟨_,_,rfl⟩|⟨_,_,_,_,⟨_,_,rfl⟩|⟨_,_,_,v,yt,σ',_,_,_,_,_,_,_,_,rfl⟩⟩ <;>rfl
 ·obtain⟨_,h⟩:=h;rcases h with rfl|⟨_,_,rfl⟩ <;>rfl
 ·rcases h with ⟨_,_,rfl⟩|⟨_,i,x,σ',_,_,_,_,rfl⟩ <;>rfl
 ·obtain⟨_,_,σ',_,rfl⟩:=h;rfl
 ·obtain⟨_,h,_⟩:=h;rcases h with ⟨_,rfl⟩|⟨_,_,_,_,_,_,l,σ',_,_,rfl⟩ <;>rfl
structure O1 (g:aG) (v:ax):Prop where
 val:v.val=O0
 L:(g.σ 0).L oQ=[v]
 own:b4 (g.σ 0).own oQ
 bY:(g.ss 0).1=((0:Nat):Int)
theorem qi0 {w:World} {g g1:aG} {P:Nat->my->Prop} {er:Int} {fl:List ax} (hn:Jh w [] [3] [-1,0] g) (h:sT 0 P g E9 1 0 0 0 [] [] [] er fl g1∨er≠0/\fl=[]/\g1=g/\(g.ss 0).1= -1):er=0/\∃ v,O1 g1 v:=by
 obtain⟨n1,n2,n3,n4,n5,n6,n7,n8,n9,_⟩:=hn;have hs:=n6 0 ab;have hσ:=n4 0 ak;have gI:(g.ss 0).1=0:=by rw[hs];rfl
 rcases h with ⟨i,hi,h⟩|⟨_,_,_,h⟩
 ·obtain rfl:i=0:=by rw[gI]at hi;omega
  rcases h with ⟨_,_,_,bW⟩|⟨he,_,v,σ',ev,p',rfl,hw,_,_,_,_,_,_,_,rfl⟩
  ·exfalso
   rcases bW with h|⟨s,dp,h⟩|h
   ·apply h;rw[hσ];exact qiY
   ·apply h;rw[n5];exact(by decide:(0:Nat)-0<8)
   ·apply h
    rw[hσ,hs];refine⟨ak,⟨⟨λi d hi hd=> ?_,λi d e hi hd=> ?_⟩,ak⟩,ak,λh=>by cases h⟩
    ·simp at hd
    ·simp at hd
  ·refine⟨he,v,?_⟩;obtain⟨w1,w2,w3,w4,w5,w6,w7,w8,w9,L',b,hp,rfl⟩:=hw;have hL:(g.σ 0).L oQ=[]:=by rw[hσ];rfl
   refine⟨w3,?_,?_,?_⟩
   ·show((ed g.σ 0 _) 0).L oQ=[v]
    rw[nO];show L' oQ=[v]
    have hk:v.key=oQ:=w2;rcases hp with ⟨h1,_⟩|⟨_,l',rfl,h1⟩
    ·rw[hk]at h1;exact absurd w1 h1
    ·rw[hk]at h1⊢;rw[L8];rw[hL]at h1;rcases h1 with ⟨_,_,x,hx,_⟩|⟨_,i,rfl⟩
     ·cases hx
     ·simp
   ·show b4 ((ed g.σ 0 _) 0).own oQ
    rw[nO];exact w1
   ·exact congrArg Prod.fst (nO g.ss 0 (((0:Nat):Int),p'))
 ·rw[gI]at h;cases h
theorem qi1 {B:Int} {g g1:aG} {v:ax} {P:Nat->my->Prop} {er:Int} {fl:List ax} (hn:O1 g v) (h:sT B P g BA 3 0 0 0 [] [] [] er fl g1∨er≠0/\fl=[]/\g1=g/\(g.ss 0).1= -1):fl=[v]:=by
 rcases h with ⟨i,hi,h⟩|⟨_,_,_,h⟩
 ·obtain rfl:i=0:=by rw[hn.bY]at hi;omega
  rcases h with ⟨_,_,_,h⟩|⟨_,_,x,b,ev,ht,_,_,_,_,_,_,h⟩
  ·exact absurd hn.own h
  ·have hk:BA.key=oQ:=rfl;rw[hk,hn.L]at ht;rcases ht with ⟨rfl,U,hj,hx⟩|⟨_,_,hx⟩
   ·obtain rfl:U=0:=by simp at hj;omega
    simp at hx;subst hx;rcases h with ⟨h,_⟩|⟨_,h,_⟩
    ·cases h
    ·exact h
   ·have:=hx 0 ao;simp at this
 ·rw[hn.bY]at h;cases h
def yT (gb:Nat) (g0:aG):Nat->World->List rG->Prop
 |0,W,ys=>ys=[]/\aT W 0 gb g0
 |1,W,ys=>∃ a g1 v,ys=[a]/\aT W 2 gb g1/\O1 g1 v/\g1.w0=g0.w0
 |2,W,ys=>∃ a b x g2,ys=[a,b]/\Rw W 48 6 a8 (.slice b.uw b.fn b.gU) [x]/\x.val=O0/\aT W 4 gb g2/\g2.w0=g0.w0
 |_,_,_=>False
theorem qi2 {gb:Nat} {g0:aG} {U:Nat} {W W2:World} {ys:List rG} (h:yT gb g0 U W ys) (hk:ad W W2):yT gb g0 U W2 ys:=by
 match U,h with
 |0,⟨h1,h2⟩=>exact⟨h1,h2.kept hk⟩
 |1,⟨a,g1,v,h1,h2,h3⟩=>exact⟨a,g1,v,h1,h2.kept hk,h3⟩
 |2,⟨a,b,x,g2,h1,h2,h3,h4,h5⟩=>exact⟨a,b,x,g2,h1,h2.kept hk,h3,h4.kept hk,h5⟩
theorem aT.O2 {w w2:World} {B:Int} {gb:Nat} {g:aG} {S:List Nat} (h:aT w B gb g) (hb:ah S w w2) (hS:∀ y∈S,∃ cur,w.heap[y]? =some (.cells cur 42 (0,0))):aT w2 B gb g:=by
 obtain⟨V,h1,h2⟩:=h;refine⟨V,hb.heap h1 λhy=> ?_,h2.other hb λy hy _=> ?_⟩
 ·obtain⟨cur,hc⟩:=hS _ hy;rw[GB]at h1;exact fB h1 hc ak rfl
 ·obtain⟨cur,hc⟩:=hS _ hy;exact⟨_,_,hc,.inr ak⟩
theorem qi3 {gb:Nat} {g0:aG} {U:Nat} {W W2:World} {ys:List rG} {S:List Nat} (h:yT gb g0 U W ys) (hb:ah S W W2) (hS:∀ y∈S,∃ cur,W.heap[y]? =some (.cells cur 42 (0,0))):yT gb g0 U W2 ys:=by
 match U,h with
 |0,⟨h1,h2⟩=>exact⟨h1,h2.O2 hb hS⟩
 |1,⟨a,g1,v,h1,h2,h3⟩=>exact⟨a,g1,v,h1,h2.O2 hb hS,h3⟩
 |2,⟨a,b,x,g2,h1,h2,h3,h4,h5⟩=>exact⟨a,b,x,g2,h1,h2.fr (P:=λe=>e=48) (Fr.gn hb λy hy cur e he hp=>by
   obtain⟨jb,hc⟩:=hS y hy;rw[hc]at he;simp only[Option.some.injEq,Obj.cells.injEq]at he;obtain⟨_,rfl,_⟩:=he;exact absurd hp ak) rfl,h3,h4.O2 hb hS,h5⟩
theorem qi4 {w:World} {gb:Nat} {g0:aG} (hn:Jh w [] [3] [-1,0] g0) (U:Nat) (o:ee) (W:World) (ys:List rG) (ho:[E9,BA][U]? =some o) (kK:yT gb g0 U W ys):
  Calls Tryz.prog 9 #[.pointer (some ⟨gb,0,none⟩),dx o] W λe W'=>∃ a:rG,e= .returned (gm a.er (.slice a.uw a.fn a.gU))/\yT gb g0 (U+1) W' (ys++[a])/\bN W W':=by
 match U,ho,kK with
 |0,ho,⟨h1,h2⟩=>
  simp only[List.getElem?_cons_zero,Option.some.injEq]at ho;subst ho h1;refine(OS 0 (λ_ _=>True) gb g0 E9 1 0 0 0 [] [] [] [] W h2 ab ab rfl ab ab rfl ab rfl rfl ab ab Y4 ak (Rw.nil _) (λk hk=>by cases hk) ak (λ_ U d hd=> ?_) (λh=>ab)).mono ?_
  ·have aV:=hn.2.2.2.2.1;rw[aV]at hd;cases hd
  ·rintro e w' ⟨er,fv,fl,g',rfl,hr,hg,hk,hf⟩;obtain⟨A,c,rfl,_,_⟩:=hr.form;obtain⟨_,v,hv⟩:=qi0 hn hk;have hw:g'.w0=g0.w0:=hk.elim (λh=>h.base ab ab) λh=>by rw[h.2.2.1]
   exact⟨⟨er,A,fl.length,c,fl⟩,rfl,⟨_,g',v,rfl,hg,hv,hw⟩,hf⟩
 |1,ho,⟨a,g1,v,h1,h2,h3,h4⟩=>
  simp only[List.getElem?_cons_zero,List.getElem?_cons_succ,Option.some.injEq]at ho;subst ho h1;refine(OS 2 (λ_ _=>True) gb g1 BA 3 0 0 0 [] [] [] [] W h2 ab ab rfl ab ab rfl ab rfl rfl ab ab Y4 ak (Rw.nil _) (λk hk=>by cases hk) ak (λhf U d hd=> ?_) (λh=>ab)).mono ?_
  ·exact absurd hf (by unfold de;simp)
  ·rintro e w' ⟨er,fv,fl,g',rfl,hr,hg,hk,hf⟩;obtain⟨A,c,rfl,_,_⟩:=hr.form;have hw:g'.w0=g0.w0:=(hk.elim (λh=>h.base ab ab) λh=>by rw[h.2.2.1]).trans h4;obtain rfl:=qi1 h3 hk;exact⟨⟨er,A,1,c,[v]⟩,rfl,⟨a,_,v,g',rfl,hr,h3.val,hg,hw⟩,hf⟩
theorem qi5 (w:World):Calls Tryz.prog 5 #[] w λe w'=>e= .returned (.bool true)/\ad w w':=by
 go_in;go_wp2_with fail
 have bR:fm (((w.alloc (.cells #[.string ⟨#[]⟩,.string ⟨#[]⟩] 63)).alloc (.cells #[.int .i64 3] 3)).alloc (.cells #[.int .i64 (-1),.int .i64 0] 3)) (.slice (some ⟨w.heap.size,0,none⟩) 1 1) (.slice (some ⟨w.heap.size+1,0,none⟩) 1 1) (.slice (some ⟨w.heap.size+1+1,0,none⟩) 2 2) [] [3] [-1,0]:=
  ⟨Rw.one (a:=(nil,nil)) ((((ad.refl _).alloc _).alloc _).heap (l5 w _)),Rw.one (a:=(3:Int)) (((ad.refl _).alloc _).heap (ea ao)),Rw.bB (l:=[(-1:Int),0]) (ea ao) (λ_=>rfl) ak⟩
 have oH:ag (ad w (((w.alloc (.cells #[.string ⟨#[]⟩,.string ⟨#[]⟩] 63)).alloc (.cells #[.int .i64 3] 3)).alloc (.cells #[.int .i64 (-1),.int .i64 0] 3))):=(((ad.refl _).alloc _).alloc _).alloc _;generalize (((w.alloc (.cells #[.string ⟨#[]⟩,.string ⟨#[]⟩] 63)).alloc (.cells #[.int .i64 3] 3)).alloc (.cells #[.int .i64 (-1),.int .i64 0] 3))=W0 at*;refine(YH _ _ _ [] [3] [-1,0] W0 bR qiZ).mono ?_;rintro e w1 ⟨gb,g0,rfl,hg,hn,k1⟩;have HG:=aa hg;have HN:=aa hn;have cx:=aa k1;clear hg hn k1 bR;go_wp2_with fail
 have hblk:=l5 w1 (.cells #[.int .i64 1,.int .i64 0,.int .i64 0,.int .i64 0,.int .i64 0,.int .i64 0,.string ⟨#[97]⟩,.string ⟨#[120]⟩,.slice none 0 0,.slice none 0 0,.slice none 0 0,.slice none 0 0,.int .i64 3,.int .i64 0,.int .i64 0,.int .i64 0,.int .i64 0,.int .i64 0,.string ⟨#[97]⟩,.string ⟨#[]⟩,.slice none 0 0,.slice none 0 0,.slice none 0 0,.slice none 0 0] 36);refine(qiW gb _ 2 [E9,BA] _ (yT gb g0) (Rw.bB (l:=[E9,BA]) hblk (λ_=>rfl) ak) ak (λo ho=> ?_) ⟨rfl,HG.o.kept ((ad.refl _).alloc _)⟩ (λU W W2 ys h k=>qi2 h k) (λU W W2 ys S h hb hS=>qi3 h hb hS) (λU o W ys ho kK=>qi4 HN.o U o W ys ho kK)).mono ?_
 ·simp only[KX,List.not_mem_nil,or_false]at ho;rcases ho with rfl|rfl <;>exact⟨rfl,rfl,rfl,rfl⟩
 rintro e w2 ⟨v,ys,rfl,kK,hl,hr,hf⟩;obtain⟨⟨e1,fa1,fn1,fc1,fl1⟩,⟨e2,fa2,fn2,fc2,Ix⟩,x,g2,rfl,hx,Y5,dm,fM⟩:=kK
 have Y6:ad w w2:=by
  obtain⟨V,_,mE⟩:=dm;have uY:g2.w0=W0:=fM.trans HN.o.2.2.2.2.2.2.2.2.2;have hb:=mE.old.below (by rw[uY];exact(Fr.ar (cx.o.alloc _)).trans hf);rw[uY]at hb;exact oH.o.call ⟨hb.os,hb.tape,hb.output,hb.size,hb.block⟩
 have qi6:=aa Y6;obtain⟨YW,OV,hyv,Y7,_⟩:=hr.form;have Y7:2<=OV:=Y7;subst hyv;obtain⟨Wc,qi7,rfl,ki,E'⟩:=hr.af (i:=1) rfl;obtain rfl:fn2=1:=(Rw.len hx).symm;obtain⟨xb,R2,rfl,dN,Ja⟩:=hx.af (i:=0) rfl;have y1:=E' 1 _ rfl;have z1:=Ja 1 _ rfl
 have qlK:1<=fc2:=by
  obtain⟨A9,lQ,h9,h8,_⟩:=hx.form;simp only[Value.slice.injEq]at h9;have h8:1<=lQ:=h8;omega
 have Y8:x.val=⟨#[120]⟩:=Y5;rw[Y8]at z1;clear hr hx E' Ja dm fM Y6 hf Y8 Y5;go_wp2_with fail
 go_ret;exact⟨rfl,qi6.o⟩
theorem Y9 (o:Int) (s:Nat) (w:World) (h0:0<=o) (h1:o<64) (hs:s<6):
  Calls Tryz.prog 44 #[.int .i64 o,.int .i64 s] w λe w'=>e= .returned (.bool (cq o s))/\ad w w':=by
 rw[R8 h0 _ hs];have h:=qcr o.toNat s w ab hs;rwa [show((o.toNat:Nat):Int)=o by omega]at h
theorem qi8 (A B C:Option Addr) (n1 c1 n2 c2 n3 c3:Nat) (es:List Nat) (os ps:List Int) (s:Nat) (w:World) (hs:s<6) (hr:fY w A n1 c1 B n2 c2 C n3 c3 (bw es) os ps) (hf:Fit es os n3):
  Calls Tryz.prog 18 #[.agg #[.slice A n1 c1,.slice B n2 c2,.slice C n3 c3],.int .i64 s] w λe w'=>∃ D c4 b0,e= .returned (.slice D (dd es os s n1).length c4)/\w'.ownsRow b0 63 2 (.slice D (dd es os s n1).length c4) (dd es os s n1).length (hQ (dd es os s n1))/\ad w w':=by
 obtain⟨i0,hi,a7,aY,aW⟩:=ql0 rU;have HI:=aa hi;have HR:=aa hr;have HF:=aa hf;have h1:n1=es.length+1:=by have:=hr.rs.1;rw[ju]at this;omega
 have h2:n2=n1:=by have:=hr.os.1;have:=hf.len;omega
 have fG:=hf.up.cV;obtain⟨ob,oo,rfl,gP⟩:=hr.os.2.2.2.2 ab;obtain⟨rb,ro,rfl,sy⟩:=hr.rs.2.2.2.2 ab;have jx:ag (∀ i,i<n2->w.cell? ⟨ob,oo+i,none⟩=some (.int .i64 (oa os i))):=gP
 have vx:ag (∀ i,i<n1->w.cell? ⟨rb,ro+i*2,none⟩=some (.string (fr es i))/\w.cell? ⟨rb,ro+i*2+1,none⟩=some (.string («to» es i))):=λi hi=>by
  have:=sy i hi;rwa [wH ab]at this
 have HB:ag (∀ i,i<n1->0<=oa os i/\oa os i<64):=λi hi=>wL hf ab;have hb:=hr.nX;have og:n1<=c1:=hr.rs.2.1;have cz:n2<=c2:=hr.os.2.1;have UR:n1<=7:=ab;clear hr hf gP sy hi h1 fG;subst h2;go_in;go_wp2_with fail
 refine(KZ _ _ C n2 c1 n2 c2 n3 c3 es os ps _ (HR.o.keep al) HF.o).mono ?_;rintro e w1 ⟨rfl,k1⟩;have K1:ad w w1:=ad.call al k1;have e0:w1.cell? ⟨w.heap.size,0,none⟩=some (.slice (some ⟨rb,ro,none⟩) n2 c1):=k1.af (by go_simp);have e1:w1.cell? ⟨w.heap.size,1,none⟩=some (.slice (some ⟨ob,oo,none⟩) n2 c2):=k1.af (by go_simp);go_wp2_with fail
 go_loopw [6,7] (λov iv wr=>∃ (U l:Nat) (v:Value),ov=v/\U<=n2/\iv= .int .i64 U/\(dd es os s U).length=l/\wr.ownsRow w1.heap.size 63 2 v l (hQ (dd es os s U))/\ad w1 wr) (λ_ iv _=>n2-(intOf iv).toNat)
 case atStart=>exact⟨0,0,_,rfl,ab,rfl,rfl,qcb _ _ _ _,ad.refl w1⟩
 case round=>
  obtain⟨U,l,v,rfl,hj,rfl,hl,ho,kr⟩:=hrel;have fG:l<=U:=by rw[<- hl];exact Ho es os s U
  have HL:=aa hl;have HO:=aa ho;have e0:=kr.af e0;have e1:=kr.af e1;have q1:w.heap.size<wr.heap.size:=Aa wr _ e1;have g0:decide (0<=(s:Int))=true:=ao;have g6:decide ((s:Int)<6)=true:=by simp;omega
  clear hl ho;by_cases an:U<n2
  ·have co:wr.cell? ⟨ob,oo+U,none⟩=some (.int .i64 (oa os U)):=kr.af (K1.af (jx.o U an));have DN:wr.cell? ⟨rb,ro+U*2,none⟩=some (.string (fr es U)):=kr.af (K1.af (vx.o U an).1);have DO:wr.cell? ⟨rb,ro+U*2+1,none⟩=some (.string («to» es U)):=kr.af (K1.af (vx.o U an).2);have q2:ob<wr.heap.size:=Aa wr _ co;have dA:=HB.o U an;have gB:ag (cq (oa os U) s=false->dd es os s (U+1)=dd es os s U):=UP;have na:ag (cq (oa os U) s=true->dd es os s (U+1)=dd es os s U++[(fr es U,«to» es U)]):=UO;generalize oa os U=o at*;generalize fr es U=f at*;generalize «to» es U=t at*;go_wp2_with fail
   refine(Y9 o s _ dA.1 dA.2 hs).mono ?_;rintro e w2 ⟨rfl,k2⟩;have K2:ad w1 w2:=ad.call al k2;have e0:=k2.af e0;have r1:=k2.af DN;have r2:=k2.af DO
   cases hv:cq o s
   ·have hn:=aa (gB.o hv);have dC:=aa (ad.own HO.o k2);clear hv;go_wp2_with fail
    go_roundw
    case rel=>exact⟨U+1,l,_,rfl,ab,aA,by rw[hn.o];exact HL.o,by rw[hn.o];exact dC.o,K2⟩
    case measure=>simp[intOf];omega
   ·have hn:=aa (na.o hv);have dC:=aa (ad.own HO.o k2);have lY:ag ((hQ (dd es os s U)).length=l*2):=by unfold ag;rw[B0,HL.o]
    have hz:w1.heap.size<=w2.heap.size:=K2.size;clear hv;go_wp2_with (at_builtin;refine wpList_append_own _ rfl _ _ 27 rfl w1.heap.size 63 i0 (.agg #[.string ⟨#[]⟩,.string ⟨#[]⟩]) 2 32 Tryz.underlying27 HI.o a7 aY aW rfl ak _ l _ rfl (dC.o.alloc _) ⟨w2.heap.size,0,none⟩ 1 1 [.string f,.string t] rfl rfl (JY _ _ _ _) (by simp[Value.oneCell']) (by unfold maxLen;omega) ab (by simp;omega) ?_;intro v3 w3 bE cD _;have kY:=dC.o.lt;have K3:ad w1 w3:=(K2.alloc _).grown cD (λg hg=>(kY g hg).1);rw[JX _ (f,t)]at bE;have eR:=aa bE;clear bE)
    go_roundw
    case rel=>exact⟨U+1,l+1,_,rfl,ab,aA,by rw[hn.o,qC,HL.o];rfl,by rw[hn.o];exact eR.o,K3⟩
    case measure=>simp[intOf];omega
  ·obtain rfl:U=n2:=ab;obtain⟨A2,c4,rfl,cT⟩:=dL.bp HO.o;clear cT;go_wp2_with fail
   go_ret;exact⟨A2,c4,w1.heap.size,by rw[HL.o];rfl,by rw[HL.o];exact HO.o,K1.call kr⟩
theorem qi9 (A B C:Option Addr) (n1 c1 n2 c2 n3 c3:Nat) (es:List Nat) (os ps:List Int) (s:Nat) (k:ByteArray) (w:World) (hs:s<6) (hr:fY w A n1 c1 B n2 c2 C n3 c3 (bw es) os ps) (hf:Fit es os n3):
  Calls Tryz.prog 43 #[.agg #[.slice A n1 c1,.slice B n2 c2,.slice C n3 c3],.int .i64 s,.string k] w λe w'=>e= .returned (.bool (cq (oa os (bV es (hv k))) s))/\ad w w':=by
 have HR:=aa hr;have HF:=aa hf;have ho:=wL hf (i:=bV es (hv k)) (by have:=nV es (hv k);omega);obtain⟨o,oX⟩:∃ o,oa os (bV es (hv k))=o:=⟨_,rfl⟩;have HO:=aa oX;rw[oX]at ho⊢;clear oX;have g0:decide (0<=(s:Int))=true:=ao;have g6:decide ((s:Int)<6)=true:=by simp;omega
 clear hr hf;go_in;go_wp2_with fail
 refine(qcw A B C n1 c1 n2 c2 n3 c3 es os ps k _ (HR.o.keep al) HF.o).mono ?_;rintro e w1 ⟨rfl,k1⟩;rw[HO.o];go_wp2_with fail
 refine(Y9 o s _ ho.1 ho.2 hs).mono ?_;rintro e w2 ⟨rfl,k2⟩;go_wp2_with fail
 go_ret;exact⟨rfl,(ad.call al k1).call k2⟩
theorem qi' (A B C:Option Addr) (n1 c1 n2 c2 n3 c3:Nat) (es:List Nat) (os ps:List Int) (k:ByteArray) (w:World) (hr:fY w A n1 c1 B n2 c2 C n3 c3 (bw es) os ps) (hf:Fit es os n3):
  Calls Tryz.prog 17 #[.agg #[.slice A n1 c1,.slice B n2 c2,.slice C n3 c3],.string k] w λe w'=>∃ r:Int,e= .returned (.int .i64 r)/\0<=r/\ad w w':=by
 have HR:=aa hr;have HF:=aa hf
 have hex:ag (∃ i:Nat,i<6/\cq (oa os (bV es (hv k))) i=true):=by
  have h1:=hf.own (bV es (hv k)) (by have:=nV es (hv k);omega);have ho:=wL hf (i:=bV es (hv k)) (by have:=nV es (hv k);omega);generalize oa os (bV es (hv k))=o at*;obtain⟨M,rfl⟩:=Int.eq_ofNat_of_zero_le ho.1;have b8:∀ x:Fin 64,1<=(x:Nat)->∃ i:Fin 6,(x:Nat)/2 ^ (i:Nat)%2=1:=ak;obtain⟨i,hi⟩:=b8 ⟨M,ab⟩ (by have:=h1.1;simp;omega);refine⟨i,i.2,?_⟩;rw[R8 (o:=(M:Int)) ab _ i.2];simpa using hi
 clear hr hf;go_in;go_wp2_with fail
 go_loopw [5] (λiv wr=>∃ i:Nat,i<=6/\iv= .int .i64 i/\ad w wr/\wr.heap[w.heap.size]? =some (.cells #[.slice A n1 c1,.slice B n2 c2,.slice C n3 c3] 29 (0,0))/\ag (∀ U:Nat,U<i->cq (oa os (bV es (hv k))) U=false)) (λiv _=>6-(intOf iv).toNat)
 case atStart=>exact⟨0,ab,rfl,al,l5 _ _,λU hj=>ab⟩
 case round=>
  obtain⟨i,hi,rfl,kr,hx,bW⟩:=hrel;have e0:=cell_of_row _ _ 0 _ _ (0,0) hx;have e1:=cell_of_row _ _ 1 _ _ (0,0) hx;have e2:=cell_of_row _ _ 2 _ _ (0,0) hx;simp only[List.getElem?_toArray,List.getElem?_cons_zero,List.getElem?_cons_succ]at e0 e1 e2;have HX:=aa hx;clear hx;by_cases an:i<6
  ·go_wp2_with fail
   refine(qi9 A B C n1 c1 n2 c2 n3 c3 es os ps i k _ an (HR.o.keep kr) HF.o).mono ?_;rintro e w2 ⟨rfl,k2⟩;have K2:=kr.call k2;have iE:=k2.heap HX.o
   cases cW:cq (oa os (bV es (hv k))) i
   ·have zO:ag (∀ U:Nat,U<i+1->cq (oa os (bV es (hv k))) U=false):=λU hj=>by
     rcases R6 U i with g|g
     ·exact bW.o U g
     ·obtain rfl:U=i:=ab;exact cW
    clear cW;go_wp2_with fail
    go_roundw
    case rel=>exact⟨i+1,ab,aA,K2,iE,zO⟩
    case measure=>simp[intOf];omega
   ·go_wp2_with fail
    go_ret;exact⟨i,rfl,ab,K2⟩
  ·obtain rfl:i=6:=ab;obtain⟨U,hj,yL⟩:=hex.o;rw[bW.o U hj]at yL
   cases yL
end Go.Proofs.YtehaoggjlciobaaGreat

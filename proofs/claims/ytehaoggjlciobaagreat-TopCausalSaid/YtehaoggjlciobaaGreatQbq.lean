/- Part 33 of 40. -/
import Derived.Test.YtehaoggjlciobaaGreatQbp
set_option linter.all false
set_option maxRecDepth 20000
set_option maxHeartbeats 16000000
namespace Go.Proofs.YtehaoggjlciobaaGreat
open Go.Maps Go.RowKit Go.Proofs.Tryz
variable {B er:Int} {S:List Nat} {fl:List ax} {ys:List rG} {U gb k:Nat} {P:Nat->my->Prop} {W2 w:World} {g0 g1:aG}
theorem Rw.bB {α:Type} {e:TypeId} {q:Nat} {f:α->List Value} {l:List α} (h:w.heap[q]? =some (.cells (l.flatMap f).toArray e (0,0))) (hf:∀ a,(f a).length=k) (hl:l.length<=1000):Rw w e k f (.slice (some ⟨q,0,none⟩) l.length l.length) l:=
 ⟨_,_,rfl,CP _,by unfold maxLen;omega,λg=>(by cases g),λp hp=>⟨q,0,_,by injection hp with hp;exact hp.symm,h,λi a ha U u hu=>by
  have:=rV hf l i a ha U u hu;rw[Nat.zero_add,List.getElem?_toArray];exact this⟩⟩
def oQ:ByteArray:=⟨#[97]⟩
def O0:ByteArray:=⟨#[120]⟩
def E9:ee:=⟨1,0,0,0,0,0,oQ,O0,.slice none 0 0,.slice none 0 0,.slice none 0 0,.slice none 0 0⟩
def BA:ee:=⟨3,0,0,0,0,0,oQ,⟨#[]⟩,.slice none 0 0,.slice none 0 0,.slice none 0 0,.slice none 0 0⟩
theorem Y4:Let oQ:=⟨97,ab,ab,rfl⟩
theorem qiX:lE [] [3] 0=[(nil,nil)]:=ak
theorem qiY:b4 (lE [] [3] ((0:Nat):Int)) oQ:=by
 rw[show((0:Nat):Int)=0 from rfl,qiX];exact⟨_,At.2 rfl,(BL (k:=oQ) Gu (i:=0) (CP 0)).trans ak⟩
theorem qiZ:eA [] [3] [-1,0] ([-1,0]:List Int).length:=⟨⟨Gu,rfl,λi hi=>by
 obtain rfl:i=0:=by simp at hi;omega
 exact⟨ak,ak⟩,ak,ak⟩,(qd.two).tree ak⟩
theorem sT.base {g g':aG} {qD:ee} {c s t:Nat} {aH:List Nat} {aJ a':List Int} (h:sT B P g qD k c s t aH aJ a' er fl g') (h1:1<=k) (h2:k<=12):g'.w0=g.w0:=by
 rcases(by omega:k=1∨k=2∨k=3∨k=4∨k=5∨k=6∨k=7∨k=8∨k=9∨k=10∨k=11∨k=12)with rfl|rfl|rfl|rfl|rfl|rfl|rfl|rfl|rfl|rfl|rfl|rfl
 ·obtain⟨i,_,h⟩:=h;rcases h with ⟨_,_,rfl,_⟩|⟨_,_,v,σ',ev,p',_,_,_,_,_,_,_,_,_,rfl⟩ <;>rfl
 ·obtain⟨i,_,h⟩:=h;rcases h with ⟨_,_,rfl,_⟩|⟨_,_,v,σ',ev,p',_,_,_,_,_,_,_,_,_,rfl⟩ <;>rfl
 ·obtain⟨i,_,h⟩:=h;rcases h with ⟨_,_,rfl,_⟩|⟨_,_,x,b,ev,_,_,_,_,_,_,_,⟨_,_,rfl⟩|⟨_,_,p',_,rfl⟩⟩ <;>rfl
 ·obtain⟨_,_,rfl⟩:=h;rfl
 ·obtain⟨_,h⟩:=h;rcases h with ⟨_,rfl⟩|⟨_,_,_,_,rfl⟩ <;>rfl
 ·obtain⟨i,_,h⟩:=h;rcases h with ⟨_,_,rfl⟩|⟨_,_,lH,b,rfl⟩ <;>rfl
 ·obtain⟨i,_,h⟩:=h;rcases h with ⟨_,_,lH,rfl⟩|⟨_,ds,low,p',bM,lH,pa,pn,pc,_,_,_,_,_,_,_,rfl⟩ <;>rfl
 ·rcases h with ⟨_,_,rfl⟩|⟨_,_,_,_,⟨_,_,rfl⟩|⟨_,_,_,v,yt,σ',_,_,_,_,_,_,_,_,rfl⟩⟩ <;>rfl
 ·obtain⟨_,h⟩:=h;rcases h with rfl|⟨_,_,rfl⟩ <;>rfl
 ·rcases h with ⟨_,_,rfl⟩|⟨_,i,x,σ',_,_,_,_,rfl⟩ <;>rfl
 ·obtain⟨_,_,σ',_,rfl⟩:=h;rfl
 ·obtain⟨_,h,_⟩:=h;rcases h with ⟨_,rfl⟩|⟨_,_,_,_,_,_,l,σ',_,_,rfl⟩ <;>rfl
structure O1 (g:aG) (v:ax):Prop where
 val:v.val=O0
 L:(g.σ 0).L oQ=[v]
 own:b4 (g.σ 0).own oQ
 bY:(g.ss 0).1=((0:Nat):Int)
theorem qi0 {g:aG} (hn:Jh w [] [3] [-1,0] g) (h:sT 0 P g E9 1 0 0 0 [] [] [] er fl g1∨er≠0/\fl=[]/\g1=g/\(g.ss 0).1= -1):er=0/\∃ v,O1 g1 v:=by
 obtain⟨n1,n2,n3,n4,n5,n6,n7,n8,n9,_⟩:=hn;have hs:=n6 0 ab;have hσ:=n4 0 ak;have gI:(g.ss 0).1=0:=by rw[hs];rfl
 rcases h with ⟨i,hi,h⟩|⟨_,_,_,h⟩
 ·obtain rfl:i=0:=by rw[gI]at hi;omega
  rcases h with ⟨_,_,_,bW⟩|⟨he,_,v,σ',ev,p',rfl,hw,_,_,_,_,_,_,_,rfl⟩
  ·exfalso
   rcases bW with h|⟨s,dp,h⟩|h
   ·apply h;rw[hσ];exact qiY
   ·apply h;rw[n5];exact(by decide:(0:Nat)-0<8)
   ·apply h
    rw[hσ,hs];refine⟨ak,⟨⟨λi d hi hd=> ?_,λi d e hi hd=> ?_⟩,ak⟩,ak,λh=>by cases h⟩
    ·simp at hd
    ·simp at hd
  ·refine⟨he,v,?_⟩;obtain⟨w1,w2,w3,w4,w5,w6,w7,w8,w9,L',b,hp,rfl⟩:=hw;have hL:(g.σ 0).L oQ=[]:=by rw[hσ];rfl
   refine⟨w3,?_,?_,?_⟩
   ·show((ed g.σ 0 _) 0).L oQ=[v]
    rw[nO];show L' oQ=[v]
    have hk:v.key=oQ:=w2;rcases hp with ⟨h1,_⟩|⟨_,l',rfl,h1⟩
    ·rw[hk]at h1;exact absurd w1 h1
    ·rw[hk]at h1⊢;rw[L8];rw[hL]at h1;rcases h1 with ⟨_,_,x,hx,_⟩|⟨_,i,rfl⟩
     ·cases hx
     ·simp
   ·show b4 ((ed g.σ 0 _) 0).own oQ
    rw[nO];exact w1
   ·exact congrArg Prod.fst (nO g.ss 0 (((0:Nat):Int),p'))
 ·rw[gI]at h;cases h
theorem qi1 {g:aG} {v:ax} (hn:O1 g v) (h:sT B P g BA 3 0 0 0 [] [] [] er fl g1∨er≠0/\fl=[]/\g1=g/\(g.ss 0).1= -1):fl=[v]:=by
 rcases h with ⟨i,hi,h⟩|⟨_,_,_,h⟩
 ·obtain rfl:i=0:=by rw[hn.bY]at hi;omega
  rcases h with ⟨_,_,_,h⟩|⟨_,_,x,b,ev,ht,_,_,_,_,_,_,h⟩
  ·exact absurd hn.own h
  ·have hk:BA.key=oQ:=rfl;rw[hk,hn.L]at ht;rcases ht with ⟨rfl,U,hj,hx⟩|⟨_,_,hx⟩
   ·obtain rfl:U=0:=by simp at hj;omega
    simp at hx;subst hx;rcases h with ⟨h,_⟩|⟨_,h,_⟩
    ·cases h
    ·exact h
   ·have:=hx 0 ao;simp at this
 ·rw[hn.bY]at h;cases h
def yT (gb:Nat) (g0:aG):Nat->World->List rG->Prop
 |0,W,ys=>ys=[]/\aT W 0 gb g0
 |1,W,ys=>∃ a g1 v,ys=[a]/\aT W 2 gb g1/\O1 g1 v/\g1.w0=g0.w0
 |2,W,ys=>∃ a b x g2,ys=[a,b]/\Rw W 48 6 a8 (.slice b.uw b.fn b.gU) [x]/\x.val=O0/\aT W 4 gb g2/\g2.w0=g0.w0
 |_,_,_=>False
theorem qi2 {W:World} (h:yT gb g0 U W ys) (hk:ad W W2):yT gb g0 U W2 ys:=by
 match U,h with
 |0,⟨h1,h2⟩=>exact⟨h1,h2.kept hk⟩
 |1,⟨a,g1,v,h1,h2,h3⟩=>exact⟨a,g1,v,h1,h2.kept hk,h3⟩
 |2,⟨a,b,x,g2,h1,h2,h3,h4,h5⟩=>exact⟨a,b,x,g2,h1,h2.kept hk,h3,h4.kept hk,h5⟩
theorem aT.O2 {w2:World} {g:aG} (h:aT w B gb g) (hb:ah S w w2) (hS:∀ y∈S,∃ cur,w.heap[y]? =some (.cells cur 42 (0,0))):aT w2 B gb g:=by
 obtain⟨V,h1,h2⟩:=h;refine⟨V,hb.heap h1 λhy=> ?_,h2.other hb λy hy _=> ?_⟩
 ·obtain⟨cur,hc⟩:=hS _ hy;rw[GB]at h1;exact fB h1 hc ak rfl
 ·obtain⟨cur,hc⟩:=hS _ hy;exact⟨_,_,hc,.inr ak⟩
theorem qi3 {W:World} (h:yT gb g0 U W ys) (hb:ah S W W2) (hS:∀ y∈S,∃ cur,W.heap[y]? =some (.cells cur 42 (0,0))):yT gb g0 U W2 ys:=by
 match U,h with
 |0,⟨h1,h2⟩=>exact⟨h1,h2.O2 hb hS⟩
 |1,⟨a,g1,v,h1,h2,h3⟩=>exact⟨a,g1,v,h1,h2.O2 hb hS,h3⟩
 |2,⟨a,b,x,g2,h1,h2,h3,h4,h5⟩=>exact⟨a,b,x,g2,h1,h2.fr (P:=λe=>e=48) (Fr.gn hb λy hy cur e he hp=>by
   obtain⟨jb,hc⟩:=hS y hy;rw[hc]at he;simp only[Option.some.injEq,Obj.cells.injEq]at he;obtain⟨_,rfl,_⟩:=he;exact absurd hp ak) rfl,h3,h4.O2 hb hS,h5⟩
theorem qi4 (hn:Jh w [] [3] [-1,0] g0) (U:Nat) (qD:ee) (W:World) (ys:List rG) (ho:[E9,BA][U]? =some qD) (kK:yT gb g0 U W ys):
  Calls prog 9 #[.pointer (some ⟨gb,0,none⟩),dx qD] W λe W'=>∃ a:rG,e= .returned (gm a.er (.slice a.uw a.fn a.gU))/\yT gb g0 (U+1) W' (ys++[a])/\bN W W':=by
 match U,ho,kK with
 |0,ho,⟨h1,h2⟩=>
  simp only[List.getElem?_cons_zero,Option.some.injEq]at ho;subst ho h1;refine(OS 0 (λ_ _=>True) gb g0 E9 1 0 0 0 [] [] [] [] W h2 ab ab rfl ab ab rfl ab rfl rfl ab ab Y4 ak (Rw.nil _) (λk hk=>by cases hk) ak (λ_ U d hd=> ?_) (λh=>ab)).mono ?_
  ·have aV:=hn.2.2.2.2.1;rw[aV]at hd;cases hd
  ·rintro e w' ⟨er,fv,fl,g',rfl,hr,hg,hk,hf⟩;obtain⟨A,c,rfl,_,_⟩:=hr.form;obtain⟨_,v,hv⟩:=qi0 hn hk;have hw:g'.w0=g0.w0:=hk.elim (λh=>h.base ab ab) λh=>by rw[h.2.2.1]
   exact⟨⟨er,A,fl.length,c,fl⟩,rfl,⟨_,g',v,rfl,hg,hv,hw⟩,hf⟩
 |1,ho,⟨a,g1,v,h1,h2,h3,h4⟩=>
  simp only[List.getElem?_cons_zero,List.getElem?_cons_succ,Option.some.injEq]at ho;subst ho h1;refine(OS 2 (λ_ _=>True) gb g1 BA 3 0 0 0 [] [] [] [] W h2 ab ab rfl ab ab rfl ab rfl rfl ab ab Y4 ak (Rw.nil _) (λk hk=>by cases hk) ak (λhf U d hd=> ?_) (λh=>ab)).mono ?_
  ·exact absurd hf (by unfold de;simp)
  ·rintro e w' ⟨er,fv,fl,g',rfl,hr,hg,hk,hf⟩;obtain⟨A,c,rfl,_,_⟩:=hr.form;have hw:g'.w0=g0.w0:=(hk.elim (λh=>h.base ab ab) λh=>by rw[h.2.2.1]).trans h4;obtain rfl:=qi1 h3 hk;exact⟨⟨er,A,1,c,[v]⟩,rfl,⟨a,_,v,g',rfl,hr,h3.val,hg,hw⟩,hf⟩
theorem qi5 (w:World):Calls prog 5 #[] w λe w'=>e= .returned (.bool true)/\ad w w':=by
 go_in;go_wp2_with fail
 have bR:fm (((w.alloc (.cells #[.string ⟨#[]⟩,.string ⟨#[]⟩] 63)).alloc (.cells #[.int .i64 3] 3)).alloc (.cells #[.int .i64 (-1),.int .i64 0] 3)) (.slice (some ⟨w.heap.size,0,none⟩) 1 1) (.slice (some ⟨w.heap.size+1,0,none⟩) 1 1) (.slice (some ⟨w.heap.size+1+1,0,none⟩) 2 2) [] [3] [-1,0]:=
  ⟨Rw.one (a:=(nil,nil)) ((((ad.refl _).alloc _).alloc _).heap (yY w _)),Rw.one (a:=(3:Int)) (((ad.refl _).alloc _).heap (ea ao)),Rw.bB (l:=[(-1:Int),0]) (ea ao) (λ_=>rfl) ak⟩
 have oH:ag (ad w (((w.alloc (.cells #[.string ⟨#[]⟩,.string ⟨#[]⟩] 63)).alloc (.cells #[.int .i64 3] 3)).alloc (.cells #[.int .i64 (-1),.int .i64 0] 3))):=(((ad.refl _).alloc _).alloc _).alloc _;generalize (((w.alloc (.cells #[.string ⟨#[]⟩,.string ⟨#[]⟩] 63)).alloc (.cells #[.int .i64 3] 3)).alloc (.cells #[.int .i64 (-1),.int .i64 0] 3))=W0 at*;refine(YH _ _ _ [] [3] [-1,0] W0 bR qiZ).mono ?_;rintro e w1 ⟨gb,g0,rfl,hg,hn,k1⟩;have HG:=aa hg;have HN:=aa hn;have cx:=aa k1;clear hg hn k1 bR;go_wp2_with fail
 have hblk:=yY w1 (.cells #[.int .i64 1,.int .i64 0,.int .i64 0,.int .i64 0,.int .i64 0,.int .i64 0,.string ⟨#[97]⟩,.string ⟨#[120]⟩,.slice none 0 0,.slice none 0 0,.slice none 0 0,.slice none 0 0,.int .i64 3,.int .i64 0,.int .i64 0,.int .i64 0,.int .i64 0,.int .i64 0,.string ⟨#[97]⟩,.string ⟨#[]⟩,.slice none 0 0,.slice none 0 0,.slice none 0 0,.slice none 0 0] 36);refine(qiW gb _ 2 [E9,BA] _ (yT gb g0) (Rw.bB (l:=[E9,BA]) hblk (λ_=>rfl) ak) ak (λqD ho=> ?_) ⟨rfl,HG.o.kept ((ad.refl _).alloc _)⟩ (λU W W2 ys h k=>qi2 h k) (λU W W2 ys S h hb hS=>qi3 h hb hS) (λU qD W ys ho kK=>qi4 HN.o U qD W ys ho kK)).mono ?_
 ·simp only[KX,List.not_mem_nil,or_false]at ho;rcases ho with rfl|rfl <;>exact⟨rfl,rfl,rfl,rfl⟩
 rintro e w2 ⟨v,ys,rfl,kK,hl,hr,hf⟩;obtain⟨⟨e1,fa1,fn1,fc1,fl1⟩,⟨e2,fa2,fn2,fc2,Ix⟩,x,g2,rfl,hx,Y5,dm,fM⟩:=kK
 have Y6:ad w w2:=by
  obtain⟨V,_,mE⟩:=dm;have uY:g2.w0=W0:=fM.trans HN.o.2.2.2.2.2.2.2.2.2;have hb:=mE.old.below (by rw[uY];exact(Fr.ar (cx.o.alloc _)).trans hf);rw[uY]at hb;exact oH.o.call ⟨hb.os,hb.tape,hb.output,hb.size,hb.block⟩
 have qi6:=aa Y6;obtain⟨YW,OV,hyv,Y7,_⟩:=hr.form;have Y7:2<=OV:=Y7;subst hyv;obtain⟨Wc,qi7,rfl,ki,E'⟩:=hr.af (i:=1) rfl;obtain rfl:fn2=1:=(Rw.len hx).symm;obtain⟨xb,R2,rfl,dN,Ja⟩:=hx.af (i:=0) rfl;have y1:=E' 1 _ rfl;have z1:=Ja 1 _ rfl
 have qlK:1<=fc2:=by
  obtain⟨A9,lQ,h9,h8,_⟩:=hx.form;simp only[Value.slice.injEq]at h9;have h8:1<=lQ:=h8;omega
 have Y8:x.val=⟨#[120]⟩:=Y5;rw[Y8]at z1;clear hr hx E' Ja dm fM Y6 hf Y8 Y5;go_wp2_with fail
 go_ret;exact⟨rfl,qi6.o⟩
theorem qja {base Ii e n:Nat} {v:Value} {xs:List Value} (h:w.ownsRow base e k v n xs) (hb:Ii<=base):w.ownsRow Ii e k v n xs:=by
 refine⟨h.1,h.2.imp id ?_⟩;rintro⟨g,cap,cur,rfl,h1,h2⟩;exact⟨g,cap,cur,rfl,qcg hb h1,h2⟩
theorem yU:∀ a,(cJ a).length=1:=λ_=>rfl
theorem O3:∀ a,(bZ a).length=2:=λ_=>rfl
theorem Fa:∀ (l:List Int),∀ u∈l.flatMap cJ,u.oneCell'=true:=λl u hu=>by
 obtain⟨a,_,ha⟩:=List.mem_flatMap.1 hu;simp only[cJ,KX,List.not_mem_nil,or_false]at ha;subst ha;rfl
theorem Y':∀ (l:List Rg),∀ u∈l.flatMap bZ,u.oneCell'=true:=λl u hu=>by
 obtain⟨a,_,ha⟩:=List.mem_flatMap.1 hu;simp only[bZ,KX,List.not_mem_nil,or_false]at ha;rcases ha with rfl|rfl <;>rfl
theorem Za (A B C:Option Addr) (m c m2 c2 m3 c3:Nat) (xs ys zs:List Int) (n:Nat) (w:World) (hx:bo w A m c xs) (hy:bo w B m2 c2 ys) (hz:bo w C m3 c3 zs) (hn:n=0∨2<=n/\n<=5):
  Calls prog 21 #[.agg #[.slice A m c,.slice B m2 c2,.slice C m3 c3],.int .i64 n] w λe w'=>∃ rv ov pv es os ps,e= .returned (.agg #[rv,ov,pv])/\yS n w' rv ov pv es os ps/\ad w w':=by
 have HX:=aa hx;have HY:=aa hy;have HZ:=aa hz;have gB:=aa hn;have hm:m<=c/\c<=9223372036854775807:=by have h1:=hx.2.1;have h2:=hx.2.2.1;unfold maxLen at h2;omega
 have gd:m2<=c2/\c2<=9223372036854775807:=by have h1:=hy.2.1;have h2:=hy.2.2.1;unfold maxLen at h2;omega
 have yw:m3<=c3/\c3<=9223372036854775807:=by have h1:=hz.2.1;have h2:=hz.2.2.1;unfold maxLen at h2;omega
 have NZ:n<=5:=ab;clear hx hy hz hn;go_in;go_upto_block 0 with fail
 have wg:ag (iq w ((((w.alloc (.cells #[.slice A m c,.slice B m2 c2,.slice C m3 c3] 67)).alloc (.cells #[.slice none 0 0,.slice none 0 0,.slice none 0 0] 29)).alloc (.cells #[.int .i64 (-1),.int .i64 0] 3)).alloc (.cells #[.slice none 0 0,.slice none 0 0,.slice (some ⟨w.heap.size+1+1,0,none⟩) 2 2] 29)) w.heap.size (w.heap.size+1) (w.heap.size+1+1+1) w.heap.size #[.slice A m c,.slice B m2 c2,.slice C m3 c3] (.slice none 0 0) (.slice none 0 0) (.slice (some ⟨w.heap.size+1+1,0,none⟩) 2 2) [] [] [-1,0]):=by
  obtain⟨W1,eZ⟩:=eqQ (w.alloc (.cells #[.slice A m c,.slice B m2 c2,.slice C m3 c3] 67));have z1:W1.heap.size=w.heap.size+1:=by rw[<- eZ,World.size_alloc]
  have bj:=yY w (.cells #[.slice A m c,.slice B m2 c2,.slice C m3 c3] 67);have k1:ad w W1:=eZ▸(ad.refl w).alloc _;rw[eZ]at bj⊢;obtain⟨W2,fw⟩:=eqQ (W1.alloc (.cells #[.slice none 0 0,.slice none 0 0,.slice none 0 0] 29));have z2:W2.heap.size=w.heap.size+1+1:=by rw[<- fw,World.size_alloc,z1]
  have a2:=yY W1 (.cells #[.slice none 0 0,.slice none 0 0,.slice none 0 0] 29);have k2:ad W1 W2:=fw▸(ad.refl W1).alloc _;rw[fw,z1]at a2;rw[fw];have h3:=BK W2 3 [.int .i64 (-1),.int .i64 0] 2 1 rfl (by unfold maxLen;omega);obtain⟨W3,db⟩:=eqQ (W2.alloc (.cells #[.int .i64 (-1),.int .i64 0] 3));have z3:W3.heap.size=w.heap.size+1+1+1:=by rw[<- db,World.size_alloc,z2]
  have k3:ad W2 W3:=db▸(ad.refl W2).alloc _;have e3:([.int .i64 (-1),.int .i64 0]:List Value).toArray= #[.int .i64 (-1),.int .i64 0]:=rfl;rw[e3,db,z2]at h3;rw[db];have a4:=yY W3 (.cells #[.slice none 0 0,.slice none 0 0,.slice (some ⟨w.heap.size+1+1,0,none⟩) 2 2] 29);have k4:=(ad.refl W3).alloc (.cells #[.slice none 0 0,.slice none 0 0,.slice (some ⟨w.heap.size+1+1,0,none⟩) 2 2] 29);rw[z3]at a4;exact⟨((k1.call k2).call k3).call k4,(((k2.call k3).call k4)).heap bj,(k3.call k4).heap a2,a4,ab,ab,CP _,qcb _ _ _ _,qcb _ _ _ _,qja (ad.own h3 k4) ab⟩
 generalize ((((w.alloc (.cells #[.slice A m c,.slice B m2 c2,.slice C m3 c3] 67)).alloc (.cells #[.slice none 0 0,.slice none 0 0,.slice none 0 0] 29)).alloc (.cells #[.int .i64 (-1),.int .i64 0] 3)).alloc (.cells #[.slice none 0 0,.slice none 0 0,.slice (some ⟨w.heap.size+1+1,0,none⟩) 2 2] 29))=qlL at wg⊢;have hR1:w.heap.size<w.heap.size+1:=ab;have hQ1:w.heap.size+1<w.heap.size+1+1+1:=ab;generalize (.slice (some ⟨w.heap.size+1+1,0,none⟩) 2 2:Value)=pv0 at wg⊢;generalize w.heap.size+1+1+1=Q at*;generalize w.heap.size+1=R at*;go_cut [6] (λiv wx=>∃ (ps:List Int) (pv:Value),ag (iq w wx w.heap.size R Q w.heap.size #[.slice A m c,.slice B m2 c2,.slice C m3 c3] (.slice none 0 0) (.slice none 0 0) pv [] [] ps)/\ag (qd ps)/\ag (2<=ps.length/\ps.length<=5/\(n≠0->ps.length=2)))
 case first=>
  go_wp2_with fail
  go_loopw [6] (λiv wr=>∃ (U:Nat) (ps:List Int) (pv:Value),U<=m3/\U<=3/\iv= .int .i64 U/\ag (iq w wr w.heap.size R Q w.heap.size #[.slice A m c,.slice B m2 c2,.slice C m3 c3] (.slice none 0 0) (.slice none 0 0) pv [] [] ps)/\ag (qd ps)/\ag (ps.length=U+2)/\ag (n≠0->U=0)) (λiv _=>m3-(intOf iv).toNat)
  case atStart=>exact⟨0,_,_,ab,ab,rfl,wg,qd.two,rfl,λ_=>rfl⟩
  case round=>
   obtain⟨U,ps,pv,s5,hj3,rfl,HM,HT,cM,HJ0⟩:=hrel;have rA:=ap HM.o.x 2;have q2:=ap HM.o.qb 2;obtain⟨PA,pc,cv⟩:=ca HM.o.p;rw[cM.o]at cv;subst cv;by_cases an:U<m3/\U<3/\n=0
   ·have e1:decide ((U:Int)<m3)=true:=by simp;omega
    have e2:decide ((U:Int)<3)=true:=by simp;omega
    have e3:((n:Int)==0)=true:=by simp;omega
    obtain⟨hj1,yL,sg⟩:=an;have HN0:=aa sg;clear sg;obtain⟨O4,O8,rfl,vd⟩:=HZ.o.2.2.2.2 ab;have RG:=HM.o.k.af (vd U hj1);generalize zs[U]?.getD (-2)=x at*;have hb:=ww x ((U:Int)+2) ab;obtain⟨r,hr,b3⟩:=E8 x ((U:Int)+2) ab;have mg:(x.tmod ((U:Int)+2)+(U:Int)+2).tmod ((U:Int)+2)=(r:Int):=by rw[Int.add_assoc];exact hr
    have nz:=aa (HT.o.snoc (x:=(r:Int)) ab (by rw[cM.o];omega));have vu:ag ((ps++[(r:Int)]).length=U+1+2):=by unfold ag;rw[OZ,cM.o]
    have qjb:((U:Int)+2==0)=false:=by simp;omega
    have C6:ag (n≠0->U+1=0):=λg=>absurd HN0.o g;clear vd hr;go_wp2_with fail
    refine bz (λwB=>ad wr wB/\wB.cell? ⟨Q,2,none⟩=some (.slice PA (U+2) pc)/\wB.cell? ⟨w.heap.size,2,none⟩=some (.slice (some ⟨O4,O8,none⟩) m3 c3)/\wB.cell? ⟨O4,O8+U,none⟩=some (.int .i64 x)) λwB SS=> ?_;obtain⟨au,aB,aC,aF⟩:=SS.o _ (ad.refl _);iterate 17 (first|refine DW.dt ?_|(refine DW.bt av ?_;intro wd hI;obtain⟨ae,ai,aj,aq⟩:=SS.o wd hI;go_wp2_with (fail);refine cu hI SS (λbf SS=> ?_) rfl;obtain⟨au,aB,aC,aF⟩:=SS.o _ (ad.refl _)))
    refine DW.tail av λwd hI=> ?_;obtain⟨ae,ai,aj,aq⟩:=SS.o wd hI;clear SS;go_wp2_with (at_builtin;go_must (refine jh rfl _ _ 22 3 _ 1 8 cJ rfl underlying22 oZ rfl ak ak yU Fa w.heap.size _ ps [(r:Int)] rfl (ad.own HM.o.p ae) _ 0 1 1 rfl (Rw.one (hI.heap (yY _ _))) (by(have:=cM.o);simp;omega) (qcg HM.o.k.size (ad.size ae)) ?_;intro v6 w6 O6 cj jM;have q6:=cj.heap (ad.heap ae HM.o.qb) (ec (ad.own HM.o.p ae) (ad.heap ae HM.o.qb) ak);obtain⟨A6,gu,cy⟩:=ca O6;rw[show(ps++[(r:Int)]).length=U+2+1 from(by rw[zH,cM.o];rfl)]at cy;subst cy;have M6:=aa ((HM.o.go ae).OY cj O6);have nj:=cj.size;have g6:=aE q6 2;have f6:=aI q6 2;clear O6 cj jM q6))
    go_roundw
    case rel=>(try(repeat apply R7);refine⟨?_,rfl⟩);exact⟨U+1,_,_,ab,ab,aA,M6,nz,vu,C6⟩
    case measure=>exact dY
   ·have mQ:ag (2<=ps.length/\ps.length<=5/\(n≠0->ps.length=2)):=⟨by rw[cM.o];omega,by rw[cM.o];omega,λg=>by rw[cM.o,HJ0.o g]⟩;rcases(by omega:m3<=U∨(U<m3/\3<=U)∨(U<m3/\U<3/\n≠0))with g1|g1|g1
    ·have e1:decide ((U:Int)<m3)=false:=by simp;omega
     go_wp2_with fail
     go_meet
     case rel=>exact⟨ps,_,HM,HT,mQ⟩
    ·have e1:decide ((U:Int)<m3)=true:=by simp;omega
     have e2:decide ((U:Int)<3)=false:=by simp;omega
     go_wp2_with fail
     go_meet
     case rel=>exact⟨ps,_,HM,HT,mQ⟩
    ·have e1:decide ((U:Int)<m3)=true:=by simp;omega
     have e2:decide ((U:Int)<3)=true:=by simp;omega
     have e3:((n:Int)==0)=false:=by simp;omega
     go_wp2_with fail
     go_meet
     case rel=>exact⟨ps,_,HM,HT,mQ⟩
 case rest=>
  obtain⟨O',qlM,Zb,Zc,tW⟩:=hcut;have Jj:ag (2<=O'.length/\O'.length<=5/\(n≠0->O'.length=2/\2<=n)/\(n=0->True)):=⟨tW.o.1,tW.o.2.1,λg=>⟨tW.o.2.2 g,by have:=gB.o;omega⟩,λ_=>trivial⟩;clear wg;go_wp2_with fail
  go_loopw [7] (λiv wr=>∃ (i:Nat) (ps:List Int) (pv:Value),2<=i/\iv= .int .i64 i/\ag (iq w wr w.heap.size R Q w.heap.size #[.slice A m c,.slice B m2 c2,.slice C m3 c3] (.slice none 0 0) (.slice none 0 0) pv [] [] ps)/\ag (qd ps)/\ag (2<=ps.length/\ps.length<=5/\(n≠0->ps.length=i/\i<=n)/\(n=0->i=2))) (λiv _=>n-(intOf iv).toNat)
  case atStart=>exact⟨2,_,_,ab,rfl,Zb,Zc,⟨Jj.o.1,Jj.o.2.1,Jj.o.2.2.1,λ_=>rfl⟩⟩
  case round=>
   obtain⟨i,ps,pv,eE,rfl,HM,HT,HL⟩:=hrel;obtain⟨PA,pc,cv⟩:=ca HM.o.p;have rA:=ap HM.o.x 2;by_cases an:i<n
   ·have cO:=HL.o.2.2.1 ab;have cM:ag (ps.length=i):=cO.1;rw[cM.o]at cv;subst cv;have q2:=ap HM.o.qb 2;have vZ:Q<wr.heap.size:=(aQ HM.o.qb);clear cO;by_cases kk:i<m3
    ·obtain⟨O4,O8,rfl,vd⟩:=HZ.o.2.2.2.2 ab;have j8:decide ((i:Int)<m3)=true:=by simp;omega
     have RG:=HM.o.k.af (vd i kk);generalize zs[i]?.getD (-2)=x at*;have hb:=ww x (i:Int) ab;obtain⟨r,hr,b3⟩:=E8 x (i:Int) ab;have nz:=aa (HT.o.snoc (x:=(r:Int)) ab (by rw[cM.o];omega))
     have Fb:ag (2<=(ps++[(r:Int)]).length/\(ps++[(r:Int)]).length<=5/\(n≠0->(ps++[(r:Int)]).length=i+1/\i+1<=n)/\(n=0->i+1=2)):=by
      unfold ag;rw[OZ,cM.o];exact⟨ab,ab,λ_=>⟨rfl,ab⟩,λg=>ab⟩
     have qjb:((i:Int)==0)=false:=by simp;omega
     clear vd;go_wp2_with (at_builtin;go_must (refine jh rfl _ _ 22 3 _ 1 8 cJ rfl underlying22 oZ rfl ak ak yU Fa w.heap.size _ ps [(r:Int)] rfl (ad.own HM.o.p ((ad.refl wr).alloc (.cells #[.int .i64 (r:Int)] 3))) _ 0 1 1 rfl (Rw.one (ea rfl)) (by(have:=cM.o);simp;omega) (qcg HM.o.k.size (ad.size ((ad.refl wr).alloc (.cells #[.int .i64 (r:Int)] 3)))) ?_;intro v6 w6 O6 cj jM;have q6:=cj.heap (ad.heap ((ad.refl wr).alloc (.cells #[.int .i64 (r:Int)] 3)) HM.o.qb) (ec (ad.own HM.o.p ((ad.refl wr).alloc (.cells #[.int .i64 (r:Int)] 3))) (ad.heap ((ad.refl wr).alloc (.cells #[.int .i64 (r:Int)] 3)) HM.o.qb) ak);obtain⟨A6,gu,cy⟩:=ca O6;rw[show(ps++[(r:Int)]).length=i+1 from(by rw[zH,cM.o];rfl)]at cy;subst cy;have M6:=aa ((HM.o.go ((ad.refl wr).alloc _)).OY cj O6);have nj:=cj.size;have g6:=aE q6 2;have f6:=aI q6 2;clear O6 cj jM q6))
     go_roundw
     case rel=>(try(repeat apply R7);refine⟨?_,rfl⟩);exact⟨i+1,_,_,ab,aA,M6,nz,Fb⟩
     case measure=>exact dY
    ·have j8:decide ((i:Int)<m3)=false:=by simp;omega
     have nz:=aa (HT.o.snoc (x:=(0:Int)) ab (by rw[cM.o];omega))
     have Fb:ag (2<=(ps++[(0:Int)]).length/\(ps++[(0:Int)]).length<=5/\(n≠0->(ps++[(0:Int)]).length=i+1/\i+1<=n)/\(n=0->i+1=2)):=by
      unfold ag;rw[OZ,cM.o];exact⟨ab,ab,λ_=>⟨rfl,ab⟩,λg=>ab⟩
     go_wp2_with (at_builtin;go_must (refine jh rfl _ _ 22 3 _ 1 8 cJ rfl underlying22 oZ rfl ak ak yU Fa w.heap.size _ ps [(0:Int)] rfl (ad.own HM.o.p ((ad.refl wr).alloc (.cells #[.int .i64 0] 3))) _ 0 1 1 rfl (Rw.one (ea rfl)) (by(have:=cM.o);simp;omega) (qcg HM.o.k.size (ad.size ((ad.refl wr).alloc (.cells #[.int .i64 0] 3)))) ?_;intro v6 w6 O6 cj jM;have q6:=cj.heap (ad.heap ((ad.refl wr).alloc (.cells #[.int .i64 0] 3)) HM.o.qb) (ec (ad.own HM.o.p ((ad.refl wr).alloc (.cells #[.int .i64 0] 3))) (ad.heap ((ad.refl wr).alloc (.cells #[.int .i64 0] 3)) HM.o.qb) ak);obtain⟨A6,gu,cy⟩:=ca O6;rw[show(ps++[(0:Int)]).length=i+1 from(by rw[zH,cM.o];rfl)]at cy;subst cy;have M6:=aa ((HM.o.go ((ad.refl wr).alloc _)).OY cj O6);have nj:=cj.size;have g6:=aE q6 2;have f6:=aI q6 2;clear O6 cj jM q6))
     go_roundw
     case rel=>(try(repeat apply R7);refine⟨?_,rfl⟩);exact⟨i+1,_,_,ab,aA,M6,nz,Fb⟩
     case measure=>exact dY
   ·have jY:ag (2<=ps.length/\ps.length<=5/\(n≠0->ps.length=n)):=⟨HL.o.1,HL.o.2.1,λg=>by have:=HL.o.2.2.1 g;omega⟩;obtain⟨W1,rfl⟩:=eqR wr;obtain⟨pl,cO⟩:=eqQ ps.length;have kG:=aa cO;rw[cO]at cv;subst cv;clear cO Zb Zc tW Jj;go_upto_block 4 with fail
    have Zd:ag (Up []):=Gu;go_cut [9,10] (λfF iv wx=>∃ (es:List Nat) (rv:Value),fF= .string (fr es es.length)/\es.length<=4/\ag (Up es)/\ag (iq w wx w.heap.size R Q w.heap.size #[.slice A m c,.slice B m2 c2,.slice C m3 c3] rv (.slice none 0 0) (.slice PA pl pc) (pre es) [] ps))
    case first=>
     go_wp2_with fail
     go_loopw [9,10] (λfF iv wr=>∃ (i:Nat) (es:List Nat) (rv:Value),i<=m/\i<=4/\iv= .int .i64 i/\fF= .string (fr es es.length)/\es.length<=i/\ag (Up es)/\ag (iq w wr w.heap.size R Q w.heap.size #[.slice A m c,.slice B m2 c2,.slice C m3 c3] rv (.slice none 0 0) (.slice PA pl pc) (pre es) [] ps)) (λ_ iv _=>m-(intOf iv).toNat)
     case atStart=>exact⟨0,[],_,ab,ab,rfl,rfl,ao,Gu,HM⟩
     case round=>
      clear HM Zd rA;obtain⟨i,es,rv,kk,hi4,rfl,rfl,Ze,jm,HM⟩:=hrel;have cM:ag ((pre es).length=es.length):=Sb es;obtain⟨RA,rc,ei⟩:=ca HM.o.r;rw[cM.o]at ei;subst ei;have rA:=ap HM.o.x 0;have q0:=ap HM.o.qb 0;have vZ:Q<wr.heap.size:=(aQ HM.o.qb);have bP:w.heap.size<wr.heap.size:=(aQ HM.o.x);by_cases an:i<m/\i<4
      ·have e1:decide ((i:Int)<m)=true:=by simp;omega
       have e2:decide ((i:Int)<4)=true:=by simp;omega
       obtain⟨b,off,rfl,hc⟩:=HX.o.2.2.2.2 ab;have cl:=HM.o.k.af (hc i an.1);have kX:b<wr.heap.size:=Aa wr _ cl;generalize xs[i]?.getD (-2)=x at*;have dW:=ww x 8 ab;obtain⟨r,hr,Bd⟩:=E8 x 8 ab;have gF:=Sd wr r;rcases Int.lt_or_le (hv (fr es es.length)) (97+r:Nat)with gX|hhi
       ·obtain⟨qlN,qjc⟩:=qcA jm.o (c:=97+r) ab gX;have Zf:=aa (jm.o.snoc (e:=97+r) ab ab ab gX);have Jk:=aa (qcx es (97+r));have Zg:=aa (qcz es (97+r));have Dc:ag ((es++[97+r]).length=es.length+1):=by unfold ag;simp
        clear gX hc;generalize es++[97+r]=aH at*;generalize fr es es.length=af at*;generalize ch (97+r)=e_ at*;generalize hLe:es.length=le at*;clear hLe;go_wp2_with (at_builtin;go_must (refine jh rfl _ _ 27 63 _ 2 32 bZ rfl underlying27 rU rfl ak ak O3 Y' w.heap.size _ (pre es) [(af,e_)] rfl (ad.own HM.o.r (((ad.refl wr).alloc (.cells #[.int .u8 (97+(r:Int))] 5)).alloc (.cells #[.string af,.string e_] 63))) _ 0 1 1 rfl (Rw.one (ea ao)) (by(have:=cM.o);simp;omega) (qcg HM.o.k.size (ad.size (((ad.refl wr).alloc (.cells #[.int .u8 (97+(r:Int))] 5)).alloc (.cells #[.string af,.string e_] 63)))) ?_;intro v6 w6 O6 cj jM;have q6:=cj.heap (ad.heap (((ad.refl wr).alloc (.cells #[.int .u8 (97+(r:Int))] 5)).alloc (.cells #[.string af,.string e_] 63)) HM.o.qb) (ec (ad.own HM.o.r (((ad.refl wr).alloc (.cells #[.int .u8 (97+(r:Int))] 5)).alloc (.cells #[.string af,.string e_] 63))) (ad.heap (((ad.refl wr).alloc (.cells #[.int .u8 (97+(r:Int))] 5)).alloc (.cells #[.string af,.string e_] 63)) HM.o.qb) ak);obtain⟨A6,gu,cy⟩:=ca O6;rw[show((pre es)++[(af,e_)]).length=le+1 from(by rw[zH,cM.o];rfl)]at cy;subst cy;have M6:=aa ((HM.o.go (((ad.refl wr).alloc _).alloc _)).Y0 cj O6);have nj:=cj.size;have g6:=aE q6 0;have f6:=aI q6 0;clear O6 cj jM q6))
        have M7:=M6;rw[<- Jk.o]at M7;go_roundw
        case rel=>(try(repeat apply R7);refine⟨?_,rfl⟩);exact⟨i+1,aH,_,ab,ab,aA,by rw[Zg.o],by rw[Dc.o];omega,Zf,M7⟩
        case measure=>exact dY
       ·have dZ:=qcB jm.o (c:=97+r) ab ab ab;have M7:=aa (HM.o.go ((ad.refl wr).alloc (.cells #[.int .u8 (97+(r:Int))] 5)));obtain⟨af,fq⟩:=eqQ (fr es es.length);have kL:=aa fq;rw[fq]at dZ⊢;clear hhi hc fq;generalize ch (97+r)=e_ at*;rcases dZ with dZ|⟨dZ,qjc⟩
        ·go_wp2_with fail
         go_roundw
         case rel=>(try(repeat apply R7);refine⟨?_,rfl⟩);exact⟨i+1,es,_,ab,ab,aA,by rw[kL.o],ab,jm,M7⟩
         case measure=>exact dY
        ·go_wp2_with fail
         go_roundw
         case rel=>(try(repeat apply R7);refine⟨?_,rfl⟩);exact⟨i+1,es,_,ab,ab,aA,by rw[kL.o],ab,jm,M7⟩
         case measure=>exact dY
      ·rcases(by omega:m<=i∨(i<m/\4<=i))with g1|g1
       ·have e1:decide ((i:Int)<m)=false:=by simp;omega
        go_wp2_with fail
        go_meet
        case rel=>exact⟨es,_,rfl,ab,jm,HM⟩
       ·have e1:decide ((i:Int)<m)=true:=by simp;omega
        have e2:decide ((i:Int)<4)=false:=by simp;omega
        go_wp2_with fail
        go_meet
        case rel=>exact⟨es,_,rfl,ab,jm,HM⟩
    case rest=>
     clear HM Zd rA;obtain⟨es,rv,rfl,Ze,HUP,HM⟩:=hcut;have cM:ag ((pre es).length=es.length):=Sb es;obtain⟨RA,rc,ei⟩:=ca HM.o.r;rw[cM.o]at ei;subst ei;have q0:=ap HM.o.qb 0;have vZ:Q<wc.heap.size:=(aQ HM.o.qb);have Jk:=aa (qcy es);generalize fr es es.length=af at*;obtain⟨le,hle⟩:=eqQ es.length;have Db:=aa hle;rw[hle]at Ze q0 cM HM;clear hle;go_wp2_with (at_builtin;go_must (refine jh rfl _ _ 27 63 _ 2 32 bZ rfl underlying27 rU rfl ak ak O3 Y' w.heap.size _ (pre es) [(af,nil)] rfl (ad.own HM.o.r ((ad.refl wc).alloc (.cells #[.string af,.string ⟨#[]⟩] 63))) _ 0 1 1 rfl (Rw.one (ea rfl)) (by(have:=cM.o);simp;omega) (qcg HM.o.k.size (ad.size ((ad.refl wc).alloc (.cells #[.string af,.string ⟨#[]⟩] 63)))) ?_;intro v6 w6 O6 cj jM;have q6:=cj.heap (ad.heap ((ad.refl wc).alloc (.cells #[.string af,.string ⟨#[]⟩] 63)) HM.o.qb) (ec (ad.own HM.o.r ((ad.refl wc).alloc (.cells #[.string af,.string ⟨#[]⟩] 63))) (ad.heap ((ad.refl wc).alloc (.cells #[.string af,.string ⟨#[]⟩] 63)) HM.o.qb) ak);obtain⟨A6,gu,cy⟩:=ca O6;rw[show((pre es)++[(af,nil)]).length=le+1 from(by rw[zH,cM.o];rfl)]at cy;subst cy;have M6:=aa ((HM.o.go ((ad.refl wc).alloc _)).Y0 cj O6);have nj:=cj.size;have g6:=aE q6 0;have f6:=aI q6 0;clear O6 cj jM q6))
     have M7:=M6;rw[<- Jk.o]at M7;have KP:=M7.o.k.size;generalize w6.setCell ⟨Q,0,none⟩ (.slice A6 (le+1) gu)=W2 at*;clear M6 g6 f6 HM q0 cM Jk vZ;have Zh:pl<=6:=by have:=jY.o.2.1;rw[kG.o]at this;omega
     go_loopw [12,13] (λfF kv w9=>∃ k:Nat,k<=pl/\fF= .int .i64 ((2 ^ k:Nat):Int)/\kv= .int .i64 k/\ag (w9=W2)) (λ_ kv _=>pl-(intOf kv).toNat)
     case atStart=>exact⟨0,ab,rfl,rfl,rfl⟩
     case round=>
      obtain⟨k,hk,rfl,rfl,Fc⟩:=hrel;have q2c:wr.cell? ⟨Q,2,none⟩=some (.slice PA pl pc):=by rw[Fc.o];exact aE M7.o.qb 2
      by_cases tm:k<pl
      ·have fN:=tb (n:=k) ab;have ez:ag (2 ^ (k+1)=2*2 ^ k):=by unfold ag;rw[Nat.pow_succ,Nat.mul_comm]
       generalize 2 ^ k=t at*;go_wp2_with fail
       go_roundw
       case rel=>(try(repeat apply R7);refine⟨?_,rfl⟩);exact⟨k+1,ab,by rw[ez.o];go_num,aA,Fc⟩
       case measure=>exact dY
      ·obtain rfl:k=pl:=ab;have hw:=Fc.o;clear Fc;subst hw;obtain⟨W2,rfl⟩:=eqR wr;have kC:=tb (n:=k) ab
       have gg:2<=2 ^ k:=by
        have h2:2<=k:=by rw[<- kG.o];exact jY.o.1
        have:=Nat.pow_le_pow_right (n:=2) ab (show 1<=k by omega);omega
       have hae:ag (2 ^ k=2 ^ k):=rfl;generalize ha:2 ^ k=a at*;have HA:=aa ha;clear ha hae;have E4:=aa (M7.o.base);have CO:ag (∀ g,(Value.slice PA k pc).ownBlock=some g->g<W2.heap.size):=λg hg=>(M7.o.p.lt g hg).2;have Zi:ag (∃ fO,W2.heap.size=fO):=⟨_,rfl⟩;obtain⟨fO,Pb⟩:=Zi.o;rw[Pb]at E4 CO;have HBO:=aa Pb;clear Pb Zi M7;go_wp2_with fail
       go_loopw [14] (λkv w9=>∃ (U:Nat) (os:List Int) (ov:Value),U<=le+1/\kv= .int .i64 U/\ag (iq w w9 w.heap.size R Q fO #[.slice A m c,.slice B m2 c2,.slice C m3 c3] (.slice A6 (le+1) gu) ov (.slice PA k pc) (bw es) os ps)/\ag (os.length=U/\∀ x∈os,1<=x/\x<(a:Int))/\ag (fO<=w9.heap.size)) (λkv _=>le+1-(intOf kv).toNat)
       case atStart=>exact⟨0,[],_,ab,rfl,E4,⟨rfl,λx hx=>by cases hx⟩,Nat.le_of_eq HBO.o.symm⟩
       case round=>
        clear E4;obtain⟨U,os,ov,hj,rfl,HM,wh,oq⟩:=hrel;have cM:ag (os.length=U):=wh.o.1;obtain⟨OA,oc,cE⟩:=ca HM.o.qD;rw[cM.o]at cE;subst cE;have rA:=ap HM.o.x 1;have q0:=ap HM.o.qb 0;have q1:=ap HM.o.qb 1;have q2:=ap HM.o.qb 2;have vZ:Q<wr.heap.size:=(aQ HM.o.qb);have bP:w.heap.size<wr.heap.size:=(aQ HM.o.x);have nC:=oq.o;by_cases rR:U<le+1
        ·by_cases s5:U<m2
         ·obtain⟨Wc,qi7,rfl,E'⟩:=HY.o.2.2.2.2 ab;have qlO:=HM.o.k.af (E' U s5);have j8:decide ((U:Int)<m2)=true:=by simp;omega
          generalize ys[U]?.getD (-2)=y at*;have dW:=ww y ((a:Int)-1) ab
          obtain⟨qD,ej,qlP⟩:∃ r:Nat,(y.tmod ((a:Int)-1)+a-1).tmod ((a:Int)-1)=r/\r+1<a:=by
           have h2:=Int.tmod_nonneg ((a:Int)-1) (show 0<=y.tmod ((a:Int)-1)+a-1 by omega);have h3:=Int.tmod_lt_of_pos (y.tmod ((a:Int)-1)+a-1) (show 0<(a:Int)-1 by omega);exact⟨_,(Int.toNat_of_nonneg h2).symm,ab⟩
          have Fe:ag ((os++[1+(qD:Int)]).length=U+1/\∀ x∈os++[1+(qD:Int)],1<=x/\x<(a:Int)):=by
           refine⟨by rw[zH,wh.o.1];rfl,λx hx=> ?_⟩;rcases Pv.1 hx with hx|hx
           ·exact wh.o.2 x hx
           ·obtain rfl:x=1+(qD:Int):=by simpa using hx
            omega
          clear E';go_wp2_with (at_builtin;go_must (refine jh rfl _ _ 22 3 _ 1 8 cJ rfl underlying22 oZ rfl ak ak yU Fa fO _ os [1+(qD:Int)] rfl (ad.own HM.o.qD ((ad.refl wr).alloc (.cells #[.int .i64 (1+(qD:Int))] 3))) _ 0 1 1 rfl (Rw.one (ea rfl)) (by(have:=cM.o);simp;omega) (qcg nC (ad.size ((ad.refl wr).alloc (.cells #[.int .i64 (1+(qD:Int))] 3)))) ?_;intro v6 w6 O6 cj jM;have q6:=cj.heap (ad.heap ((ad.refl wr).alloc (.cells #[.int .i64 (1+(qD:Int))] 3)) HM.o.qb) (ec (ad.own HM.o.qD ((ad.refl wr).alloc (.cells #[.int .i64 (1+(qD:Int))] 3))) (ad.heap ((ad.refl wr).alloc (.cells #[.int .i64 (1+(qD:Int))] 3)) HM.o.qb) ak);obtain⟨A7,tO,cy⟩:=ca O6;rw[show(os++[1+(qD:Int)]).length=U+1 from(by rw[zH,cM.o];rfl)]at cy;subst cy;have M6:=aa ((HM.o.go ((ad.refl wr).alloc (.cells #[.int .i64 (1+(qD:Int))] 3))).Y2 CO.o cj O6);have nj:=cj.size;have g6:=aE q6 1;have f6:=aI q6 1;clear O6 cj jM q6))
          have Ff:ag (fO<=(w6.setCell ⟨Q,1,none⟩ (.slice A7 (U+1) tO)).heap.size):=by unfold ag;rw[World.size_setCell];rw[World.size_alloc]at nj;omega
          go_roundw
          case rel=>(try(repeat apply R7);refine⟨?_,rfl⟩);exact⟨U+1,_,_,ab,aA,M6,Fe,Ff⟩
          case measure=>exact dY
         ·have j8:decide ((U:Int)<m2)=false:=by simp;omega
          have Fe:ag ((os++[1+((a:Int)-2)]).length=U+1/\∀ x∈os++[1+((a:Int)-2)],1<=x/\x<(a:Int)):=by
           refine⟨by rw[zH,wh.o.1];rfl,λx hx=> ?_⟩;rcases Pv.1 hx with hx|hx
           ·exact wh.o.2 x hx
           ·obtain rfl:x=1+((a:Int)-2):=by simpa using hx
            omega
          go_wp2_with (at_builtin;go_must (refine jh rfl _ _ 22 3 _ 1 8 cJ rfl underlying22 oZ rfl ak ak yU Fa fO _ os [1+((a:Int)-2)] rfl (ad.own HM.o.qD ((ad.refl wr).alloc (.cells #[.int .i64 (1+((a:Int)-2))] 3))) _ 0 1 1 rfl (Rw.one (ea rfl)) (by(have:=cM.o);simp;omega) (qcg nC (ad.size ((ad.refl wr).alloc (.cells #[.int .i64 (1+((a:Int)-2))] 3)))) ?_;intro v6 w6 O6 cj jM;have q6:=cj.heap (ad.heap ((ad.refl wr).alloc (.cells #[.int .i64 (1+((a:Int)-2))] 3)) HM.o.qb) (ec (ad.own HM.o.qD ((ad.refl wr).alloc (.cells #[.int .i64 (1+((a:Int)-2))] 3))) (ad.heap ((ad.refl wr).alloc (.cells #[.int .i64 (1+((a:Int)-2))] 3)) HM.o.qb) ak);obtain⟨A7,tO,cy⟩:=ca O6;rw[show(os++[1+((a:Int)-2)]).length=U+1 from(by rw[zH,cM.o];rfl)]at cy;subst cy;have M6:=aa ((HM.o.go ((ad.refl wr).alloc (.cells #[.int .i64 (1+((a:Int)-2))] 3))).Y2 CO.o cj O6);have nj:=cj.size;have g6:=aE q6 1;have f6:=aI q6 1;clear O6 cj jM q6))
          have Ff:ag (fO<=(w6.setCell ⟨Q,1,none⟩ (.slice A7 (U+1) tO)).heap.size):=by unfold ag;rw[World.size_setCell];rw[World.size_alloc]at nj;omega
          go_roundw
          case rel=>(try(repeat apply R7);refine⟨?_,rfl⟩);exact⟨U+1,_,_,ab,aA,M6,Fe,Ff⟩
          case measure=>exact dY
        ·obtain rfl:U=le+1:=ab;have hH:=HM.o.rb;have hRs:R<wr.heap.size:=(aQ hH);have r0:=ap hH 0;have r1:=ap hH 1;have r2:=ap hH 2;have p0:=aI hH 0;have p1:=aI hH 1;have p2:=aI hH 2;clear hH;go_wp2_with fail
         have hH:=HM.o.rb;have s1:=Ok wr R 0 _ _ (.slice A6 (le+1) gu) hH;have s2:=Ok _ R 1 _ _ (.slice OA (le+1) oc) s1;have s3:=Ok _ R 2 _ _ (.slice PA k pc) s2;have Jl:ah [R] wr (((wr.setCell ⟨R,0,none⟩ (.slice A6 (le+1) gu)).setCell ⟨R,1,none⟩ (.slice OA (le+1) oc)).setCell ⟨R,2,none⟩ (.slice PA k pc)):=(((ah.refl _ _).setCell (.inl ao) _).setCell (.inl ao) _).setCell (.inl ao) _
         (try simp only[Exit.inBlock,Exit.then])
         refine KV (results_cell_row rfl _ _ R _ #[.slice A6 (le+1) gu,.slice OA (le+1) oc,.slice PA k pc] (0,0) _ rfl s3 underlying29 rfl av) rfl ?_;have hRw:w.heap.size<=R:=ab;refine⟨_,_,_,es,os,ps,rfl,⟨Rw.bp (cB HM.o.r Jl (gL HM.o.r hH ak)) O3 ak,Rw.bp (cB HM.o.qD Jl (gL HM.o.qD hH ak)) yU ak,Rw.bp (cB HM.o.p Jl (gL HM.o.p hH ak)) yU ak,⟨⟨HUP.o,by rw[wh.o.1,Db.o],λi hi=> ?_,by rw[kG.o];have:=jY.o.1;rw[kG.o]at this;omega,by rw[kG.o];exact Zh⟩,HT.o.tree (by rw[kG.o];exact Zh)⟩,jY.o⟩,HM.o.k.but Jl (by simpa using hRw)⟩;have eE:i<os.length:=by rw[wh.o.1];have:=Db.o;omega
         rw[kG.o,HA.o];unfold oa;rw[vF eE];exact wh.o.2 _ (List.getElem_mem eE)
end Go.Proofs.YtehaoggjlciobaaGreat

/- Part 13 of 40. -/
import Derived.Test.YtehaoggjlciobaaGreatQar
set_option linter.all false
set_option maxRecDepth 20000
set_option maxHeartbeats 16000000
namespace Go.Proofs.YtehaoggjlciobaaGreat
open Go.Maps Go.RowKit Go.Proofs.Tryz
variable {a:Act} {ops:Array Oper} {L:ByteArray->List ax} {Q:Exit->Act->World->Prop} {B:Int} {S:List Nat} {rest:List Oper} {own:List Rg} {b c hb k mb n off:Nat} {e:TypeId} {w w2:World}
def Au (own:List Rg) (L L':ByteArray->List ax) (ks:List ByteArray):Prop:=∀ k,Let k->(k∈ks->(b4 own k->L' k=L k)/\(¬b4 own k->L' k=[]))/\(k∉ks->L' k=L k)
def Dv (own:List Rg) (L L':ByteArray->List ax):Prop:=∀ k,Let k->(b4 own k->L' k=L k)/\(¬b4 own k->L' k=[])
theorem Au.all {L':ByteArray->List ax} {ks:List ByteArray} (h:Au own L L' ks) (hk:Am ks L):Dv own L L':=λk hl=>by
 by_cases e:k∈ks
 ·exact(h k hl).1 e
 ·have h1:=(h k hl).2 e;refine⟨λ_=>h1,λ_=> ?_⟩;rw[h1];exact Classical.byContradiction λg=>e ((hk.mem k).2 ⟨hl,g⟩)
theorem qQ.kept (h:qQ w B hb mb own L) (hk:ad w w2):qQ w2 B hb mb own L:=by
 obtain⟨v,h3,h4⟩:=h.bB;obtain⟨C,h5,h6⟩:=h.fz;exact⟨⟨v,hk.heap h3,h4.kept hk⟩,h.bx,C,h5.keep hk,λk bb=>⟨(h6 k bb).1.kept hk,(h6 k bb).2⟩⟩
theorem qQ.drop {C:Ch} (h:qQ w B hb mb own L) (hC:∀ k,Let k->dc w B k (jC (C k)) (L k)/\(C k≠none->L k≠[])) (L9:MapAt w mb C) {k:ByteArray} (hm:MapAt w2 mb (Al C k)) (bG:ah [mb] w w2) (xQ:hb≠mb):qQ w2 B hb mb own (lh L k []):=by
 have hf:=Dn L9 bG;obtain⟨u,h3,h4⟩:=h.bB;refine⟨⟨u,bG.heap h3 (by simp;exact xQ),h4.fr hf (.inr (.inr (.inl rfl)))⟩,h.bx,_,hm,λx hx=> ?_⟩;unfold Al lh;by_cases e:x=k
 ·subst e;rw[if_pos rfl,if_pos rfl];exact⟨dc.nil _ _ _,λh=>absurd rfl h⟩
 ·rw[if_neg e,if_neg e];exact⟨(hC x hx).1.fr hf,(hC x hx).2⟩
theorem qd' (w:World) (b:Nat):(binOp .eql 146 (.map (some b)) (.map none)).run prog w= .ok (.bool false) w:=by
 have h:∀ d:Nat,(Op.equalIn (d+1) 146 (.map (some b)) (.map none)).run prog w= .ok false w:=λd=>by
  simp[Op.equalIn,run_underlying underlying146]
 simp only[binOp];simp[Op.equal,Op.maxDepth,h 9999]
theorem qea (B:Int) (hb mb:Nat) (own dE:List Rg) (L:ByteArray->List ax) (v:Value) (w:World) (h:cP w B hb mb own L) (hv:Rw w 63 2 bZ v dE) (bG:dE.length<=1000):
  Calls prog 195 #[.pointer (some ⟨hb,0,none⟩),v] w λe w'=>∃ L',e= .returned (.tuple #[])/\cP w' B hb mb dE L'/\Dv dE L L'/\ah [hb,mb] w w'/\Fr bq w w':=by
 obtain⟨A,c,rfl,_,_⟩:=hv.form;have xQ:=h.apart;obtain⟨rv,hblk,_⟩:=h.bB;obtain⟨s0,s1,sf,shl⟩:=xO hblk;have f0:=sf 0;have HH:=aa h;have HV:=aa hv;have Mh:mb<w.heap.size:=by obtain⟨C,hm,_⟩:=h.fz;exact hm.lt
 have Aq:=aa hblk;clear h hv hblk sf;go_in;go_wp2_with (go_at_call 49;refine(FQ _ dE _ (HV.o.kept al) ab).mono ?_;rintro e w1 ⟨v1,rfl,TP,k1⟩;have iy:=Rw.bp TP nZ ak;clear TP;obtain⟨A1,c1,rfl,_,_⟩:=iy.form;have dv:=aa iy;have s0:=k1.af s0;have s1:=k1.af s1;have f0:=(k1.frozen hb 0 shl).trans f0;have K1:=aa k1;clear iy k1)
 obtain⟨W1,eZ⟩:=eqR (w1.setCell ⟨hb,0,none⟩ (.slice A1 dE.length c1));have G7:ah [hb] w1 W1:=by rw[eZ];exact ah.set hb 0 _
 have Mi:=K1.o.heap Aq.o
 have G8:Fr bq w1 W1:=Fr.gn G7 λx hx cur e he=>by
  simp only[At]at hx;rw[hx,Mi]at he;simp only[Option.some.injEq,Obj.cells.injEq]at he;rw[<- he.2.1];decide
 have HW:ag (qQ W1 B hb mb dE L):=by
  obtain⟨C,h5,h6⟩:=(HH.o.kept K1.o).fz;refine⟨⟨_,by rw[eZ];exact Ok _ _ _ _ _ _ Mi,dv.o.fr G8 (.inr (.inr (.inl rfl)))⟩,bG,C,h5.but G7 (by simp;exact Ne.symm xQ),λk hk=>⟨(h6 k hk).1.fr G8,λg=>((h6 k hk).2 g).2⟩⟩
 have KB:=aa ((ah.ar (S:=[hb,mb]) K1.o).trans (G7.mono ao));have TQ:=aa ((Fr.ar K1.o).trans G8);rw[<- eZ];clear eZ G7 Mi G8 dv s0 s1 f0;refine(Ma B hb mb dE L _ HW.o).mono ?_;rintro e w2 ⟨v2,ks,rfl,hr,hk,k2⟩;obtain⟨KA,kc,rfl,bl,bQ⟩:=hr.form;have cX:=hk.bx;obtain⟨tB,hn⟩:=eqQ ks.length;rw[hn]at hr bl cX⊢;have HR:=aa hr;have HK:=aa hk;have HN:=aa hn;have HW2:=aa (HW.o.kept k2);have mP:=aa (KB.o.trans (.ar k2));have TR:=aa (TQ.o.trans (.ar k2));have aW:w.heap.size<=w2.heap.size:=mP.o.size;clear hr hk hn k2 HW KB TQ;go_wp2;go_loopw [16] (λiv wr=>∃ (U:Nat) (L2:ByteArray->List ax),U<=tB/\iv= .int .i64 U/\ah [mb] w2 wr/\Fr bq w2 wr/\ag (qQ wr B hb mb dE L2)/\ag (Au dE L L2 (ks.take U))) (λiv _=>tB-(intOf iv).toNat)
 case atStart=>exact⟨0,L,ab,rfl,.refl _ _,.ar (ad.refl _),HW2,λk _=>⟨λh=>by simp at h,λ_=>rfl⟩⟩
 case round=>
  obtain⟨U,L2,hj,rfl,kb,vk,hs,bL⟩:=hrel;obtain⟨rv,hblk,_⟩:=hs.o.bB;obtain⟨s0,s1,_,shl⟩:=xO hblk;by_cases an:U<tB
  ·obtain⟨k,fX⟩:=exQ ks U (by rw[HN.o];exact an);obtain⟨b,off,rfl,dZ,hc⟩:=(HR.o.fr vk (.inr (.inr (.inr (.inr (.inl rfl)))))).af fX;have c0:=iU hc;have ph:=aa ((HK.o.mem k).1 (zV fX)).1;have ld:ag (ks.take (U+1)=ks.take U++[k]):=by unfold ag;rw[QI (by rw[HN.o];exact an),(pi.1 fX).2]
   have HNK:ag (k∉ks.take U):=λhx=>by
    obtain⟨i,hi⟩:=qcl.1 hx;have fV:i<U:=by have:=(bg hi);rw[qcd]at this;omega
    rw[qlY fV]at hi;obtain⟨h1,h2⟩:=pi.1 hi;obtain⟨h3,h4⟩:=pi.1 fX;have:=List.pairwise_iff_getElem.1 HK.o.up i U h1 h3 fV;rw[h2,h4]at this;omega
   (try simp only[Nat.mul_one]at c0)
   clear hc fX;go_wp2_with fail
   refine(wI A _ c dE k _ (HV.o.fr (TR.o.trans vk) (.inr (.inr (.inl rfl)))).rows).mono ?_;rintro e w4 ⟨r,rfl,TS,k4⟩;have ej:=Ab TS;have s0:=k4.af s0;have s1:=k4.af s1;have Mj:ah [mb] w2 w4:=kb.trans (.ar k4);have Mk:Fr bq w2 w4:=vk.trans (.ar k4);have l4:=aa (hs.o.kept k4);have hl4:=k4.size;clear TS k4 kb vk;rcases Decidable.em (r<0)with od|od
   ·have jX:ag (¬b4 dE k):=λh=>by have:=ej.2 h;omega
    have hd:decide (r<0)=true:=ql3 od;obtain⟨C,hm,hC⟩:=l4.o.fz;obtain⟨w5,cr,xR,cF⟩:=hm.drop ph.o 0;have fh:=Dn hm cF;have dQ:ag (qQ w5 B hb mb dE (lh L2 k [])):=l4.o.drop hC hm xR cF xQ
    have Dw:ag (Au dE L (lh L2 k []) (ks.take (U+1))):=λx hx=>by
     rw[ld.o];have h:=bL.o x hx;by_cases e:x=k
     ·subst e;rw[L8];exact⟨λ_=>⟨λg=>absurd g jX.o,λ_=>rfl⟩,λg=>absurd ao g⟩
     ·have:x∈ks.take U++[k]↔x∈ks.take U:=by simp[e]
      rw[this,TG e];exact h
    have Dt:ah [mb] w2 w5:=Mj.trans cF;have Du:Fr bq w2 w5:=Mk.trans fh;clear ej hm hC xR cF fh;go_wp2;go_roundw
    case rel=>exact⟨U+1,_,ab,aA,Dt,Du,dQ,Dw⟩
    case measure=>exact dY
   ·have Dp:ag (b4 dE k):=ej.1 ab;have hd:decide (r<0)=false:=ql4 od
    have Dw:ag (Au dE L L2 (ks.take (U+1))):=λx hx=>by
     rw[ld.o];have h:=bL.o x hx;by_cases e:x=k
     ·subst e;have h2:=h.2 HNK.o;exact⟨λ_=>⟨λ_=>h2,λg=>absurd Dp.o g⟩,λg=>h2⟩
     ·have:x∈ks.take U++[k]↔x∈ks.take U:=by simp[e]
      rw[this];exact h
    clear ej;go_wp2;go_roundw
    case rel=>exact⟨U+1,L2,ab,aA,Mj,Mk,l4,Dw⟩
    case measure=>exact dY
  ·obtain rfl:U=tB:=ab;have Ml:=aa hs.o
   have TT:ag (Dv dE L L2):=by
    have h:=bL.o;rw[qcc (by rw[HN.o];exact CP _)]at h;exact Au.all h HK.o
   have heq:=λw=>qd' w mb;clear hblk bL hs;go_wp2;go_end0
   have mh:ah [hb,mb] w wr:=mP.o.trans (kb.mono ao);obtain⟨C,h1,h2⟩:=Ml.o.fz;refine⟨L2,rfl,⟨Ml.o.bB,Ml.o.bx,C,h1,λk hk=>⟨(h2 k hk).1,λg=>⟨?_,(h2 k hk).2 g⟩⟩⟩,TT.o,mh,TR.o.trans vk⟩;exact Classical.byContradiction λg2=>(h2 k hk).2 g ((TT.o k hk).2 g2)
theorem qeb (v:Value) (l:List aD) (d:aD) (P:Nat) (w:World) (hp:b9 l) (hk:Let d.key) (bH:Rw w 60 3 aS v l) (ff:w.cell? ⟨P,0,none⟩=some v):
  Calls prog 302 #[.agg #[.string d.key,.int .i64 d.n,.int .i64 d.s],.pointer (some ⟨P,0,none⟩)] w λe w'=>∃ b,e= .returned (.bool b)/\(b= !c8 (gt l d.key).1 (gt l d.key).2 d.n d.s)/\ad w w':=by
 have HV:=aa bH;have bX:=aa hp;have ph:=aa hk;have hP:P<w.heap.size:=Aa w _ ff;obtain⟨gD,om⟩:=eqQ ((gt l d.key).1);obtain⟨gs,xA⟩:=eqQ ((gt l d.key).2);have HG:ag (gt l d.key=(gD,gs)):=Prod.ext om xA;rw[om,xA];clear bH hp hk om xA;go_wp2;refine Qf [0,1,2,4,5,3,6,7,8] (λwB=>ad w wB/\wB.cell? ⟨P,0,none⟩=some (v)/\wB.cell? ⟨w.heap.size,0,none⟩=some (.string d.key)/\wB.cell? ⟨w.heap.size,1,none⟩=some (.int .i64 d.n)/\wB.cell? ⟨w.heap.size,2,none⟩=some (.int .i64 d.s)) λwB SS=> ?_;obtain⟨au,aB,aC,aF,aX⟩:=SS.o _ (ad.refl _);repeat(apply DW.ct;(focus (intro wd hI;obtain⟨ae,ai,aj,aq,az⟩:=SS.o wd hI;go_wp2_with (first|(go_at_call 232;refine(zD v l d.key _ (HV.o.kept (au.call hI)) bX.o ph.o).mono ?_;rintro e w1 ⟨n,s,rfl,hg,k1⟩;rw[HG.o]at hg;obtain⟨rfl,rfl⟩:gD=n/\gs=s:=by simpa using hg)|(go_at_call 114;refine(qw gD gs d.n d.s _).mono ?_;rintro e w1 ⟨rfl,k1⟩));exact aP));refine DW.np ?_)
 refine DW.nl SS ?_;rintro wd hI ⟨ae,ai,aj,aq,az⟩;go_wp2;go_ret;exact⟨_,rfl,rfl,ae⟩
def oA (bM:List aD) (own:List Rg) (ds:List aD):Prop:=∀ d∈ds,b4 own d.key->c8 (gt bM d.key).1 (gt bM d.key).2 d.n d.s=false
theorem qec (v:ax) (hv:Value) (bM:List aD) (A:Option Addr) (n c:Nat) (own:List Rg) (w:World) (hp:r' w v v.ds) (b':b9 v.ds) (hh:Rw w 60 3 aS hv bM) (nu:b9 bM) (hr:dL w A n c own):
  Calls prog 275 #[aM v,hv,.slice A n c] w λe w'=>∃ v' l',e= .returned v'/\Rw w' 60 3 aS v' l'/\(l'=[]↔oA bM own v.ds)/\ad w w':=by
 obtain⟨A2,c2,rfl,_,_⟩:=hh.form;have iS:∀ fn first cap w,(Instr.makeFunc fn first cap).run prog w= .ok (.func fn first cap) w:=λ_ _ _ _=>rfl
 have HP:=aa hp;have bX:=aa b';have HH:=aa hh;have qT:=aa nu;have HR:=aa hr;have TU:=b'.len;clear hp b' hh nu hr;unfold aM;go_in;go_wp2_with fail
 refine(Sh _ v.ds A n c own _ ab (HP.o.kept al) (HR.o.keep al)).mono ?_;rintro e w1 ⟨v1,l1,b0,rfl,dW,bD,ho,jS,k1⟩;have K1:ad w w1:=ad.call al k1;have c0:w1.cell? ⟨w.heap.size+1,0,none⟩=some (.slice A2 bM.length c2):=k1.af (by go_simp);have hz:w.heap.size+2<=b0:=by simpa using dW
 have HO:=aa ho;have oB:=aa jS;have HB:ag (∀ g,v1.ownBlock=some g->w.heap.size+2<=g):=λg hg=>by have:=(ho.lt g hg).1;omega
 have HT:ag (fI v1.ownBlock.toList w1 302 #[.pointer (some ⟨w.heap.size+1,0,none⟩)] (λd:aD=> .agg #[.string d.key,.int .i64 d.n,.int .i64 d.s]) l1 (λ(d:aD) b=>b= !c8 (gt bM d.key).1 (gt bM d.key).2 d.n d.s)):=⟨λargs w=>enters_of func302 av rfl args w,λW1 h1 d hd=>by
  have KW:ad w W1:=ad.but K1 h1 λx hx=>by have:=HB.o x (Option.mem_toList.1 hx);omega
  exact qeb _ bM d _ W1 qT.o (bX.o.ok d ((oB.o.mem d).1 hd).1).1 (HH.o.kept KW) (h1.af c0 λhx=>by have:w.heap.size+2<=w.heap.size+1:=HB.o _ (Option.mem_toList.1 hx);omega)⟩
 clear ho jS k1 dW c0;go_wp2_with fail
 refine(QN _ v1 l1 _ _ _ w1 bD HO.o HT.o).mono ?_;rintro e w2 ⟨v2,l2,rfl,h1,h2,h3⟩;have H1:=aa h1;have H2:=aa h2;clear h1 h2;go_wp2;go_ret;refine⟨v2,l2,rfl,Rw.bp H1.o gT ak,⟨λe d hd ho=> ?_,λh=> ?_⟩,ad.but K1 h3 λx hx=>by have:=HB.o x (Option.mem_toList.1 hx);omega⟩
 ·rcases cK.mem H2.o ((oB.o.mem d).2 ⟨hd,ho⟩)with g|g
  ·rw[e]at g;cases g
  ·simpa using g.symm
 ·refine List.eq_nil_iff_forall_not_mem.2 λd hd=> ?_;obtain⟨h4,h5⟩:=cK.not H2.o hd;obtain⟨h6,h7⟩:=(oB.o.mem d).1 h4;rw[h d h6 h7]at h5;cases h5
theorem qed (v:ax) (hv:Value) (bM:List aD) (A:Option Addr) (n c:Nat) (own:List Rg) (w:World) (hp:r' w v v.ds) (b':b9 v.ds) (hh:Rw w 60 3 aS hv bM) (nu:b9 bM) (hr:dL w A n c own):
  Calls prog 243 #[aM v,hv,.slice A n c] w λe w'=>∃ b,e= .returned (.bool b)/\(b=true↔oA bM own v.ds)/\ad w w':=by
 have HP:=aa hp;have bX:=aa b';have HH:=aa hh;have qT:=aa nu;have HR:=aa hr;clear hp b' hh nu hr
 have gz:∀ w1,ad w w1->Calls prog 275 #[.agg #[.string v.key,.string v.val,.bool v.gone,.int .i64 v.n,.int .i64 v.s,.slice v.pa v.pn v.pc],hv,.slice A n c] w1 λe w'=>∃ A2 m c2,e= .returned (.slice A2 m c2)/\(m=0↔oA bM own v.ds)/\ad w1 w':=λw1 k=>(qec v hv bM A n c own w1 (HP.o.kept k) bX.o (HH.o.kept k) qT.o (HR.o.keep k)).mono λe w' ⟨v',l',h1,h2,h3,h4⟩=>by
  obtain⟨A2,c2,rfl,_,_⟩:=h2.form;exact⟨A2,_,c2,h1,by rw[<- h3,List.length_eq_zero_iff],h4⟩
 have HM:=aa gz;clear gz;unfold aM;go_in;go_wp2_with fail
 refine(HM.o _ al).mono ?_;rintro e w1 ⟨A2,m,c2,rfl,hm,k1⟩;have HB:ag (decide ((m:Int)=0)=true↔oA bM own v.ds):=by unfold ag;rw[decide_eq_true_iff,<- hm];omega
 have K1:ad w w1:=ad.call al k1;clear hm k1;go_wp2;go_ret;exact⟨_,rfl,HB.o,K1⟩
theorem Rw.full {α:Type} {f:α->List Value} {A:Option Addr} {l:List α} (h:Rw w e k f (.slice A n c) l):Rw w e k f (.slice A n n) l:=by
 obtain⟨A',c',hv,h1,h2,h3,h4⟩:=h;injection hv with e1 e2 e3;subst e1 e2 e3;exact⟨A,l.length,rfl,CP _,ab,λg=>⟨(h3 g).1,by rw[(h3 g).1];rfl⟩,h4⟩
theorem Mm {α:Type} {P:Program} {qD:Oper} (qR:qD.guard=none) (s x:Operand) (t e:TypeId) (z:Value) (k bytes:Nat) (f:α->List Value) (ho:qD.op= .call {callee:= .builtin .append,args:= #[s,x],argTypes:= #[t,t]}) (ht:P.underlying t=some (.slice e)) (hi:(P.info? e).map (λi=>(i.zero,i.size,i.bytes))=some (some z,k,bytes)) (wU:z.cells.size=k) (hk:0<k) (oz:bytes<=1000) (hf:∀ a,(f a).length=k) (h1:∀ l:List α,∀ u∈l.flatMap f,u.oneCell'=true)
  (A:Option Addr) (n cap:Nat) (xs ys:List α) (hs:a.eval s= .slice A n cap) (hv:Rw w e k f (.slice A n cap) xs) (b off m c:Nat) (hx:a.eval x= .slice (some ⟨b,off,none⟩) m c) (hy:Rw w e k f (.slice (some ⟨b,off,none⟩) m c) ys) (s6:cap<n+m) (hl:xs.length+ys.length<=100000000000)
  (h:∀ v' w',w'.ownsRow w.heap.size e k v' (xs++ys).length ((xs++ys).flatMap f)->ad w w'->wpList P ops Q rest (a.put qD.dst v') w'):wpList P ops Q (qD::rest) a w:=by
 obtain⟨i0,hi,a7,aY,aW⟩:=ql0 hi;obtain⟨hm,hc⟩:=hy.flat hf hk;subst hm;obtain rfl:=hv.len;refine wpList_append_grows w qR s x t ho e i0 z k bytes ht hi a7 aY aW wU hk A xs.length cap (xs.flatMap f) hs ?_ (eF hf xs) ?_ ⟨b,off,none⟩ ys.length c (ys.flatMap f) hx (eF hf ys) hc (h1 ys) s6 (by unfold maxLen;omega) (qcg (Nat.mul_le_mul hl oz) ak) λv' w' h2 h3=> ?_
 ·intro g;obtain⟨A',c',lP,_,_,h3,_⟩:=hv;injection lP with e1 _ e3;subst e1 e3;exact⟨by rw[(h3 g).1];rfl,(h3 g).2⟩
 ·rintro p rfl U u hu
  obtain⟨nY,qj,rfl⟩:∃ b off,p=⟨b,off,none⟩:=by
   obtain⟨A',c',lP,_,_,_,h4⟩:=hv;injection lP with e1 _ _;obtain⟨b,off,cur,hA,_⟩:=h4 p e1.symm;exact⟨b,off,hA⟩
  exact(hv.flat hf hk).2 U u hu
 ·refine h v' w' ?_ ((ad.refl w).grown h3 ao);rw[zH,List.flatMap_append];exact h2
theorem b7.check {v:ax} (h:b7 w B v):ag (∀ W,ad w W->Calls prog 149 #[.agg #[.string v.key,.string v.val,.bool v.gone,.int .i64 v.n,.int .i64 v.s,.slice v.pa v.pn v.pc]] W λe w'=>e= .returned (.bool true)/\ad W w'):=λW hW=>
 (C9 v v.ds W h.key (h.jB.kept hW) (λd hd=>(h.cg.ok d hd).1) (by have:=h.cg.len;omega) (by have:=h.wc.2.2.1;omega)).mono λe w' ⟨b,h1,h2,h3⟩=>⟨by rw[h1,h2.2 h.wc],h3⟩
theorem cB {base e:Nat} {v:Value} {xs:List Value} (h:w.ownsRow base e k v n xs) (hb:ah S w w2) (hn:∀ g,v.ownBlock=some g->g∉S):w2.ownsRow base e k v n xs:=by
 refine⟨h.1,h.2.imp id ?_⟩;rintro⟨g,cap,cur,rfl,h1,h2,h3⟩;exact⟨g,cap,cur,rfl,h1,hb.heap h2 (hn g rfl),h3⟩
theorem Rw.but {α:Type} {f:α->List Value} {l:List α} (h:Rw w e k f (.slice (some ⟨b,off,none⟩) n c) l) (hb:ah S w w2) (hn:b∉S):Rw w2 e k f (.slice (some ⟨b,off,none⟩) n c) l:=by
 obtain⟨A,c',hv,h1,h2,h3,h4⟩:=h;injection hv with e1 e2 e3;subst e1;obtain⟨nY,qj,cur,hA,h5,h6⟩:=h4 _ rfl;injection hA with q1 q2 _;subst q1 q2;exact⟨_,c',by rw[e2,e3],h1,h2,h3,λp hp=>⟨b,off,cur,by injection hp with hp;exact hp.symm,hb.heap h5 hn,h6⟩⟩
def TV (w:World) (l:List ax) (v:ax) (v':Value) (er:Int):Prop:=(24<=l.length/\er=15)∨(l.length<24/\er=0/\Rw w 48 6 a8 v' (l++[v]))
theorem qee (B:Int) (lv:Value) (l:List ax) (v:ax) (w:World) (hl:Rw w 48 6 a8 lv l) (hn:l.length<=1000) (hv:b7 w B v):
  Calls prog 184 #[lv,aM v] w λe w'=>∃ v' er,e= .returned (.tuple #[v',.int .i64 er])/\TV w' l v v' er/\ad w w':=by
 obtain⟨A,c,rfl,bl,bQ⟩:=hl.form;have HL:=aa hl;have HF:=aa hl.full;have HW:=hv.check;have HV:=aa hv
 have hA:A=none->l.length=0/\c=0:=λg=>by
  obtain⟨A',c',lP,_,_,h3,_⟩:=hl;injection lP with e1 _ e3;rw[e3];exact⟨by rw[(h3 (e1▸g)).1];rfl,(h3 (e1▸g)).2⟩
 obtain⟨n,tC⟩:=eqQ l.length;have HN:=aa tC;rw[tC]at HL HF bl hn hA⊢;clear hl hv tC;unfold aM;go_in;go_wp2_with fail
 refine(HW.o _ al).mono ?_;rintro e w1 ⟨rfl,k1⟩;have e0:w1.cell? ⟨w.heap.size,0,none⟩=some (.string v.key):=k1.af (by go_simp);have e1:w1.cell? ⟨w.heap.size,1,none⟩=some (.string v.val):=k1.af (by go_simp);have e2:w1.cell? ⟨w.heap.size,2,none⟩=some (.bool v.gone):=k1.af (by go_simp);have e3:w1.cell? ⟨w.heap.size,3,none⟩=some (.int .i64 v.n):=k1.af (by go_simp);have e4:w1.cell? ⟨w.heap.size,4,none⟩=some (.int .i64 v.s):=k1.af (by go_simp);have e5:w1.cell? ⟨w.heap.size,5,none⟩=some (.slice v.pa v.pn v.pc):=k1.af (by go_simp);have K1:ad w w1:=ad.call al k1;clear k1;rcases R6 n 24 with vn|vn
 ·have hd:decide ((24:Int)<=(n:Int))=false:=ql4 ab
  cases A with
  |none=>
   obtain⟨rfl,rfl⟩:=hA rfl;go_wp2;refine ey [none,none,none,none,none,none,none,some (λu w'=>∃ g,u= .slice (some ⟨g,0,none⟩) 1 1/\w'.heap[g]? =some (.cells (a8 v).toArray 48 (0,0))),some (λu w'=>Rw w' 48 6 a8 u (l++[v])),none,none] (λwB=>ad w wB/\ad w1 wB/\wB.cell? ⟨w.heap.size,0,none⟩=some (.string v.key)/\wB.cell? ⟨w.heap.size,1,none⟩=some (.string v.val)/\wB.cell? ⟨w.heap.size,2,none⟩=some (.bool v.gone)/\wB.cell? ⟨w.heap.size,3,none⟩=some (.int .i64 v.n)/\wB.cell? ⟨w.heap.size,4,none⟩=some (.int .i64 v.s)/\wB.cell? ⟨w.heap.size,5,none⟩=some (.slice v.pa v.pn v.pc)) λwB SS=> ?_;iterate 7 refine SP.on ?_
   refine SP.ew ?_ λv1=> ?_
   ·intro wd hI hF;obtain⟨ae,ay,ai,aj,aq,az,aK,a1⟩:=SS.o wd hI;clear hF;go_wp2_with (fail);exact bn rfl ⟨_,rfl,yY _ _⟩
   refine SP.ew ?_ λv2=> ?_
   ·intro wd hI hF;obtain⟨ae,ay,ai,aj,aq,az,aK,a1⟩:=SS.o wd hI;have h1:=hF.1 av;clear hF;go_wp2_with ((at_builtin;obtain⟨Ac,⟨g,rfl,hg⟩,tp⟩:=h1;go_must (refine Mm rfl _ _ 33 48 _ 6 80 a8 rfl underlying33 ql rfl ak ak gp uO _ _ _ l [v] rfl (HF.o.kept ae) _ 0 1 1 rfl (Rw.one (tp.heap hg)) ab (by rw[HN.o];show _+1<=_;omega) ?_);intro v5 w5 iY k5));exact bn rfl (Rw.bp iY gp ak)
   refine SP.on (v:=v2) ?_;iterate 1 refine SP.on ?_
   refine SP.nil av λwd hI hF=> ?_;obtain⟨ae,ay,ai,aj,aq,az,aK,a1⟩:=SS.o wd hI;have h2:=hF.1;clear hF SS;obtain⟨w9,fA,k9⟩:=h2;have oC:=aa (fA.kept k9);clear fA k9
   (try go_wp2)
   go_ret2
   exact⟨v2,0,rfl,.inr ⟨by rw[HN.o];exact vn,rfl,oC.o⟩,ae⟩
  |some p=>
   go_wp2;refine ey [none,none,none,none,none,none,none,some (λu w'=>∃ g,u= .slice (some ⟨g,0,none⟩) 1 1/\w'.heap[g]? =some (.cells (a8 v).toArray 48 (0,0))),some (λu w'=>Rw w' 48 6 a8 u (l++[v])),none,none] (λwB=>ad w wB/\ad w1 wB/\wB.cell? ⟨w.heap.size,0,none⟩=some (.string v.key)/\wB.cell? ⟨w.heap.size,1,none⟩=some (.string v.val)/\wB.cell? ⟨w.heap.size,2,none⟩=some (.bool v.gone)/\wB.cell? ⟨w.heap.size,3,none⟩=some (.int .i64 v.n)/\wB.cell? ⟨w.heap.size,4,none⟩=some (.int .i64 v.s)/\wB.cell? ⟨w.heap.size,5,none⟩=some (.slice v.pa v.pn v.pc)) λwB SS=> ?_;iterate 7 refine SP.on ?_
   refine SP.ew ?_ λv1=> ?_
   ·intro wd hI hF;obtain⟨ae,ay,ai,aj,aq,az,aK,a1⟩:=SS.o wd hI;clear hF;go_wp2_with (fail);exact bn rfl ⟨_,rfl,yY _ _⟩
   refine SP.ew ?_ λv2=> ?_
   ·intro wd hI hF;obtain⟨ae,ay,ai,aj,aq,az,aK,a1⟩:=SS.o wd hI;have h1:=hF.1 av;clear hF;go_wp2_with ((at_builtin;obtain⟨Ac,⟨g,rfl,hg⟩,tp⟩:=h1;go_must (refine Mm rfl _ _ 33 48 _ 6 80 a8 rfl underlying33 ql rfl ak ak gp uO _ _ _ l [v] rfl (HF.o.kept ae) _ 0 1 1 rfl (Rw.one (tp.heap hg)) ab (by rw[HN.o];show _+1<=_;omega) ?_);intro v5 w5 iY k5));exact bn rfl (Rw.bp iY gp ak)
   refine SP.on (v:=v2) ?_;iterate 1 refine SP.on ?_
   refine SP.nil av λwd hI hF=> ?_;obtain⟨ae,ay,ai,aj,aq,az,aK,a1⟩:=SS.o wd hI;have h2:=hF.1;clear hF SS;obtain⟨w9,fA,k9⟩:=h2;have oC:=aa (fA.kept k9);clear fA k9
   (try go_wp2)
   go_ret2
   exact⟨v2,0,rfl,.inr ⟨by rw[HN.o];exact vn,rfl,oC.o⟩,ae⟩
 ·have hd:decide ((24:Int)<=(n:Int))=true:=ql3 ab;go_wp2;go_ret2
  exact⟨_,15,rfl,.inl ⟨by rw[HN.o];exact vn,rfl⟩,K1⟩
theorem Rw.cut {α:Type} {f:α->List Value} {l:List α} (h:Rw w e k f (.slice (some ⟨b,off,none⟩) n c) l) (i m d:Nat) (kk:i+m<=n) (o4:m<=d) (hU:d<=maxLen):Rw w e k f (.slice (some ⟨b,off+i*k,none⟩) m d) ((l.drop i).take m):=by
 obtain⟨A',c',hv,h1,h2,h3,h4⟩:=h;injection hv with e1 e2 e3;subst e1;obtain⟨nY,qj,cur,hA,hb,hc⟩:=h4 _ rfl;injection hA with q1 q2 _;subst q1 q2;have hlen:((l.drop i).take m).length=m:=by rw[qcd,ql1];omega
 refine⟨some ⟨b,off+i*k,none⟩,d,by rw[hlen],ab,hU,(λh=>by cases h),λp hp=>⟨b,off+i*k,cur,by injection hp with hp;exact hp.symm,hb,λU a hj q u hu=> ?_⟩⟩;have s5:U<m:=by have:=(bg hj);omega
 rw[qlY s5,List.getElem?_drop]at hj;have:=hc (i+U) a hj q u hu;rw[Nat.add_mul]at this;rw[show off+i*k+U*k+q=off+(i*k+U*k)+q by omega];exact this
theorem qef (w:World) (ty:TypeId) (A:Option Addr) (n c k c2:Nat) (p:Addr) (h:n<=c) (hk:k=0):(Builtin.append_ #[33,33] ty #[.slice A n c,.slice (some p) k c2]).run prog w= .ok (.slice A n c) w:=by
 subst hk;obtain⟨i0,hi,_,aY,_⟩:=ql0 ql;exact run_append_nothing w _ _ ty _ i0 underlying33 hi A n c h _ (Src.ofSlice w underlying33 p 0 c2 [] ao ao ao)
theorem qeg {qD:Oper} (qR:qD.guard=none) (s x:Operand) (ho:qD.op= .call {callee:= .builtin .append,args:= #[s,x],argTypes:= #[33,33]}) (A:Option Addr) (n c k c2:Nat) (p:Addr) (hs:a.eval s= .slice A n c) (hx:a.eval x= .slice (some p) k c2) (h:n<=c) (hk:k=0) (hK:wpList prog ops Q rest (a.put qD.dst (.slice A n c)) w):wpList prog ops Q (qD::rest) a w:=by
 refine wpList_plain qR λK Mn=> ?_;have cr:=qef w qD.type A n c k c2 p h hk;unfold Oper.wp;simp[execOp,ho,resolve,invoke,builtin,hs,hx,cr,Result.andThen];exact Mn _ _ hK
def TW (w:World) (bM:List aD) (own:List Rg) (lv:Value) (l:List ax) (x:ax) (kF:Value) (b:Bool):Prop:=
 (b=true/\∃ i,l[i]? =some x/\oA bM own x.ds/\Rw w 48 6 a8 kF (l.take i++l.drop (i+1)))∨(b=false/\x=zeroV/\kF=lv)
theorem qeh (B:Int) (lv hv:Value) (l:List ax) (bM:List aD) (A:Option Addr) (n c:Nat) (own:List Rg) (w:World) (hl:Rw w 48 6 a8 lv l) (hn:l.length<=1000) (eh:∀ x∈l,b7 w B x) (hh:Rw w 60 3 aS hv bM) (nu:b9 bM) (hr:dL w A n c own):
  Calls prog 186 #[lv,hv,.slice A n c] w λe w'=>∃ x kF b,e= .returned (.tuple #[aM x,kF,.bool b])/\TW w' bM own lv l x kF b/\ad w w':=by
 obtain⟨LA,lc,rfl,bl,bQ⟩:=hl.form;obtain⟨m,hm⟩:=eqQ l.length;rw[hm]at hl bl hn⊢;have HL:=aa hl;have HM:=aa hm;have jF:=aa eh;have HH:=aa hh;have qT:=aa nu;have HR:=aa hr;clear hl hm eh hh nu hr;have H0:ag (VB (w.alloc (.cells #[.string ⟨#[]⟩,.string ⟨#[]⟩,.bool false,.int .i64 0,.int .i64 0,.slice none 0 0] 48)) w.heap.size (.string ⟨#[]⟩) (.string ⟨#[]⟩) (.bool false) (.int .i64 0) (.int .i64 0) (.slice none 0 0)):=ns w;go_wp2;go_step3
 go_wp2;go_step3
 go_wp2;go_loopw [13] (λiv wr=>∃ U:Nat,U<=m/\iv= .int .i64 U/\ad w wr/\ag (VB wr w.heap.size (.string ⟨#[]⟩) (.string ⟨#[]⟩) (.bool false) (.int .i64 0) (.int .i64 0) (.slice none 0 0))) (λiv _=>m-(intOf iv).toNat)
 case atStart=>exact⟨0,ab,rfl,al,H0⟩
 case round=>
  obtain⟨U,hj,rfl,kr,hz⟩:=hrel;have Cc:w.heap.size<wr.heap.size:=hz.o.cells.2.2.2.2.2.2.2;by_cases an:U<m
  ·obtain⟨x,hx⟩:=exQ l U (by rw[HM.o];exact an);obtain⟨b,off,rfl,hb,hc⟩:=HL.o.af hx;have HX:=aa hx;have bh:=jF.o x (zV hx);have HP:=aa bh.jB;have bX:=aa bh.cg;obtain⟨x0,x1,x2,x3,x4,x5,x6,x7,x8⟩:=x;obtain⟨c0,c1,c2,c3,c4,c5⟩:=o5 λU u hu=>kr.af (hc U u hu);clear hx hc bh;go_wp2_with fail
   refine(qed ⟨x0,x1,x2,x3,x4,x5,x6,x7,x8⟩ hv bM A n c own _ (HP.o.kept al) bX.o (HH.o.kept al) qT.o (HR.o.keep al)).mono ?_;rintro e w1 ⟨b1,rfl,bD,k1⟩;have tw:=aa bD;have Z1:=hz.o.but (ah.ar (S:=[]) (ad.call al k1)) ao;have K1:ad w w1:=ad.call al k1;have e0:w1.cell? ⟨wr.heap.size,0,none⟩=some (.string x0):=k1.af (by go_simp);have e1:w1.cell? ⟨wr.heap.size,1,none⟩=some (.string x1):=k1.af (by go_simp);have e2:w1.cell? ⟨wr.heap.size,2,none⟩=some (.bool x2):=k1.af (by go_simp);have e3:w1.cell? ⟨wr.heap.size,3,none⟩=some (.int .i64 x3):=k1.af (by go_simp);have e4:w1.cell? ⟨wr.heap.size,4,none⟩=some (.int .i64 x4):=k1.af (by go_simp);have e5:w1.cell? ⟨wr.heap.size,5,none⟩=some (.slice x5 x6 x7):=k1.af (by go_simp);have HZ:=aa Z1;clear bD k1 hz Z1
   cases b1
   ·go_wp2;go_roundw
    case rel=>exact⟨U+1,ab,aA,K1,HZ⟩
    case measure=>exact dY
   ·have ii:=aa (tw.o.1 rfl);have qI:b<w1.heap.size:=R4 hb K1.size;have TX:wr.heap.size<w1.heap.size:=Aa w1 _ e0
    have cC:ag (Rw w 48 6 a8 (.slice (some ⟨b,off,none⟩) U U) (l.take U)):=by
     unfold ag;have:=HL.o.cut 0 U U ab (CP _) (by unfold maxLen;omega);simpa using this
    have ll:ag (Rw w 48 6 a8 (.slice (some ⟨b,off+(U+1)*6,none⟩) (m-(U+1)) (lc-(U+1))) (l.drop (U+1))):=by
     have:=HL.o.cut (U+1) (m-(U+1)) (lc-(U+1)) ab ab (by unfold maxLen;omega);rwa [qcc (by rw[ql1,HM.o];exact CP _)]at this
    obtain⟨r,tc⟩:∃ r,l.take U++l.drop (U+1)=r:=⟨_,rfl⟩;have zL:=aa tc;clear tc;by_cases JG:U+1<m
    ·go_wp2;refine ey [none,none,none,none,none,none,none,none,none,some (λu w'=>∃ b0,w.heap.size+1<=b0/\w'.ownsRow b0 48 6 u r.length (r.flatMap a8))] (λwB=>ad w wB/\ad w1 wB/\wB.cell? ⟨wr.heap.size,0,none⟩=some (.string x0)/\wB.cell? ⟨wr.heap.size,1,none⟩=some (.string x1)/\wB.cell? ⟨wr.heap.size,2,none⟩=some (.bool x2)/\wB.cell? ⟨wr.heap.size,3,none⟩=some (.int .i64 x3)/\wB.cell? ⟨wr.heap.size,4,none⟩=some (.int .i64 x4)/\wB.cell? ⟨wr.heap.size,5,none⟩=some (.slice x5 x6 x7)) λwB SS=> ?_;iterate 9 refine SP.on ?_
     refine SP.ew ?_ λv1=> ?_
     ·intro wd hI hF;obtain⟨ae,ay,ai,aj,aq,az,aK,a1⟩:=SS.o wd hI;clear hF;go_wp2_with ((at_builtin;have kp:=ay.size;go_must (refine Mm rfl _ _ 33 48 _ 6 80 a8 rfl underlying33 ql rfl ak ak gp uO _ _ _ (l.take U) (l.drop (U+1)) rfl (cC.o.kept ae) _ _ _ _ rfl (ll.o.kept ae) ab (by rw[qcd,ql1,HM.o];omega) ?_);intro v5 w5 iY k5;rw[zL.o]at iY));exact bn rfl ⟨wd.heap.size,ab,iY⟩
     refine SP.ml SS ?_;rintro wd hI hF ⟨ae,ay,ai,aj,aq,az,aK,a1⟩;have h1:=hF.1;clear hF SS;obtain⟨w9,⟨b0,dW,fA⟩,k9⟩:=h1;have oC:=aa (ad.own fA k9);obtain⟨RA,rc,rfl⟩:=ca fA;have Dx:=aa (HZ.o.but (ah.ar (S:=[]) ay) ao);obtain⟨z0,z1,z2,z3,z4,z5,zf,_⟩:=Dx.o.cells;have f0:=zf 0;have f1:=zf 1;have f2:=zf 2;have f3:=zf 3;have f4:=zf 4;have f5:=zf 5;clear zf;go_wp2;obtain⟨y0,y1,y2,y3,y4,y5,_,_⟩:=(Dx.o.all (.string x0) (.string x1) (.bool x2) (.int .i64 x3) (.int .i64 x4) (.slice x5 x6 x7)).cells
     (try rw[Exit.noGoto_ret])
     refine KV (v:= .tuple #[aM ⟨x0,x1,x2,x3,x4,x5,x6,x7,x8⟩,.slice RA r.length rc,.bool true]) (by simp[results,results186,go_sem,aM,y0,y1,y2,y3,y4,y5]) rfl ?_;exact⟨⟨x0,x1,x2,x3,x4,x5,x6,x7,x8⟩,_,true,rfl,.inl ⟨rfl,U,HX.o,ii.o,by rw[zL.o];exact Rw.bp (cB oC.o (ah.all w.heap.size _ _ _ _ _ _) λg hg hx=>by have:=(oC.o.lt g hg).1;simp at hx;omega) gp ak⟩,ad.but ae (ah.all _ _ _ _ _ _ _) ao⟩
    ·skip
     have G9:ag (l.take U++l.drop (U+1)=l.take U):=by
      unfold ag;rw[List.drop_eq_nil_iff.2 (by rw[HM.o];omega),List.append_nil]
     rcases Nat.eq_zero_or_pos (lc-(U+1))with a7|a7
     all_goals
      go_wp2;refine ey [none,none,none,none,none,none,none,none,none,none] (λwB=>ad w wB/\ad w1 wB/\wB.cell? ⟨wr.heap.size,0,none⟩=some (.string x0)/\wB.cell? ⟨wr.heap.size,1,none⟩=some (.string x1)/\wB.cell? ⟨wr.heap.size,2,none⟩=some (.bool x2)/\wB.cell? ⟨wr.heap.size,3,none⟩=some (.int .i64 x3)/\wB.cell? ⟨wr.heap.size,4,none⟩=some (.int .i64 x4)/\wB.cell? ⟨wr.heap.size,5,none⟩=some (.slice x5 x6 x7)) λwB SS=> ?_;iterate 9 refine SP.on ?_
      apply SP.one av
      ·intro wd hI hF;obtain⟨ae,ay,ai,aj,aq,az,aK,a1⟩:=SS.o wd hI;clear hF;go_wp2_with ((at_builtin;go_must (refine qeg rfl _ _ rfl _ _ _ _ _ _ rfl rfl (CP _) ab ?_)));exact aP
      refine SP.np ?_;refine SP.ml SS ?_;rintro wd hI hF ⟨ae,ay,ai,aj,aq,az,aK,a1⟩;clear hF SS;have Dx:=aa (HZ.o.but (ah.ar (S:=[]) ay) ao);obtain⟨z0,z1,z2,z3,z4,z5,zf,_⟩:=Dx.o.cells;have f0:=zf 0;have f1:=zf 1;have f2:=zf 2;have f3:=zf 3;have f4:=zf 4;have f5:=zf 5;clear zf;go_wp2;obtain⟨y0,y1,y2,y3,y4,y5,_,_⟩:=(Dx.o.all (.string x0) (.string x1) (.bool x2) (.int .i64 x3) (.int .i64 x4) (.slice x5 x6 x7)).cells
      (try rw[Exit.noGoto_ret])
      refine KV (v:= .tuple #[aM ⟨x0,x1,x2,x3,x4,x5,x6,x7,x8⟩,.slice (some ⟨b,off,none⟩) U U,.bool true]) (by simp[results,results186,go_sem,aM,y0,y1,y2,y3,y4,y5]) rfl ?_;exact⟨⟨x0,x1,x2,x3,x4,x5,x6,x7,x8⟩,_,true,rfl,.inl ⟨rfl,U,HX.o,ii.o,by rw[G9.o];exact(cC.o.kept ae).but (ah.all w.heap.size _ _ _ _ _ _) (by simp;omega)⟩,ad.but ae (ah.all _ _ _ _ _ _ _) ao⟩
  ·obtain rfl:U=m:=ab;obtain⟨z0,z1,z2,z3,z4,z5,zf,_⟩:=hz.o.cells;have f0:=zf 0;have f1:=zf 1;have f2:=zf 2;have f3:=zf 3;have f4:=zf 4;have f5:=zf 5;clear zf;go_wp2;obtain⟨y0,y1,y2,y3,y4,y5,_,_⟩:=(hz.o.all (.string ⟨#[]⟩) (.string ⟨#[]⟩) (.bool false) (.int .i64 0) (.int .i64 0) (.slice none 0 0)).cells
   (try rw[Exit.noGoto_ret])
   refine KV (v:= .tuple #[aM zeroV,.slice LA U lc,.bool false]) (by simp[results,results186,go_sem,aM,zeroV,y0,y1,y2,y3,y4,y5]) rfl ?_;exact⟨zeroV,_,false,rfl,.inr ⟨rfl,rfl,rfl⟩,ad.but kr (ah.all _ _ _ _ _ _ _) ao⟩
end Go.Proofs.YtehaoggjlciobaaGreat

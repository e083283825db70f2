/- Part 14 of 40. -/
import Derived.Test.YtehaoggjlciobaaGreatQas
set_option linter.all false
set_option maxRecDepth 20000
set_option maxHeartbeats 16000000
namespace Go.Proofs.YtehaoggjlciobaaGreat
open Go.Maps Go.RowKit Go.Proofs.Tryz
variable {p:List aD} {l:List ax} {U b k:Nat} {e:TypeId} {x y:Value} {w:World} {v:ax}
theorem drop1 (A:Option Addr) (n c:Nat) (rs:List Rg) (v:ax) (P:Nat) (w:World) (bH:dL w A n c rs) (ff:w.cell? ⟨P,0,none⟩=some (.slice A n c)):
  Calls prog 253 #[aM v,.pointer (some ⟨P,0,none⟩)] w λe w'=>∃ b,e= .returned (.bool b)/\(b=true↔¬b4 rs v.key)/\ad w w':=by
 have HV:=aa bH;have hP:P<w.heap.size:=Aa w _ ff;clear bH;unfold aM;go_in;go_wp2_with fail
 refine(wI A n c rs v.key _ (HV.o.keep al)).mono ?_;rintro e w1 ⟨r,rfl,hr,k1⟩
 have HR:ag (decide (r<0)=true↔¬b4 rs v.key):=by
  unfold ag;rw[decide_eq_true_iff];have:=Ab hr;unfold b4;rw[<- this];omega
 clear hr;go_wp2;go_ret;exact⟨_,rfl,HR.o,ad.call al k1⟩
def Dy (rs:List Rg) (l l':List ax):Prop:=cK (λ(v:ax) b=>b=true↔¬b4 rs v.key) l l'
theorem Dy.mem {rs:List Rg} {l':List ax} (h:Dy rs l l') (d:ax):d∈l'↔d∈l/\b4 rs d.key:=by
 refine⟨λhd=> ?_,λ⟨hd,ho⟩=> ?_⟩
 ·obtain⟨h1,h2⟩:=cK.not h hd;refine⟨h1,Classical.byContradiction λg=> ?_⟩;have:=h2.2 g;cases this
 ·rcases cK.mem h hd with g|g
  ·exact g
  ·exact absurd ho (g.1 rfl)
theorem qei (v:Value) (l:List ax) (A:Option Addr) (n c:Nat) (rs:List Rg) (w:World) (hl:l.length<=1000000000000) (bH:Rw w 48 6 a8 v l) (hr:dL w A n c rs):
  Calls prog 196 #[v,.slice A n c] w λe w'=>∃ v' l',e= .returned v'/\Rw w' 48 6 a8 v' l'/\Dy rs l l'/\ad w w':=by
 have iS:∀ fn first cap w,(Instr.makeFunc fn first cap).run prog w= .ok (.func fn first cap) w:=λ_ _ _ _=>rfl
 have HV:=aa bH;have HR:=aa hr;clear bH hr;go_in;go_wp2_with fail
 refine(FP v l _ (HV.o.kept al) hl).mono ?_;rintro e w1 ⟨v1,rfl,ho,k1⟩;have K1:ad w w1:=ad.call al k1;have c0:w1.cell? ⟨w.heap.size,0,none⟩=some (.slice A n c):=k1.af (by go_simp);have HO:=aa ho;have HB:ag (∀ g,v1.ownBlock=some g->w.heap.size+1<=g):=λg hg=>by have:=(ho.lt g hg).1;simpa using this
 have HT:ag (fI v1.ownBlock.toList w1 253 #[.pointer (some ⟨w.heap.size,0,none⟩)] aM l (λ(v:ax) b=>b=true↔¬b4 rs v.key)):=⟨λargs w=>enters_of func253 av rfl args w,λW1 h1 d _=>drop1 A n c rs d w.heap.size W1 (HR.o.keep (ad.but K1 h1 λx hx=>by have:=HB.o x (Option.mem_toList.1 hx);omega)) (h1.af c0 λhx=>by have:w.heap.size+1<=w.heap.size:=HB.o w.heap.size (Option.mem_toList.1 hx);omega)⟩;clear ho k1;go_wp2_with fail
 have an:w.heap.size<w1.heap.size:=Aa w1 _ c0;refine(QO _ v1 l _ _ _ w1 (by simp;omega) HO.o HT.o).mono ?_;rintro e w2 ⟨v2,l2,rfl,h1,h2,h3⟩;have H1:=aa h1;have H2:=aa h2;clear h1 h2;go_wp2;go_ret;exact⟨v2,l2,rfl,Rw.bp H1.o gp ak,H2.o,ad.but K1 h3 λx hx=>by have:=HB.o x (Option.mem_toList.1 hx);omega⟩
def SB (w:World) (b:Nat) (x y:Value):Prop:=w.heap[b]? =some (.cells #[x,y] 75 (0,0))
theorem SB.cells (h:SB w b x y):w.cell? ⟨b,0,none⟩=some x/\w.cell? ⟨b,1,none⟩=some y/\(∀ qD,w.frozen? ⟨b,qD,none⟩=false)/\b<w.heap.size:=
 ⟨aE h 0,aE h 1,aI h,(aQ h)⟩
theorem SB.but {S:List Nat} {w2:World} (h:SB w b x y) (k:ah S w w2) (hn:b∉S):SB w2 b x y:=k.heap h hn
theorem SB.s0 (h:SB w b x y) (v:Value):SB (w.setCell ⟨b,0,none⟩ v) b v y:=Ok w b 0 _ _ v h
theorem SB.s1 (h:SB w b x y) (v:Value):SB (w.setCell ⟨b,1,none⟩ v) b x v:=Ok w b 1 _ _ v h
def cY (s:Int) (pv:Value):Value:= .agg #[.int .i64 s,pv]
theorem TY (s:Int) (w:World):
  Calls prog 28 #[.int .i64 s] w λe w'=>e= .returned (cY s (.slice none 0 0))/\ad w w':=by
 have H0:SB (w.alloc (.cells #[.int .i64 0,.slice none 0 0] 75)) w.heap.size (.int .i64 0) (.slice none 0 0):=yY w _;obtain⟨z0,z1,zf,_⟩:=H0.cells;have f0:=zf 0;have f1:=zf 1;clear zf;go_in;go_wp2_with fail
 obtain⟨y0,y1,_,_⟩:=((H0.s0 (.int .i64 s)).s1 (.slice none 0 0)).cells;refine KV (v:=cY s (.slice none 0 0)) (by simp[results,results28,go_sem,cY,y0,y1]) rfl ?_;exact⟨rfl,al⟩
theorem TZ (s:Int) (A:Option Addr) (n c:Nat) (w:World):
  Calls prog 94 #[cY s (.slice A n c)] w λe w'=>e= .returned (cY (-1) (.slice A n c))/\ad w w':=by
 unfold cY;go_in;go_wp2_with fail
 have y0:((w.alloc (.cells #[.int .i64 (-1),.slice A n c] 75)).alloc (.cells #[.int .i64 (-1),.slice A n c] 75)).cell? ⟨w.heap.size+1,0,none⟩=some (.int .i64 (-1)):=by go_simp
 have y1:((w.alloc (.cells #[.int .i64 (-1),.slice A n c] 75)).alloc (.cells #[.int .i64 (-1),.slice A n c] 75)).cell? ⟨w.heap.size+1,1,none⟩=some (.slice A n c):=by go_simp
 refine KV (v:=cY (-1) (.slice A n c)) (by simp[results,results94,go_sem,cY,y0,y1]) rfl ?_;exact⟨rfl,al⟩
theorem T0 (s:Int) (pv hv:Value) (p bM:List aD) (A:Option Addr) (n c:Nat) (rs:List Rg) (w:World) (hp:Rw w 60 3 aS pv p) (b':b9 p) (hh:Rw w 60 3 aS hv bM) (nu:b9 bM) (hr:dL w A n c rs):
  Calls prog 104 #[cY s pv,hv,.slice A n c] w λe w'=>∃ b,e= .returned (.bool b)/\(b=true↔oA bM rs p)/\ad w w':=by
 obtain⟨A2,c2,rfl,_,_⟩:=hp.form;have HP:=aa hp;have bX:=aa b';have HH:=aa hh;have qT:=aa nu;have HR:=aa hr;have TU:=b'.len;clear hp b' hh nu hr;unfold cY;go_in;go_wp2_with fail
 refine(Sh _ p A n c rs _ ab (HP.o.kept al) (HR.o.keep al)).mono ?_;rintro e w1 ⟨v1,l1,b0,rfl,dW,bD,ho,jS,k1⟩;have K1:ad w w1:=ad.call al k1;have HO:=aa (Rw.bp ho gT ak);have oB:=aa jS;clear ho jS k1 dW;go_wp2_with fail
 refine(qcM hv v1 bM l1 _ qT.o (oB.o.cg bX.o) (HH.o.kept K1) HO.o).mono ?_;rintro e w2 ⟨b,rfl,hb,k2⟩;have HB:ag (b=true↔oA bM rs p):=hb.trans ⟨λh d hd ho=>h d ((oB.o.mem d).2 ⟨hd,ho⟩),λh d hd=>h d ((oB.o.mem d).1 hd).1 ((oB.o.mem d).1 hd).2⟩;clear hb;go_wp2;go_ret;exact⟨b,rfl,HB.o,K1.call k2⟩
def T1 (s bi:Int) (pv:Value) (bM p:List aD) (rs:List Rg) (s':Int) (jG:Value) (er:Int):Prop:=
 (er=0/\s'=bi/\jG=pv/\0<=bi/\bi<6/\s<= -1/\oA bM rs p)∨(er≠0/\s'=0/\jG= .slice none 0 0)
theorem qej (s bi:Int) (pv hv:Value) (p bM:List aD) (A:Option Addr) (n c:Nat) (rs:List Rg) (w:World) (hp:Rw w 60 3 aS pv p) (b':b9 p) (hh:Rw w 60 3 aS hv bM) (nu:b9 bM) (hr:dL w A n c rs):
  Calls prog 95 #[cY s pv,.int .i64 bi,hv,.slice A n c] w λe w'=>∃ s' jG er,e= .returned (.tuple #[cY s' jG,.int .i64 er])/\T1 s bi pv bM p rs s' jG er/\ad w w':=by
 obtain⟨A2,c2,rfl,_,_⟩:=hp.form;have HP:=aa hp;have bX:=aa b';have HH:=aa hh;have qT:=aa nu;have HR:=aa hr;clear hp b' hh nu hr;obtain⟨W,hW⟩:=eqR ((w.alloc (.cells #[.int .i64 s,.slice A2 p.length c2] 75)).alloc (.cells #[.int .i64 0,.slice none 0 0] 75));have Z0:SB W (w.heap.size+1) (.int .i64 0) (.slice none 0 0):=by rw[hW];exact ea ao
 have S0:SB W w.heap.size (.int .i64 s) (.slice A2 p.length c2):=by rw[hW];exact ad.heap ((ad.refl _).alloc _) (ea rfl)
 have KW:ad w W:=by rw[hW];exact al
 obtain⟨z0,z1,zf,zl⟩:=Z0.cells;obtain⟨s0,s1,sf,_⟩:=S0.cells;have f0:=zf 0;have f1:=zf 1;have f2:=sf 0;have HZ:=aa Z0;have HS:=aa S0;clear zf sf Z0 S0;rcases Decidable.em (bi<0∨6<=bi)with hb|hb
 ·rcases Decidable.em (bi<0)with h0|h0
  ·have hd:decide (bi<0)=true:=ql3 h0;unfold cY;go_wp2;rw[<- hW];refine KV (v:= .tuple #[cY 0 (.slice none 0 0),.int .i64 1]) (by simp[results,results95,go_sem,cY,z0,z1]) rfl ?_;exact⟨0,_,1,rfl,.inr ⟨ak,rfl,rfl⟩,al⟩
  ·have hd:decide (bi<0)=false:=ql4 h0;have hU:decide ((6:Int)<=bi)=true:=ql3 ab;unfold cY;go_wp2;rw[<- hW];refine KV (v:= .tuple #[cY 0 (.slice none 0 0),.int .i64 1]) (by simp[results,results95,go_sem,cY,z0,z1]) rfl ?_;exact⟨0,_,1,rfl,.inr ⟨ak,rfl,rfl⟩,al⟩
 ·have hd:decide (bi<0)=false:=ql4 ab;have hU:decide ((6:Int)<=bi)=false:=ql4 ab;rcases Decidable.em (-1<s)with h1|h1
  ·have uR:decide (-1<s)=true:=ql3 h1;unfold cY;go_wp2;rw[<- hW];refine KV (v:= .tuple #[cY 0 (.slice none 0 0),.int .i64 13]) (by simp[results,results95,go_sem,cY,z0,z1]) rfl ?_;exact⟨0,_,13,rfl,.inr ⟨ak,rfl,rfl⟩,al⟩
  ·have uR:decide (-1<s)=false:=ql4 h1;unfold cY;go_in;go_wp2_with fail
   rw[<- hW];clear hW;refine(T0 s _ hv p bM A n c rs _ (HP.o.kept KW) bX.o (HH.o.kept KW) qT.o (HR.o.keep KW)).mono ?_;rintro e w1 ⟨b,rfl,bD,k1⟩;have HB:=aa bD;have Z1:=HZ.o.but (ah.ar (S:=[]) k1) ao;have S1:=HS.o.but (ah.ar (S:=[]) k1) ao;have K1:=KW.call k1;obtain⟨z0,z1,zf,zl⟩:=Z1.cells;obtain⟨s0,s1,sf,_⟩:=S1.cells;have f0:=zf 0;have f1:=zf 1;have f2:=sf 0;have C4:=aa Z1;have jV:=aa S1;clear zf sf Z1 S1 bD k1 HZ HS KW
   cases b
   ·go_wp2;have y0:=((C4.o.s0 (.int .i64 0)).s1 (.slice none 0 0)).cells.1;have y1:=((C4.o.s0 (.int .i64 0)).s1 (.slice none 0 0)).cells.2.1;refine KV (v:= .tuple #[cY 0 (.slice none 0 0),.int .i64 17]) (by simp[results,results95,go_sem,cY,y0,y1]) rfl ?_;exact⟨0,_,17,rfl,.inr ⟨ak,rfl,rfl⟩,al⟩
   ·have ii:=aa (HB.o.1 rfl);go_wp2_with fail
    have aW:=C4.o.but (ah.set (w:=w1) w.heap.size 0 (.int .i64 bi)) ao;have y0:=((aW.s0 (.int .i64 bi)).s1 (.slice A2 p.length c2)).cells.1;have y1:=((aW.s0 (.int .i64 bi)).s1 (.slice A2 p.length c2)).cells.2.1;refine KV (v:= .tuple #[cY bi (.slice A2 p.length c2),.int .i64 0]) (by simp[results,results95,go_sem,cY,y0,y1]) rfl ?_;exact⟨bi,_,0,rfl,.inl ⟨rfl,rfl,rfl,ab,ab,ab,ii.o⟩,al⟩
def Dz (v:ax):aD:=⟨v.key,v.n,v.s⟩
def lm (v:ax):List aD:=v.ds++[Dz v]
theorem cA.step {D E q:List aD} (h:cA D p) (k:cA (p++E) q):cA (D++E) q:=
 ⟨k.cg,λx hx=>by
  rcases Pv.1 (k.mem x hx)with g|g
  ·exact List.mem_append_left _ (h.mem x g)
  ·exact List.mem_append_right _ g,λx hx hc=>by
  rcases Pv.1 hx with g|g
  ·obtain⟨y,hy,h1,h2⟩:=h.all x g hc;obtain⟨z,hz,h3,h4⟩:=k.all y (List.mem_append_left _ hy) (h.cg.ok y hy).2;exact⟨z,hz,h3.trans h1,Sq h4 h2⟩
  ·exact k.all x (List.mem_append_right _ g) hc⟩
theorem cA.self (h:b9 p):cA p p:=⟨h,λx hx=>hx,λx hx _=>⟨x,hx,rfl,xB _ _⟩⟩
theorem Rw.lit {α:Type} {q:Nat} {f:α->List Value} (l:List α) (hf:∀ a,(f a).length=k) (h:w.heap[q]? =some (.cells (l.flatMap f).toArray e (0,0))) (hl:l.length<=maxLen):Rw w e k f (.slice (some ⟨q,0,none⟩) l.length l.length) l:=
 Cf hf h (λt u hu=>by simpa using hu) (CP _) hl
theorem T3 (B s:Int) (pv lv:Value) (p:List aD) (l:List ax) (w:World) (hp:Rw w 60 3 aS pv p) (b':b9 p) (hl:Rw w 48 6 a8 lv l) (hn:l.length<=1000000) (eh:∀ x∈l,b7 w B x):
  Calls prog 90 #[cY s pv,lv] w λe w'=>∃ jG p',e= .returned (cY s jG)/\Rw w' 60 3 aS jG p'/\cA (p++l.flatMap lm) p'/\ad w w':=by
 obtain⟨LA,lc,rfl,bl,bQ⟩:=hl.form;obtain⟨PA,pc,rfl,_,_⟩:=hp.form;obtain⟨m,hm⟩:=eqQ l.length;rw[hm]at hl bl hn⊢;have HL:=aa hl;have HP:=aa hp;have HM:=aa hm;have jF:=aa eh;have bX:=aa b';obtain⟨pn,Uud⟩:=eqQ p.length;have kG:=aa Uud;rw[Uud]at HP⊢;clear hl hm eh hp b' Uud;unfold cY;go_wp2;go_loopw [9] (λiv wr=>∃ (U:Nat) (A:Option Addr) (n c:Nat) (q:List aD),U<=m/\iv= .int .i64 U/\ad w wr/\ag (SB wr w.heap.size (.int .i64 s) (.slice A n c))/\ag (SB wr (w.heap.size+1) (.int .i64 0) (.slice none 0 0))/\ag (Rw wr 60 3 aS (.slice A n c) q)/\ag (cA (p++(l.take U).flatMap lm) q)) (λiv _=>m-(intOf iv).toNat)
 case atStart=>exact⟨0,PA,pn,pc,p,ab,rfl,al,ad.heap ((ad.refl _).alloc _) (ea rfl),ea ao,HP.o.kept al,by rw[List.take_zero,List.flatMap_nil,List.append_nil];exact cA.self bX.o⟩
 case round=>
  obtain⟨U,A,n,c,q,hj,rfl,kr,hs,hz,hq,r8⟩:=hrel;obtain⟨s0,s1,sf,sl⟩:=hs.o.cells;have f1:=sf 1;have hzl:w.heap.size+1<wr.heap.size:=hz.o.cells.2.2.2;clear sf;by_cases an:U<m
  ·obtain⟨x,hx⟩:=exQ l U (by rw[HM.o];exact an);obtain⟨b,off,rfl,hb,hc⟩:=HL.o.af hx;have bh:=jF.o x (zV hx)
   have HT:ag ((l.take (U+1)).flatMap lm=(l.take U).flatMap lm++lm x):=by
    unfold ag;rw[QI (by rw[HM.o];exact an),(pi.1 hx).2,List.flatMap_append];simp
   have HPX:=aa bh.jB;have bX:=aa bh.cg;have xU:=aa bh.key;obtain⟨x0,x1,x2,x3,x4,x5,x6,x7,x8⟩:=x;obtain⟨c0,c1,c2,c3,c4,c5⟩:=o5 λU u hu=>kr.af (hc U u hu);clear hx hc bh;have Av:=hq.o.len;obtain⟨W3,db⟩:=eqR (((wr.alloc (.cells #[.string x0,.string x1,.bool x2,.int .i64 x3,.int .i64 x4,.slice x5 x6 x7] 48)).alloc (.cells #[.string x0,.int .i64 x3,.int .i64 x4] 60)).alloc (.cells #[.slice A n c,.slice x5 x6 x7,.slice (some ⟨wr.heap.size+1,0,none⟩) 1 1] 46));have KW:ad wr W3:=by rw[db];exact al
   have Ha:ag (Rw W3 46 1 Gy (.slice (some ⟨wr.heap.size+1+1,0,none⟩) 3 3) [(.slice A n c,q),(.slice x5 x6 x7,x8),(.slice (some ⟨wr.heap.size+1,0,none⟩) 1 1,[⟨x0,x3,x4⟩])]):=by
    rw[db];exact Rw.lit ([(.slice A n c,q),(.slice x5 x6 x7,x8),(.slice (some ⟨wr.heap.size+1,0,none⟩) 1 1,[⟨x0,x3,x4⟩])]:List va) (λ_=>rfl) (ea ao) (by simp[maxLen])
   have Mc:ag (∀ y∈([(.slice A n c,q),(.slice x5 x6 x7,x8),(.slice (some ⟨wr.heap.size+1,0,none⟩) 1 1,[⟨x0,x3,x4⟩])]:List va),Rw W3 60 3 aS y.1 y.2):=by
    intro y hy;simp only[KX,List.not_mem_nil,or_false]at hy;rcases hy with rfl|rfl|rfl
    ·exact hq.o.kept KW
    ·exact HPX.o.kept (kr.call KW)
    ·rw[db];exact(Rw.one (f:=aS) (a:=⟨x0,x3,x4⟩) (ea ao)).kept ((ad.refl _).alloc _)
   go_wp2_with fail
   rw[<- db];clear db
   refine(Ld _ [(.slice A n c,q),(.slice x5 x6 x7,x8),(.slice (some ⟨wr.heap.size+1,0,none⟩) 1 1,[⟨x0,x3,x4⟩])] W3 Ha.o Mc.o (λd hd=>by
    simp only[l7,List.flatMap_cons,List.flatMap_nil,List.append_nil,Pv,At]at hd;rcases hd with hd|hd|rfl
    ·exact(r8.o.cg.ok d hd).1
    ·exact(bX.o.ok d hd).1
    ·exact xU.o)).mono ?_
   rintro e w4 ⟨v4,xT,rfl,h4,Hb,k4⟩;obtain⟨A4,c4,rfl,_,_⟩:=h4.form
   have CT:ag (cA (p++(l.take (U+1)).flatMap lm) xT):=by
    rw[HT.o,<- List.append_assoc];refine cA.step r8.o ?_;simpa [l7,lm,Dz]using Hb
   have pC:=KW.call k4;have oy:=hs.o.but (ah.ar (S:=[]) pC) ao;obtain⟨s0,s1,sf,sl⟩:=oy.cells;have f1:=sf 1;obtain⟨n4,T4⟩:=eqQ xT.length;rw[T4]at h4⊢;have dQ:=aa (oy.s1 (.slice A4 n4 c4));have dB:ah [w.heap.size] w4 (w4.setCell ⟨w.heap.size,1,none⟩ (.slice A4 n4 c4)):=ah.set _ 1 _;have T5:=aa ((hz.o.but (ah.ar (S:=[]) pC) ao).but dB ao)
   have jE:ag (Rw (w4.setCell ⟨w.heap.size,1,none⟩ (.slice A4 n4 c4)) 60 3 aS (.slice A4 n4 c4) xT):=h4.fr (Fr.gn (P:=(· =60)) dB λx hx cur e he=>by
    simp only[At]at hx;rw[hx,show w4.heap[w.heap.size]? =_ from oy]at he;simp only[Option.some.injEq,Obj.cells.injEq]at he;rw[<- he.2.1];decide) rfl
   have K5:ad w (w4.setCell ⟨w.heap.size,1,none⟩ (.slice A4 n4 c4)):=ad.but (kr.call pC) dB ao;clear h4 Hb k4 oy dB KW Av T4;go_wp2;go_roundw
   case rel=>exact⟨U+1,A4,n4,c4,xT,ab,aA,K5,dQ,T5,jE,CT⟩
   case measure=>exact dY
  ·obtain rfl:U=m:=ab;obtain⟨z0,z1,zf,_⟩:=hz.o.cells;have g0:=zf 0;have g1:=zf 1
   have pB:ag (cA (p++l.flatMap lm) q):=by
    have h:=r8.o;rwa [qcc (by rw[HM.o];exact CP _)]at h
   clear zf;go_wp2;have y0:=((hz.o.s0 (.int .i64 s)).s1 (.slice A n c)).cells.1;have y1:=((hz.o.s0 (.int .i64 s)).s1 (.slice A n c)).cells.2.1;have dB:ah [w.heap.size+1] wr ((wr.setCell ⟨w.heap.size+1,0,none⟩ (.int .i64 s)).setCell ⟨w.heap.size+1,1,none⟩ (.slice A n c)):=(ah.set _ 0 _).trans (ah.set _ 1 _);refine KV (v:=cY s (.slice A n c)) (by simp[results,results90,go_sem,cY,y0,y1]) rfl ?_
   exact⟨_,q,rfl,hq.o.fr (Fr.gn (P:=(· =60)) dB λx hx cur e he=>by
    simp only[At]at hx;rw[hx,show wr.heap[w.heap.size+1]? =_ from hz.o]at he;simp only[Option.some.injEq,Obj.cells.injEq]at he;rw[<- he.2.1];decide) rfl,pB.o,ad.but kr dB ao⟩
theorem qek:(prog.info? 46).map (λi=>(i.zero,i.size,i.bytes))=some (some (.slice none 0 0),1,24):=av
def fi (l:List ax) (k:ByteArray):List (Int×Int):=(l.filter λv=>decide (v.key=k)).map λv=>(v.n,v.s)
theorem qel {k:ByteArray} (h:l[U]? =some v) (e:v.key=k):fi (l.take (U+1)) k=fi (l.take U) k++[(v.n,v.s)]:=by
 rw[QI (bg h),(pi.1 h).2];simp[fi,e]
theorem qem {k:ByteArray} (h:l[U]? =some v) (e:v.key≠k):fi (l.take (U+1)) k=fi (l.take U) k:=by
 rw[QI (bg h),(pi.1 h).2];simp[fi,e]
theorem Rw.stamps {A:Option Addr} {n c:Nat} {l:List (Int×Int)} (h:Rw w 45 2 kD (.slice A n c) l):Kk w A n l:=by
 have hn:=h.len;refine⟨hn,by obtain⟨A',c',hv,h1,h2,_⟩:=h;omega,λh0=> ?_⟩;obtain⟨b,off,rfl,_,_⟩:=h.af (vF (show 0<l.length by omega));refine⟨b,off,rfl,λi hi=> ?_⟩;obtain⟨b2,gA,e,_,hc⟩:=h.af (vF (show i<l.length by omega))
 cases e
 have e1:l[i]?.getD (0,0)=l[i]:=by rw[vF ab];rfl
 rw[e1];exact⟨hc 0 _ rfl,hc 1 _ rfl⟩
theorem T6 (lv:Value) (l:List ax) (k:ByteArray) (w:World) (hl:Rw w 48 6 a8 lv l) (hn:l.length<=1000000):
  Calls prog 231 #[lv,.string k] w λe w'=>∃ n s:Int,e= .returned (.agg #[.int .i64 n,.int .i64 s])/\(n,s)=maxOf (fi l k)/\ad w w':=by
 obtain⟨A,c,rfl,bl,bQ⟩:=hl.form;obtain⟨m,hm⟩:=eqQ l.length;rw[hm]at hl bl hn⊢;have HL:=aa hl;have HM:=aa hm;clear hl hm;have H0:ag ((w.alloc (.cells #[.int .i64 0,.int .i64 0] 45)).heap[w.heap.size]? =some (.cells #[.int .i64 0,.int .i64 0] 45 (0,0))):=yY w _;go_wp2;go_loopw [5,10] (λov iv wr=>∃ (U:Nat) (v2:Value),v2=ov/\U<=m/\iv= .int .i64 U/\ad w wr/\ag (wr.heap[w.heap.size]? =some (.cells #[.int .i64 0,.int .i64 0] 45 (0,0)))/\ag (wr.ownsRow (w.heap.size+1) 45 2 v2 (fi (l.take U) k).length ((fi (l.take U) k).flatMap kD))) (λ_ iv _=>m-(intOf iv).toNat)
 case atStart=>exact⟨0,_,rfl,ab,rfl,al,H0,qcb _ _ _ _⟩
 case round=>
  obtain⟨U,v2,rfl,hj,rfl,kr,hz,ho⟩:=hrel;have Cc:w.heap.size<wr.heap.size:=(aQ hz.o);by_cases an:U<m
  ·obtain⟨x,hx⟩:=exQ l U (by rw[HM.o];exact an);obtain⟨b,off,rfl,hb,hc⟩:=HL.o.af hx;have HX:=aa hx;obtain⟨x0,x1,x2,x3,x4,x5,x6,x7,x8⟩:=x;obtain⟨c0,c1,c2,c3,c4,c5⟩:=o5 λU u hu=>kr.af (hc U u hu);clear hx hc;by_cases e:x0.toList=k.toList
   ·have hq:(x0.toList==k.toList)=true:=by simp[e]
    have HE:ag (fi (l.take (U+1)) k=fi (l.take U) k++[(x3,x4)]):=qel HX.o (by
     show x0=k
     rw[ByteArray.toList_eq,ByteArray.toList_eq]at e;exact C7 e)
    have lY:(fi (l.take U) k).length<=1000000:=by
     unfold fi;rw[List.length_map];have h1:=List.length_filter_le (λv:ax=>decide (v.key=k)) (l.take U);have h2:(l.take U).length<=U:=by rw[qcd];omega
     omega
    clear e;go_wp2_with (at_builtin;go_must (refine jh rfl _ _ 173 45 _ 2 16 kD rfl underlying173 Mf rfl ak ak Aj LZ (w.heap.size+1) _ (fi (l.take U) k) [(x3,x4)] rfl ((ho.o.alloc _).alloc _) _ 0 1 1 rfl (Rw.one (ea ao)) (by simp;omega) (by simp;omega) ?_);intro v5 w5 iY cF _)
    have vo:ag (∀ x∈v2.ownBlock.toList,w.heap.size+1<=x):=λx hx=>(ho.o.lt x (Option.mem_toList.1 hx)).1;have K5:ad w w5:=ad.but al cF λx hx=>by have:=vo.o x hx;omega
    have Z5:ag (w5.heap[w.heap.size]? =some (.cells #[.int .i64 0,.int .i64 0] 45 (0,0))):=cF.heap (ad.heap al hz.o) λhx=>by have:=vo.o _ hx;omega
    have ie:ag (w5.ownsRow (w.heap.size+1) 45 2 v5 (fi (l.take (U+1)) k).length ((fi (l.take (U+1)) k).flatMap kD)):=by rw[HE.o];exact iY
    clear iY cF;go_wp2;go_roundw
    case rel=>exact⟨U+1,_,rfl,ab,aA,K5,Z5,ie⟩
    case measure=>exact dY
   ·have hq:(x0.toList==k.toList)=false:=by simp[e]
    have HE:ag (fi (l.take (U+1)) k=fi (l.take U) k):=qem HX.o (λg=>e (by rw[show x0=k from g]));have HE2:=aa e;clear e;have K5:ad wr (wr.alloc (.cells #[.string x0,.string x1,.bool x2,.int .i64 x3,.int .i64 x4,.slice x5 x6 x7] 48)):=(ad.refl wr).alloc _;have Z5:=aa (K5.heap hz.o);have ie:ag ((wr.alloc (.cells #[.string x0,.string x1,.bool x2,.int .i64 x3,.int .i64 x4,.slice x5 x6 x7] 48)).ownsRow (w.heap.size+1) 45 2 v2 (fi (l.take (U+1)) k).length ((fi (l.take (U+1)) k).flatMap kD)):=by rw[HE.o];exact ho.o.alloc _
    have K6:=kr.call K5;go_wp2;go_roundw
    case rel=>exact⟨U+1,_,rfl,ab,aA,K6,Z5,ie⟩
    case measure=>exact dY
  ·obtain rfl:U=m:=ab;have dA:=ho.o;rw[qcc (by rw[HM.o];exact CP _)]at dA;obtain⟨SA,sc,rfl⟩:=ca dA;have hV:=aa (Rw.bp dA Aj ak).stamps;clear ho dA;go_wp2_with fail
   refine(zA SA _ sc (fi l k) wr hV.o).mono ?_;rintro e w6 ⟨rfl,k6⟩;have h6:=k6.heap hz.o;have f0:w6.frozen? ⟨w.heap.size,0,none⟩=false:=aI h6 0;have f1:w6.frozen? ⟨w.heap.size,1,none⟩=false:=aI h6 1;have z0:=aE h6 0;have z1:=aE h6 1;have H6:=aa h6;have K6:=kr.call k6;obtain⟨qF,dn⟩:=eqQ (maxOf (fi l k));obtain⟨m1,m2⟩:=qF;rw[dn];have oD:=aa dn;clear h6 k6 hz dn hV;go_wp2;have y0:=aE (Ok _ _ 1 _ _ (.int .i64 m2) (Ok w6 w.heap.size 0 _ _ (.int .i64 m1) H6.o)) 0;have y1:=aE (Ok _ _ 1 _ _ (.int .i64 m2) (Ok w6 w.heap.size 0 _ _ (.int .i64 m1) H6.o)) 1;simp at y0 y1;refine KV (v:= .agg #[.int .i64 m1,.int .i64 m2]) (by simp[results,results231,go_sem,y0,y1]) rfl ?_;exact⟨m1,m2,rfl,oD.o.symm,al⟩
abbrev Hc:=(Option Addr×Nat×Nat)×List aD
def xV (x:Hc):List Value:=[.slice x.1.1 x.1.2.1 x.1.2.2]
theorem T7:∀ a,(xV a).length=1:=λ_=>rfl
theorem qen:∀ (l:List Hc),∀ u∈l.flatMap xV,u.oneCell'=true:=λl u hu=>by
 obtain⟨a,_,ha⟩:=List.mem_flatMap.1 hu;simp only[xV,At]at ha;rw[ha];rfl
def Mo (x:Hc):va:=(.slice x.1.1 x.1.2.1 x.1.2.2,x.2)
theorem Rw.map {α β:Type} {f:α->List Value} {g:β->List Value} {v:Value} {l:List α} (h:α->β) (hfg:∀ a,f a=g (h a)) (hv:Rw w e k f v l):Rw w e k g v (l.map h):=by
 obtain⟨A,c,rfl,h1,h2,h3,h4⟩:=hv;refine⟨A,c,by rw[List.length_map],by rw[List.length_map];exact h1,h2,λe=>⟨by rw[(h3 e).1];rfl,(h3 e).2⟩,λp hp=> ?_⟩;obtain⟨b,off,cur,h5,h6,h7⟩:=h4 p hp;refine⟨b,off,cur,h5,h6,λi a hi U u hu=> ?_⟩;rw[List.getElem?_map,Option.map_eq_some_iff]at hi;obtain⟨x,hx,rfl⟩:=hi;exact h7 i x hx U u (by rw[hfg];exact hu)
def pD (v:ax):Hc:=((v.pa,v.pn,v.pc),v.ds)
theorem qeo (B:Int) (lv sv:Value) (l:List ax) (seen:List aD) (w:World) (hl:Rw w 48 6 a8 lv l) (hn:l.length<=1000000) (eh:∀ x∈l,b7 w B x) (hs:Rw w 60 3 aS sv seen) (fW:b9 seen):
  Calls prog 228 #[lv,sv] w λe w'=>∃ v' l',e= .returned v'/\Rw w' 60 3 aS v' l'/\cA (seen++l.flatMap (·.ds)) l'/\ad w w':=by
 obtain⟨A,c,rfl,bl,bQ⟩:=hl.form;obtain⟨SA,sc,rfl,_,_⟩:=hs.form;obtain⟨m,hm⟩:=eqQ l.length;obtain⟨sn,j1⟩:=eqQ seen.length;rw[hm]at hl bl hn⊢;rw[j1]at hs⊢;have HL:=aa hl;have HM:=aa hm;have jF:=aa eh;have HS:=aa hs;have Mp:=aa fW;clear hl hm eh hs fW j1;have H0:ag ((w.alloc (.cells #[.slice SA sn sc] 46)).ownsRow w.heap.size 46 1 (.slice (some ⟨w.heap.size,0,none⟩) 1 1) (((SA,sn,sc),seen)::(l.take 0).map pD).length ((((SA,sn,sc),seen)::(l.take 0).map pD).flatMap xV)):=BK w 46 [.slice SA sn sc] 1 1 rfl ak;go_wp2;go_loopw [5,12] (λov iv wr=>∃ (U:Nat) (v2:Value),v2=ov/\U<=m/\iv= .int .i64 U/\ad w wr/\ag (wr.ownsRow w.heap.size 46 1 v2 (((SA,sn,sc),seen)::(l.take U).map pD).length ((((SA,sn,sc),seen)::(l.take U).map pD).flatMap xV))) (λ_ iv _=>m-(intOf iv).toNat)
 case atStart=>exact⟨0,_,rfl,ab,rfl,al,H0⟩
 case round=>
  obtain⟨U,v2,rfl,hj,rfl,kr,ho⟩:=hrel;by_cases an:U<m
  ·obtain⟨x,hx⟩:=exQ l U (by rw[HM.o];exact an);obtain⟨b,off,rfl,hb,hc⟩:=HL.o.af hx
   have HT:ag (((SA,sn,sc),seen)::(l.take (U+1)).map pD=(((SA,sn,sc),seen)::(l.take U).map pD)++[pD x]):=by
    unfold ag;rw[QI (by rw[HM.o];exact an),(pi.1 hx).2,List.map_append];rfl
   obtain⟨r,hr⟩:∃ r,((SA,sn,sc),seen)::(l.take U).map pD=r:=⟨_,rfl⟩;have qy:r.length<=1000001:=by rw[<- hr,List.length_cons,List.length_map,qcd];omega
   rw[hr]at ho HT;obtain⟨x0,x1,x2,x3,x4,x5,x6,x7,x8⟩:=x;obtain⟨c0,c1,c2,c3,c4,c5⟩:=o5 λU u hu=>kr.af (hc U u hu);have FB:=kr.size;clear hx hc hr;go_wp2_with (at_builtin;go_must (refine jh rfl _ _ 203 46 _ 1 24 xV rfl underlying203 qek rfl ak ak T7 qen w.heap.size _ r [pD ⟨x0,x1,x2,x3,x4,x5,x6,x7,x8⟩] rfl ((ho.o.alloc _).alloc _) _ 0 1 1 rfl (Rw.one (ea ao)) (by simp;omega) (by simp;omega) ?_);intro v5 w5 iY cF _)
   have vo:ag (∀ x∈v2.ownBlock.toList,w.heap.size<=x):=λx hx=>(ho.o.lt x (Option.mem_toList.1 hx)).1;have K5:ad w w5:=ad.but al cF λx hx=>vo.o x hx;have ie:ag (w5.ownsRow w.heap.size 46 1 v5 (((SA,sn,sc),seen)::(l.take (U+1)).map pD).length ((((SA,sn,sc),seen)::(l.take (U+1)).map pD).flatMap xV)):=by rw[HT.o];exact iY
   clear iY cF;go_wp2;go_roundw
   case rel=>exact⟨U+1,_,rfl,ab,aA,K5,ie⟩
   case measure=>exact dY
  ·obtain rfl:U=m:=ab;have dA:=ho.o;rw[qcc (by rw[HM.o];exact CP _)]at dA;have cN:=aa (Rw.map (g:=Gy) Mo (λ_=>rfl) (Rw.bp dA T7 ak))
   have T8:l7 ((((SA,sn,sc),seen)::l.map pD).map Mo)=seen++l.flatMap (·.ds):=by
    simp only[l7,List.map_cons,List.flatMap_cons,Mo,List.map_map,List.flatMap_map];rfl
   have T9:=aa T8;clear ho dA T8;go_wp2_with fail
   refine(Ld v2 _ wr cN.o (λy hy=> ?_) (λd hd=> ?_)).mono ?_
   ·simp only[List.map_cons,List.map_map,KX,List.mem_map]at hy;rcases hy with rfl|⟨x,hx,rfl⟩
    ·exact HS.o.kept kr
    ·exact(jF.o x hx).jB.kept kr
   ·rw[T9.o,Pv,List.mem_flatMap]at hd;rcases hd with hd|⟨x,hx,hd⟩
    ·exact(Mp.o.ok d hd).1
    ·exact((jF.o x hx).cg.ok d hd).1
   rintro e w6 ⟨v6,DB,rfl,h6,j3,k6⟩;rw[T9.o]at j3;have H6:=aa h6;have Mq:=aa j3;clear h6 j3;go_wp2;go_ret;exact⟨v6,DB,rfl,H6.o,Mq.o,kr.call k6⟩
theorem qep (k:ByteArray) (lv pv:Value) (l:List ax) (low:List aD) (P Q:Nat) (w:World) (hk:Let k) (hl:Rw w 48 6 a8 lv l) (hn:l.length<=1000000) (hp:Rw w 60 3 aS pv low) (b':b9 low) (ff:w.cell? ⟨P,0,none⟩=some lv) (qeq:w.cell? ⟨Q,0,none⟩=some pv):
  Calls prog 230 #[.string k,.pointer (some ⟨P,0,none⟩),.pointer (some ⟨Q,0,none⟩)] w λe w'=>∃ b,e= .returned (.bool b)/\(b= !c8 (maxOf (fi l k)).1 (maxOf (fi l k)).2 (gt low k).1 (gt low k).2)/\ad w w':=by
 obtain⟨LA,lc,rfl,_,_⟩:=hl.form;obtain⟨PA,pc,rfl,_,_⟩:=hp.form;have HL:=aa hl;have HP:=aa hp;have bX:=aa b';have HK:=aa hk;have hP:P<w.heap.size:=Aa w _ ff;have o3:Q<w.heap.size:=Aa w _ qeq;obtain⟨⟨m1,m2⟩,dn⟩:=eqQ (maxOf (fi l k));obtain⟨⟨g1,g2⟩,Mr⟩:=eqQ (gt low k);have oD:=aa dn;have T':=aa Mr;rw[dn,Mr];clear hl hp b' hk dn Mr;go_wp2;refine bz (λwB=>ad w wB/\wB.cell? ⟨P,0,none⟩=some (.slice LA l.length lc)/\wB.cell? ⟨Q,0,none⟩=some (.slice PA low.length pc)) λwB SS=> ?_;obtain⟨au,aB,aC⟩:=SS.o _ (ad.refl _);repeat(apply DW.ct;(focus (intro wd hI;obtain⟨ae,ai,aj⟩:=SS.o wd hI;go_wp2_with (first|(go_at_call 231;refine(T6 _ l k _ (HL.o.kept (au.call hI)) hn).mono ?_;rintro e w1 ⟨n,s,rfl,hg,k1⟩;rw[oD.o]at hg;obtain⟨rfl,rfl⟩:m1=n/\m2=s:=by simpa using hg.symm)|(go_at_call 232;refine(zD _ low k _ (HP.o.kept (au.call hI)) bX.o HK.o).mono ?_;rintro e w1 ⟨n,s,rfl,hg,k1⟩;rw[T'.o]at hg;obtain⟨rfl,rfl⟩:g1=n/\g2=s:=by simpa using hg)|(go_at_call 114;refine(qw _ _ _ _ _).mono ?_;rintro e w1 ⟨rfl,k1⟩));exact aP));refine DW.np ?_)
 refine DW.nl SS ?_;rintro wd hI ⟨ae,ai,aj⟩;go_wp2;go_ret;exact⟨_,rfl,rfl,ae⟩
def pE (keys:List ByteArray) (l:List ax) (low:List aD):Prop:=∀ k∈keys,c8 (maxOf (fi l k)).1 (maxOf (fi l k)).2 (gt low k).1 (gt low k).2=false
theorem qer (B:Int) (kv lv sv:Value) (keys:List ByteArray) (l:List ax) (seen:List aD) (w:World) (hk:Rw w 9 1 cd kv keys) (tm:keys.length<=1000000) (gC:∀ k∈keys,Let k) (hl:Rw w 48 6 a8 lv l) (hn:l.length<=1000000) (eh:∀ x∈l,b7 w B x) (hs:Rw w 60 3 aS sv seen) (fW:b9 seen):
  Calls prog 169 #[kv,lv,sv] w λe w'=>∃ v' l' low,e= .returned v'/\Rw w' 9 1 cd v' l'/\cA (seen++l.flatMap (·.ds)) low/\(l'=[]↔pE keys l low)/\ad w w':=by
 obtain⟨LA,lc,rfl,_,_⟩:=hl.form;have iS:∀ fn first cap w,(Instr.makeFunc fn first cap).run prog w= .ok (.func fn first cap) w:=λ_ _ _ _=>rfl
 have HK:=aa hk;have ph:=aa gC;have HL:=aa hl;have jF:=aa eh;have HS:=aa hs;have Mp:=aa fW;clear hk gC hl eh hs fW;go_in;go_wp2_with fail
 refine(qeo B _ sv l seen _ (HL.o.kept al) hn (λx hx=>(jF.o x hx).kept al) (HS.o.kept al) Mp.o).mono ?_;rintro e w1 ⟨v1,low,rfl,h1,Ag,k1⟩;obtain⟨PA,pc,rfl,_,_⟩:=h1.form;have C1:=aa h1;have Aw:=aa Ag;have c0:w1.cell? ⟨w.heap.size,0,none⟩=some (.slice LA l.length lc):=k1.af (by go_simp);have K1:ad w w1:=ad.call al k1;have an:w.heap.size<w1.heap.size:=Aa w1 _ c0;clear h1 Ag k1;go_wp2_with fail
 refine(QJ kv keys _ (HK.o.kept al) ab).mono ?_;rintro e w2 ⟨v2,rfl,ho,k2⟩;have c0:w2.cell? ⟨w.heap.size,0,none⟩=some (.slice LA l.length lc):=k2.af (by go_simp);have c1:w2.cell? ⟨w1.heap.size,0,none⟩=some (.slice PA low.length pc):=k2.af (by go_simp);have Ms:ad w1 w2:=ad.call al k2;have K2:ad w w2:=K1.call Ms;have HO:=aa ho;have HB:ag (∀ g,v2.ownBlock=some g->w1.heap.size+1<=g):=λg hg=>by have:=(ho.lt g hg).1;simpa using this
 have sg:w.heap.size∉v2.ownBlock.toList:=λhx=>by have:w1.heap.size+1<=w.heap.size:=HB.o _ (Option.mem_toList.1 hx);omega
 have j4:w1.heap.size∉v2.ownBlock.toList:=λhx=>by have:w1.heap.size+1<=w1.heap.size:=HB.o _ (Option.mem_toList.1 hx);omega
 have HT:ag (fI v2.ownBlock.toList w2 230 #[.pointer (some ⟨w.heap.size,0,none⟩),.pointer (some ⟨w1.heap.size,0,none⟩)] (λs=> .string s) keys (λk b=>b= !c8 (maxOf (fi l k)).1 (maxOf (fi l k)).2 (gt low k).1 (gt low k).2)):=⟨λargs w=>enters_of func230 av rfl args w,λW1 h1 k hk=>by
  have Ua:ad w1 W1:=ad.but Ms h1 λx hx=>by have:=HB.o x (Option.mem_toList.1 hx);omega
  exact qep k _ _ l low _ _ W1 (ph.o k hk) (HL.o.kept (K1.call Ua)) hn (C1.o.kept Ua) Aw.o.cg (h1.af c0 sg) (h1.af c1 j4)⟩
 have aY:=Ms.size;have si:w1.heap.size<w2.heap.size:=Aa w2 _ c1;clear ho k2 c0 c1 sg j4;go_wp2_with fail
 refine(QP _ v2 keys _ _ _ w2 (by simp;omega) HO.o HT.o).mono ?_;rintro e w3 ⟨v3,l3,rfl,h1,h2,h3⟩;have H1:=aa h1;have H2:=aa h2;have H3:=aa h3;clear h1 h2 h3;go_wp2;go_ret;refine⟨v3,l3,low,rfl,Rw.bp H1.o jU ak,Aw.o,⟨λe k hk=> ?_,λh=> ?_⟩,ad.but K2 H3.o λx hx=>by have:=HB.o x (Option.mem_toList.1 hx);omega⟩
 ·rcases cK.mem H2.o hk with g|g
  ·rw[e]at g;cases g
  ·simpa using g.symm
 ·refine List.eq_nil_iff_forall_not_mem.2 λk hk=> ?_;obtain⟨h4,h5⟩:=cK.not H2.o hk;rw[h k h4]at h5;cases h5
theorem Ub (B:Int) (kv lv sv:Value) (keys:List ByteArray) (l:List ax) (seen:List aD) (w:World) (hk:Rw w 9 1 cd kv keys) (tm:keys.length<=1000000) (gC:∀ k∈keys,Let k) (hl:Rw w 48 6 a8 lv l) (hn:l.length<=1000000) (eh:∀ x∈l,b7 w B x) (hs:Rw w 60 3 aS sv seen) (fW:b9 seen):
  Calls prog 103 #[kv,lv,sv] w λe w'=>∃ b low,e= .returned (.bool b)/\cA (seen++l.flatMap (·.ds)) low/\(b=true↔pE keys l low)/\ad w w':=by
 have HC:ag (∀ w1,ad w w1->Calls prog 169 #[kv,lv,sv] w1 λe w'=>∃ A m c low,e= .returned (.slice A m c)/\cA (seen++l.flatMap (·.ds)) low/\(m=0↔pE keys l low)/\ad w1 w'):=λw1 k=>(qer B kv lv sv keys l seen w1 (hk.kept k) tm gC (hl.kept k) hn (λx hx=>(eh x hx).kept k) (hs.kept k) fW).mono λe w' ⟨v',l',low,h1,h2,h3,h4,h5⟩=>by
  obtain⟨A2,c2,rfl,_,_⟩:=h2.form;exact⟨A2,_,c2,low,h1,h3,by rw[<- h4,List.length_eq_zero_iff],h5⟩
 clear hk gC hl eh hs fW;go_in;go_wp2_with fail
 refine(HC.o _ al).mono ?_;rintro e w1 ⟨A2,m,c2,low,rfl,h1,hm,k1⟩;have HB:ag (decide ((m:Int)=0)=true↔pE keys l low):=by unfold ag;rw[decide_eq_true_iff,<- hm];omega
 have H1:=aa h1;clear hm h1;go_wp2;go_ret;exact⟨_,low,rfl,H1.o,HB.o,k1⟩
end Go.Proofs.YtehaoggjlciobaaGreat

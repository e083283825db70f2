/- Part 9 of 40. -/
import Derived.Test.YtehaoggjlciobaaGreatQak
set_option linter.all false
set_option maxRecDepth 20000
set_option maxHeartbeats 16000000
namespace Go.Proofs.YtehaoggjlciobaaGreat
open Go.RowKit Go.Proofs.Tryz
variable {a b c:Int} {rs:List Rg} {l l':List aD} {U:Nat} {w:World} {d:aD}
theorem Rw.rows {e:TypeId} {A:Option Addr} {n c:Nat} (h:Rw w e 2 bZ (.slice A n c) rs):dL w A n c rs:=by
 have hn:rs.length=n/\rs.length<=c/\c<=maxLen/\(A=none->rs=[]/\c=0):=by
  obtain⟨A',c',hv,h1,h2,h3,h4⟩:=h;injection hv with e1 e2 e3;subst e1 e3;exact⟨e2.symm,h1,h2,h3⟩
 obtain⟨h1,h2,h3,h4⟩:=hn;refine⟨h1,ab,h3,λe=>⟨by rw[<- h1,(h4 e).1];rfl,(h4 e).2⟩,λh0=> ?_⟩;obtain⟨b,off,rfl,_,_⟩:=h.af (vF (show 0<rs.length by omega));refine⟨b,off,rfl,λi hi=> ?_⟩;obtain⟨b2,gA,e,_,hc⟩:=h.af (vF (show i<rs.length by omega))
 cases e
 have e1:rg rs i=rs[i]:=by unfold rg;rw[vF ab];rfl
 rw[e1];exact⟨hc 0 _ rfl,hc 1 _ rfl⟩
theorem qcL (v:Value) (l:List aD) (d:aD) (P:Nat) (w:World) (hp:b9 l) (hk:Let d.key) (bH:Rw w 60 3 aS v l) (ff:w.cell? ⟨P,0,none⟩=some v):
  Calls prog 234 #[.agg #[.string d.key,.int .i64 d.n,.int .i64 d.s],.pointer (some ⟨P,0,none⟩)] w λe w'=>∃ b,e= .returned (.bool b)/\b=c8 (gt l d.key).1 (gt l d.key).2 d.n d.s/\ad w w':=by
 have HV:=aa bH;have bX:=aa hp;have ph:=aa hk;have hP:P<w.heap.size:=Aa w _ ff;obtain⟨gD,om⟩:=eqQ ((gt l d.key).1);obtain⟨gs,xA⟩:=eqQ ((gt l d.key).2);have HG:ag (gt l d.key=(gD,gs)):=Prod.ext om xA;rw[om,xA];clear bH hp hk om xA;go_wp2;refine Qf [0,1,2,4,5,3,6,7] (λwB=>ad w wB/\wB.cell? ⟨P,0,none⟩=some (v)/\wB.cell? ⟨w.heap.size,0,none⟩=some (.string d.key)/\wB.cell? ⟨w.heap.size,1,none⟩=some (.int .i64 d.n)/\wB.cell? ⟨w.heap.size,2,none⟩=some (.int .i64 d.s)) λwB SS=> ?_;obtain⟨au,aB,aC,aF,aX⟩:=SS.o _ (ad.refl _);repeat(apply DW.ct;(focus (intro wd hI;obtain⟨ae,ai,aj,aq,az⟩:=SS.o wd hI;go_wp2_with (first|(go_at_call 232;refine(zD v l d.key _ (HV.o.kept (au.call hI)) bX.o ph.o).mono ?_;rintro e w1 ⟨n,s,rfl,hg,k1⟩;rw[HG.o]at hg;obtain⟨rfl,rfl⟩:gD=n/\gs=s:=by simpa using hg)|(go_at_call 114;refine(qw gD gs d.n d.s _).mono ?_;rintro e w1 ⟨rfl,k1⟩));exact aP));refine DW.np ?_)
 refine DW.nl SS ?_;rintro wd hI ⟨ae,ai,aj,aq,az⟩;go_wp2;go_ret;exact⟨_,rfl,rfl,ae⟩
def La (l l2:List aD):Prop:=∀ d∈l2,c8 (gt l d.key).1 (gt l d.key).2 d.n d.s=false
theorem qcM (v v2:Value) (l l2:List aD) (w:World) (hp:b9 l) (ez:b9 l2) (bH:Rw w 60 3 aS v l) (cW:Rw w 60 3 aS v2 l2):
  Calls prog 170 #[v,v2] w λe w'=>∃ b,e= .returned (.bool b)/\(b=true↔La l l2)/\ad w w':=by
 obtain⟨A,c,rfl,_,_⟩:=bH.form;have iS:∀ fn first cap w,(Instr.makeFunc fn first cap).run prog w= .ok (.func fn first cap) w:=λ_ _ _ _=>rfl
 have HV:=aa bH;have eY:=aa cW;clear bH cW;obtain⟨W,hW⟩:=eqR (w.alloc (.cells #[.slice A l.length c] 46));have HT:ag (fI [] W 234 #[.pointer (some ⟨w.heap.size,0,none⟩)] (λd:aD=> .agg #[.string d.key,.int .i64 d.n,.int .i64 d.s]) l2 (λd b=>b=c8 (gt l d.key).1 (gt l d.key).2 d.n d.s)):=⟨λargs w=>enters_of func234 av rfl args w,λW1 h1 d hd=>qcL _ l d w.heap.size W1 hp (ez.ok d hd).1 ((HV.o.kept (by rw[hW];exact al)).kept h1.kept) (h1.kept.af (by rw[hW];go_simp))⟩;have HK:ag (ad w W):=by rw[hW];exact(ad.refl w).alloc _
 clear hp ez;go_in;go_wp2_with fail
 rw[<- hW];refine(qaT v2 l2 _ _ _ W (eY.o.kept HK.o) [] HT.o).mono ?_;rintro e w1 ⟨b,rfl,h1,h2,k1⟩
 have HB:ag ((!b)=true↔La l l2):=by
  unfold ag La
  cases b
  ·exact⟨λ_ d hd=>(h2 rfl d hd).symm,λ_=>rfl⟩
  ·obtain⟨d,hd,he⟩:=h1 rfl;exact⟨λh=>(by cases h),λh=>by rw[h d hd]at he;cases he⟩
 clear h1 h2;go_wp2;go_ret;exact⟨_,rfl,HB.o,HK.o.call k1⟩
def b4 (rs:List Rg) (k:ByteArray):Prop:=∃ x∈rs,hasB x.1 x.2 k=true
theorem qcN (A:Option Addr) (n c:Nat) (rs:List Rg) (d:aD) (P:Nat) (w:World) (bH:dL w A n c rs) (ff:w.cell? ⟨P,0,none⟩=some (.slice A n c)):
  Calls prog 236 #[.agg #[.string d.key,.int .i64 d.n,.int .i64 d.s],.pointer (some ⟨P,0,none⟩)] w λe w'=>∃ b,e= .returned (.bool b)/\(b=true↔¬b4 rs d.key)/\ad w w':=by
 have HV:=aa bH;have hP:P<w.heap.size:=Aa w _ ff;clear bH;go_in;go_wp2_with fail
 refine(wI A n c rs d.key _ (HV.o.keep al)).mono ?_;rintro e w1 ⟨r,rfl,hr,k1⟩
 have HR:ag (decide (r<0)=true↔¬b4 rs d.key):=by
  unfold ag;rw[decide_eq_true_iff];have:=Ab hr;unfold b4;rw[<- this];omega
 clear hr;go_wp2;go_ret;exact⟨_,rfl,HR.o,ad.call al k1⟩
def CQ (rs:List Rg) (l l':List aD):Prop:=cK (λ(d:aD) b=>b=true↔¬b4 rs d.key) l l'
theorem CQ.mem (h:CQ rs l l') (d:aD):d∈l'↔d∈l/\b4 rs d.key:=by
 refine⟨λhd=> ?_,λ⟨hd,ho⟩=> ?_⟩
 ·obtain⟨h1,h2⟩:=cK.not h hd;refine⟨h1,Classical.byContradiction λg=> ?_⟩;have:=h2.2 g;cases this
 ·rcases cK.mem h hd with g|g
  ·exact g
  ·exact absurd ho (g.1 rfl)
theorem CQ.cg (h:CQ rs l l') (hp:b9 l):b9 l':=hp.sub (cK.sub h)
theorem Sh (v:Value) (l:List aD) (A:Option Addr) (n c:Nat) (rs:List Rg) (w:World) (hl:l.length<=1000000000000) (bH:Rw w 60 3 aS v l) (hr:dL w A n c rs):
  Calls prog 171 #[v,.slice A n c] w λe w'=>∃ v' l' b0,e= .returned v'/\w.heap.size<=b0/\b0<=w'.heap.size/\w'.ownsRow b0 60 3 v' l'.length (l'.flatMap aS)/\CQ rs l l'/\ad w w':=by
 have iS:∀ fn first cap w,(Instr.makeFunc fn first cap).run prog w= .ok (.func fn first cap) w:=λ_ _ _ _=>rfl
 have HV:=aa bH;have HR:=aa hr;clear bH hr;go_in;go_wp2_with fail
 refine(FO v l _ (HV.o.kept al) hl).mono ?_;rintro e w1 ⟨v1,rfl,ho,k1⟩;have K1:ad w w1:=ad.call al k1;have c0:w1.cell? ⟨w.heap.size,0,none⟩=some (.slice A n c):=k1.af (by go_simp);have an:w.heap.size<w1.heap.size:=Aa w1 _ c0;have HO:=aa ho;have HB:ag (∀ g,v1.ownBlock=some g->w.heap.size+1<=g):=λg hg=>by have:=(ho.lt g hg).1;simpa using this
 have HT:ag (fI v1.ownBlock.toList w1 236 #[.pointer (some ⟨w.heap.size,0,none⟩)] (λd:aD=> .agg #[.string d.key,.int .i64 d.n,.int .i64 d.s]) l (λ(d:aD) b=>b=true↔¬b4 rs d.key)):=⟨λargs w=>enters_of func236 av rfl args w,λW1 h1 d _=>qcN A n c rs d w.heap.size W1 (HR.o.keep (ad.but K1 h1 λx hx=>by have:=HB.o x (Option.mem_toList.1 hx);omega)) (h1.af c0 λhx=>by have:w.heap.size+1<=w.heap.size:=HB.o w.heap.size (Option.mem_toList.1 hx);omega)⟩;clear ho k1;go_wp2_with fail
 refine(QN _ v1 l _ _ _ w1 (by simp;omega) HO.o HT.o).mono ?_;rintro e w2 ⟨v2,l2,rfl,h1,h2,h3⟩;have H1:=aa h1;have H2:=aa h2;clear h1 h2;go_wp2;go_ret;exact⟨v2,l2,_,rfl,ao,by have:=h3.size;simp;omega,H1.o,H2.o,ad.but K1 h3 λx hx=>by have:=HB.o x (Option.mem_toList.1 hx);omega⟩
theorem Si:∀ (l:List aD) (i:Nat) (d:aD) (n s:Int),l[i]? =some d->((l.flatMap aS).set (i*3+1) (.int .i64 n)).set (i*3+2) (.int .i64 s)=(l.set i ⟨d.key,n,s⟩).flatMap aS
 |[],i,d,n,s,h=>by simp at h
 |a::t,0,d,n,s,h=>by
  simp only[List.getElem?_cons_zero,Option.some.injEq]at h;subst h;simp[aS]
 |a::t,i+1,d,n,s,h=>by
  have:=Si t i d n s (by simpa using h);rw[show(i+1)*3+1=i*3+1+1+1+1 by omega,show(i+1)*3+2=i*3+2+1+1+1 by omega];simp[aS]at this⊢;exact this
theorem CR {q:Nat} {d:Int} (h:w.heap[q]? =some (.cells #[.int .i64 a,.int .i64 b,.int .i64 c,.int .i64 d] 45 (0,0))):Kk w (some ⟨q,0,none⟩) 2 [(a,b),(c,d)]:=
 ⟨rfl,ak,λ_=>⟨q,0,rfl,λi hi=>by
  rw[aE h,aE h];rcases i with _|_|i
  ·exact⟨rfl,rfl⟩
  ·exact⟨rfl,rfl⟩
  ·omega⟩⟩
structure qE (l:List aD) (d:aD) (l':List aD):Prop where
 cg:b9 l->b9 l'
 mem:∀ x∈l',x∈l∨x=d
 all:∀ x∈l,∃ y∈l',y.key=x.key/\c8 y.n y.s x.n x.s=false
 one:fu d.n d.s=true->∃ y∈l',y.key=d.key/\c8 y.n y.s d.n d.s=false
theorem xB (n s:Int):c8 n s n s=false:=ql4 ab
theorem qE.same (l:List aD) (d:aD) (h:fu d.n d.s=false):qE l d l:=
 ⟨id,λx hx=> .inl hx,λx hx=>⟨x,hx,rfl,xB _ _⟩,λh2=>by rw[h]at h2;cases h2⟩
theorem qE.ins (l:List aD) (d:aD) (i:Nat) (hk:Let d.key) (hc:fu d.n d.s=true) (hp:Pos l d.key i false):qE l d (l.take i++d::l.drop i):=by
 refine⟨λh=>⟨λx hx=> ?_,?_⟩,λx hx=> ?_,λx hx=>⟨x,?_,rfl,xB _ _⟩,λ_=>⟨d,ao,rfl,xB _ _⟩⟩
 ·simp only[Pv,KX]at hx;rcases hx with hx|rfl|hx
  ·exact h.ok x (List.mem_of_mem_take hx)
  ·exact⟨hk,hc⟩
  ·exact h.ok x (List.mem_of_mem_drop hx)
 ·have low:∀ a∈l.take i,hv a.key<hv d.key:=λa ha=>by
   obtain⟨U,hj⟩:=qcl.1 ha;have fD:U<i:=by have:=(bg hj);rw[qcd]at this;omega
   rw[qlY fD]at hj;exact hp.low U a fD hj
  have high:∀ b∈l.drop i,hv d.key<hv b.key:=λb hb=>by
   obtain⟨U,hj⟩:=qcl.1 hb;rw[List.getElem?_drop]at hj;have h1:=hp.high (i+U) b ab hj;have h2:=hp.no h b (zV hj);have h3:hv d.key≠hv b.key:=λe=>h2 ((h.ok b (zV hj)).1.ext hk e.symm);omega
  have hs:=h.pb;rw[<- List.take_append_drop i l,List.pairwise_append]at hs;rw[List.pairwise_append];refine⟨hs.1,List.pairwise_cons.2 ⟨high,hs.2.1⟩,λa ha b hb=> ?_⟩;rcases KX.1 hb with rfl|hb
  ·exact low a ha
  ·exact hs.2.2 a ha b hb
 ·simp only[Pv,KX]at hx;rcases hx with hx|rfl|hx
  ·exact .inl (List.mem_of_mem_take hx)
  ·exact .inr rfl
  ·exact .inl (List.mem_of_mem_drop hx)
 ·rw[<- List.take_append_drop i l]at hx;simp only[Pv,KX]at hx⊢;exact hx.imp id .inr
theorem qcO {y1 y2 d1 d2:Int} (hy:fu y1 y2=true):maxOf [(y1,y2),(d1,d2)]=if c8 y1 y2 d1 d2=true then(d1,d2)else(y1,y2):=by
 have h:=qck hy;have h1:c8 0 0 y1 y2=true:=ql3 ab;simp[maxOf,zz,h1]
theorem qE.set (l:List aD) (d y:aD) (i:Nat) (hy:l[i]? =some y) (hk:y.key=d.key) (hc:fu y.n y.s=true) (hd:fu d.n d.s=true):qE l d (l.set i ⟨y.key,(maxOf [(y.n,y.s),(d.n,d.s)]).1,(maxOf [(y.n,y.s),(d.n,d.s)]).2⟩):=by
 have an:=(bg hy);obtain⟨z,hz⟩:∃ z:aD,z=⟨y.key,(maxOf [(y.n,y.s),(d.n,d.s)]).1,(maxOf [(y.n,y.s),(d.n,d.s)]).2⟩:=⟨_,rfl⟩;rw[<- hz]
 have aY:(z=y∨z=d)/\z.key=y.key/\c8 z.n z.s y.n y.s=false/\c8 z.n z.s d.n d.s=false:=by
  rw[qcO hc]at hz;by_cases g:c8 y.n y.s d.n d.s=true
  ·simp only[if_pos g]at hz;have:z=d:=by rw[hz,hk]
   subst this;refine⟨.inr rfl,hk.symm,?_,xB _ _⟩;have:=qck g;exact ql4 ab
  ·simp only[if_neg g]at hz;subst hz;exact⟨.inl rfl,rfl,xB _ _,by simpa using g⟩
 obtain⟨h1,h2,h3,h4⟩:=aY;have Sj:z∈l.set i z:=qcl.2 ⟨i,List.getElem?_set_self an⟩;refine⟨λh=>⟨λx hx=> ?_,?_⟩,λx hx=> ?_,λx hx=> ?_,λ_=>⟨z,Sj,h2.trans hk,h4⟩⟩
 ·rcases List.mem_or_eq_of_mem_set hx with hx|rfl
  ·exact h.ok x hx
  ·refine⟨h2▸(h.ok y (zV hy)).1,?_⟩;rcases h1 with h1|h1 <;>rw[h1] <;>assumption
 ·have e:(l.set i z).map (λa=>hv a.key)=l.map λa=>hv a.key:=by
   apply List.ext_getElem?
   intro U;rw[List.getElem?_map,List.getElem?_map];by_cases e:U=i
   ·subst e;rw[List.getElem?_set_self an,hy];simp[h2]
   ·rw[List.getElem?_set_ne (Ne.symm e)]
  have hs:=(List.pairwise_map (R:=((· <·):Int->Int->Prop))).2 h.pb;rw[<- e]at hs;exact List.pairwise_map.1 hs
 ·rcases List.mem_or_eq_of_mem_set hx with hx|rfl
  ·exact .inl hx
  ·rcases h1 with h1|h1
   ·rw[h1];exact .inl (zV hy)
   ·exact .inr h1
 ·obtain⟨U,hj⟩:=qcl.1 hx;by_cases e:U=i
  ·subst e;rw[hy]at hj;injection hj with hj;subst hj;exact⟨z,Sj,h2,h3⟩
  ·exact⟨x,qcl.2 ⟨U,by rw[List.getElem?_set_ne (Ne.symm e)];exact hj⟩,rfl,xB _ _⟩
theorem qcP (v:Value) (l:List aD) (d:aD) (w:World) (hp:b9 l) (bH:Rw w 60 3 aS v l) (hk:Let d.key):
  Calls prog 154 #[v,.agg #[.string d.key,.int .i64 d.n,.int .i64 d.s]] w λe w'=>∃ v' l',e= .returned v'/\Rw w' 60 3 aS v' l'/\qE l d l'/\ad w w':=by
 have hl:=hp.len;have HV:=aa bH;have HK:=aa hk;have bX:=aa hp;clear bH hk hp;go_in;go_wp2_with fail
 refine(Ri v l d.key _ (HV.o.kept al) bX.o HK.o).mono ?_;rintro e w1 ⟨i,is,rfl,eM,k1⟩;have hi:=eM.le;have Sk:=eM.lt;have mY:=aa eM;clear eM;have e0:w1.cell? ⟨w.heap.size,0,none⟩=some (.string d.key):=k1.af (by go_simp);have e1:w1.cell? ⟨w.heap.size,1,none⟩=some (.int .i64 d.n):=k1.af (by go_simp);have e2:w1.cell? ⟨w.heap.size,2,none⟩=some (.int .i64 d.s):=k1.af (by go_simp);have K1:ad w w1:=ad.call al k1;clear k1;go_wp2_with fail
 refine(xi d HK.o _).mono ?_;rintro e w2 ⟨rfl,k2⟩;have e0:=k2.af e0;have e1:=k2.af e1;have e2:=k2.af e2;have K2:=K1.call k2;clear K1 k2;obtain⟨ok,bh⟩:=eqQ (fu d.n d.s);have Lb:=aa bh;rw[bh];clear bh
 cases ok
 ·go_wp2;go_ret;exact⟨v,l,rfl,HV.o.kept K2,qE.same l d Lb.o,K2⟩
 cases is
 ·go_wp2;refine ku [0,2,3,1,4,5,6] [none,none,none,some (λu w'=>∃ b0,b0<=w'.heap.size/\w.heap.size<=b0/\w'.ownsRow b0 60 3 u l.length (l.flatMap aS)),some (λu w'=>∃ g,u= .slice (some ⟨g,0,none⟩) 1 1/\w'.heap[g]? =some (.cells (aS d).toArray 60 (0,0)))] (λwB=>ad w wB/\ad w2 wB/\wB.cell? ⟨w.heap.size,0,none⟩=some (.string d.key)/\wB.cell? ⟨w.heap.size,1,none⟩=some (.int .i64 d.n)/\wB.cell? ⟨w.heap.size,2,none⟩=some (.int .i64 d.s)) λwB SS=> ?_;iterate 3 refine SP.on ?_
  refine SP.ew ?_ λv1=> ?_
  ·intro wd hI hF;obtain⟨ae,ay,ai,aj,aq⟩:=SS.o wd hI;clear hF;go_wp2_with ((go_at_call 148;refine(FO v l _ (HV.o.kept ae) ab).mono ?_;rintro e w4 ⟨v4,rfl,h4,k4⟩));exact bn rfl ⟨_,k4.size,ae.size,h4⟩
  refine SP.ew ?_ λv2=> ?_
  ·intro wd hI hF;obtain⟨ae,ay,ai,aj,aq⟩:=SS.o wd hI;clear hF;go_wp2;exact bn rfl ⟨_,rfl,yY _ _⟩
  refine SP.ml SS ?_;rintro wd hI hF ⟨ae,ay,ai,aj,aq⟩;have h1:=hF.2.1;have h2:=hF.1;clear hF SS;obtain⟨wc,⟨b0,dW,bD,ho⟩,kc⟩:=h1;obtain⟨Ac,⟨g,rfl,hg⟩,tp⟩:=h2;have HB:ag (∀ x,v1.ownBlock=some x->w.heap.size<=x):=λx hx=>qcg bD (ho.lt x hx).1;have HO:=aa (ad.own ho kc);have HG:=aa (tp.heap hg);have rX:b0<=wd.heap.size:=qcg dW kc.size;clear ho hg dW bD;go_wp2_with fail
  refine(qa9 b0 v1 l d i g wd rX HO.o ab hi HG.o).mono ?_;rintro e w5 ⟨v5,rfl,h5,k5⟩;have H5:=aa h5;clear h5;go_wp2;go_ret;exact⟨v5,_,rfl,H5.o,qE.ins l d i HK.o Lb.o mY.o,ad.but ae k5 λx hx=>HB.o x (Option.mem_toList.1 hx)⟩
 ·have an:=Sk rfl;obtain⟨y,hy⟩:=exQ l i an;have HY:=aa hy
  have Sm:ag (y.key=d.key/\fu y.n y.s=true):=by
   obtain⟨x,hx,he⟩:=mY.o.is.1 rfl;rw[hy]at hx;injection hx with hx;exact⟨hx▸he,(bX.o.ok y (zV hy)).2⟩
  clear Sk hy;go_wp2_with fail
  refine(FO v l _ (HV.o.kept K2) ab).mono ?_;rintro e w4 ⟨v4,rfl,h4,k4⟩;have e0:=k4.af e0;have e1:=k4.af e1;have e2:=k4.af e2;have K4:=K2.call k4;have kX:=K2.size;obtain⟨g,c,rfl,o7,dm⟩:=uK h4 ab;obtain⟨xt,CS,fJ,_,hc⟩:=(Rw.bp h4 gT ak).af HY.o
  cases fJ
  obtain⟨x0,x1,x2⟩:=y;obtain⟨c0,c1,c2⟩:=kQ hc;have HO:=aa h4;have f1:w4.frozen? ⟨g,i*3+1,none⟩=false:=h4.frozenAt _;have f2:w4.frozen? ⟨g,i*3+2,none⟩=false:=h4.frozenAt _;obtain⟨n,hn⟩:=eqQ l.length;have HN:=aa hn
  have bQ:n<=c/\c<=9223372036854775807:=by
   obtain⟨A',c',qm,h5,h6⟩:=(Rw.bp h4 gT ak).form;injection qm with _ _ e3;omega
  rw[hn]at an hl;rw[hn]at HO;simp only[hn];simp only[Nat.zero_add]at c0 c1 c2;clear h4 hc k4 hn;go_wp2;refine ey [none,none,none,none,none,none,none,none,none,some (λu w'=>∃ q,u= .slice (some ⟨q,0,none⟩) 2 2/\w'.heap[q]? =some (.cells #[.int .i64 x1,.int .i64 x2,.int .i64 d.n,.int .i64 d.s] 45 (0,0))),none] (λwB=>ad w wB/\ad w4 wB/\wB.cell? ⟨w.heap.size,0,none⟩=some (.string d.key)/\wB.cell? ⟨w.heap.size,1,none⟩=some (.int .i64 d.n)/\wB.cell? ⟨w.heap.size,2,none⟩=some (.int .i64 d.s)/\wB.cell? ⟨g,i*3,none⟩=some (.string x0)/\wB.cell? ⟨g,i*3+1,none⟩=some (.int .i64 x1)/\wB.cell? ⟨g,i*3+2,none⟩=some (.int .i64 x2)) λwB SS=> ?_;iterate 9 refine SP.on ?_
  refine SP.ew ?_ λv1=> ?_
  ·intro wd hI hF;obtain⟨ae,ay,ai,aj,aq,az,aK,a1⟩:=SS.o wd hI;clear hF;go_wp2_with (fail);exact bn rfl ⟨_,rfl,yY _ _⟩
  apply SP.one av
  ·intro wd hI hF;obtain⟨ae,ay,ai,aj,aq,az,aK,a1⟩:=SS.o wd hI;have h1:=hF.1;clear hF;go_wp2_with ((go_at_call 146;obtain⟨wq,⟨q,rfl,hq⟩,xC⟩:=h1;refine(zA _ 2 2 [(x1,x2),(d.n,d.s)] wd (CR (xC.heap hq))).mono ?_;rintro e w5 ⟨rfl,k5⟩));exact aP
  refine SP.np ?_;refine SP.ml SS ?_;rintro wd hI hF ⟨ae,ay,ai,aj,aq,az,aK,a1⟩;clear hF SS;obtain⟨qF,dn⟩:=eqQ (maxOf [(x1,x2),(d.n,d.s)]);obtain⟨m1,m2⟩:=qF;have Lc:=qE.set l d ⟨x0,x1,x2⟩ i HY.o Sm.o.1 Sm.o.2 Lb.o;have Sn:=Si l i ⟨x0,x1,x2⟩ m1 m2 HY.o;simp only[dn]at Lc⊢;have HAO:=aa Lc;have f1:=(ay.frozen g (i*3+1) dm).trans f1;have f2:=(ay.frozen g (i*3+2) dm).trans f2
  have bA:ag (((wd.setCell ⟨g,i*3+1,none⟩ (.int .i64 m1)).setCell ⟨g,i*3+2,none⟩ (.int .i64 m2)).ownsRow w2.heap.size 60 3 (.slice (some ⟨g,0,none⟩) n c) n ((l.set i ⟨x0,m1,m2⟩).flatMap aS)):=by
   have h:=((((ad.own HO.o ay).stored (i*3+1) (.int .i64 m1)).1).stored (i*3+2) (.int .i64 m2)).1;rw[Sn]at h;exact h
  clear dn Lc Sn;go_wp2;go_ret;exact⟨_,_,rfl,Rw.bp bA.o gT ak,HAO.o,al⟩
abbrev va:=Value×List aD
def Gy (x:va):List Value:=[x.1]
theorem Sq {d e f:Int} (h:c8 a b c d=false) (k:c8 c d e f=false):c8 a b e f=false:=by
 have h1:=of_decide_eq_false h;have h2:=of_decide_eq_false k;exact ql4 ab
structure cA (D l:List aD):Prop where
 cg:b9 l
 mem:∀ x∈l,x∈D
 all:∀ d∈D,fu d.n d.s=true->∃ y∈l,y.key=d.key/\c8 y.n y.s d.n d.s=false
theorem cA.nil:cA [] []:=⟨.nil,λx hx=>(by cases hx),λx hx=>(by cases hx)⟩
theorem cA.add {D:List aD} (h:cA D l) (k:qE l d l'):cA (D++[d]) l':=
 ⟨k.cg h.cg,λx hx=>by
  rcases k.mem x hx with g|rfl
  ·exact List.mem_append_left _ (h.mem x g)
  ·simp,λx hx hc=>by
  rcases Pv.1 hx with g|g
  ·obtain⟨y,hy,h1,h2⟩:=h.all x g hc;obtain⟨z,hz,h3,h4⟩:=k.all y hy;exact⟨z,hz,h3.trans h1,Sq h4 h2⟩
  ·simp only[At]at g;subst g;exact k.one hc⟩
def l7 (ls:List va):List aD:=ls.flatMap (·.2)
theorem qcQ (ls:List va) (U:Nat) (x:va) (h:ls[U]? =some x):l7 (ls.take (U+1))=l7 (ls.take U)++x.2:=by
 have hj:=(bg h);rw[QI hj,(pi.1 h).2];simp[l7]
theorem Ld (v:Value) (ls:List va) (w:World) (bH:Rw w 46 1 Gy v ls) (hr:∀ x∈ls,Rw w 60 3 aS x.1 x.2) (hk:∀ d∈l7 ls,Let d.key):
  Calls prog 93 #[v] w λe w'=>∃ v' l',e= .returned v'/\Rw w' 60 3 aS v' l'/\cA (l7 ls) l'/\ad w w':=by
 obtain⟨A,c,rfl,bl,bQ⟩:=bH.form;obtain⟨n,hn⟩:=eqQ ls.length;rw[hn]at bH bl⊢;have HV:=aa bH;have HN:=aa hn;have HR:=aa hr;have HK:=aa hk;clear bH hn hr hk;go_wp2;go_loopw [3,10] (λov iv wr=>∃ (U:Nat) (v':Value) (l':List aD),U<=n/\iv= .int .i64 U/\ov=v'/\ad w wr/\ag (Rw wr 60 3 aS v' l')/\ag (cA (l7 (ls.take U)) l')) (λ_ iv _=>n-(intOf iv).toNat)
 case atStart=>exact⟨0,_,[],ab,rfl,rfl,al,Rw.nil _,cA.nil⟩
 case round=>
  obtain⟨U,v',l',hj,rfl,rfl,kr,bU,r8⟩:=hrel;by_cases an:U<n
  ·obtain⟨x,hx⟩:=exQ ls U (by rw[HN.o];exact an);obtain⟨b,off,rfl,dZ,hc⟩:=HV.o.af hx;have HX:=aa hx;have qG:=(HR.o x (zV hx));obtain⟨qkP,xl⟩:=x;obtain⟨XA,xc,Sr,Ss,qkQ⟩:=qG.form;simp only at Sr Ss;subst Sr;have iu:=kr.af (iU hc);obtain⟨m,hm⟩:=eqQ xl.length;simp only[hm]at qG Ss iu HX;have Gz:ag (Rw w 60 3 aS (.slice XA m xc) xl):=qG;have HM:=aa hm
   (try simp only[Nat.mul_one]at iu)
   clear hx hc qG hm;go_wp2;go_loopw [3,16] (λov iv w2=>∃ (i:Nat) (v2:Value) (l2:List aD),i<=m/\iv= .int .i64 i/\ov=v2/\ad w w2/\ag (Rw w2 60 3 aS v2 l2)/\ag (cA (l7 (ls.take U)++xl.take i) l2)) (λ_ iv _=>m-(intOf iv).toNat)
   case atStart=>exact⟨0,_,l',ab,rfl,rfl,kr,bU,by rw[List.take_zero,List.append_nil];exact r8.o⟩
   case round=>
    obtain⟨i,v2,l2,hi,rfl,rfl,k2,xD,Le⟩:=hrel;by_cases iQ:i<m
    ·obtain⟨d,hd⟩:=exQ xl i (by rw[HM.o];exact iQ);obtain⟨Lf,qcR,rfl,qcS,tq⟩:=Gz.o.af hd;have HD:=aa hd;have St:Let d.key:=HK.o d (List.mem_flatMap.2 ⟨_,zV HX.o,zV hd⟩);have HL:=aa St;have bX:=aa Le.o.cg;obtain⟨x0,x1,x2⟩:=d;obtain⟨c0,c1,c2⟩:=kQ λU u hu=>k2.af (tq U u hu);clear hd tq St;go_wp2_with fail
     refine(qcP _ l2 ⟨x0,x1,x2⟩ _ bX.o (xD.o.kept al) HL.o).mono ?_;rintro e w3 ⟨v3,l3,rfl,h3,rW,k3⟩;have K3:ad w w3:=ad.call al k3;have H3:=aa h3
     have Su:ag (cA (l7 (ls.take U)++xl.take (i+1)) l3):=by
      have:=Le.o.add rW;rw[List.append_assoc]at this;rw[show xl.take (i+1)=xl.take i++[⟨x0,x1,x2⟩]by rw[QI (by rw[HM.o];exact iQ),(pi.1 HD.o).2]];exact this
     clear h3 rW k3;go_wp2;go_roundw
     case rel=>exact⟨i+1,_,l3,ab,aA,rfl,K3,H3,Su⟩
     case measure=>exact dY
    ·obtain rfl:i=m:=ab
     have CT:ag (cA (l7 (ls.take (U+1))) l2):=by
      rw[qcQ ls U _ HX.o];have h:=Le.o;rw[qcc (l:=xl) (by rw[HM.o];exact CP _)]at h;exact h
     go_wp2;go_roundw
     case rel=>exact⟨U+1,_,l2,ab,aA,rfl,k2,xD,CT⟩
     case measure=>exact dY
  ·obtain rfl:U=n:=ab;go_wp2;go_ret;exact⟨_,l',rfl,bU.o,by have:=r8.o;rwa [qcc (by rw[HN.o];exact CP _)]at this,kr⟩
theorem rless_any (n s m t:Int) (w:World):
  Calls prog 36 #[.agg #[.int .i64 n,.int .i64 s],.agg #[.int .i64 m,.int .i64 t]] w λe w'=>e= .returned (.bool (c8 n s m t))/\ad w w':=by
 rcases Int.lt_or_le n m with h|h
 ·have h1:(n==m)=false:=by simp;omega
  have h2:(n !=m)=true:=by simp;omega
  go_in;go_wp2;go_ret;refine⟨yZ (by unfold c8;rw[Bool.eq_iff_iff];simp;omega),?_⟩;exact al
 ·rcases Int.lt_or_le m n with g|g
  ·have h1:(n==m)=false:=by simp;omega
   have h2:(n !=m)=true:=by simp;omega
   go_in;go_wp2;go_ret;refine⟨yZ (by unfold c8;rw[Bool.eq_iff_iff];simp;omega),?_⟩;exact al
  ·obtain rfl:n=m:=ab;clear h g;go_in;go_wp2;go_ret;refine⟨yZ (by unfold c8;rw[Bool.eq_iff_iff];simp),?_⟩;exact al
theorem rcheck_any (n s:Int) (w:World):
  Calls prog 71 #[.agg #[.int .i64 n,.int .i64 s]] w λe w'=>e= .returned (.bool (fu n s))/\ad w w':=by
 go_in;go_wp2
 all_goals
  go_ret;refine⟨yZ (by unfold fu;rw[Bool.eq_iff_iff];simp;omega),?_⟩;exact al
theorem rkcheck (k:ByteArray) (hk:Let k) (w:World):Calls prog 67 #[.string k] w λe w'=>e= .returned (.bool true)/\ad w w':=by
 obtain⟨c,h1,h2,rfl⟩:=hk;exact qco c w ab ab
theorem toList_inj {a b:ByteArray} (h:a.toList=b.toList):a=b:=by
 rw[ByteArray.toList_eq,ByteArray.toList_eq]at h;exact ByteArray.ext (Array.toList_inj.1 h)
theorem gt_at {k:ByteArray} (hd:l[U]? =some d):gt (l.drop U) k=if d.key=k then(d.n,d.s)else gt (l.drop (U+1)) k:=by
 obtain⟨hj,rfl⟩:=pi.1 hd;rw[List.drop_eq_getElem_cons hj];rfl
theorem rget (v:Value) (l:List aD) (k:ByteArray) (w:World) (hv:Rw w 60 3 aS v l):
  Calls prog 34 #[v,.string k] w λe w'=>∃ n s:Int,e= .returned (.agg #[.int .i64 n,.int .i64 s])/\gt l k=(n,s)/\ad w w':=by
 obtain⟨A,c,rfl,bl,bQ⟩:=hv.form;obtain⟨n,hn⟩:=eqQ l.length;rw[hn]at hv bl⊢;have HV:=aa hv;have HN:=aa hn;clear hv hn;go_in;go_wp2_with fail
 have z0:(w.alloc (.cells #[.int .i64 0,.int .i64 0] 45)).cell? ⟨w.heap.size,0,none⟩=some (.int .i64 0):=by go_simp
 have z1:(w.alloc (.cells #[.int .i64 0,.int .i64 0] 45)).cell? ⟨w.heap.size,1,none⟩=some (.int .i64 0):=by go_simp
 go_loopw [5] (λiv wr=>∃ U:Nat,U<=n/\iv= .int .i64 U/\ad (w.alloc (.cells #[.int .i64 0,.int .i64 0] 45)) wr/\ag (gt l k=gt (l.drop U) k)) (λiv _=>n-(intOf iv).toNat)
 case atStart=>exact⟨0,ab,rfl,ad.refl _,rfl⟩
 case round=>
  obtain⟨U,hj,rfl,kr,hg⟩:=hrel;have pq:ad w wr:=ad.call al kr;have y0:=kr.af z0;have y1:=kr.af z1;have hf:∀ qD,wr.frozen? ⟨w.heap.size,qD,none⟩=false:=λqD=>by rw[kr.frozen w.heap.size qD ao];go_simp
  have f0:=hf 0;have f1:=hf 1;by_cases an:U<n
  ·obtain⟨a,ha⟩:=exQ l U (by rw[HN.o];exact an);obtain⟨b,off,rfl,hb,hc⟩:=HV.o.af ha;have HG:ag (gt l k=if a.key=k then(a.n,a.s)else gt (l.drop (U+1)) k):=hg.o.trans (gt_at ha);obtain⟨x0,x1,x2⟩:=a;obtain⟨c0,c1,c2⟩:=kQ λU u hu=>pq.af (hc U u hu);clear hc ha hf;by_cases he:x0.toList=k.toList
   ·have HG1:ag (gt l k=(x1,x2)):=HG.o.trans (if_pos (toList_inj he));have hq:(x0.toList==k.toList)=true:=by simp[he]
    clear HG he;go_wp2_with fail
    refine KV (v:= .agg #[.int .i64 x1,.int .i64 x2]) (by simp[results,results34,go_sem,y0,y1]) rfl ?_;exact⟨x1,x2,rfl,HG1.o,al⟩
   ·have vA:ag (gt l k=gt (l.drop (U+1)) k):=HG.o.trans (if_neg λe=>he (by rw[show x0=k from e]));have hq:(x0.toList==k.toList)=false:=by simp[he]
    go_wp2_with fail
    go_roundw
    case rel=>exact⟨U+1,ab,aA,kr,vA⟩
    case measure=>exact dY
  ·obtain rfl:U=n:=ab
   have HG:ag (gt l k=(0,0)):=by
    have:=hg.o;rwa [List.drop_of_length_le (by rw[HN.o];exact CP _)]at this
   clear hf;go_wp2_with fail
   refine KV (v:= .agg #[.int .i64 0,.int .i64 0]) (by simp[results,results34,go_sem,y0,y1]) rfl ?_;exact⟨0,0,rfl,HG.o,al⟩
theorem rcovers (v v2:Value) (l l2:List aD) (w:World) (hv:Rw w 60 3 aS v l) (cW:Rw w 60 3 aS v2 l2) (hcov:La l l2):
  Calls prog 69 #[v,v2] w λe w'=>e= .returned (.bool true)/\ad w w':=by
 obtain⟨A,c,rfl,bl,bQ⟩:=cW.form;obtain⟨n,hn⟩:=eqQ l2.length;rw[hn]at cW bl⊢;have HV:=aa hv;have eY:=aa cW;have HN:=aa hn;have HC:=aa hcov;clear hv hn cW hcov;go_in;go_wp2_with fail
 go_loopw [5] (λiv wr=>∃ U:Nat,U<=n/\iv= .int .i64 U/\ad w wr) (λiv _=>n-(intOf iv).toNat)
 case atStart=>exact⟨0,ab,rfl,al⟩
 case round=>
  obtain⟨U,hj,rfl,kr⟩:=hrel;by_cases an:U<n
  ·obtain⟨a,ha⟩:=exQ l2 U (by rw[HN.o];exact an);obtain⟨b,off,rfl,hb,hc⟩:=eY.o.af ha;have HL:=aa (HC.o a (zV ha));obtain⟨x0,x1,x2⟩:=a;obtain⟨c0,c1,c2⟩:=kQ λU u hu=>kr.af (hc U u hu);clear hc ha;go_wp2_with fail
   refine(rget _ l x0 _ (HV.o.kept al)).mono ?_;rintro e w1 ⟨m1,m2,rfl,hg,k1⟩;have hl:=HL.o;rw[hg]at hl;have vu:=aa hl;have K1:ad w w1:=ad.call al k1;have d1:=k1.af c1;have d2:=k1.af c2;have bD:b<w1.heap.size:=Aa w1 _ d1;clear hl hg;go_wp2_with fail
   refine bz (λwB=>ad w wB/\ad w1 wB/\wB.cell? ⟨w1.heap.size,0,none⟩=some (.int .i64 m1)/\wB.cell? ⟨w1.heap.size,1,none⟩=some (.int .i64 m2)/\wB.cell? ⟨b,off+U*3+1,none⟩=some (.int .i64 x1)/\wB.cell? ⟨b,off+U*3+2,none⟩=some (.int .i64 x2)) λwB SS=> ?_;obtain⟨au,br,aB,aC,aF,aX⟩:=SS.o _ (ad.refl _);repeat(apply DW.ct;(focus (intro wd hI;obtain⟨ae,ay,ai,aj,aq,az⟩:=SS.o wd hI;go_wp2_with (go_at_call 36;refine(rless_any m1 m2 x1 x2 _).mono ?_;rintro e w5 ⟨he,k5⟩;rw[vu.o]at he;obtain rfl:=he);exact aP));refine DW.np ?_)
   refine DW.nl SS ?_;rintro wd hI ⟨ae,ay,ai,aj,aq,az⟩;go_wp2_with fail
   go_roundw
   case rel=>exact⟨U+1,ab,aA,ae⟩
   case measure=>exact dY
  ·obtain rfl:U=n:=ab;go_wp2_with fail
   go_ret;exact⟨rfl,kr⟩
def qH (l:List aD) (U:Nat):Prop:=(∀ i d,i<U->l[i]? =some d->fu d.n d.s=true)/\∀ i d e,i+1<U->l[i]? =some d->l[i+1]? =some e->Op.bytesLess d.key.toList e.key.toList=true
def PC (l:List aD):Prop:=qH l l.length/\l.length<=24
theorem qH.zero (l:List aD):qH l 0:=⟨λi d h=>ab,λi d e h=>ab⟩
theorem qH.one (h:l[0]? =some d) (hc:fu d.n d.s=true):qH l 1:=⟨λi Lg hi hd=>by
 obtain rfl:i=0:=ab;rw[h]at hd;injection hd with hd;rw[<- hd];exact hc,λi d e h=>ab⟩
theorem qH.step {e:aD} (h:qH l (U+1)) (hd:l[U]? =some d) (he:l[U+1]? =some e) (hc:fu e.n e.s=true) (hl:Op.bytesLess d.key.toList e.key.toList=true):qH l (U+2):=by
 refine⟨λi x hi hx=> ?_,λi x y hi hx hy=> ?_⟩
 ·rcases R6 i (U+1)with g|g
  ·exact h.1 i x g hx
  ·obtain rfl:i=U+1:=ab;rw[he]at hx;injection hx with hx;rw[<- hx];exact hc
 ·rcases R6 (i+1) (U+1)with g|g
  ·exact h.2 i x y g hx hy
  ·obtain rfl:i=U:=ab;rw[hd]at hx;injection hx with hx;rw[he]at hy;injection hy with hy;rw[<- hx,<- hy];exact hl
theorem PC.of (h:b9 l):PC l:=
 ⟨⟨λi d _ hd=>(h.ok d (zV hd)).2,λi d e _ hd he=>by
  obtain⟨h1,rfl⟩:=pi.1 hd;obtain⟨h2,rfl⟩:=pi.1 he;rw[(h.ok _ (List.getElem_mem h2)).1.less];exact ql3 (List.pairwise_iff_getElem.1 h.pb i (i+1) h1 h2 ab)⟩,by have:=h.len;omega⟩
theorem Lh (v:Value) (l:List aD) (w:World) (hl:l.length<=1000000000000) (hv:Rw w 60 3 aS v l) (hk:∀ d∈l,Let d.key):
  Calls prog 207 #[v] w λe w'=>∃ b:Bool,e= .returned (.bool b)/\(b=true↔PC l)/\ad w w':=by
 obtain⟨A,c,rfl,bl,bQ⟩:=hv.form;obtain⟨n,hn⟩:=eqQ l.length;rw[hn]at hv bl hl⊢;have HV:=aa hv;have HN:=aa hn;have HK:=aa hk;clear hv hn hk;go_wp2;go_loopw [7] (λiv wr=>∃ U:Nat,U<=n/\iv= .int .i64 U/\ad w wr/\ag (qH l U)) (λiv _=>n-(intOf iv).toNat)
 case atStart=>exact⟨0,ab,rfl,al,qH.zero l⟩
 case round=>
  obtain⟨U,hj,rfl,kr,hp⟩:=hrel;by_cases an:U<n
  ·obtain⟨a,ha⟩:=exQ l U (by rw[HN.o];exact an);obtain⟨b,off,rfl,hb,hc⟩:=HV.o.af ha;have HA:=aa ha;have HL:=aa (HK.o a (zV ha))
   have bW:ag (fu a.n a.s=false->¬PC l):=λh hp=>by
    have:=hp.1.1 U a (by rw[HN.o];exact an) HA.o;rw[h]at this;cases this
   obtain⟨x0,x1,x2⟩:=a;obtain⟨c0,c1,c2⟩:=kQ λU u hu=>kr.af (hc U u hu);have oq:b<wr.heap.size:=Aa wr _ c0;clear hc ha;obtain⟨dD,eu⟩:=eqQ (fu x1 x2);have fy:=aa eu;clear eu
   cases U with
   |zero=>
    have hgt:decide ((0:Int)<0)=false:=rfl;simp only[Nat.zero_mul,Nat.add_zero]at c0 c1 c2
    cases dD
    all_goals
     go_wp2;refine bz (λwB=>ad w wB/\ad wr wB/\wB.cell? ⟨wr.heap.size,0,none⟩=some (.string x0)/\wB.cell? ⟨wr.heap.size,1,none⟩=some (.int .i64 x1)/\wB.cell? ⟨wr.heap.size,2,none⟩=some (.int .i64 x2)) λwB SS=> ?_;obtain⟨au,br,aB,aC,aF⟩:=SS.o _ (ad.refl _);repeat(apply DW.ct;(focus (intro wd hI;obtain⟨ae,ay,ai,aj,aq⟩:=SS.o wd hI;go_wp2_with (go_at_call 216;refine(xi ⟨x0,x1,x2⟩ HL.o _).mono ?_;rintro e w5 ⟨he,k5⟩;rw[fy.o]at he;obtain rfl:=he);exact aP));refine DW.np ?_)
     refine DW.nl SS ?_;rintro wd hI ⟨ae,ay,ai,aj,aq⟩;go_wp2
    ·go_ret;exact⟨false,rfl,by simp;exact bW.o fy.o,ae⟩
    ·have l8:=aa (qH.one HA.o fy.o);go_roundw
     case rel=>exact⟨1,ab,aA,ae,l8⟩
     case measure=>exact dY
   |succ k=>
    obtain⟨p,fN⟩:=exQ l k (by rw[HN.o];omega);obtain⟨b2,gA,e2,_,cz⟩:=HV.o.af fN
    cases e2
    obtain⟨y0,y1,y2⟩:=p;obtain⟨d0,d1,d2⟩:=kQ λU u hu=>kr.af (cz U u hu);have jd:=aa fN;obtain⟨lb,qI⟩:=eqQ (Op.bytesLess y0.toList x0.toList);have pj:=aa qI
    have zO:ag (lb=false->¬PC l):=λh hp=>by
     have:=hp.1.2 k _ _ (by rw[HN.o];exact an) jd.o HA.o;rw[pj.o,h]at this;cases this
    have hgt:decide ((0:Int)<((k+1:Nat):Int))=true:=ao;have eN:((k+1:Nat):Int)-1=(k:Int):=ab;clear cz fN qI
    cases dD
    ·go_wp2;refine bz (λwB=>ad w wB/\ad wr wB/\wB.cell? ⟨wr.heap.size,0,none⟩=some (.string x0)/\wB.cell? ⟨wr.heap.size,1,none⟩=some (.int .i64 x1)/\wB.cell? ⟨wr.heap.size,2,none⟩=some (.int .i64 x2)/\wB.cell? ⟨b,off+k*3,none⟩=some (.string y0)) λwB SS=> ?_;obtain⟨au,br,aB,aC,aF,aX⟩:=SS.o _ (ad.refl _);repeat(apply DW.ct;(focus (intro wd hI;obtain⟨ae,ay,ai,aj,aq,az⟩:=SS.o wd hI;go_wp2_with (go_at_call 216;refine(xi ⟨x0,x1,x2⟩ HL.o _).mono ?_;rintro e w5 ⟨he,k5⟩;rw[fy.o]at he;obtain rfl:=he);exact aP));refine DW.np ?_)
     refine DW.nl SS ?_;rintro wd hI ⟨ae,ay,ai,aj,aq,az⟩;go_wp2;go_ret;exact⟨false,rfl,by simp;exact bW.o fy.o,ae⟩
    ·have qI:=pj.o
     cases lb
     all_goals
      go_wp2;refine bz (λwB=>ad w wB/\ad wr wB/\wB.cell? ⟨wr.heap.size,0,none⟩=some (.string x0)/\wB.cell? ⟨wr.heap.size,1,none⟩=some (.int .i64 x1)/\wB.cell? ⟨wr.heap.size,2,none⟩=some (.int .i64 x2)/\wB.cell? ⟨b,off+k*3,none⟩=some (.string y0)) λwB SS=> ?_;obtain⟨au,br,aB,aC,aF,aX⟩:=SS.o _ (ad.refl _);repeat(apply DW.ct;(focus (intro wd hI;obtain⟨ae,ay,ai,aj,aq,az⟩:=SS.o wd hI;go_wp2_with (go_at_call 216;refine(xi ⟨x0,x1,x2⟩ HL.o _).mono ?_;rintro e w5 ⟨he,k5⟩;rw[fy.o]at he;obtain rfl:=he);exact aP));refine DW.np ?_)
      refine DW.nl SS ?_;rintro wd hI ⟨ae,ay,ai,aj,aq,az⟩;go_wp2
     ·go_ret;exact⟨false,rfl,by simp;exact zO.o (by first|rfl|trivial),ae⟩
     ·have l8:=aa (hp.o.step jd.o HA.o fy.o pj.o);go_roundw
      case rel=>exact⟨k+2,ab,aA,ae,l8⟩
      case measure=>exact dY
  ·obtain rfl:U=n:=ab;go_wp2;go_ret;exact⟨decide ((U:Int)<=24),by first|rfl|simp,by rw[decide_eq_true_iff,PC,HN.o];exact⟨λh=>⟨hp.o,ab⟩,λh=>by have:=h.2;omega⟩,kr⟩
end Go.Proofs.YtehaoggjlciobaaGreat

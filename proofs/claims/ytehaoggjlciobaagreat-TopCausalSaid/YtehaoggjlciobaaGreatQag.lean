/- Part 5 of 40. -/
import Derived.Test.YtehaoggjlciobaaGreatQaa
set_option linter.all false
set_option maxRecDepth 20000
set_option maxHeartbeats 16000000
namespace Go.Proofs.YtehaoggjlciobaaGreat
open Go Go.Proofs.Tryz
variable {a:Act} {w:World}
section
variable {P:Program} {ops:Array Oper} {Q:Exit->Act->World->Prop} {G:Bool->World->Prop} {Cx:World->World->Prop} {p:Nat}
abbrev Pd:=Value->World->Prop
abbrev mT:=Nat×Pd×Value
def uW (ops:Array Oper) (qD:Oper):List mT->World->Prop
 |[],_=>True
 |f::fs,w=>(waits ops 14 qD f.1=true->f.2.1 f.2.2 w)/\uW ops qD fs w
def iW:List mT->World->Prop
 |[],_=>True
 |f::fs,w=>f.2.1 f.2.2 w/\iW fs w
theorem Cm:∀ {fs:List mT} {w:World},iW fs w↔∀ f∈fs,f.2.1 f.2.2 w
 |[],_=>by simp[iW]
 |f::fs,w=>by simp[iW,Cm (fs:=fs)]
theorem qks {qD:Oper}:∀ {fs:List mT} {w:World},uW ops qD fs w↔∀ f∈fs,waits ops 14 qD f.1=true->f.2.1 f.2.2 w
 |[],_=>by simp[uW]
 |f::fs,w=>by simp[uW,qks (fs:=fs)]
def partOf (qD:Oper):Bool:=qD.guard.isNone&&match qD.op with
 | .extract _ _=>true
 |_=>false
theorem qbh {qD:Oper} {a:Act} {v:Value} {H:World->World->Prop} {w:World} (hp:partOf qD=true) (h:wpList P ops (bd (λu w'=>u=v/\H w w') qD a) [qD] a w) (w2:World):wpList P ops (bd (λu w'=>u=v/\w'=w2) qD a) [qD] a w2:=by
 unfold partOf at hp;rw[Bool.and_eq_true]at hp;obtain⟨hg,hx⟩:=hp
 have hg:qD.guard=none:=by cases h:qD.guard with
  |none=>rfl
  |some _=>rw[h]at hg;cases hg
 obtain⟨t,i,ho⟩:∃ t i,qD.op= .extract t i:=by
  cases h:qD.op with
  |extract t i=>exact⟨t,i,rfl⟩
  |_=>rw[h]at hx;cases hx
 have hw:∀ b:Act,Region.wanted qD (yielded ops b.tmps)=true:=λb=>by unfold Region.wanted;rw[hg]
 unfold wpList at h⊢;rw[hw]at h⊢;simp only[if_true]at h⊢
 have he:∀ W,(execOp a.eval qD).run P W=((Instr.extract (a.eval t) i).run P W).andThen λv w'=> .ok (.value v) w':=λW=>by
  unfold execOp;rw[ho];simp only[Sem.run_bind,Sem.run_pure]
 have hx:(∃ u,∀ W,(Instr.extract (a.eval t) i).run P W= .ok u W)∨∃ s,∀ W,(Instr.extract (a.eval t) i).run P W= .halt (.stuck s) W:=by
  generalize a.eval t=x
  cases x with
  |tuple vs=>
   cases hv:vs[i]? with
   |some u=>exact .inl ⟨u,λW=>by simp[Instr.extract,hv,go_sem]⟩
   |none=>exact .inr ⟨_,λW=>by simp[Instr.extract,hv,go_sem];rfl⟩
  |_=>exact .inr ⟨_,λW=>by simp[Instr.extract,go_sem];rfl⟩
 rcases h with h|⟨_,_,_,h,_⟩
 ·refine .inl ?_;unfold Oper.wp at h⊢;rw[he]at h⊢;rcases hx with ⟨u,hx⟩|⟨s,hx⟩
  ·rw[hx]at h⊢;obtain⟨_,u',h1,h2,_⟩:=(show bd (λu w'=>u=v/\H w w') qD a .normal (a.put qD.dst u) w from h);exact(show bd (λu w'=>u=v/\w'=w2) qD a .normal (a.put qD.dst u) w2 from⟨rfl,u',h1,h2,rfl⟩)
  ·rw[hx]at h;exact(h:False).elim
 ·cases h
def TL (P:Program) (ops:Array Oper) (Q:Exit->Act->World->Prop):List Oper->Act->World->Prop
 |[],a,w=>Q .normal a w
 |qD::rest,a,w=>wpList P ops (bd (λu w'=>TL P ops Q rest (a.put qD.dst u) w') qD a) [qD] a w
def mU (P:Program) (ops:Array Oper) (Q:Exit->Act->World->Prop) (I:World->Prop):(World->Prop)->List Oper->Act->Prop
 |J,[],a=>∀ w,J w->Q .normal a w
 |J,qD::rest,a=>∃ (v:Value) (J':World->Prop),(∀ w w',J' w->ad w w'->J' w')/\(∀ w,J' w->I w)/\(∀ w,J w->wpList P ops (bd (λu w'=>u=v/\J' w') qD a) [qD] a w)/\mU P ops Q I J' rest (a.put qD.dst v)
def uX (ops:Array Oper) (k:Nat) (late:List Nat):Bool:=(late.all λU=>decide (U<k))&&(List.range ops.size).all λU=>decide (U<k)||match ops[U]? with|none=>true|some y=>(List.range U).all λi=>late.contains i||waits ops 14 y i
theorem F1 {k:Nat} {late:List Nat} (h:uX ops k late=true):(∀ U∈late,U<k)/\∀ U i y,k<=U->i<U->i∉late->ops[U]? =some y->waits ops 14 y i=true:=by
 unfold uX at h;rw[Bool.and_eq_true,List.all_eq_true,List.all_eq_true]at h;refine⟨λU hj=>qck (h.1 U hj),λU i y fX fV hl hy=> ?_⟩;have an:U<ops.size:=(qch.1 hy).1;have:=h.2 U (List.mem_range.2 an);rw[hy]at this;simp only[Bool.or_eq_true,decide_eq_true_iff,List.all_eq_true,List.mem_range]at this;rcases this with g|g
 ·omega
 ·rcases g i fV with e|e
  ·exact absurd (by simpa using e) hl
  ·exact e
def Kh (ops:Array Oper) (late:List Nat):Bool:=late.all λU=>match ops[U]? with|some qD=>partOf qD|none=>false
theorem qbi {late:List Nat} (h:Kh ops late=true):∀ U∈late,∀ qD,ops[U]? =some qD->partOf qD=true:=λU hj qD ho=>by
 have:=List.all_eq_true.1 h U hj;rw[ho]at this;exact this
def F2 (ops:Array Oper) (k:Nat) (late:List Nat):Bool:=uX ops k late&&Kh ops late
theorem Ki {k:Nat} {late:List Nat} (h:uX ops k late=true):∀ U,k<=U->BP ops U:=λU hj i y hi hy=> .inr ((F1 h).2 i U y (by omega) hi (λhl=>by have:=(F1 h).1 U hl;omega) hy)
theorem TL.rN {bc:Array Oper}:∀ (l:List Oper) (k:Nat) (a:Act) (w:World),(∀ U,k<=U->BP bc U)->TL P ops Q l a w->DG (λx y=>y=x) P ops bc Q (λ_=>True) (· =w) l k a
 |[],_,_,_,_,h=>λ_ e=>e▸h
 |_::rest,k,_,_,hl,h=> .inr (.inl ⟨hl k (CP _),λ_ e=>e▸qh (λ_ w' h'=>⟨_,(· =w'),⟨λ_ h=>h,λ_ _=>trivial,λ_ _ h1 h2=>h2.trans h1,rfl⟩,TL.rN rest _ _ w' (λU hj=>hl U (by omega)) h'⟩) h⟩)
theorem mU.rN {bc:Array Oper} {I:World->Prop}:∀ (l:List Oper) (J:World->Prop) (k:Nat) (a:Act),(∀ U,k<=U->BP bc U)->mU P ops Q I J l a->DG ad P ops bc Q I J l k a
 |[],_,_,_,_,h=>h
 |_::rest,_,k,_,hl,⟨v,J',h1,h2,h3,h4⟩=> .inr (.inl ⟨hl k (CP _),λw hw=>qh (λ_ w' ⟨e,h'⟩=>⟨I,J',⟨λ_ h=>h,h2,h1,h'⟩,e▸mU.rN rest J' _ _ (λU hj=>hl U (by omega)) h4⟩) (h3 w hw)⟩)
theorem QW {bc:Array Oper} {K:World->World->Prop} {I J:World->Prop} {k:Nat} {a:Act} (ht:nW bc k=true):∀ (l:List Oper),(∀ w,J w->wpList P ops Q l a w)->DG K P ops bc Q I J l k a
 |[],h=>h
 |_::_,h=> .inr (.inr ⟨ht,h⟩)
theorem QX {k:Nat} (h:nW ops k=true):uX ops k []=true:=by
 unfold uX;rw[Bool.and_eq_true,List.all_eq_true,List.all_eq_true];refine⟨λU hj=>(by cases hj),λU hj=> ?_⟩
 cases hy:ops[U]? with
 |none=>simp
 |some y=>
  simp only[Bool.or_eq_true,decide_eq_true_iff,List.all_eq_true,List.mem_range];rcases R6 U k with g|g
  ·exact .inl g
  ·exact .inr λi hi=> .inr (JM h U i y g hi hy)
def GA (G:Bool->World->Prop) (w:World):Prop:=∃ b,G b w
def SX (G:Bool->World->Prop) (Cx:World->World->Prop) (p:Nat) (P:Program) (ops bc:Array Oper) (r:Oper->Oper) (Q:Exit->Act->World->Prop):List (Option Pd)->List Oper->Nat->Act->List mT->Prop
 |[],l,k,a,fs=>∃ late,uX bc k late=true/\(fs.all λf=> !late.contains f.1)=true/\((Kh bc late=true/\∀ w,GA G w->iW fs w->DG (λx y=>y=x) P ops bc Q (λ_=>True) (· =w) l k a)∨DG ad P ops bc Q (λw=>GA G w/\iW fs w) (λw=>GA G w/\iW fs w) l k a)
 |none::ks,qD::rest,k,a,fs=>(fs.all λf=>waits bc 14 (r qD) f.1)=true/\∃ v,(∀ w,GA G w->iW fs w->wpList P ops (bd (λu w'=>u=v/\ad w w') qD a) [qD] a w)/\SX G Cx p P ops bc r Q ks rest (k+1) (a.put qD.dst v) fs
 |some R::ks,qD::rest,k,a,fs=>((k=p->∀ w,G false w->uW bc (r qD) fs w->wpList P ops (bd (λu w'=>R u w'/\G true w'/\Cx w w') qD a) [qD] a w)/\(k≠p->∀ w,GA G w->uW bc (r qD) fs w->wpList P ops (bd (λu w'=>R u w'/\ad w w') qD a) [qD] a w))/\∀ v,SX G Cx p P ops bc r Q ks rest (k+1) (a.put qD.dst v) ((k,R,v)::fs)
 |_::_,[],_,_,_=>False
theorem SX.conv {mL:Array Oper} {r:Oper->Oper} {S:Oper->Prop} (c:Cv P ops mL r S):∀ (ks:List (Option Pd)) (l:List Oper),(∀ qD∈l,S qD)->∀ (k:Nat) (a:Act) (fs:List mT),SX G Cx p P ops mL r Q ks l k a fs->SX G Cx p P mL mL id Q ks (l.map r) k a fs
 |[],l,hg,k,a,fs,⟨late,h1,h2,h3⟩=>⟨late,h1,h2,h3.imp (λ⟨h4,h5⟩=>⟨h4,λw hw hf=>DG.conv c l hg _ _ _ _ (h5 w hw hf)⟩) (DG.conv c l hg _ _ _ _)⟩
 |none::ks,qD::rest,hg,_,_,_,⟨h1,v,h2,h3⟩=>⟨h1,v,λw hw hf=>c.one (hg qD (List.mem_cons_self ..)) (λ_ _ h=>h) (h2 w hw hf),by rw[c.dst];exact SX.conv c ks rest (λqD ho=>hg qD (zM _ ho)) _ _ _ h3⟩
 |some _::ks,qD::rest,hg,_,_,_,⟨⟨h1,h2⟩,h3⟩=>⟨⟨λe w hw hf=>c.one (hg qD (List.mem_cons_self ..)) (λ_ _ h=>h) (h1 e w hw hf),λe w hw hf=>c.one (hg qD (List.mem_cons_self ..)) (λ_ _ h=>h) (h2 e w hw hf)⟩,λv=>by rw[c.dst];exact SX.conv c ks rest (λqD ho=>hg qD (zM _ ho)) _ _ _ (h3 v)⟩
 |none::_,[],_,_,_,_,h=>h
 |some _::_,[],_,_,_,_,h=>h
def isSp (ks:List (Option Pd)) (U:Nat):Prop:=∃ R,ks[U]? =some (some R)
structure wZ (G:Bool->World->Prop) (Cx:World->World->Prop) (p:Nat) (P:Program) (ops:Array Oper) (Q:Exit->Act->World->Prop) (ks:List (Option Pd)) (a0:Act) (L:Nat->Prop) (a:Act) (w:World) (m:Nat) (aU:Nat->Value) (am:Act) (fs:List mT):Prop where
 le:m<=ks.length
 sz:ks.length<=ops.size
 sub:∀ U,L U->U<m∨isSp ks U
 rep:eg ops aU a0 L a
 kj:eg ops aU a0 (· <m) am
 fact:∀ U R,L U->ks[U]? =some (some R)->R (aU U) w
 done:∀ U,U<m->isSp ks U->L U
 oW:∀ U qD,U<m->¬L U->ops[U]? =some qD->∃ gO,eg ops aU a0 (· <U) gO/\∀ w,GA G w->(∀ i R,i<m->ks[i]? =some (some R)->R (aU i) w)->wpList P ops (bd (λu w'=>u=aU U/\ad w w') qD gO) [qD] gO w
 kept:(L p->G true w)/\(¬L p->G false w)
 sp:SX G Cx p P ops ops id Q (ks.drop m) (ops.toList.drop m) m am fs
 fst:∀ f∈fs,f.1<m/\ks[f.1]? =some (some f.2.1)/\f.2.2=aU f.1
 zv:∀ U,U<m->isSp ks U->∃ f∈fs,f.1=U
theorem wZ.xd {ks:List (Option Pd)} {a0 a:Act} {L:Nat->Prop} {w:World} {m:Nat} {aU:Nat->Value} {am:Act} {fs:List mT} (h:wZ G Cx p P ops Q ks a0 L a w m aU am fs):GA G w:=by
 by_cases g:L p
 ·exact⟨_,h.kept.1 g⟩
 ·exact⟨_,h.kept.2 g⟩
theorem QY (mV:∀ b w w',G b w->ad w w'->G b w') {L L':Nat->Prop} {w w':World} (h:(L p->G true w)/\(¬L p->G false w)) (hL:L p->L' p) (hL':L' p->L p∨∀ w,G false w->G true w) (k:ad w w'):(L' p->G true w')/\(¬L' p->G false w'):=by
 refine⟨λg=> ?_,λg=>mV _ _ _ (h.2 λe=>g (hL e)) k⟩;by_cases e:L p
 ·exact mV _ _ _ (h.1 e) k
 ·exact mV _ _ _ ((hL' g).resolve_left e _ (h.2 e)) k
theorem wZ.settle {ks:List (Option Pd)} {a0 a:Act} {L:Nat->Prop} {w:World}:∀ (n m:Nat) (aU:Nat->Value) (am:Act) (fs:List mT),ks.length-m=n->wZ G Cx p P ops Q ks a0 L a w m aU am fs->
  ∃ m' sX wC qq,wZ G Cx p P ops Q ks a0 L a w m' sX wC qq/\(m'<ks.length->isSp ks m'/\¬L m'):=by
 intro n
 induction n with
 |zero=>intro m aU am fs hn h;exact⟨m,aU,am,fs,h,λan=>by omega⟩
 |succ n ih=>
  intro m aU am fs hn h;have an:m<ks.length:=by omega
  have ae:ks.drop m=ks[m]::ks.drop (m+1):=List.drop_eq_getElem_cons an;have lT:m<ops.size:=R4 an h.sz;have mW:ks[m]? =some ks[m]:=vF an;have ho:ops[m]? =some ops[m]:=Ht lT;have fW:=h.sp;rw[ae,BO lT]at fW
  cases hk:ks[m]with
  |some R=>
   rw[hk]at fW mW;by_cases hL:L m
   ·have zc:eg ops aU a0 (· <m+1) (am.put ops[m].dst (aU m)):=
     h.kj.Fu (M:=(· <m+1)) ho (λU=>by omega) λk _ _ hk _ _ _=>by omega
    refine ih (m+1) aU _ ((m,R,aU m)::fs) (by omega) ⟨an,h.sz,λU hj=> ?_,h.rep,zc,h.fact,λU hj hs=> ?_,λU qD hj iP dK=> ?_,h.kept,fW.2 (aU m),λf hf=> ?_,λU hj hs=> ?_⟩
    ·rcases h.sub U hj with g|g
     ·exact .inl (by omega)
     ·exact .inr g
    ·by_cases e:U=m
     ·rw[e];exact hL
     ·exact h.done U (by omega) hs
    ·have:U≠m:=λe=>iP (by rw[e];exact hL);obtain⟨gO,h1,h2⟩:=h.oW U qD (by omega) iP dK;exact⟨gO,h1,λw hw hf=>h2 w hw λi R hi=>hf i R (by omega)⟩
    ·rcases KX.1 hf with rfl|hf
     ·exact⟨Nat.lt_succ_self _,mW,rfl⟩
     ·obtain⟨g1,g2⟩:=h.fst f hf;exact⟨by omega,g2⟩
    ·by_cases e:U=m
     ·exact⟨_,List.mem_cons_self ..,e.symm⟩
     ·obtain⟨f,hf,e2⟩:=h.zv U (by omega) hs;exact⟨f,zM _ hf,e2⟩
   ·exact⟨m,aU,am,fs,h,λ_=>⟨⟨R,mW⟩,hL⟩⟩
  |none=>
   rw[hk]at fW mW;obtain⟨hf,v,hd,hr⟩:=fW
   have hnL:¬L m:=λhL=>by
    rcases h.sub m hL with g|⟨R,g⟩
    ·omega
    ·rw[mW]at g;cases g
   have hE:∀ U,U≠m->kh aU m v U=aU U:=λU hj=>sY hj;have QZ:∀ U,L U->U≠m:=λU hj e=>hnL (e▸hj);refine ih (m+1) (kh aU m v) _ fs (by omega) ⟨an,h.sz,λU hj=> ?_,h.rep.aU λU hj=>hE U (QZ U hj),h.kj.next ho v,λU R hj hR=>by rw[hE U (QZ U hj)];exact h.fact U R hj hR,λU hj hs=> ?_,λU qD hj iP dK=> ?_,h.kept,hr,λf hf=> ?_,λU hj hs=> ?_⟩
   ·rcases h.sub U hj with g|g
    ·exact .inl (by omega)
    ·exact .inr g
   ·by_cases e:U=m
    ·obtain⟨R,hR⟩:=hs;rw[e,mW]at hR;cases hR
    ·exact h.done U (by omega) hs
   ·by_cases e:U=m
    ·subst e;rw[ho]at dK;injection dK with dK;subst dK;refine⟨am,h.kj.aU λk hk=>hE k (by omega),λw hw qt=> ?_⟩
     have:=hd w hw (Cm.2 λf hf=>by
      obtain⟨g1,g2,g3⟩:=h.fst f hf;have:=qt f.1 f.2.1 (by omega) g2;rw[hE f.1 (by omega),<- g3]at this;exact this)
     rw[zb];exact this
    ·obtain⟨gO,h1,h2⟩:=h.oW U qD (by omega) iP dK;refine⟨gO,h1.aU λk hk=>hE k (by omega),λw hw qt=> ?_⟩;rw[hE U e]
     exact h2 w hw λi R hi hR=>by
      have:=qt i R (by omega) hR;rwa [hE i (by omega)]at this
   ·obtain⟨g1,g2,g3⟩:=h.fst f hf;exact⟨by omega,g2,by rw[hE f.1 (by omega)];exact g3⟩
   ·by_cases e:U=m
    ·obtain⟨R,hR⟩:=hs;rw[e,mW]at hR;cases hR
    ·exact h.zv U (by omega) hs
theorem qbj {ks:List (Option Pd)} {a0:Act} (bu:ks.length<=ops.size) (aU:Nat->Value) {m:Nat} {am:Act} {fs:List mT} (h1:eg ops aU a0 (· <m) am) (h2:SX G Cx p P ops ops id Q (ks.drop m) (ops.toList.drop m) m am fs)
  (h3:∀ f∈fs,f.1<m/\ks[f.1]? =some (some f.2.1)/\f.2.2=aU f.1) (h4:∀ U,U<m->isSp ks U->∃ f∈fs,f.1=U):∀ d,m+d<=ks.length->
  ∃ vs xe qq,eg ops vs a0 (· <m+d) xe/\SX G Cx p P ops ops id Q (ks.drop (m+d)) (ops.toList.drop (m+d)) (m+d) xe qq/\(∀ U,U<m∨isSp ks U->vs U=aU U)/\(∀ f∈qq,f.1<m+d/\ks[f.1]? =some (some f.2.1)/\f.2.2=aU f.1)/\∀ U,U<m+d->isSp ks U->∃ f∈qq,f.1=U:=by
 intro d
 induction d with
 |zero=>exact λ_=>⟨aU,am,fs,h1,h2,λ_ _=>rfl,h3,h4⟩
 |succ d ih=>
  intro hle;obtain⟨vs,xe,qq,g1,g2,g3,g4,g5⟩:=ih (by omega);have an:m+d<ks.length:=by omega
  have lT:m+d<ops.size:=R4 an bu;have mW:ks[m+d]? =some ks[m+d]:=vF an;have ho:ops[m+d]? =some ops[m+d]:=Ht lT;rw[List.drop_eq_getElem_cons an,BO lT]at g2
  cases hk:ks[m+d]with
  |some R=>
   rw[hk]at g2 mW;refine⟨vs,_,(m+d,R,aU (m+d))::qq,?_,g2.2 (aU (m+d)),g3,λf hf=> ?_,λU hj hs=> ?_⟩
   ·rw[<- g3 (m+d) (.inr ⟨R,mW⟩)];exact g1.Fu (M:=(· <m+(d+1))) ho (λU=>by omega) λk _ _ hk _ _ _=>by omega
   ·rcases KX.1 hf with rfl|hf
    ·exact⟨by show m+d<m+(d+1);omega,mW,rfl⟩
    ·obtain⟨e1,e2⟩:=g4 f hf;exact⟨by omega,e2⟩
   ·by_cases e:U=m+d
    ·exact⟨_,List.mem_cons_self ..,e.symm⟩
    ·obtain⟨f,hf,e2⟩:=g5 U (by omega) hs;exact⟨f,zM _ hf,e2⟩
  |none=>
   rw[hk]at g2 mW;obtain⟨_,v,_,hr⟩:=g2;have hE:∀ U,U≠m+d->kh vs (m+d) v U=vs U:=λU hj=>sY hj;refine⟨kh vs (m+d) v,_,qq,?_,hr,λU hj=> ?_,λf hf=> ?_,λU hj hs=> ?_⟩
   ·exact g1.next ho v
   ·have e:U≠m+d:=by
     rintro rfl;rcases hj with hj|⟨R,hR⟩
     ·omega
     ·rw[mW]at hR;cases hR
    rw[hE U e];exact g3 U hj
   ·obtain⟨e1,e2⟩:=g4 f hf;exact⟨by omega,e2⟩
   ·by_cases e:U=m+d
    ·obtain⟨R,hR⟩:=hs;rw[e,mW]at hR;cases hR
    ·exact g5 U (by omega) hs
theorem Q0 {ks:List (Option Pd)} {a0 a:Act} {aO:Array Bool} {w:World} {m:Nat} {aU:Nat->Value} {am:Act} {fs:List mT} (b8:∀ U,U<ops.size->aO[U]? =some true)
  (s7:wZ G Cx p P ops Q ks a0 (λU=>aO[U]? =some true) a w m aU am fs):Q .normal a w:=by
 obtain⟨m,aU,am,fs,hs,BS⟩:=s7.settle _ _ _ _ _ rfl
 have gz:m=ks.length:=by
  have:=hs.le;rcases R6 m ks.length with g|g
  ·exact absurd (b8 m (R4 g hs.sz)) (BS g).2
  ·omega
 have lT:m=ops.size:=by
  have h1:=hs.sz;rcases R6 m ops.size with g|g
  ·rcases hs.sub m (b8 m g)with e|⟨R,e⟩
   ·omega
   ·have:=(pi.1 e).1;omega
  ·omega
 have fW:=hs.sp;rw[show ops.toList.drop m=[]by rw[List.drop_eq_nil_iff];simp;omega,gz,List.drop_length]at fW
 have ia:iW fs w:=Cm.2 λf hf=>by
  obtain⟨g1,g2,g3⟩:=hs.fst f hf;rw[g3];exact hs.fact f.1 _ (b8 f.1 (by omega)) g2
 rw[hs.rep.eq hs.kj λU hj=>⟨λ_=>lT▸hj,λ_=>b8 U hj⟩];obtain⟨_,_,_,⟨_,h⟩|h⟩:=fW
 ·exact h w hs.xd ia w rfl
 ·exact h w ⟨hs.xd,ia⟩
theorem qbk (mV:∀ b w w',G b w->ad w w'->G b w') (bh:sW ops) (ks:List (Option Pd)) (hp:isSp ks p∨∀ w,G false w->G true w) (aV:∀ R,some R∈ks->∀ v w w',R v w->ad w w'->R v w') (iw:∀ U R,U≠p->ks[U]? =some (some R)->∀ v w w',R v w->Cx w w'->R v w') (a0:Act):
  ∀ (et:Nat) (aO:Array Bool) (a:Act) (w:World) (m:Nat) (aU:Nat->Value) (am:Act) (fs:List mT),aO.size=ops.size->fp aO.toList+et=ops.size->Cl ops aO->
   wZ G Cx p P ops Q ks a0 (λU=>aO[U]? =some true) a w m aU am fs->wpAny P .any ops Q et aO a w:=by
 intro et
 induction et with
 |zero=>
  intro aO a w m aU am fs bu hc bL s7;exact⟨PX (Fw bu hc),Q0 (Fw bu hc) s7⟩
 |succ et ih=>
  intro aO a w m0 P1 P2 fs0 bu hc bL s7;refine⟨λeK=>Q0 (PV bh bu eK) s7,λi hi=> ?_⟩;obtain⟨m,aU,am,fs,hs,BS⟩:=s7.settle _ _ _ _ _ rfl;obtain⟨qD,ho,x⟩:=PY bh bu bL hi a0 a;have eW:fp (aO.setIfInBounds i true).toList+et=ops.size:=by rw[x.ir];omega
  have Q1:aO[p]? =some true->(aO.setIfInBounds i true)[p]? =some true:=λg=>(x.next p).2 (.inl g);rcases R6 i m with kk|kk
  ·
   obtain⟨gO,wD,jR⟩:=hs.oW i qD kk x.nl ho;obtain⟨e1,e2,e3⟩:=x.agree wD hs.rep;refine Fq ho (jR w hs.xd λU R hj hR=>hs.fact U R (hs.done U hj ⟨R,hR⟩) hR) e1 e2 e3 λu w' ⟨hu,hk⟩=> ?_;subst hu;refine ih _ _ w' m aU am fs x.sz eW x.cl ⟨hs.le,hs.sz,λU hj=> ?_,x.put hs.rep,hs.kj,λU R hj hR=> ?_,λU hj fW=>(x.next U).2 (.inl (hs.done U hj fW)),λU y hj iP hy=>hs.oW U y hj (λh=>iP ((x.next U).2 (.inl h))) hy,QY (L:=λU=>aO[U]? =some true) (L':=λU=>(aO.setIfInBounds i true)[U]? =some true) mV hs.kept Q1 (λg=>hp.imp (λhp=>((x.next p).1 g).resolve_right λe=>x.nl (e▸hs.done p (e▸kk) hp)) (λh=>h)) hk,hs.sp,hs.fst,hs.zv⟩
   ·rcases(x.next U).1 hj with h|rfl
    ·exact hs.sub U h
    ·exact .inl kk
   ·rcases(x.next U).1 hj with h|rfl
    ·exact aV R (zV hR) _ _ _ (hs.fact U R h hR) hk
    ·exact absurd (hs.done U kk ⟨R,hR⟩) x.nl
  ·have Q2:=qbj hs.sz aU hs.kj hs.sp hs.fst hs.zv;rcases R6 m ks.length with gz|gz
   ·obtain⟨Kj,tg⟩:=BS gz;rcases R6 i ks.length with Cn|Cn
    ·obtain⟨vs,xe,qq,g1,g2,g3,g4,g5⟩:=Q2 (i-m) (by omega);rw[show m+(i-m)=i by omega]at g1 g2 g4 g5;have Co:ks[i]? =some ks[i]:=vF Cn;have FD:ops[i]'x.lt=qD:=by rw[Ht x.lt]at ho;injection ho
     rw[List.drop_eq_getElem_cons Cn,BO x.lt,FD]at g2
     cases hk:ks[i]with
     |none=>
      rw[hk]at g2 Co;have aN:m≠i:=by rintro rfl;obtain⟨R,hR⟩:=Kj;rw[Co]at hR;cases hR
      obtain⟨f,Q3,Cp⟩:=g5 m (by omega) Kj;have:=List.all_eq_true.1 g2.1 f Q3;rw[Cp]at this;exact absurd (x.wt m this) tg
     |some R=>
      rw[hk]at g2 Co;have ei:eg ops vs a0 (λU=>aO[U]? =some true) a:=hs.rep.aU λU hj=>g3 U (hs.sub U hj);obtain⟨e1,e2,e3⟩:=x.agree g1 ei
      have xf:uW ops qD qq w->wpList P ops (bd (λu w'=>R u w'/\(((aO.setIfInBounds i true)[p]? =some true->G true w')/\(¬(aO.setIfInBounds i true)[p]? =some true->G false w'))/\∀ U R',U≠i->ks[U]? =some (some R')->∀ v,R' v w->R' v w') qD xe) [qD] xe w:=λqt=>by
       by_cases zw:i=p
       ·exact qh (λu w' ⟨h1,h2,h3⟩=>⟨h1,⟨λ_=>h2,λg=>absurd ((x.next p).2 (.inr zw.symm)) g⟩,λU R' hj o9 v hv=>iw U R' (zw▸hj) o9 v w w' hv h3⟩) (g2.1.1 zw w (hs.kept.2 (zw▸x.nl)) qt)
       ·exact qh (λu w' ⟨h1,h2⟩=>⟨h1,QY (L:=λU=>aO[U]? =some true) (L':=λU=>(aO.setIfInBounds i true)[U]? =some true) mV hs.kept Q1 (λg=> .inl (((x.next p).1 g).resolve_right (Ne.symm zw))) h2,λU R' hj o9 v hv=>aV R' (zV o9) v w w' hv h2⟩) (g2.1.2 zw w hs.xd qt)
      refine Fq ho (xf (qks.2 λf hf hw=>by
       obtain⟨k1,k2,k3⟩:=g4 f hf;rw[k3];exact hs.fact f.1 _ (x.wt f.1 hw) k2)) e1 e2 e3 λu w' ⟨hu,n0,F3⟩=> ?_
      have hE:∀ U,U≠i->kh aU i u U=aU U:=λU hj=>sY hj;have BV:=x.put (hs.rep.aU (sX:=kh aU i u) λU hj=>hE U (x.ne U hj));rw[zb]at BV;refine ih _ _ w' m (kh aU i u) am fs x.sz eW x.cl ⟨hs.le,hs.sz,λU hj=> ?_,BV,hs.kj.aU λU hj=>hE U (by omega),λU R' hj o9=> ?_,λU hj fW=>(x.next U).2 (.inl (hs.done U hj fW)),λU y hj iP hy=> ?_,n0,hs.sp,λf hf=> ?_,hs.zv⟩
      ·rcases(x.next U).1 hj with h|rfl
       ·exact hs.sub U h
       ·exact .inr ⟨R,Co⟩
      ·by_cases e:U=i
       ·subst e;rw[Co]at o9;injection o9 with o9;injection o9 with o9;subst o9;rw[zb];exact hu
       ·rw[hE U e];rcases(x.next U).1 hj with h|h
        ·exact F3 U R' e o9 _ (hs.fact U R' h o9)
        ·exact absurd h e
      ·obtain⟨gO,h1,h2⟩:=hs.oW U y hj (λh=>iP ((x.next U).2 (.inl h))) hy;refine⟨gO,h1.aU λk hk=>hE k (by omega),λw hw qt=> ?_⟩;rw[hE U (by omega)]
       exact h2 w hw λq R hq hR=>by
        have:=qt q R hq hR;rwa [hE q (by omega)]at this
      ·obtain⟨k1,k2,k3⟩:=hs.fst f hf;exact⟨k1,k2,by rw[hE f.1 (by omega)];exact k3⟩
    ·obtain⟨vs,xe,qq,g1,g2,g3,g4,g5⟩:=Q2 (ks.length-m) (by omega);rw[show m+(ks.length-m)=ks.length by omega,List.drop_length]at g2;obtain⟨late,g2,g6,_⟩:=g2;obtain⟨f,hf,Cp⟩:=g5 m (by omega) Kj;have:=List.all_eq_true.1 g6 f hf;rw[Cp]at this;exact absurd (x.wt m ((F1 g2).2 i m qD Cn (by omega) (by simpa using this) ho)) tg
   ·have zx:m=ks.length:=by have:=hs.le;omega
    have fW:=hs.sp;rw[zx,List.drop_length,<- zx]at fW;obtain⟨late,ht,qu,uY⟩:=fW;obtain⟨Cq,jy⟩:=F1 ht
    have lU:∀ U,aO[U]? =some true->U<m:=λU h=>by
     rcases hs.sub U h with e|⟨R,e⟩
     ·exact e
     ·have:=(pi.1 e).1;omega
    have qbl:∀ U,U<m->¬aO[U]? =some true->U∈late:=λU hj h=>Classical.byContradiction λrR=>h (x.wt U (jy i U qD kk (by omega) rR ho));have Q4:∀ q R,q<m->ks[q]? =some (some R)->R (aU q) w:=λq R hq hR=>hs.fact q R (hs.done q hq ⟨R,hR⟩) hR
    have hw:iW fs w:=Cm.2 λf hf=>by
     obtain⟨k1,k2,k3⟩:=hs.fst f hf;rw[k3];exact Q4 f.1 _ k1 k2
    have hle:m<=ops.size:=by have:=hs.le;have:=hs.sz;omega
    rcases uY with ⟨mX,uY⟩|uY
    ·exact(JN (K:=λx y=>y=x) bh a0 (et+1) aO a w m aU (λ_=>True) (· =w) am bu hc bL ⟨hle,lU,hs.rep,hs.kj,λU y hj iP hy=>by
      obtain⟨gO,h1,h2⟩:=hs.oW U y hj iP hy;exact⟨gO,h1,λw2 _=>qbh (qbi mX U (qbl U hj iP) y hy) (h2 w hs.xd Q4) w2⟩,rfl,λ_ _ (h1:_=_) (h2:_=_)=>h2.trans h1,λ_ _=>trivial,uY w hs.xd hw⟩).2 i hi
    ·exact(JN bh a0 (et+1) aO a w m aU _ _ am bu hc bL ⟨hle,lU,hs.rep,hs.kj,λU y hj iP hy=>by
      obtain⟨gO,h1,h2⟩:=hs.oW U y hj iP hy;refine⟨gO,h1,λw2 fM=>h2 w2 fM.1 λq R hq hR=> ?_⟩;obtain⟨f,hf,Q5⟩:=hs.zv q hq ⟨R,hR⟩;obtain⟨k1,k2,k3⟩:=hs.fst f hf;have:=Cm.1 fM.2 f hf;rw[k3,Q5]at this;rw[Q5,hR]at k2;injection k2 with k2;injection k2 with k2
      rw[k2];exact this,⟨hs.xd,hw⟩,λw1 w2 h1 hk=>⟨⟨h1.1.choose,mV _ _ _ h1.1.choose_spec hk⟩,Cm.2 λf hf=>by
      obtain⟨k1,k2,k3⟩:=hs.fst f hf;exact aV _ (zV k2) _ _ _ (Cm.1 h1.2 f hf) hk⟩,λ_ h=>h,uY⟩).2 i hi
theorem Q6 (mV:∀ b w w',G b w->ad w w'->G b w') (bh:sW ops) (ks:List (Option Pd)) (hp:isSp ks p∨∀ w,G false w->G true w) (aV:∀ R,some R∈ks->∀ v w w',R v w->ad w w'->R v w') (iw:∀ U R,U≠p->ks[U]? =some (some R)->∀ v w w',R v w->Cx w w'->R v w') (hz:ks.length<=ops.size) {a:Act} {w:World} (hC:G false w)
  (h:SX G Cx p P ops ops id Q ks ops.toList 0 a []):wpAny P .any ops Q ops.size (Array.replicate ops.size false) a w.drew:=
 qbk mV bh ks hp aV iw a _ _ _ _ 0 _ a [] (by simp) (by simp[P4]) (λU qD hj=>(wF hj).elim) ⟨Nat.zero_le _,hz,λU hj=>(wF hj).elim,P5 a _,P6 a,λU R hj=>(wF hj).elim,λU hj=>absurd hj (by omega),λU qD hj=>absurd hj (by omega),⟨λhj=>(wF hj).elim,λ_=>mV _ _ _ hC (Fp.drew _)⟩,h,λf hf=>(by cases hf),λU hj=>absurd hj (by omega)⟩
theorem Q7 (mV:∀ b w w',G b w->ad w w'->G b w') {id:Nat} {a:Act} {w:World} (σ:List Nat) (ks:List (Option Pd)) (hC:G false w) (hm:P.follows .mixedOrders=true) (bh:(s8 σ ops&&ta ops&&mJ (eL σ ops)&&decide (ks.length<=ops.size))=true) (hp:isSp ks p∨∀ w,G false w->G true w) (aV:∀ R,some R∈ks->∀ v w w',R v w->ad w w'->R v w') (iw:∀ U R,U≠p->ks[U]? =some (some R)->∀ v w w',R v w->Cx w w'->R v w')
  (l:List Oper) (hl:σ.map (λU=>(ops.toList[U]?).getD default)=l) (h:SX G Cx p P ops (eL σ ops) (kO σ) Q ks l 0 a []):(Code.region id ops true).wp P Q a w:=by
 rw[Bool.and_eq_true,Bool.and_eq_true]at bh;obtain⟨⟨S,hc,hS⟩,JP,bu,uF⟩:=Qe (Q:=Q) bh.1.1 hm hl;exact uF (Q6 mV (Ft bh.1.2) ks hp aV iw (bu▸qck bh.2) hC (JP▸SX.conv hc ks l hS _ _ _ h))
theorem Q8 (mV:∀ b w w',G b w->ad w w'->G b w') {id:Nat} {a:Act} {w:World} (ks:List (Option Pd)) (hC:G false w) (hm:P.follows .mixedOrders=true) (bh:(mJ ops&&decide (ks.length<=ops.size))=true) (hp:isSp ks p∨∀ w,G false w->G true w) (aV:∀ R,some R∈ks->∀ v w w',R v w->ad w w'->R v w') (iw:∀ U R,U≠p->ks[U]? =some (some R)->∀ v w w',R v w->Cx w w'->R v w')
  (l:List Oper) (hl:ops.toList=l) (h:SX G Cx p P ops ops _root_.id Q ks l 0 a []):(Code.region id ops true).wp P Q a w:=by
 subst hl;rw[Bool.and_eq_true]at bh;exact wp_region_any hm (Q6 mV (Ft bh.1) ks hp aV iw (qck bh.2) hC h)
def Ev (R:Pd):Pd:=λu w=>∃ w0,R u w0/\ad w0 w
theorem zy (ks:List (Option Pd)) (R:Pd) (hR:some R∈ks.map (Option.map Ev)) (v:Value) (w w':World) (hv:R v w) (hk:ad w w'):R v w':=by
 obtain⟨x,_,hx⟩:=List.mem_map.1 hR
 cases x with
 |none=>cases hx
 |some R0=>
  injection hx with hx;subst hx;obtain⟨w0,h1,h2⟩:=hv;exact⟨w0,h1,h2.call hk⟩
abbrev ix (P:Program) (ops bc:Array Oper) (r:Oper->Oper) (Q:Exit->Act->World->Prop) (wS:World):List (Option Pd)->List Oper->Nat->Act->List mT->Prop:=SX (λ_=>ad wS) ad 0 P ops bc r Q
section
variable {bc:Array Oper} {r:Oper->Oper} {wS:World} {ks:List (Option Pd)} {qD:Oper} {rest:List Oper} {k:Nat} {a:Act} {fs:List mT}
theorem F4 {w:World} (h:GA (λ_=>ad wS) w):ad wS w:=by obtain⟨_,h⟩:=h;exact h
theorem SP.ev {R:Pd} (h:∀ w,ad wS w->uW bc (r qD) fs w->wpList P ops (bd (λu w'=>R u w'/\ad w w') qD a) [qD] a w)
  (hr:∀ v,ix P ops bc r Q wS ks rest (k+1) (a.put qD.dst v) ((k,Ev R,v)::fs)):ix P ops bc r Q wS (some (Ev R)::ks) (qD::rest) k a fs:=
 ⟨⟨λ_ w hw hf=>qh (λu w' ⟨h1,h2⟩=>⟨⟨w',h1,ad.refl w'⟩,ad.call hw h2,h2⟩) (h w hw hf),λ_ w hw hf=>qh (λu w' ⟨h1,h2⟩=>⟨⟨w',h1,ad.refl w'⟩,h2⟩) (h w (F4 hw) hf)⟩,hr⟩
theorem SP.one {v:Value} (hf:(fs.all λf=>waits bc 14 (r qD) f.1)=true) (h:∀ w,ad wS w->iW fs w->wpList P ops (bd (λu w'=>u=v/\ad w w') qD a) [qD] a w)
  (hr:ix P ops bc r Q wS ks rest (k+1) (a.put qD.dst v) fs):ix P ops bc r Q wS (none::ks) (qD::rest) k a fs:=⟨hf,v,λw hw=>h w (F4 hw),hr⟩
theorem SP.more (ht:nW bc k=true) (h:∀ w,ad wS w->iW fs w->wpList P ops Q rest a w):ix P ops bc r Q wS [] rest k a fs:=⟨[],QX ht,by simp,.inr (QW ht rest λw hw=>h w (F4 hw.1) hw.2)⟩
theorem SP.late (late:List Nat) (ht:F2 bc k late=true) (hf:(fs.all λf=> !late.contains f.1)=true) (h:∀ w,ad wS w->iW fs w->TL P ops Q rest a w):ix P ops bc r Q wS [] rest k a fs:=by
 unfold F2 at ht;rw[Bool.and_eq_true]at ht;exact⟨late,ht.1,hf,.inl ⟨ht.2,λw hw ia=>TL.rN rest k a w (Ki ht.1) (h w (F4 hw) ia)⟩⟩
theorem SP.nil (ht:nW bc k=true) (h:∀ w,ad wS w->iW fs w->Q .normal a w):ix P ops bc r Q wS [] [] k a fs:=SP.more ht h
theorem TL.step {qD:Oper} {rest:List Oper} {a:Act} {w:World} (h:wpList P ops (bd (λu w'=>TL P ops Q rest (a.put qD.dst u) w') qD a) [qD] a w):TL P ops Q (qD::rest) a w:=h
theorem TL.go {qD:Oper} {rest:List Oper} {a a2:Act} {w w2:World} {u:Value} (hT:TL P ops Q rest a2 w2) (hs:wpList P ops (bd (λu' w'=>u'=u/\w'=w2) qD a) [qD] a w:=by(go_wp2_with (fail);(first|refine bd.mk undef rfl ⟨rfl,rfl⟩|refine bd.mk _ rfl ⟨rfl,rfl⟩))) (ha:a.put qD.dst u=a2:=by(simp only[Act.put,List.setIfInBounds_toArray,List.set_cons_succ,List.set_cons_zero];exact rfl)):TL P ops Q (qD::rest) a w:=
 qh (λu' w' h=>by obtain⟨rfl,rfl⟩:=h;rw[ha];exact hT) hs
theorem TL.nil {a:Act} {w:World} (h:Q .normal a w):TL P ops Q [] a w:=h
end
theorem qbm {id:Nat} (ks:List (Option Pd)) (C:World->Prop) (hC:C w) (hm:P.follows .mixedOrders=true) (bh:(mJ ops&&decide (ks.length<=ops.size))=true)
  (l:List Oper) (hl:ops.toList=l) (h:∀ wB,C wB->ix P ops ops _root_.id Q wB (ks.map (Option.map Ev)) l 0 a []):(Code.region id ops true).wp P Q a w:=
 Q8 (p:=0) (G:=λ_=>ad w) (Cx:=ad) (λ_ _ _ h k=>ad.call h k) (ks.map (Option.map Ev)) (ad.refl w) hm (by rw[List.length_map];exact bh) (.inr λ_ h=>h) (zy ks) (λ_ R _ hR=>zy ks R (zV hR)) l hl (h w hC)
theorem qbn {id:Nat} (σ:List Nat) (ks:List (Option Pd)) (C:World->Prop) (hC:C w) (hm:P.follows .mixedOrders=true) (bh:(s8 σ ops&&ta ops&&mJ (eL σ ops)&&decide (ks.length<=ops.size))=true)
  (l:List Oper) (hl:σ.map (λU=>(ops.toList[U]?).getD default)=l) (h:∀ wB,C wB->ix P ops (eL σ ops) (kO σ) Q wB (ks.map (Option.map Ev)) l 0 a []):(Code.region id ops true).wp P Q a w:=
 Q7 (p:=0) (G:=λ_=>ad w) (Cx:=ad) (λ_ _ _ h k=>ad.call h k) σ (ks.map (Option.map Ev)) (ad.refl w) hm (by rw[List.length_map];exact bh) (.inr λ_ h=>h) (zy ks) (λ_ R _ hR=>zy ks R (zV hR)) l hl (h w hC)
end
section
variable {P:Program} {ops:Array Oper} {Q:Exit->Act->World->Prop} {bc:Array Oper} {r:Oper->Oper} {wS:World} {ks:List (Option Pd)} {qD:Oper} {rest:List Oper} {k:Nat} {a bI:Act} {fs:List mT} {v:Value}
theorem ey {id:Nat} {w:World} (ks:List (Option Pd)) (C:World->Prop) {l:List Oper} {Cr:List (Option Pd)} (h:∀ wB,uG C wB->ix P ops ops _root_.id Q wB Cr l 0 a []) (kV:ks.map (Option.map Ev)=Cr:=by(simp only[List.map_cons,List.map_nil,Option.map_some,Option.map_none];exact rfl)) (hC:C w:=by(repeat' apply And.intro) <;>first|assumption|exact al|go_simp) (hs:∀ a b,C a->ad a b->C b:=by(intro wa wb hc hk;(repeat(have hx:=And.left hc;replace hc:=And.right hc));(repeat' apply And.intro) <;>first|exact ad.call (by assumption) hk|exact hk.af (by assumption))) (hm:P.follows .mixedOrders=true:=by kernel_rfl) (bh:(mJ ops&&decide (ks.length<=ops.size))=true:=by kernel_rfl) (hl:ops.toList=l:=by(try simp only[List.append_eq,List.cons_append,List.nil_append,List.toList_toArray]);exact rfl):(Code.region id ops true).wp P Q a w:=
 qbm ks C hC hm bh l hl λwB hB=>kV▸h wB λwd hd=>hs wB wd hB hd
theorem ku {id:Nat} {w:World} (σ:List Nat) (ks:List (Option Pd)) (C:World->Prop) {l:List Oper} {Cr:List (Option Pd)} (h:∀ wB,uG C wB->ix P ops (eL σ ops) (kO σ) Q wB Cr l 0 a []) (kV:ks.map (Option.map Ev)=Cr:=by(simp only[List.map_cons,List.map_nil,Option.map_some,Option.map_none];exact rfl)) (hC:C w:=by(repeat' apply And.intro) <;>first|assumption|exact al|go_simp) (hs:∀ a b,C a->ad a b->C b:=by(intro wa wb hc hk;(repeat(have hx:=And.left hc;replace hc:=And.right hc));(repeat' apply And.intro) <;>first|exact ad.call (by assumption) hk|exact hk.af (by assumption))) (hm:P.follows .mixedOrders=true:=by kernel_rfl) (bh:(s8 σ ops&&ta ops&&mJ (eL σ ops)&&decide (ks.length<=ops.size))=true:=by kernel_rfl) (hl:σ.map (λU=>(ops.toList[U]?).getD default)=l:=by(try simp only[List.append_eq,List.cons_append,List.nil_append,List.toList_toArray,List.map_cons,List.map_nil,List.getElem?_cons_zero,List.getElem?_cons_succ,Option.getD_some]);exact rfl):(Code.region id ops true).wp P Q a w:=
 qbn σ ks C hC hm bh l hl λwB hB=>kV▸h wB λwd hd=>hs wB wd hB hd
theorem SP.on (hr:ix P ops bc r Q wS ks rest (k+1) bI fs) (hf:(fs.all λf=>waits bc 14 (r qD) f.1)=true:=by kernel_rfl) (h:∀ w,ad wS w->iW fs w->wpList P ops (bd (λu w'=>u=v/\ad w w') qD a) [qD] a w:=by(intro wd hI hF;clear hF;(try(have hC:=SS.o wd hI;repeat(have hx:=And.left hC;replace hC:=And.right hC)));go_wp2_with (fail);refine bd.mk _ rfl ⟨rfl,?_⟩;exact al)) (ha:a.put qD.dst v=bI:=by(simp only[Act.put,List.setIfInBounds_toArray,List.set_cons_succ,List.set_cons_zero];exact rfl)):ix P ops bc r Q wS (none::ks) (qD::rest) k a fs:=SP.one hf h (ha▸hr)
theorem SP.oe (h:∀ w,ad wS w->iW fs w->wpList P ops (bd (λu w'=>u=v/\ad w w') qD a) [qD] a w) (hr:ix P ops bc r Q wS ks rest (k+1) bI fs) (hf:(fs.all λf=>waits bc 14 (r qD) f.1)=true:=by kernel_rfl) (ha:a.put qD.dst v=bI:=by(simp only[Act.put,List.setIfInBounds_toArray,List.set_cons_succ,List.set_cons_zero];exact rfl)):ix P ops bc r Q wS (none::ks) (qD::rest) k a fs:=SP.one hf h (ha▸hr)
theorem SP.np (h:ix P ops bc r Q wS ks rest k bI fs) (ha:a=bI:=by(simp only[Act.put,List.setIfInBounds_toArray,List.set_cons_succ,List.set_cons_zero];exact rfl)):ix P ops bc r Q wS ks rest k a fs:=ha▸h
theorem SP.ew {R:Pd} {b:Value->Act} (h:∀ w,ad wS w->uW bc (r qD) fs w->wpList P ops (bd (λu w'=>R u w'/\ad w w') qD a) [qD] a w) (hr:∀ v,ix P ops bc r Q wS ks rest (k+1) (b v) ((k,Ev R,v)::fs)) (ha:∀ v,a.put qD.dst v=b v:=by(intro v;simp only[Act.put,List.setIfInBounds_toArray,List.set_cons_succ,List.set_cons_zero];exact rfl)):ix P ops bc r Q wS (some (Ev R)::ks) (qD::rest) k a fs:=SP.ev h λv=>ha v▸hr v
theorem SP.qkt (h:∀ w,ad wS w->iW fs w->wpList P ops Q rest a w) (ht:nW bc k=true:=by kernel_rfl):ix P ops bc r Q wS [] rest k a fs:=SP.more ht h
theorem SP.ml {C:World->Prop} (SS:uG C wS) (h:∀ w,ad wS w->iW fs w->C w->wpList P ops Q rest a w) (ht:nW bc k=true:=by kernel_rfl):ix P ops bc r Q wS [] rest k a fs:=SP.more ht λw hw hf=>h w hw hf (SS.o w hw)
end
end Go.Proofs.YtehaoggjlciobaaGreat

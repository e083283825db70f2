/- Part 20 of 53. -/
import Derived.Test.YtehaoggjlciobaaGreatPas
set_option linter.all false
set_option maxRecDepth 20000
set_option maxHeartbeats 16000000
namespace Go.Proofs.YtehaoggjlciobaaGreat
open Go.RowKit
theorem qdI {l:List ax} {v:ax} {i:Nat} (hs:l.Pairwise lf) (hf:xK l v.n v.s i) (aN:∀ a,l[i]? =some a->¬(a.n=v.n/\a.s=v.s)):(l.take i++v::l.drop i).Pairwise lf:=by
 have dp:=hs;rw[<- List.take_append_drop i l,List.pairwise_append]at dp;obtain⟨h1,h2,h3⟩:=dp
 have low:∀ a∈l.take i,lf a v:=λa ha=>by
  obtain⟨U,hj⟩:=qcl.1 ha;have fD:U<i:=by have:=(bg hj);rw[qcd]at this;omega
  rw[qlY fD]at hj;exact hf.below U a fD hj
 have high:∀ b∈l.drop i,lf v b:=λb hb=>by
  obtain⟨U,hj⟩:=qcl.1 hb;rw[List.getElem?_drop]at hj;have iQ:i<l.length:=by have:=(bg hj);omega
  obtain⟨a,ha⟩:∃ a,l[i]? =some a:=⟨_,jc iQ⟩;have e1:=of_decide_eq_false (hf.af a ha);have e2:=aN a ha;have e3:lf v a:=by unfold lf c8;rw[decide_eq_true_iff];omega
  cases U with
  |zero=>rw[Nat.add_zero,ha]at hj;injection hj with hj;rw[<- hj];exact e3
  |succ k=>
   have e4:lf a b:=List.pairwise_iff_getElem.1 hs i (i+(k+1)) iQ (bg hj) ab |> λh=>by
    rwa [(pi.1 ha).2,(pi.1 hj).2]at h
   unfold lf c8 at e3 e4⊢;rw[decide_eq_true_iff]at e3 e4⊢;omega
 rw[List.pairwise_append];refine⟨h1,List.pairwise_cons.2 ⟨high,h2⟩,λa ha b hb=> ?_⟩;rcases KX.1 hb with rfl|hb
 ·exact low a ha
 ·exact h3 a ha b hb
def LX (l:List ax) (v:ax) (l':List ax) (b:Bool):Prop:=(b=false/\l'=l/\∃ x∈l,x.n=v.n/\x.s=v.s)∨(b=true/\∃ i,l'=l.take i++v::l.drop i)
theorem dc.put {w w2:World} {B:Int} {e6 Tp:Value} {l:List ax} {v:ax} {i:Nat} (h:dc w B v.key e6 l) (hk:ad w w2) (hv:b7 w B v) (hr:Rw w2 48 6 a8 Tp (l.take i++v::l.drop i)) (hf:xK l v.n v.s i) (aN:∀ a,l[i]? =some a->¬(a.n=v.n/\a.s=v.s)):dc w2 B v.key Tp (l.take i++v::l.drop i):=
 ⟨hr,λx hx=>by
  simp only[Pv,KX]at hx;rcases hx with hx|rfl|hx
  ·exact⟨(h.iG x (List.mem_of_mem_take hx)).1.kept hk,(h.iG x (List.mem_of_mem_take hx)).2⟩
  ·exact⟨hv.kept hk,rfl⟩
  ·exact⟨(h.iG x (List.mem_of_mem_drop hx)).1.kept hk,(h.iG x (List.mem_of_mem_drop hx)).2⟩,qdI h.sd hf aN⟩
theorem GU {p:Prop} (h:p:=by
  go_wp2;refine ku [0,2,3,1,4,5,6,7] [none,none,none,some (λu w'=>∃ b0,b0<=w'.heap.size/\w.heap.size<=b0/\w'.ownsRow b0 48 6 u l.length (l.flatMap a8)),some (λu w'=>∃ g,u= .slice (some ⟨g,0,none⟩) 1 1/\w'.heap[g]? =some (.cells (a8 v).toArray 48 (0,0)))] (λwB=>ad w wB/\wB.cell? ⟨w.heap.size,0,none⟩=some (.string v.key)/\wB.cell? ⟨w.heap.size,1,none⟩=some (.string v.val)/\wB.cell? ⟨w.heap.size,2,none⟩=some (.bool v.gone)/\wB.cell? ⟨w.heap.size,3,none⟩=some (.int .i64 v.n)/\wB.cell? ⟨w.heap.size,4,none⟩=some (.int .i64 v.s)/\wB.cell? ⟨w.heap.size,5,none⟩=some (.slice v.pa v.pn v.pc)) λwB SS=> ?_;iterate 3 refine SP.on ?_
  refine SP.ew ?_ λv1=> ?_
  ·intro wd hI hF;obtain⟨ae,ai,aj,aq,az,aK,a1⟩:=SS.o wd hI;clear hF;go_wp2_with ((go_at_call 251;refine(FP _ l _ (HC.o.row.kept ae) ab).mono ?_;rintro e w4 ⟨v4,rfl,h4,k4⟩));exact bn rfl ⟨_,k4.size,ae.size,h4⟩
  refine SP.ew ?_ λv2=> ?_
  ·intro wd hI hF;obtain⟨ae,ai,aj,aq,az,aK,a1⟩:=SS.o wd hI;clear hF;go_wp2;exact bn rfl ⟨_,rfl,l5 _ _⟩
  refine SP.ml SS ?_;rintro wd hI hF ⟨ae,ai,aj,aq,az,aK,a1⟩;have h1:=hF.2.1;have h2:=hF.1;clear hF SS;obtain⟨wc,⟨b0,dW,bD,ho⟩,kc⟩:=h1;obtain⟨Ac,⟨g,rfl,hg⟩,tp⟩:=h2;have HB:ag (∀ x,v1.ownBlock=some x->w.heap.size<=x):=λx hx=>qcg bD (ho.lt x hx).1;have HO:=aa (ad.own ho kc);have HG:=aa (tp.heap hg);have rX:b0<=wd.heap.size:=qcg dW kc.size;clear ho hg dW bD;go_wp2_with fail
  refine(qbc b0 v1 l v _ g wd rX HO.o ab HF.o.le HG.o).mono ?_;rintro e w5 ⟨v5,rfl,h5,k5⟩;have Tq:ad w w5:=ad.but ae k5 λx hx=>HB.o x (Option.mem_toList.1 hx);have Uua:=aa (HC.o.put Tq HV.o h5 HF.o se.o);clear h5;go_wp2_with fail
  refine KV (v:= .tuple #[v5,.bool true]) (by simp[results,Tryz.results259,go_sem]) rfl ?_;exact⟨v5,_,_,rfl,Uua.o,.inr ⟨rfl,_,rfl⟩,Tq⟩):p:=h
theorem qdJ (B:Int) (e6:Value) (l:List ax) (v:ax) (w:World) (hB:0<=B) (h9:B<=100000000000) (hc:dc w B v.key e6 l) (hv:b7 w B v):
  Calls Tryz.prog 259 #[e6,aM v] w λe w'=>∃ qN l' b,e= .returned (.tuple #[qN,.bool b])/\dc w' B v.key qN l'/\LX l v l' b/\ad w w':=by
 obtain⟨A,c,rfl,bl,bQ⟩:=hc.row.form;have hlen:=hc.len hB h9;have HC:=aa hc;have HV:=aa hv;obtain⟨Tr,hvB,Ts,Dh,xL,tf⟩:=hv;have HVC:=aa tf;have eh:v.val.size<=32:=tf.2.2.1;have dM:v.ds.length<=24:=tf.2.1.2;have HW:ag (∀ W,ad w W->Calls Tryz.prog 149 #[.agg #[.string v.key,.string v.val,.bool v.gone,.int .i64 v.n,.int .i64 v.s,.slice v.pa v.pn v.pc]] W λe w'=>e= .returned (.bool true)/\ad W w'):=λW hW=>(C9 v v.ds W Tr (Ts.kept hW) (λd hd=>(Dh.ok d hd).1) ab ab).mono λe w' ⟨b,h1,h2,h3⟩=>⟨by rw[h1,h2.2 tf],h3⟩;clear hc Ts Dh Tr tf xL;go_in;unfold aM;go_wp2_with fail
 refine(LV _ l v.n v.s _ (HC.o.row.kept al)).mono ?_;rintro e w1 ⟨i,rfl,hf,k1⟩;have e0:w1.cell? ⟨w.heap.size,0,none⟩=some (.string v.key):=k1.af (by go_simp);have e1:w1.cell? ⟨w.heap.size,1,none⟩=some (.string v.val):=k1.af (by go_simp);have e2:w1.cell? ⟨w.heap.size,2,none⟩=some (.bool v.gone):=k1.af (by go_simp);have e3:w1.cell? ⟨w.heap.size,3,none⟩=some (.int .i64 v.n):=k1.af (by go_simp);have e4:w1.cell? ⟨w.heap.size,4,none⟩=some (.int .i64 v.s):=k1.af (by go_simp);have e5:w1.cell? ⟨w.heap.size,5,none⟩=some (.slice v.pa v.pn v.pc):=k1.af (by go_simp);have K1:ad w w1:=ad.call al k1;have HF:=aa hf;clear k1 hf;rcases Nat.eq_zero_or_pos l.length with ng|ng
 ·have gr:i=0:=by have:=HF.o.le;omega
  subst gr;have se:ag (∀ a,l[0]? =some a->¬(a.n=v.n/\a.s=v.s)):=λa ha=>by have:=(bg ha);omega
  have o4:decide ((0:Int)<(l.length:Int))=false:=ql4 ab;have kq:decide (0<l.length)=false:=ql4 ab;clear ng;go_wp2;refine bz (λwB=>ad w wB/\ad w1 wB/\wB.cell? ⟨w.heap.size,0,none⟩=some (.string v.key)/\wB.cell? ⟨w.heap.size,1,none⟩=some (.string v.val)/\wB.cell? ⟨w.heap.size,2,none⟩=some (.bool v.gone)/\wB.cell? ⟨w.heap.size,3,none⟩=some (.int .i64 v.n)/\wB.cell? ⟨w.heap.size,4,none⟩=some (.int .i64 v.s)/\wB.cell? ⟨w.heap.size,5,none⟩=some (.slice v.pa v.pn v.pc)) λwB SS=> ?_;obtain⟨au,br,aB,aC,aF,aX,bK,fg⟩:=SS.o _ (ad.refl _);repeat(first|(apply DW.ct;(focus (intro wd hI;obtain⟨ae,ay,ai,aj,aq,az,aK,a1⟩:=SS.o wd hI;go_wp2_with (go_at_call 149;refine(HW.o _ (au.call hI)).mono ?_;rintro e w5 ⟨rfl,k5⟩);exact aP));refine DW.np ?_)|(refine DW.bt av ?_;intro wd hI;obtain⟨ae,ay,ai,aj,aq,az,aK,a1⟩:=SS.o wd hI;go_wp2_with (go_at_call 149;refine(HW.o _ (au.call hI)).mono ?_;rintro e w5 ⟨rfl,k5⟩);refine cu hI SS (λbf SS=> ?_) rfl;obtain⟨au,br,aB,aC,aF,aX,bK,fg⟩:=SS.o _ (ad.refl _)))
  refine DW.nl SS ?_;rintro wd hI ⟨ae,ay,ai,aj,aq,az,aK,a1⟩;clear ay;exact GU
 have o4:decide ((0:Int)<(l.length:Int))=true:=ql3 ab;obtain⟨x,hx⟩:∃ x,l[0]? =some x:=⟨_,jc ng⟩;obtain⟨b,off,rfl,hb,bL⟩:=HC.o.row.af hx;have Tt:=(HC.o.iG x (zV hx)).2;obtain⟨x0,x1,x2,x3,x4,x5,x6,x7,x8⟩:=x;simp only at Tt;obtain⟨c0,_,_,_,_,_⟩:=o5 λU u hu=>K1.af (bL U u hu);rw[Tt]at c0;have kX:b<w1.heap.size:=Aa w1 _ c0;simp only[Nat.zero_mul,Nat.add_zero]at c0;clear hx bL;rcases R6 i l.length with iQ|iQ
 ·obtain⟨y,hy⟩:∃ y,l[i]? =some y:=⟨_,jc iQ⟩;obtain⟨b2,gA,e2,_,cz⟩:=HC.o.row.af hy
  cases e2
  obtain⟨y0,y1,y2,y3,y4,y5,y6,y7,y8⟩:=y;obtain⟨_,_,_,d3,d4,_⟩:=o5 λU u hu=>K1.af (cz U u hu);have HY:=aa hy;have hU:decide ((i:Int)<(l.length:Int))=true:=ql3 ab;clear cz hy;by_cases q1:y3=v.n
  ·subst q1;by_cases q2:y4=v.s
   ·subst q2;go_wp2;refine bz (λwB=>ad w wB/\ad w1 wB/\wB.cell? ⟨w.heap.size,0,none⟩=some (.string v.key)/\wB.cell? ⟨w.heap.size,1,none⟩=some (.string v.val)/\wB.cell? ⟨w.heap.size,2,none⟩=some (.bool v.gone)/\wB.cell? ⟨w.heap.size,3,none⟩=some (.int .i64 v.n)/\wB.cell? ⟨w.heap.size,4,none⟩=some (.int .i64 v.s)/\wB.cell? ⟨w.heap.size,5,none⟩=some (.slice v.pa v.pn v.pc)/\wB.cell? ⟨b,off,none⟩=some (.string v.key)/\wB.cell? ⟨b,off+i*6+3,none⟩=some (.int .i64 v.n)/\wB.cell? ⟨b,off+i*6+4,none⟩=some (.int .i64 v.s)) λwB SS=> ?_;obtain⟨au,br,aB,aC,aF,aX,bK,fg,qO,Di,Dj⟩:=SS.o _ (ad.refl _);repeat(first|(apply DW.ct;(focus (intro wd hI;obtain⟨ae,ay,ai,aj,aq,az,aK,a1,cw,d',jf⟩:=SS.o wd hI;go_wp2_with (go_at_call 149;refine(HW.o _ (au.call hI)).mono ?_;rintro e w5 ⟨rfl,k5⟩);exact aP));refine DW.np ?_)|(refine DW.bt av ?_;intro wd hI;obtain⟨ae,ay,ai,aj,aq,az,aK,a1,cw,d',jf⟩:=SS.o wd hI;go_wp2_with (go_at_call 149;refine(HW.o _ (au.call hI)).mono ?_;rintro e w5 ⟨rfl,k5⟩);refine cu hI SS (λbf SS=> ?_) rfl;obtain⟨au,br,aB,aC,aF,aX,bK,fg,qO,Di,Dj⟩:=SS.o _ (ad.refl _)))
    refine DW.nl SS ?_;rintro wd hI ⟨ae,ay,ai,aj,aq,az,aK,a1,cw,d',jf⟩;go_wp2;refine KV (v:= .tuple #[.slice (some ⟨b,off,none⟩) l.length c,.bool false]) (by simp[results,Tryz.results259,go_sem]) rfl ?_;exact⟨_,l,false,rfl,HC.o.kept ae,.inl ⟨rfl,rfl,_,zV HY.o,rfl,rfl⟩,ae⟩
   ·have GV:=aa q2;have se:ag (∀ a,l[i]? =some a->¬(a.n=v.n/\a.s=v.s)):=λa ha=>by rw[HY.o]at ha;injection ha with ha;rw[<- ha];exact λh=>q2 h.2
    go_wp2;refine bz (λwB=>ad w wB/\ad w1 wB/\wB.cell? ⟨w.heap.size,0,none⟩=some (.string v.key)/\wB.cell? ⟨w.heap.size,1,none⟩=some (.string v.val)/\wB.cell? ⟨w.heap.size,2,none⟩=some (.bool v.gone)/\wB.cell? ⟨w.heap.size,3,none⟩=some (.int .i64 v.n)/\wB.cell? ⟨w.heap.size,4,none⟩=some (.int .i64 v.s)/\wB.cell? ⟨w.heap.size,5,none⟩=some (.slice v.pa v.pn v.pc)/\wB.cell? ⟨b,off,none⟩=some (.string v.key)/\wB.cell? ⟨b,off+i*6+3,none⟩=some (.int .i64 v.n)/\wB.cell? ⟨b,off+i*6+4,none⟩=some (.int .i64 y4)) λwB SS=> ?_;obtain⟨au,br,aB,aC,aF,aX,bK,fg,qO,Di,Dj⟩:=SS.o _ (ad.refl _);repeat(first|(apply DW.ct;(focus (intro wd hI;obtain⟨ae,ay,ai,aj,aq,az,aK,a1,cw,d',jf⟩:=SS.o wd hI;go_wp2_with (go_at_call 149;refine(HW.o _ (au.call hI)).mono ?_;rintro e w5 ⟨rfl,k5⟩);exact aP));refine DW.np ?_)|(refine DW.bt av ?_;intro wd hI;obtain⟨ae,ay,ai,aj,aq,az,aK,a1,cw,d',jf⟩:=SS.o wd hI;go_wp2_with (go_at_call 149;refine(HW.o _ (au.call hI)).mono ?_;rintro e w5 ⟨rfl,k5⟩);refine cu hI SS (λbf SS=> ?_) rfl;obtain⟨au,br,aB,aC,aF,aX,bK,fg,qO,Di,Dj⟩:=SS.o _ (ad.refl _)))
    refine DW.nl SS ?_;rintro wd hI ⟨ae,ay,ai,aj,aq,az,aK,a1,cw,d',jf⟩;clear ay;exact GU
  ·have Dk:=aa q1;have se:ag (∀ a,l[i]? =some a->¬(a.n=v.n/\a.s=v.s)):=λa ha=>by rw[HY.o]at ha;injection ha with ha;rw[<- ha];exact λh=>q1 h.1
   go_wp2;refine bz (λwB=>ad w wB/\ad w1 wB/\wB.cell? ⟨w.heap.size,0,none⟩=some (.string v.key)/\wB.cell? ⟨w.heap.size,1,none⟩=some (.string v.val)/\wB.cell? ⟨w.heap.size,2,none⟩=some (.bool v.gone)/\wB.cell? ⟨w.heap.size,3,none⟩=some (.int .i64 v.n)/\wB.cell? ⟨w.heap.size,4,none⟩=some (.int .i64 v.s)/\wB.cell? ⟨w.heap.size,5,none⟩=some (.slice v.pa v.pn v.pc)/\wB.cell? ⟨b,off,none⟩=some (.string v.key)/\wB.cell? ⟨b,off+i*6+3,none⟩=some (.int .i64 y3)/\wB.cell? ⟨b,off+i*6+4,none⟩=some (.int .i64 y4)) λwB SS=> ?_;obtain⟨au,br,aB,aC,aF,aX,bK,fg,qO,Di,Dj⟩:=SS.o _ (ad.refl _);repeat(first|(apply DW.ct;(focus (intro wd hI;obtain⟨ae,ay,ai,aj,aq,az,aK,a1,cw,d',jf⟩:=SS.o wd hI;go_wp2_with (go_at_call 149;refine(HW.o _ (au.call hI)).mono ?_;rintro e w5 ⟨rfl,k5⟩);exact aP));refine DW.np ?_)|(refine DW.bt av ?_;intro wd hI;obtain⟨ae,ay,ai,aj,aq,az,aK,a1,cw,d',jf⟩:=SS.o wd hI;go_wp2_with (go_at_call 149;refine(HW.o _ (au.call hI)).mono ?_;rintro e w5 ⟨rfl,k5⟩);refine cu hI SS (λbf SS=> ?_) rfl;obtain⟨au,br,aB,aC,aF,aX,bK,fg,qO,Di,Dj⟩:=SS.o _ (ad.refl _)))
   refine DW.nl SS ?_;rintro wd hI ⟨ae,ay,ai,aj,aq,az,aK,a1,cw,d',jf⟩;clear ay;exact GU
 ·have gr:i=l.length:=by have:=HF.o.le;omega
  subst gr;have se:ag (∀ a,l[l.length]? =some a->¬(a.n=v.n/\a.s=v.s)):=λa ha=>by have:=(bg ha);omega
  have hU:decide ((l.length:Int)<(l.length:Int))=false:=ql4 ab;go_wp2;refine bz (λwB=>ad w wB/\ad w1 wB/\wB.cell? ⟨w.heap.size,0,none⟩=some (.string v.key)/\wB.cell? ⟨w.heap.size,1,none⟩=some (.string v.val)/\wB.cell? ⟨w.heap.size,2,none⟩=some (.bool v.gone)/\wB.cell? ⟨w.heap.size,3,none⟩=some (.int .i64 v.n)/\wB.cell? ⟨w.heap.size,4,none⟩=some (.int .i64 v.s)/\wB.cell? ⟨w.heap.size,5,none⟩=some (.slice v.pa v.pn v.pc)/\wB.cell? ⟨b,off,none⟩=some (.string v.key)) λwB SS=> ?_;obtain⟨au,br,aB,aC,aF,aX,bK,fg,qO⟩:=SS.o _ (ad.refl _);repeat(first|(apply DW.ct;(focus (intro wd hI;obtain⟨ae,ay,ai,aj,aq,az,aK,a1,cw⟩:=SS.o wd hI;go_wp2_with (go_at_call 149;refine(HW.o _ (au.call hI)).mono ?_;rintro e w5 ⟨rfl,k5⟩);exact aP));refine DW.np ?_)|(refine DW.bt av ?_;intro wd hI;obtain⟨ae,ay,ai,aj,aq,az,aK,a1,cw⟩:=SS.o wd hI;go_wp2_with (go_at_call 149;refine(HW.o _ (au.call hI)).mono ?_;rintro e w5 ⟨rfl,k5⟩);refine cu hI SS (λbf SS=> ?_) rfl;obtain⟨au,br,aB,aC,aF,aX,bK,fg,qO⟩:=SS.o _ (ad.refl _)))
  refine DW.nl SS ?_;rintro wd hI ⟨ae,ay,ai,aj,aq,az,aK,a1,cw⟩;clear ay;exact GU
theorem xM (n:Nat) (C:World->Prop) {P:Program} {ops:Array Oper} {Q:Exit->Act->World->Prop} {o:Oper} {r:List Oper} {a:Act} {w:World} (ho:o.dst=some n) (h:C w) (k:∀ W,C W->wpList P ops Q (o::r) a W):wpList P ops Q (o::r) a w:=k w h
def GW (l:List ax) (x:ax) (b:Bool):Prop:=(b=true/\x∈l)∨(b=false/\x=zeroV)
theorem Told.one {l:List ax} {i:Int} {x:ax} {b:Bool} (h:Told l i x b):GW l x b:=by
 rcases h with ⟨rfl,U,_,hj⟩|⟨rfl,rfl,_⟩
 ·exact .inl ⟨rfl,zV hj⟩
 ·exact .inr ⟨rfl,rfl⟩
def vi (l:List ax) (n s:Int) (x:ax) (b:Bool):Prop:=(b=true/\x∈l/\x.n=n/\x.s=s)∨(b=false/\x=zeroV/\∀ y∈l,¬(y.n=n/\y.s=s))
theorem vi.one {l:List ax} {n s:Int} {x:ax} {b:Bool} (h:vi l n s x b):GW l x b:=by
 rcases h with ⟨rfl,h,_⟩|⟨rfl,rfl,_⟩
 ·exact .inl ⟨rfl,h⟩
 ·exact .inr ⟨rfl,rfl⟩
theorem qdK {l:List ax} {n s:Int} {i:Nat} (hs:l.Pairwise lf) (hf:xK l n s i) (h:∀ a,l[i]? =some a->¬(a.n=n/\a.s=s)):∀ y∈l,¬(y.n=n/\y.s=s):=by
 intro y hy;obtain⟨U,hj⟩:=qcl.1 hy;rcases Nat.lt_trichotomy U i with g|g|g
 ·have:=qck (hf.below U y g hj);omega
 ·subst g;exact h y hj
 ·obtain⟨h2,rfl⟩:=pi.1 hj;have hi:i<l.length:=ab;have h3:=of_decide_eq_false (hf.af _ (jc hi));have h4:=h _ (jc hi);have h5:=qck (List.pairwise_iff_getElem.1 hs i U hi h2 g);omega
theorem Told.no {l:List ax} {n s:Int} {i:Nat} {x:ax} (h:Told l i x false) (hf:xK l n s i):∀ y∈l,¬(y.n=n/\y.s=s):=by
 rcases h with ⟨h,_⟩|⟨_,_,h⟩
 ·cases h
 intro y hy;obtain⟨U,hj⟩:=qcl.1 hy;have h1:=List.getElem?_eq_none_iff.1 (h i rfl);have h2:=(bg hj);have:=qck (hf.below U y ab hj);omega
theorem Told.af {l:List ax} {i:Nat} {x:ax} (h:Told l i x true):l[i]? =some x:=by
 rcases h with ⟨_,U,h1,h2⟩|⟨h,_⟩
 ·rw[show i=U by omega];exact h2
 ·cases h
theorem cat (v:Value) (l:List ax) (n s:Int) (w:World) (hv:Rw w 48 6 a8 v l) (hs:l.Pairwise lf):
  Calls Tryz.prog 301 #[v,.agg #[.int .i64 n,.int .i64 s]] w λe w'=>∃ x b,e= .returned (.tuple #[aM x,.bool b])/\vi l n s x b/\ad w w':=by
 obtain⟨A,c,rfl,bl,bQ⟩:=hv.form;have HV:=aa hv;have HS:=aa hs;clear hv hs;have V0:=(ns (w.alloc (.cells #[.int .i64 n,.int .i64 s] 45)));rw[World.size_alloc]at V0;go_in;go_wp2_with fail
 refine(LV _ l n s _ (HV.o.kept al)).mono ?_;rintro e w1 ⟨i,rfl,Tu,k1⟩;have Tv:=aa Tu;clear Tu;have e0:w1.cell? ⟨w.heap.size,0,none⟩=some (.int .i64 n):=k1.af (by go_simp);have e1:w1.cell? ⟨w.heap.size,1,none⟩=some (.int .i64 s):=k1.af (by go_simp);have V1:=V0.but (ah.ar (S:=[]) k1) ao;have K1:ad w w1:=ad.call al k1;clear k1 V0;go_wp2_with fail
 refine(LW _ l _ _ (HV.o.kept K1)).mono ?_;rintro e w2 ⟨x,b,rfl,ht,k2⟩;have HT:=aa ht;have e0:=k2.af e0;have e1:=k2.af e1;have V2:=V1.but (ah.ar (S:=[]) k2) ao;have K2:=K1.call k2;clear ht k2 K1 V1;obtain⟨x0,x1,x2,x3,x4,x5,x6,x7,x8⟩:=x;have e0:w2.cell? ⟨w.heap.size,0,none⟩=some (.int .i64 n):=e0;unfold aM;have hx:w.heap.size+1<w2.heap.size:=Aa w2 _ V2.cells.1;have lV:w.heap.size<w2.heap.size:=ab;have Tw:=(V2.but (ah.ar (S:=[]) ((ad.refl w2).alloc (.cells #[.string x0,.string x1,.bool x2,.int .i64 x3,.int .i64 x4,.slice x5 x6 x7] 48))) ao);have eY:=aa Tw;clear V2 Tw;have KA:ad w (w2.alloc (.cells #[.string x0,.string x1,.bool x2,.int .i64 x3,.int .i64 x4,.slice x5 x6 x7] 48)):=K2.alloc _
 cases b
 ·have jX:=aa (HT.o.no Tv.o);clear HT e1 e0;go_wp2_with (refine xM 24 (λW=>ag (VB W (w.heap.size+1) (.string ⟨#[]⟩) (.string ⟨#[]⟩) (.bool false) (.int .i64 0) (.int .i64 0) (.slice none 0 0))/\ad w W/\W.cell? ⟨w2.heap.size,0,none⟩=some (.string x0)/\W.cell? ⟨w2.heap.size,1,none⟩=some (.string x1)/\W.cell? ⟨w2.heap.size,2,none⟩=some (.bool x2)/\W.cell? ⟨w2.heap.size,3,none⟩=some (.int .i64 x3)/\W.cell? ⟨w2.heap.size,4,none⟩=some (.int .i64 x4)/\W.cell? ⟨w2.heap.size,5,none⟩=some (.slice x5 x6 x7)) rfl ⟨eY,KA,by go_simp,by go_simp,by go_simp,by go_simp,by go_simp,by go_simp⟩ ?_;rintro W ⟨hv,hk,y0,y1,y2,y3,y4,y5⟩;obtain⟨z0,z1,z2,z3,z4,z5,zf,_⟩:=hv.o.cells;have f0:=zf 0;have f1:=zf 1;have f2:=zf 2;have f3:=zf 3;have f4:=zf 4;have f5:=zf 5;clear zf)
  obtain⟨z0,z1,z2,z3,z4,z5,_,_⟩:=(hv.o.all (.string ⟨#[]⟩) (.string ⟨#[]⟩) (.bool false) (.int .i64 0) (.int .i64 0) (.slice none 0 0)).cells;refine KV (v:= .tuple #[aM zeroV,.bool false]) (by simp[results,Tryz.results301,go_sem,aM,zeroV,z0,z1,z2,z3,z4,z5]) rfl ?_;exact⟨zeroV,false,rfl,.inr ⟨rfl,rfl,jX.o⟩,ad.but hk (ah.all _ _ _ _ _ _ _) ao⟩
 ·have HM:=aa HT.o.af;have jX:ag (¬(x3=n/\x4=s)->∀ y∈l,¬(y.n=n/\y.s=s)):=λg=>qdK HS.o Tv.o λa ha=>by rw[HM.o]at ha;injection ha with ha;subst ha;exact g
  by_cases q1:x3=n
  ·subst q1;by_cases q2:x4=s
   ·subst q2;clear jX;go_wp2_with (refine xM 25 (λW=>ag (VB W (w.heap.size+1) (.string ⟨#[]⟩) (.string ⟨#[]⟩) (.bool false) (.int .i64 0) (.int .i64 0) (.slice none 0 0))/\ad w W/\W.cell? ⟨w2.heap.size,0,none⟩=some (.string x0)/\W.cell? ⟨w2.heap.size,1,none⟩=some (.string x1)/\W.cell? ⟨w2.heap.size,2,none⟩=some (.bool x2)/\W.cell? ⟨w2.heap.size,3,none⟩=some (.int .i64 x3)/\W.cell? ⟨w2.heap.size,4,none⟩=some (.int .i64 x4)/\W.cell? ⟨w2.heap.size,5,none⟩=some (.slice x5 x6 x7)) rfl ⟨eY,KA,by go_simp,by go_simp,by go_simp,by go_simp,by go_simp,by go_simp⟩ ?_;rintro W ⟨hv,hk,y0,y1,y2,y3,y4,y5⟩;obtain⟨z0,z1,z2,z3,z4,z5,zf,_⟩:=hv.o.cells;have f0:=zf 0;have f1:=zf 1;have f2:=zf 2;have f3:=zf 3;have f4:=zf 4;have f5:=zf 5;clear zf)
    obtain⟨z0,z1,z2,z3,z4,z5,_,_⟩:=(hv.o.all (.string x0) (.string x1) (.bool x2) (.int .i64 x3) (.int .i64 x4) (.slice x5 x6 x7)).cells;refine KV (v:= .tuple #[aM ⟨x0,x1,x2,x3,x4,x5,x6,x7,x8⟩,.bool true]) (by simp[results,Tryz.results301,go_sem,aM,zeroV,z0,z1,z2,z3,z4,z5]) rfl ?_;exact⟨_,true,rfl,.inl ⟨rfl,zV HM.o,rfl,rfl⟩,ad.but hk (ah.all _ _ _ _ _ _ _) ao⟩
   ·go_wp2_with (refine xM 24 (λW=>ag (VB W (w.heap.size+1) (.string ⟨#[]⟩) (.string ⟨#[]⟩) (.bool false) (.int .i64 0) (.int .i64 0) (.slice none 0 0))/\ad w W/\W.cell? ⟨w2.heap.size,0,none⟩=some (.string x0)/\W.cell? ⟨w2.heap.size,1,none⟩=some (.string x1)/\W.cell? ⟨w2.heap.size,2,none⟩=some (.bool x2)/\W.cell? ⟨w2.heap.size,3,none⟩=some (.int .i64 x3)/\W.cell? ⟨w2.heap.size,4,none⟩=some (.int .i64 x4)/\W.cell? ⟨w2.heap.size,5,none⟩=some (.slice x5 x6 x7)) rfl ⟨eY,KA,by go_simp,by go_simp,by go_simp,by go_simp,by go_simp,by go_simp⟩ ?_;rintro W ⟨hv,hk,y0,y1,y2,y3,y4,y5⟩;obtain⟨z0,z1,z2,z3,z4,z5,zf,_⟩:=hv.o.cells;have f0:=zf 0;have f1:=zf 1;have f2:=zf 2;have f3:=zf 3;have f4:=zf 4;have f5:=zf 5;clear zf)
    obtain⟨z0,z1,z2,z3,z4,z5,_,_⟩:=(hv.o.all (.string ⟨#[]⟩) (.string ⟨#[]⟩) (.bool false) (.int .i64 0) (.int .i64 0) (.slice none 0 0)).cells;refine KV (v:= .tuple #[aM zeroV,.bool false]) (by simp[results,Tryz.results301,go_sem,aM,zeroV,z0,z1,z2,z3,z4,z5]) rfl ?_;exact⟨zeroV,false,rfl,.inr ⟨rfl,rfl,jX.o λg=>q2 g.2⟩,ad.but hk (ah.all _ _ _ _ _ _ _) ao⟩
  ·go_wp2_with (refine xM 24 (λW=>ag (VB W (w.heap.size+1) (.string ⟨#[]⟩) (.string ⟨#[]⟩) (.bool false) (.int .i64 0) (.int .i64 0) (.slice none 0 0))/\ad w W/\W.cell? ⟨w2.heap.size,0,none⟩=some (.string x0)/\W.cell? ⟨w2.heap.size,1,none⟩=some (.string x1)/\W.cell? ⟨w2.heap.size,2,none⟩=some (.bool x2)/\W.cell? ⟨w2.heap.size,3,none⟩=some (.int .i64 x3)/\W.cell? ⟨w2.heap.size,4,none⟩=some (.int .i64 x4)/\W.cell? ⟨w2.heap.size,5,none⟩=some (.slice x5 x6 x7)) rfl ⟨eY,KA,by go_simp,by go_simp,by go_simp,by go_simp,by go_simp,by go_simp⟩ ?_;rintro W ⟨hv,hk,y0,y1,y2,y3,y4,y5⟩;obtain⟨z0,z1,z2,z3,z4,z5,zf,_⟩:=hv.o.cells;have f0:=zf 0;have f1:=zf 1;have f2:=zf 2;have f3:=zf 3;have f4:=zf 4;have f5:=zf 5;clear zf)
   obtain⟨z0,z1,z2,z3,z4,z5,_,_⟩:=(hv.o.all (.string ⟨#[]⟩) (.string ⟨#[]⟩) (.bool false) (.int .i64 0) (.int .i64 0) (.slice none 0 0)).cells;refine KV (v:= .tuple #[aM zeroV,.bool false]) (by simp[results,Tryz.results301,go_sem,aM,zeroV,z0,z1,z2,z3,z4,z5]) rfl ?_;exact⟨zeroV,false,rfl,.inr ⟨rfl,rfl,jX.o λg=>q1 g.1⟩,ad.but hk (ah.all _ _ _ _ _ _ _) ao⟩
theorem qdL (v:Value) (l:List ax) (n s:Int) (w:World) (hv:Rw w 48 6 a8 v l) (hs:l.Pairwise lf) (hl:l.length<=1000000000000):
  Calls Tryz.prog 306 #[v,.agg #[.int .i64 n,.int .i64 s]] w λe w'=>∃ x b,e= .returned (.tuple #[aM x,.bool b])/\GW l x b/\ad w w':=by
 obtain⟨A,c,rfl,bl,bQ⟩:=hv.form;have HV:=aa hv;have HS:=aa hs;clear hv hs;have V0:=(ns (w.alloc (.cells #[.int .i64 n,.int .i64 s] 45)));rw[World.size_alloc]at V0;go_in;go_wp2_with fail
 refine(cat _ l n s _ (HV.o.kept al) HS.o).mono ?_;rintro e w2 ⟨x,b,rfl,ht,k1⟩;have e0:w2.cell? ⟨w.heap.size,0,none⟩=some (.int .i64 n):=k1.af (by go_simp);have e1:w2.cell? ⟨w.heap.size,1,none⟩=some (.int .i64 s):=k1.af (by go_simp);have V2:=V0.but (ah.ar (S:=[]) k1) ao;have K2:ad w w2:=ad.call al k1;have HT:=aa ht.one;clear ht k1 V0;obtain⟨x0,x1,x2,x3,x4,x5,x6,x7,x8⟩:=x;unfold aM;have hx:w.heap.size+1<w2.heap.size:=Aa w2 _ V2.cells.1;have lV:w.heap.size<w2.heap.size:=ab;have eY:=aa (V2.but (ah.ar (S:=[]) ((ad.refl w2).alloc (.cells #[.string x0,.string x1,.bool x2,.int .i64 x3,.int .i64 x4,.slice x5 x6 x7] 48))) ao);clear V2;have KA:ad w (w2.alloc (.cells #[.string x0,.string x1,.bool x2,.int .i64 x3,.int .i64 x4,.slice x5 x6 x7] 48)):=K2.alloc _
 cases b
 ·clear HT;go_wp2_with (refine xM 18 (λW=>ag (VB W (w.heap.size+1) (.string ⟨#[]⟩) (.string ⟨#[]⟩) (.bool false) (.int .i64 0) (.int .i64 0) (.slice none 0 0))/\ad w W/\W.cell? ⟨w.heap.size,0,none⟩=some (.int .i64 n)/\W.cell? ⟨w.heap.size,1,none⟩=some (.int .i64 s)) rfl ⟨eY,KA,by go_simp,by go_simp⟩ ?_;rintro W ⟨Dm,hk,e0,e1⟩)
  refine(LV _ l n s _ (HV.o.kept hk)).mono ?_;rintro e w3 ⟨i,rfl,hi,k3⟩;have iQ:=hi.le;have Tx:=aa (Dm.o.but (ah.ar (S:=[]) k3) ao);have K3:=hk.call k3;clear hi Dm e0 e1 k3;go_wp2_with fail
  refine(LW _ l _ _ (HV.o.kept K3)).mono ?_;rintro e w4 ⟨y,b,rfl,ht,k4⟩;have HT:=aa ht.one;have K4:=K3.call k4;have V4:=Tx.o.but (ah.ar (S:=[]) k4) ao;obtain⟨z0,z1,z2,z3,z4,z5,zf,_⟩:=V4.cells;have f0:=zf 0;have f1:=zf 1;have f2:=zf 2;have f3:=zf 3;have f4:=zf 4;have f5:=zf 5;have LY:=aa V4;clear zf ht k4 Tx V4;obtain⟨y0,y1,y2,y3,y4,y5,y6,y7,y8⟩:=y;unfold aM;go_wp2_with fail
  obtain⟨z0,z1,z2,z3,z4,z5,_,_⟩:=(LY.o.all (.string y0) (.string y1) (.bool y2) (.int .i64 y3) (.int .i64 y4) (.slice y5 y6 y7)).cells;refine KV (v:= .tuple #[aM ⟨y0,y1,y2,y3,y4,y5,y6,y7,y8⟩,.bool b]) (by simp[results,Tryz.results306,go_sem,aM,z0,z1,z2,z3,z4,z5]) rfl ?_;exact⟨_,b,rfl,HT.o,ad.but K4 (ah.all _ _ _ _ _ _ _) ao⟩
 ·go_wp2_with (refine xM 15 (λW=>ag (VB W (w.heap.size+1) (.string ⟨#[]⟩) (.string ⟨#[]⟩) (.bool false) (.int .i64 0) (.int .i64 0) (.slice none 0 0))/\ad w W/\W.cell? ⟨w2.heap.size,0,none⟩=some (.string x0)/\W.cell? ⟨w2.heap.size,1,none⟩=some (.string x1)/\W.cell? ⟨w2.heap.size,2,none⟩=some (.bool x2)/\W.cell? ⟨w2.heap.size,3,none⟩=some (.int .i64 x3)/\W.cell? ⟨w2.heap.size,4,none⟩=some (.int .i64 x4)/\W.cell? ⟨w2.heap.size,5,none⟩=some (.slice x5 x6 x7)) rfl ⟨eY,KA,by go_simp,by go_simp,by go_simp,by go_simp,by go_simp,by go_simp⟩ ?_;rintro W ⟨hv,hk,y0,y1,y2,y3,y4,y5⟩;obtain⟨z0,z1,z2,z3,z4,z5,zf,_⟩:=hv.o.cells;have f0:=zf 0;have f1:=zf 1;have f2:=zf 2;have f3:=zf 3;have f4:=zf 4;have f5:=zf 5;clear zf)
  obtain⟨z0,z1,z2,z3,z4,z5,_,_⟩:=(hv.o.all (.string x0) (.string x1) (.bool x2) (.int .i64 x3) (.int .i64 x4) (.slice x5 x6 x7)).cells;refine KV (v:= .tuple #[aM ⟨x0,x1,x2,x3,x4,x5,x6,x7,x8⟩,.bool true]) (by simp[results,Tryz.results306,go_sem,aM,z0,z1,z2,z3,z4,z5]) rfl ?_;exact⟨_,true,rfl,HT.o,ad.but hk (ah.all _ _ _ _ _ _ _) ao⟩
theorem eqd (v v2:Value) (l l2:List aD) (w:World) (hv:Rw w 60 3 aS v l) (cW:Rw w 60 3 aS v2 l2) (hl:l.length<=1000000000000):
  Calls Tryz.prog 323 #[v,v2] w λe w'=>∃ b,e= .returned (.bool b)/\(l=l2->b=true)/\ad w w':=by
 obtain⟨A,c,rfl,bl,bQ⟩:=hv.form;obtain⟨A2,c2,rfl,qdM,qkT⟩:=cW.form;obtain⟨n,hn⟩:∃ n,l.length=n:=⟨_,rfl⟩;obtain⟨n2,cp⟩:∃ n,l2.length=n:=⟨_,rfl⟩;rw[hn]at hv bl hl⊢;rw[cp]at cW qdM⊢;have HV:=aa hv;have eY:=aa cW;have HN:=aa hn;have lg:=aa cp;clear hv cW hn cp;by_cases aN:n=n2
 ·subst aN;go_wp2;go_loopw [5,13] (λ_ iv wr=>∃ U:Nat,U<=n/\iv= .int .i64 U/\ad w wr) (λ_ iv _=>n-(intOf iv).toNat)
  case atStart=>exact⟨0,ab,rfl,al⟩
  case round=>
   obtain⟨U,hj,rfl,kr⟩:=hrel;by_cases an:U<n
   ·obtain⟨a,ha⟩:∃ a,l[U]? =some a:=⟨_,jc (by rw[HN.o];exact an)⟩;obtain⟨d,hd⟩:∃ a,l2[U]? =some a:=⟨_,jc (by rw[lg.o];exact an)⟩;have GX:ag (l=l2->a=d):=λh=>by rw[h,hd]at ha;injection ha with ha;exact ha.symm
    obtain⟨b,off,rfl,hb,hc⟩:=HV.o.af ha;obtain⟨b2,gA,rfl,bG,cz⟩:=eY.o.af hd;obtain⟨x0,x1,x2⟩:=a;obtain⟨c0,c1,c2⟩:=kQ λU u hu=>kr.af (hc U u hu);obtain⟨y0,y1,y2⟩:=d;obtain⟨d0,d1,d2⟩:=kQ λU u hu=>kr.af (cz U u hu);clear hc cz ha hd;by_cases q0:x0.toList=y0.toList
    ·by_cases q1:x1=y1
     ·by_cases q2:x2=y2
      ·subst q1 q2;clear GX;go_wp2;refine bz (λwB=>ad w wB/\ad wr wB/\wB.cell? ⟨b,off+U*3,none⟩=some (.string x0)/\wB.cell? ⟨b,off+U*3+1,none⟩=some (.int .i64 x1)/\wB.cell? ⟨b,off+U*3+2,none⟩=some (.int .i64 x2)/\wB.cell? ⟨b2,gA+U*3,none⟩=some (.string y0)/\wB.cell? ⟨b2,gA+U*3+1,none⟩=some (.int .i64 x1)/\wB.cell? ⟨b2,gA+U*3+2,none⟩=some (.int .i64 x2)) λwB SS=> ?_;repeat refine DW.dt ?_
       refine DW.nl SS ?_;rintro wd hI ⟨ae,ay,ai,aj,aq,az,aK,a1⟩;go_wp2;go_roundw
       case rel=>first|exact⟨U+1,ab,aA,ae⟩|((repeat apply R7);exact⟨⟨U+1,ab,aA,ae⟩,rfl⟩)
       case measure=>simp[intOf];omega
      ·skip
       go_wp2;refine bz (λwB=>ad w wB/\ad wr wB/\wB.cell? ⟨b,off+U*3,none⟩=some (.string x0)/\wB.cell? ⟨b,off+U*3+1,none⟩=some (.int .i64 x1)/\wB.cell? ⟨b,off+U*3+2,none⟩=some (.int .i64 x2)/\wB.cell? ⟨b2,gA+U*3,none⟩=some (.string y0)/\wB.cell? ⟨b2,gA+U*3+1,none⟩=some (.int .i64 y1)/\wB.cell? ⟨b2,gA+U*3+2,none⟩=some (.int .i64 y2)) λwB SS=> ?_;repeat refine DW.dt ?_
       refine DW.nl SS ?_;rintro wd hI ⟨ae,ay,ai,aj,aq,az,aK,a1⟩;go_wp2;go_ret;exact⟨_,rfl,λh=>by have:=GX.o h;injection this with h0 h1 h2;simp_all,ae⟩
     ·skip
      go_wp2;refine bz (λwB=>ad w wB/\ad wr wB/\wB.cell? ⟨b,off+U*3,none⟩=some (.string x0)/\wB.cell? ⟨b,off+U*3+1,none⟩=some (.int .i64 x1)/\wB.cell? ⟨b,off+U*3+2,none⟩=some (.int .i64 x2)/\wB.cell? ⟨b2,gA+U*3,none⟩=some (.string y0)/\wB.cell? ⟨b2,gA+U*3+1,none⟩=some (.int .i64 y1)/\wB.cell? ⟨b2,gA+U*3+2,none⟩=some (.int .i64 y2)) λwB SS=> ?_;repeat refine DW.dt ?_
      refine DW.nl SS ?_;rintro wd hI ⟨ae,ay,ai,aj,aq,az,aK,a1⟩;go_wp2;go_ret;exact⟨_,rfl,λh=>by have:=GX.o h;injection this with h0 h1 h2;simp_all,ae⟩
    ·skip
     go_wp2;refine bz (λwB=>ad w wB/\ad wr wB/\wB.cell? ⟨b,off+U*3,none⟩=some (.string x0)/\wB.cell? ⟨b,off+U*3+1,none⟩=some (.int .i64 x1)/\wB.cell? ⟨b,off+U*3+2,none⟩=some (.int .i64 x2)/\wB.cell? ⟨b2,gA+U*3,none⟩=some (.string y0)/\wB.cell? ⟨b2,gA+U*3+1,none⟩=some (.int .i64 y1)/\wB.cell? ⟨b2,gA+U*3+2,none⟩=some (.int .i64 y2)) λwB SS=> ?_;repeat refine DW.dt ?_
     refine DW.nl SS ?_;rintro wd hI ⟨ae,ay,ai,aj,aq,az,aK,a1⟩;go_wp2;go_ret;exact⟨_,rfl,λh=>by have:=GX.o h;injection this with h0 h1 h2;simp_all,ae⟩
   ·obtain rfl:U=n:=ab;go_wp2;go_ret;exact⟨_,rfl,λ_=>rfl,kr⟩
 ·have hd:decide ((n:Int)=(n2:Int))=false:=ql4 ab;have hU:¬(n:Int)=(n2:Int):=ab;go_wp2;go_ret;exact⟨_,rfl,λh=>by have h1:=HN.o;have h2:=lg.o;rw[h]at h1;omega,al⟩
theorem qdN (v v2:Value) (l l2:List aD) (w:World) (hv:Rw w 60 3 aS v l) (cW:Rw w 60 3 aS v2 l2) (hl:l.length<=1000000000000):
  Calls Tryz.prog 319 #[v,v2] w λe w'=>∃ b,e= .returned (.bool b)/\(l=l2->b=true)/\ad w w':=by
 have HV:=aa hv;have eY:=aa cW;clear hv cW;go_in;go_wp2_with fail
 refine(eqd v v2 l l2 _ HV.o eY.o hl).mono ?_;rintro e w1 ⟨b,rfl,hb,k1⟩;have HB:=aa hb;clear hb;go_wp2;go_ret;exact⟨_,rfl,HB.o,k1⟩
theorem qdO (x y:ax) (ds es:List aD) (w:World) (hx:r' w x ds) (hy:r' w y es) (hl:ds.length<=1000000000000):
  Calls Tryz.prog 304 #[aM x,aM y] w λe w'=>∃ b,e= .returned (.bool b)/\(x=y->ds=es->b=true)/\ad w w':=by
 have HX:=aa hx;have HY:=aa hy;clear hx hy;obtain⟨x0,x1,x2,x3,x4,x5,x6,x7,x8⟩:=x;obtain⟨y0,y1,y2,y3,y4,y5,y6,y7,y8⟩:=y;unfold aM;by_cases q0:x0.toList=y0.toList
 ·by_cases q1:x1.toList=y1.toList
  ·by_cases q2:x2=y2
   ·by_cases q3:x3=y3
    ·by_cases q4:x4=y4
     ·subst q2 q3 q4;go_in;go_wp2_with fail
      refine(qdN _ _ ds es _ (HX.o.kept al) (HY.o.kept al) hl).mono ?_;rintro e w1 ⟨b,rfl,hb,k1⟩;have HB:=aa hb;have K1:ad w w1:=ad.call al k1;clear hb k1;go_wp2;go_ret;exact⟨_,rfl,λ_=>HB.o,K1⟩
     ·skip
      go_wp2;go_ret;exact⟨_,rfl,λh _=>by injection h with h0 h1 h2 h3 h4;simp_all,al⟩
    ·skip
     go_wp2;go_ret;exact⟨_,rfl,λh _=>by injection h with h0 h1 h2 h3 h4;simp_all,al⟩
   ·skip
    go_wp2;go_ret;exact⟨_,rfl,λh _=>by injection h with h0 h1 h2 h3 h4;simp_all,al⟩
  ·skip
   go_wp2;go_ret;exact⟨_,rfl,λh _=>by injection h with h0 h1 h2 h3 h4;simp_all,al⟩
 ·skip
  go_wp2;go_ret;exact⟨_,rfl,λh _=>by injection h with h0 h1 h2 h3 h4;simp_all,al⟩
end Go.Proofs.YtehaoggjlciobaaGreat

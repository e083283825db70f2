/- Part 35 of 40. -/
import Derived.Test.YtehaoggjlciobaaGreatQbr
set_option linter.all false
set_option maxRecDepth 20000
set_option maxHeartbeats 16000000
namespace Go.Proofs.YtehaoggjlciobaaGreat
open Go.Maps Go.RowKit Go.Proofs.Tryz
variable {B B2 s:Int} {b:Int×Int} {p:List Int} {l:List Nat} {M:List nK} {a c gb n t x y:Nat} {w:World} {g':aG}
theorem ux.fr {w2:World} {qD:ee} {q:Nat} {cur:Array Value} (h:ux n w qD) (hb:ah [q] w w2) (hq:w.heap[q]? =some (.cells cur 36 (0,0))):ux n w2 qD:=by
 obtain⟨k,c,s,t,keys,d1,d2,d3,d4,d5,d6,d7,d8,d9,d10,d11,d12,d13,d14,d15,d16⟩:=h;refine⟨k,c,s,t,keys,d1,d2,d3,d4,d5,d6,d7,d8,d9,d10,d11,d12.fr (P:=λe=>e=9) (Fr.one hb hq ak) rfl,d13,d14,λhk=> ?_,d16⟩;obtain⟨es,os,ps,h⟩:=d15 hk;exact⟨es,os,ps,h.fr (Fr.one hb hq ak)⟩
theorem qjq (q:Sl) (r:Sl) (p:Sl) (w:World) (hq:q.ok w) (hr:r.ok w) (hp:p.ok w):
  Calls prog 6 #[.agg #[q.v,r.v,p.v]] w λe w'=>∃ rv ov pv es os ps,e= .returned (.agg #[rv,ov,pv])/\yS 0 w' rv ov pv es os ps/\ad w w':=by
 obtain⟨A,m,c,x⟩:=q;obtain⟨B,m2,c2,y⟩:=r;obtain⟨C,m3,c3,z⟩:=p;unfold Sl.ok Sl.l at hq hr hp;unfold Sl.v;simp only at hq hr hp⊢;have HQ:=aa hq;have HR:=aa hr;have HP:=aa hp;clear hq hr hp;go_in;go_wp2_with fail
 refine(Za A B C m c m2 c2 m3 c3 _ _ _ 0 _ (bo.keep HQ.o al) (bo.keep HR.o al) (bo.keep HP.o al) (.inl rfl)).mono ?_;rintro e w2 ⟨rv,ov,pv,es,os,ps,rfl,hd,k2⟩;have HD:=aa hd;obtain⟨j',ka,iy,_,_⟩:=hd.1.form;obtain⟨mG,mH,b3,_,_⟩:=hd.2.1.form;obtain⟨kd,ke,gG,_,_⟩:=hd.2.2.1.form;generalize (bw es).length=kf at iy;generalize os.length=eJ at b3;generalize ps.length=rK at gG;subst iy b3 gG;have HB:ag (w2.heap[w.heap.size+1]? =some (.cells #[.slice none 0 0,.slice none 0 0,.slice none 0 0] 29 (0,0))):=k2.heap (((ad.refl _).alloc _).heap (ea ao));have HK:ag (ad w w2):=ad.call al k2;have r0:=ap HB.o 0;have r1:=ap HB.o 1;have r2:=ap HB.o 2;have p0:=aI HB.o 0;have p1:=aI HB.o 1;have p2:=aI HB.o 2;clear hd k2;go_wp2_with fail
 (try simp only[Exit.inBlock,Exit.then])
 refine KV (results_cell_row rfl _ _ (w.heap.size+1) _ #[.slice j' kf ka,.slice mG eJ mH,.slice kd rK ke] (0,0) _ rfl (vG HB.o _ _ _) underlying29 rfl av) rfl ?_;have hb:ah [w.heap.size+1] _ _:=ah.vG (w:=w2) (w.heap.size+1) (.slice j' kf ka) (.slice mG eJ mH) (.slice kd rK ke);exact⟨_,_,_,es,os,ps,rfl,HD.o.fr (Fr.one hb HB.o ak),HK.o.but hb ao⟩
theorem qjr (a:yV) (n:Nat) (w:World) (h:wj w a) (hn:2<=n/\n<=5):
  Calls prog 8 #[.agg (wi a).toArray,.int .i64 n] w λe w'=>∃ qD,e= .returned (dx qD)/\ux n w' qD/\ad w w':=by
 obtain⟨lI,ac,lJ,af,kN,eU,eC,lK,⟨KA,kn,kc,Pg⟩,⟨A,m,mc,x⟩,⟨B,m2,c2,y⟩,⟨C,m3,c3,z⟩⟩:=a;obtain⟨h0,h1,h2,h3⟩:=h;unfold Sl.ok Sl.l at h0 h1 h2 h3;unfold wi Sl.v;simp only at h0 h1 h2 h3⊢;have H0:=aa h0;have H1:=aa h1;have H2:=aa h2;have H3:=aa h3;clear h0 h1 h2 h3;go_in;go_wp2_with fail
 refine(qjo lI ac lJ af kN eU eC lK KA kn kc _ A m mc _ B m2 c2 _ C m3 c3 _ n _ (bo.keep H0.o al) (bo.keep H1.o al) (bo.keep H2.o al) (bo.keep H3.o al) hn).mono ?_;rintro e w2 ⟨⟨ok,oc,os,ot,oa,oh,BF,BG,ov1,ov2,ov3,ov4⟩,rfl,hd,k2⟩;have HD:=aa hd;obtain⟨k,c,s,t,keys,d1,d2,d3,d4,d5,d6,d7,d8,d9,d10,d11,d12,d13,d14,d15,⟨j',kf,ka,h2⟩,⟨mG,eJ,mH,h3⟩,⟨kd,rK,ke,h4⟩⟩:=hd;obtain⟨VA,vc,h1,_,_⟩:=d12.form;generalize keys.length=kl at h1;simp only at h1 h2 h3 h4;subst h1 h2 h3 h4;have HB:ag (w2.heap[w.heap.size+1]? =some (.cells rJ 36 (0,0))):=k2.heap (((ad.refl _).alloc _).heap (ea ao));have HK:ag (ad w w2):=ad.call al k2;unfold rJ at HB;obtain⟨⟨r0,r1,r2,r3,r4,r5,r6,r7,BB,BC,Ph,Pj⟩,p0,p1,p2,p3,p4,p5,p6,Pk,BE,Pl,Pm,Pn⟩:=c12 HB.o;unfold dx il;simp only;clear k2 d1 d2 d3 d4 d5 d6 d7 d8 d9 d10 d11 d12 d13 d14 d15;go_wp2_with fail
 (try simp only[Exit.inBlock,Exit.then])
 refine KV (results_cell_row rfl _ _ (w.heap.size+1) _ #[.int .i64 ok,.int .i64 oc,.int .i64 os,.int .i64 ot,.int .i64 oa,.int .i64 oh,.string BF,.string BG,.slice VA kl vc,.slice j' kf ka,.slice mG eJ mH,.slice kd rK ke] (0,0) _ rfl (rH HB.o) underlying36 rfl av) rfl ?_;have hb:ah [w.heap.size+1] _ _:=ah.rH (w:=w2) (q:=w.heap.size+1) (y0:= .int .i64 ok) (y1:= .int .i64 oc) (y2:= .int .i64 os) (y3:= .int .i64 ot) (y4:= .int .i64 oa) (y5:= .int .i64 oh) (y6:= .string BF) (y7:= .string BG) (y8:= .slice VA kl vc) (y9:= .slice j' kf ka) (y10:= .slice mG eJ mH) (y11:= .slice kd rK ke);exact⟨⟨ok,oc,os,ot,oa,oh,BF,BG,_,_,_,_⟩,rfl,HD.o.fr hb HB.o,HK.o.but hb ao⟩
section
variable {rv ov pv:Value} {es:List Nat} {os ps:List Int} {w:World}
end
theorem sT.n_ {P:Nat->my->Prop} {g:aG} {qD:ee} {k s:Nat} {aH:List Nat} {aJ a':List Int} {er:Int} {fl:List ax} (h:sT B P g qD k c s t aH aJ a' er fl g') (h1:1<=k) (h2:k<=12):g'.n=g.n:=by
 rcases(by omega:k=1∨k=2∨k=3∨k=4∨k=5∨k=6∨k=7∨k=8∨k=9∨k=10∨k=11∨k=12)with rfl|rfl|rfl|rfl|rfl|rfl|rfl|rfl|rfl|rfl|rfl|rfl
 ·obtain⟨i,_,h⟩:=h;rcases h with ⟨_,_,rfl,_⟩|⟨_,_,v,σ',ev,p',_,_,_,_,_,_,_,_,_,rfl⟩ <;>rfl
 ·obtain⟨i,_,h⟩:=h;rcases h with ⟨_,_,rfl,_⟩|⟨_,_,v,σ',ev,p',_,_,_,_,_,_,_,_,_,rfl⟩ <;>rfl
 ·obtain⟨i,_,h⟩:=h;rcases h with ⟨_,_,rfl,_⟩|⟨_,_,x,b,ev,_,_,_,_,_,_,_,⟨_,_,rfl⟩|⟨_,_,p',_,rfl⟩⟩ <;>rfl
 ·obtain⟨_,_,rfl⟩:=h;rfl
 ·obtain⟨_,h⟩:=h;rcases h with ⟨_,rfl⟩|⟨_,_,_,_,rfl⟩ <;>rfl
 ·obtain⟨i,_,h⟩:=h;rcases h with ⟨_,_,rfl⟩|⟨_,_,lH,b,rfl⟩ <;>rfl
 ·obtain⟨i,_,h⟩:=h;rcases h with ⟨_,_,lH,rfl⟩|⟨_,ds,low,p',bM,lH,pa,pn,pc,_,_,_,_,_,_,_,rfl⟩ <;>rfl
 ·rcases h with ⟨_,_,rfl⟩|⟨_,_,_,_,⟨_,_,rfl⟩|⟨_,_,_,v,yt,σ',_,_,_,_,_,_,_,_,rfl⟩⟩ <;>rfl
 ·obtain⟨_,h⟩:=h;rcases h with rfl|⟨_,_,rfl⟩ <;>rfl
 ·rcases h with ⟨_,_,rfl⟩|⟨_,i,x,σ',_,_,_,_,rfl⟩ <;>rfl
 ·obtain⟨_,_,σ',_,rfl⟩:=h;rfl
 ·obtain⟨_,h,_⟩:=h;rcases h with ⟨_,rfl⟩|⟨_,hn,_,_,_,_,l,σ',_,_,rfl⟩
  ·rfl
  ·exact hn
theorem aT.below {g:aG} (h:aT w B gb g) (hf:bN g.w0 w):ad g.w0 w:=by
 obtain⟨V,_,mE⟩:=h;have hb:=mE.old.below hf;exact⟨hb.os,hb.tape,hb.output,hb.size,hb.block⟩
theorem qjL (B:Int) (P:Nat->Nat->Nat->my->Prop) (gb:Nat) (g:aG) (qD:ee) (n:Nat) (W:World) (h:aT W B gb g) (s9:∀ a b,de g.n a b=true->∀ U d,(g.st a b).T[U]? =some d->uc B (P a b U) d) (hB:0<=B) (h9:B+2<=900) (hk:ad g.w0 W) (ho:ux n W qD) (hn:g.n=n) (cp:2<=n):
  Calls prog 9 #[.pointer (some ⟨gb,0,none⟩),dx qD] W λe w'=>∃ er fv fl g',e= .returned (gm er fv)/\Rw w' 48 6 a8 fv fl/\aT w' (B+2) gb g'/\g'.w0=g.w0/\g'.n=g.n/\bN W w'/\ad g.w0 w'/\
   ∃ (k c s t:Nat) (aH:List Nat) (aJ a':List Int),qD.k=k/\1<=k/\k<=12/\c<4/\qD.c=c/\qD.s=s/\qD.t=t/\Let qD.key/\(sT B (P s t) g qD k c s t aH aJ a' er fl g'∨er≠0/\fl=[]/\g'=g/\(g.ss c).1= -1):=by
 obtain⟨k,c,s,t,keys,d1,d2,d3,d4,d5,d6,d7,d8,d9,d10,d11,d12,d13,d14,d15,_⟩:=ho
 obtain⟨aH,aJ,a',bR⟩:∃ aH aJ a',k=12->fm W qD.rv qD.ov qD.pv aH aJ a'/\YG g.n aH aJ a':=by
  by_cases yC:k=12
  ·obtain⟨es,os,ps,q1,q2,q3,q4,q5,q6,q7⟩:=d15 yC;exact⟨es,os,ps,λ_=>⟨⟨q1,q2,q3⟩,.inl ⟨by rw[hn];exact q7 ab,q4⟩⟩⟩
  ·exact⟨[],[],[],λe=>absurd e yC⟩
 refine(OS B (P s t) gb g qD k c s t keys aH aJ a' W h hB h9 d1 d2 d3 d4 d5 d6 d8 ab ab d10 d11 d12 d13 d14 (λhf=>s9 s t hf) bR).mono ?_;rintro e w' ⟨er,fv,fl,g',rfl,r1,r2,r3,r4⟩;have e0:g'.w0=g.w0:=r3.elim (λh=>h.base d2 d3) λh=>by rw[h.2.2.1]
 have e1:g'.n=g.n:=r3.elim (λh=>h.n_ d2 d3) λh=>by rw[h.2.2.1]
 refine⟨er,fv,fl,g',rfl,r1,r2,e0,e1,r4,?_,k,c,s,t,aH,aJ,a',d1,d2,d3,d5,d4,d6,d8,d10,r3⟩;have:=r2.below (by rw[e0];exact(Fr.ar hk).trans r4);rwa [e0]at this
def GE (a b:Int×Int):Prop:=c8 a.1 a.2 b.1 b.2=false
theorem GE.iff {a:Int×Int}:GE a b↔b.1<a.1∨(a.1=b.1/\b.2<=a.2):=by
 unfold GE c8;rw[decide_eq_false_iff_not];omega
theorem GE.refl (a:Int×Int):GE a a:=xB _ _
theorem GE.trans {a c:Int×Int} (h:GE a b) (k:GE b c):GE a c:=Sq h k
theorem GE.of {a:Int×Int} (h:c8 b.1 b.2 a.1 a.2=true):GE a b:=by
 rw[GE.iff];unfold c8 at h;rw[decide_eq_true_iff]at h;omega
theorem GE.zero {n:Int} (h:fu n s=true):GE (n,s) (0,0):=by
 rw[GE.iff];unfold fu at h;rw[decide_eq_true_iff]at h;left;show(0:Int)<n;omega
theorem GE.not {n:Int} (h:fu n s=true):¬GE (0,0) (n,s):=by
 rw[GE.iff];unfold fu at h;rw[decide_eq_true_iff]at h;simp only;omega
def ax.st (v:ax):Int×Int:=(v.n,v.s)
def my.st (v:my):Int×Int:=(v.n,v.s)
def aD.st (v:aD):Int×Int:=(v.n,v.s)
def top (l:List ax):Int×Int:=match l.getLast? with
 |some v=>(v.n,v.s)
 |none=>(0,0)
theorem top_or (l:List ax):(l=[]/\top l=(0,0))∨∃ x∈l,l.getLast?=some x/\top l=x.st:=by
 unfold top
 cases h:l.getLast? with
 |none=>exact .inl ⟨List.getLast?_eq_none_iff.1 h,rfl⟩
 |some x=>exact .inr ⟨x,List.mem_of_getLast? h,rfl,rfl⟩
theorem top_ge {l:List ax} (hs:l.Pairwise lf) {x:ax} (hx:x∈l):GE (top l) x.st:=by
 rcases top_or l with ⟨rfl,_⟩|⟨y,_,h,e⟩
 ·cases hx
 ·rw[e];have hl:=List.getLast?_eq_getElem? (l:=l)▸h;obtain⟨i,hi⟩:=List.getElem?_of_mem hx;have h1:=(pi.1 hi);have h2:=(pi.1 hl);obtain⟨iQ,rfl⟩:=h1;obtain⟨rR,rfl⟩:=h2;rcases R6 i (l.length-1)with g|g
  ·exact GE.of (List.pairwise_iff_getElem.1 hs i (l.length-1) iQ rR g)
  ·have:i=l.length-1:=ab;subst this;exact GE.refl _
theorem top_mono {l l':List ax} (hs:l'.Pairwise lf) (hc:∀ y∈l',fu y.n y.s=true) (h:∀ x∈l,∃ y∈l',y.st=x.st):GE (top l') (top l):=by
 rcases top_or l with ⟨_,e⟩|⟨x,hx,_,e⟩
 ·rw[e];rcases top_or l' with ⟨_,rM⟩|⟨y,hy,_,rM⟩
  ·rw[rM];exact GE.refl _
  ·rw[rM];exact GE.zero (hc y hy)
 ·rw[e];obtain⟨y,hy,e2⟩:=h x hx;rw[<- e2];exact top_ge hs hy
theorem LX.sub {l l':List ax} {v:ax} {b:Bool} (h:LX l v l' b):(∀ x∈l,x∈l')/\(∀ x∈l',x∈l∨x=v)/\∃ y∈l',y.st=v.st:=by
 rcases h with ⟨_,rfl,x,hx,h1,h2⟩|⟨_,i,rfl⟩
 ·exact⟨λ_ h=>h,λ_ h=> .inl h,x,hx,by unfold ax.st;rw[h1,h2]⟩
 ·refine⟨λx hx=> ?_,λx hx=> ?_,v,ao,rfl⟩
  ·rw[<- List.take_append_drop i l]at hx;rcases Pv.1 hx with g|g
   ·exact List.mem_append_left _ g
   ·exact List.mem_append_right _ (zM _ g)
  ·rcases Pv.1 hx with g|g
   ·exact .inl (List.mem_of_mem_take g)
   ·rcases KX.1 g with rfl|g
    ·exact .inr rfl
    ·exact .inl (List.mem_of_mem_drop g)
structure Put9 (own:List Rg) (L:ByteArray->List ax) (l:List ax) (L':ByteArray->List ax):Prop where
 old:∀ k,∀ x∈L k,x∈L' k
 new:∀ k,∀ x∈L' k,x∈L k∨(x∈l/\k=x.key)
 has:∀ v∈l,b4 own v.key->∃ y∈L' v.key,y.st=v.st
theorem xP.put9 {own:List Rg} {L L':ByteArray->List ax} {v:ax} {b:Bool} (h:xP own L v L' b):Put9 own L [v] L':=by
 rcases h with ⟨hn,rfl,_⟩|⟨_,l',rfl,hp⟩
 ·exact⟨λ_ _ h=>h,λ_ _ h=> .inl h,λx hx ho=>by rw[At.1 hx]at ho;exact absurd ho hn⟩
 ·obtain⟨h1,h2,h3⟩:=hp.sub;refine⟨λk x hx=> ?_,λk x hx=> ?_,λx hx _=> ?_⟩
  ·unfold lh;split
   ·rename_i e;subst e;exact h1 x hx
   ·exact hx
  ·unfold lh at hx;split at hx
   ·rename_i e;subst e
    rcases h2 x hx with g|rfl
    ·exact .inl g
    ·exact .inr ⟨At.2 rfl,rfl⟩
   ·exact .inl hx
  ·rw[At.1 hx];unfold lh;rw[if_pos rfl];exact h3
theorem tG.put9 {own:List Rg}:∀ {l:List ax} {L L':ByteArray->List ax},tG own L l L'->Put9 own L l L'
 |[],L,L',h=>by
  obtain rfl:L'=L:=h;exact⟨λ_ _ h=>h,λ_ _ h=> .inl h,λx hx=>by cases hx⟩
 |v::t,L,L',⟨L1,b,h1,h2⟩=>by
  have a:=h1.put9;have c:=tG.put9 h2;refine⟨λk x hx=>c.old k x (a.old k x hx),λk x hx=> ?_,λx hx ho=> ?_⟩
  ·rcases c.new k x hx with g|⟨g,e⟩
   ·rcases a.new k x g with g|⟨g,e⟩
    ·exact .inl g
    ·exact .inr ⟨by rw[At.1 g];exact List.mem_cons_self ..,e⟩
   ·exact .inr ⟨zM _ g,e⟩
  ·rcases KX.1 hx with rfl|g
   ·obtain⟨y,hy,e⟩:=a.has x (At.2 rfl) ho;exact⟨y,c.old _ y hy,e⟩
   ·exact c.has x g ho
theorem stMax_ge (a b:Int×Int):a.1<=(fj a b).1:=by rw[qeA];omega
theorem clockOf_ge:∀ (l:List ax) (a:Int×Int),a.1<=(clockOf a l).1
 |[],a=>Int.le_refl _
 |v::t,a=>Int.le_trans (stMax_ge a (v.n,v.s)) (clockOf_ge t (fj a (v.n,v.s)))
def jc (W:List my) (d:aD):Prop:=∃ c∈W,c.key=d.key/\c.st=d.st
theorem cov_mem {p l:List aD} (hp:b9 p) (h:∀ x∈l,x∈p):La p l:=λx hx=>by
 rw[Ct hp.pb (h x hx)];exact xB _ _
theorem cov_merge {D p:List aD} (h:cA D p) {l:List aD} (hl:∀ x∈l,x∈D/\fu x.n x.s=true):La p l:=λx hx=>by
 obtain⟨h1,h2⟩:=hl x hx;obtain⟨y,hy,e,hg⟩:=h.all x h1 h2;rw[<- e,Ct h.cg.pb hy];exact hg
theorem La.trans {p q l:List aD} (h:La p q) (k:La q l) (hq:b9 q) (hl:∀ x∈l,fu x.n x.s=true):La p l:=λx hx=>by
 have h1:=k x hx;rcases Rc hq x.key with ⟨d,hd,e,lO⟩|⟨_,lO⟩
 ·rw[lO]at h1;have h2:=h d hd;rw[e]at h2;exact Sq h2 h1
 ·rw[lO]at h1;exact absurd h1 (GE.not (hl x hx))
theorem owned_iff {es:List Nat} {os:List Int} (hu:Up es) (i:Nat) (k:ByteArray):b4 (lE es os i) k↔cq (ow es os k) i=true:=by
 unfold b4 lE dd ow;constructor
 ·rintro⟨x,hx,hh⟩;obtain⟨U,hj,rfl⟩:=List.mem_map.1 hx;obtain⟨h1,h2⟩:=List.mem_filter.1 hj;rw[BL hu (by have:=List.mem_range.1 h1;omega)]at hh;rw[<- qck hh];exact h2
 ·intro h;have hl:=nV es (hv k);exact⟨_,List.mem_map.2 ⟨bV es (hv k),List.mem_filter.2 ⟨List.mem_range.2 ab,h⟩,rfl⟩,by rw[BL hu hl];simp⟩
structure Pln (B:Int) (g:aG):Prop where
 tree:cH g.ps
 fit:Fit g.es g.os g.n
 own:∀ i,i<g.n->(g.σ i).own=lE g.es g.os i
 pb:∀ i,i<g.n->∀ k,Let k->((g.σ i).L k).Pairwise lf
 Az:∀ i,i<g.n->∀ k,Let k->∀ x∈(g.σ i).L k,x.key=k/\b9 x.ds/\fu x.n x.s=true
 has:∀ i,i<g.n->∀ k,Let k->(g.σ i).L k≠[]->b4 (g.σ i).own k
 wt:∀ i,i<g.n->∀ x∈(g.σ i).wait,Let x.key/\b9 x.ds/\fu x.n x.s=true/\b4 (g.σ i).own x.key
 bY:∀ c,c<4->b9 (g.ss c).2
 jn:∀ c,c<4->∀ k∈(g.jn c).1,Let k
 sn:∀ c,c<4->∀ d∈(g.ss c).2,d.n<=B
 cm:∀ a b,de g.n a b=true->Wh (g.st a b)
 sl:∀ c,c<4->(g.ss c).1<g.n
theorem Pln.of {g:aG} (h:aT w B gb g) (ho:∀ i,i<g.n->(g.σ i).own=lE g.es g.os i):Pln B g:=by
 obtain⟨V,_,mE⟩:=h;have hd:=mE.a6
 have hch:∀ i,i<g.n->∀ k,Let k->∃ v,dc w B k v ((g.σ i).L k)/\((g.σ i).L k≠[]->b4 (g.σ i).own k):=λi hi k hk=>by
  obtain⟨C,_,hc⟩:=(mE.bi i hi).sh.fz;obtain⟨h1,h2⟩:=hc k hk;refine⟨_,h1,λaN=> ?_⟩;by_cases hC:C k=none
  ·rw[hC]at h1;obtain⟨A,c,e,_,_,h3,_⟩:=h1.row;injection e with e1;exact absurd (h3 e1.symm).1 aN
  ·exact(h2 hC).1
 refine⟨hd.fit.tree,hd.fit.fit,ho,λi hi k hk=> ?_,λi hi k hk x hx=> ?_,λi hi k hk=> ?_,λi hi x hx=> ?_,λc hc=>(hd.bY c hc).2.1,λc hc=>(hd.oJ c hc).2.2.1,λc hc=>(hd.bY c hc).2.2.1,λa b hp=> ?_,λc hc=>(hd.bY c hc).2.2.2.2⟩
 ·obtain⟨v,h1,_⟩:=hch i hi k hk;exact h1.sd
 ·obtain⟨v,h1,_⟩:=hch i hi k hk;obtain⟨h2,h3⟩:=h1.iG x hx;exact⟨h3,h2.cg,h2.wc.1⟩
 ·exact(hch i hi k hk).choose_spec.2
 ·obtain⟨h2,h3⟩:=(mE.bi i hi).jH x hx;exact⟨h2.key,h2.cg,h2.wc.1,h3⟩
 ·have h6:=hd.fit.fit.cV;have h7:=hp;unfold de at h7;simp only[Bool.and_eq_true,decide_eq_true_eq]at h7;exact mE.cm.qgy ab ab hp
def Cov9 (g:aG) (i:Nat) (ds:List aD):Prop:=∀ d∈ds,b4 (g.σ i).own d.key->GE (top ((g.σ i).L d.key)) d.st
def Fly (g:aG) (pk:Nat->Nat->List my) (c:my) (qD:Nat):Prop:=∃ a b U:Nat,de g.n a b=true/\Nr g.ps a b/\Uuc g.ps a b qD=true/\(g.st a b).lo<=U/\(pk a b)[U]? =some c
structure HisOk (g:aG) (W:List my):Prop where
 ev:∀ e∈g.bJ,Let e.key/\b9 e.ds/\(∃ c:Nat,c<4/\e.Ij=(c:Int))/\(∀ d∈e.ds,jc W d)/\(fu e.n e.s=true∨(e.n=0/\e.s=0))
 right:∀ i e,g.bJ[i]? =some e->RightP g.bJ i e
 w2e:∀ c∈W,∃ e∈g.bJ,e.kind=1/\e.key=c.key/\(e.n,e.s)=c.st/\e.ds=c.ds
 e2w:∀ e∈g.bJ,e.kind=1->∃ c∈W,c.key=e.key/\c.st=(e.n,e.s)/\c.ds=e.ds
 jB:∀ e∈g.bJ,∀ c:Nat,c<4->e.Ij=(c:Int)->La (g.ss c).2 e.ds/\La (g.ss c).2 [evD e]
 rd:∀ e∈g.bJ,e.kind=2->∀ c∈W,c.st=(e.n,e.s)->La e.ds c.ds
structure Cau (B:Int) (g:aG) (W:List my) (pk:Nat->Nat->List my):Prop where
 jH:∀ c∈W,Let c.key/\b9 c.ds/\fu c.n c.s=true/\∀ d∈c.ds,c8 d.n d.s c.n c.s=true
 one:∀ a∈W,∀ b∈W,a.st=b.st->a=b
 pF:∀ c∈W,∀ i:Nat,i<g.n->c.s=(i:Int)->c.n<=(g.σ i).cn
 dep:∀ c∈W,∀ d∈c.ds,jc W d
 L:∀ i,i<g.n->∀ k,Let k->∀ x∈(g.σ i).L k,x.ir∈W
 wt:∀ i,i<g.n->∀ x∈(g.σ i).wait,x.ir∈W
 pkt:∀ a b,de g.n a b=true->(pk a b).length=(g.st a b).T.length/\∀ (U:Nat) d,(g.st a b).T[U]? =some d->uc B (λc=>(pk a b)[U]? =some c) d
 pkw:∀ a b,∀ c∈pk a b,c∈W
 mD:∀ c,c<4->∀ d∈(g.ss c).2,jc W d
 bY:∀ c,c<4->∀ i:Nat,(g.ss c).1=(i:Int)->Cov9 g i (g.ss c).2
 kept:∀ i,i<g.n->∀ k,Let k->∀ x∈(g.σ i).L k,Cov9 g i x.ds
 del:∀ c∈W,∀ qD,qD<g.n->b4 (g.σ qD).own c.key->GE (top ((g.σ qD).L c.key)) c.st∨(∃ x∈(g.σ qD).wait,x.ir=c)∨Fly g pk c qD
 Sk:HisOk g W
theorem RightP.app {L:List nK} {i:Nat} {e:nK} (h:RightP L i e) (hi:i<L.length):RightP (L++M) i e:=by
 have back:∀ {k x},k<i->(L++M)[k]? =some x->L[k]? =some x:=λhk hx=>by rwa [qlZ ab]at hx
 have fwd:∀ {k:Nat} {x},L[k]? =some x->(L++M)[k]? =some x:=λhx=>by rw[qlZ (bg hx)];exact hx
 refine⟨λk x hk hx hc=>h.cov k x hk (back hk hx) hc,?_⟩;rcases h.kind with ⟨h1,h2,h3,h4⟩|⟨h1,h2,h3⟩
 ·exact .inl ⟨h1,h2,h3,λk x hk hx=>h4 k x hk (back hk hx)⟩
 ·exact .inr ⟨h1,h2,h3.imp id λ⟨k,x,hk,hx,h⟩=>⟨k,x,hk,fwd hx,h⟩⟩
theorem jc.app {W V:List my} {d:aD} (h:jc W d):jc (W++V) d:=by
 obtain⟨c,h1,h2⟩:=h;exact⟨c,List.mem_append_left _ h1,h2⟩
theorem jc.ok {g:aG} {W:List my} {pk:Nat->Nat->List my} (h:Cau B g W pk) {d:aD} (hw:jc W d):fu d.n d.s=true:=by
 obtain⟨c,hc,_,e⟩:=hw;have:=(h.jH c hc).2.2.1;unfold my.st aD.st at e;injection e with e1 e2;rw[<- e1,<- e2];exact this
theorem gt_wr {l:List aD} (hp:b9 l) (k:ByteArray):gt l k=(0,0)∨∃ d∈l,d.key=k/\gt l k=d.st:=by
 rcases Rc hp k with ⟨d,hd,e,lO⟩|⟨_,lO⟩
 ·exact .inr ⟨d,hd,e,lO⟩
 ·exact .inl lO
theorem cov_zero {p:List aD} (hp:b9 p) (k:ByteArray):La p [⟨k,0,0⟩]:=λx hx=>by
 rw[At]at hx;subst hx;rcases gt_wr hp k with e|⟨d,hd,_,e⟩
 ·simp only[e];exact xB _ _
 ·simp only[e];exact GE.zero (hp.ok d hd).2
theorem cov_up {p p' l:List aD} (hp:b9 p) (iH:b9 p') (h:La p' p) (k:La p l) (hl:∀ x∈l,fu x.n x.s=true∨(x.n=0/\x.s=0)):La p' l:=λx hx=>by
 rcases hl x hx with g|⟨g1,g2⟩
 ·exact La.trans h (l:=[x]) (λy hy=>by rw[At.1 hy];exact k x hx) hp (λy hy=>by rw[At.1 hy];exact g) x (At.2 rfl)
 ·have:=cov_zero iH x.key ⟨x.key,0,0⟩ (At.2 rfl);rw[g1,g2];exact this
theorem cov_self {D p q:List aD} (h:cA (D++q) p) (ja:b9 D):La p D:=cov_merge h λx hx=>⟨List.mem_append_left _ hx,(ja.ok x hx).2⟩
theorem HisOk.app {g:aG} {W V:List my} (h:HisOk g W) (hh:g'.bJ=g.bJ++M)
  (hev:∀ e∈M,Let e.key/\b9 e.ds/\(∃ c:Nat,c<4/\e.Ij=(c:Int))/\(∀ d∈e.ds,jc (W++V) d)/\(fu e.n e.s=true∨(e.n=0/\e.s=0)))
  (hr:∀ (i:Nat) e,M[i]? =some e->RightP (g.bJ++M) (g.bJ.length+i) e)
  (mE:∀ c∈V,∃ e∈M,e.kind=1/\e.key=c.key/\(e.n,e.s)=c.st/\e.ds=c.ds)
  (hM:∀ e∈M,e.kind=1->∃ c∈V,c.key=e.key/\c.st=(e.n,e.s)/\c.ds=e.ds)
  (hp:∀ c,c<4->∀ l,(∀ x∈l,fu x.n x.s=true∨(x.n=0/\x.s=0))->La (g.ss c).2 l->La (g'.ss c).2 l)
  (hq:∀ e∈M,∀ c:Nat,c<4->e.Ij=(c:Int)->La (g'.ss c).2 e.ds/\La (g'.ss c).2 [evD e])
  (hd:∀ e∈M,e.kind=2->∀ c∈W++V,c.st=(e.n,e.s)->La e.ds c.ds)
  (hU:∀ e∈g.bJ,e.kind=2->∀ c∈V,c.st=(e.n,e.s)->La e.ds c.ds):HisOk g' (W++V):=by
 have spl:∀ {e},e∈g'.bJ->e∈g.bJ∨e∈M:=λhe=>by rw[hh]at he;exact Pv.1 he
 refine⟨λe he=> ?_,λi e he=> ?_,λc hc=> ?_,λe he h1=> ?_,λe he c hc bL=> ?_,λe he h2 c hc hs=> ?_⟩
 ·rcases spl he with g|g
  ·obtain⟨h1,h2,h3,h4,h5⟩:=h.ev e g;exact⟨h1,h2,h3,λd hd=>(h4 d hd).app,h5⟩
  ·exact hev e g
 ·rw[hh]at he⊢;rcases R6 i g.bJ.length with hl|hl
  ·rw[qlZ hl]at he;exact(h.right i e he).app hl
  ·rw[List.getElem?_append_right hl]at he;have:=hr _ e he;rwa [show g.bJ.length+(i-g.bJ.length)=i by omega]at this
 ·rw[hh];rcases Pv.1 hc with g|g
  ·obtain⟨e,he,h1⟩:=h.w2e c g;exact⟨e,List.mem_append_left _ he,h1⟩
  ·obtain⟨e,he,h1⟩:=mE c g;exact⟨e,List.mem_append_right _ he,h1⟩
 ·rcases spl he with g|g
  ·obtain⟨c,hc,h2⟩:=h.e2w e g h1;exact⟨c,List.mem_append_left _ hc,h2⟩
  ·obtain⟨c,hc,h2⟩:=hM e g h1;exact⟨c,List.mem_append_right _ hc,h2⟩
 ·rcases spl he with g|g
  ·obtain⟨h1,h2⟩:=h.jB e g c hc bL;obtain⟨_,e2,_,_,e5⟩:=h.ev e g;exact⟨hp c hc _ (λx hx=> .inl (e2.ok x hx).2) h1,hp c hc _ (λx hx=>by rw[At.1 hx];exact e5) h2⟩
  ·exact hq e g c hc bL
 ·rcases spl he with g|g
  ·rcases Pv.1 hc with g2|g2
   ·exact h.rd e g h2 c g2 hs
   ·exact hU e g h2 c g2 hs
  ·exact hd e g h2 c hc hs
theorem told_last {l:List ax} {x:ax} {b:Bool} (h:Told l ((l.length:Int)-1) x b):(b=true/\x∈l/\top l=x.st)∨(b=false/\x=zeroV/\l=[]):=by
 rcases h with ⟨h1,U,h2,h3⟩|⟨h1,h2,h3⟩
 ·refine .inl ⟨h1,zV h3,?_⟩;unfold top;rw[List.getLast?_eq_getElem?,show l.length-1=U by omega,h3];rfl
 ·refine .inr ⟨h1,h2,?_⟩
  cases l with
  |nil=>rfl
  |cons a t=>
   have:=h3 t.length ao;simp at this
theorem upd_snd {f:Nat->Int×List aD} {p:List aD} (x:Nat):(ed f c (s,p) x).2=if x=c then p else(f x).2:=by
 unfold ed;split <;>rfl
section
variable {B:Int} {g g':aG} {W:List my} {pk:Nat->Nat->List my}
theorem Cau.wr_merge {D p:List aD} (hm:cA D p) (ja:∀ d∈D,jc W d):∀ d∈p,jc W d:=λd hd=>ja d (hm.mem d hd)
theorem Cau.wr_ct (h:Cau B g W pk) {v:ax} (hv:v.ir∈W):jc W (Dz v):=⟨v.ir,hv,rfl,rfl⟩
theorem Cau.wr_saw (h:Cau B g W pk) {v:ax} (hv:v.ir∈W):∀ d∈lm v,jc W d:=λd hd=>by
 unfold lm at hd;rcases Pv.1 hd with g1|g1
 ·exact h.dep _ hv d g1
 ·rw[At.1 g1];exact h.wr_ct hv
theorem Cau.sess (h:Cau B g W pk) {c:Nat} (hc:c<4) {s:Int} {p:List aD} {bJ:List nK} {jn:Nat->List ByteArray×List Int} {pins:List cf} (hd:∀ d∈p,jc W d) (hs:∀ i:Nat,s=(i:Int)->Cov9 g i p)
  (hh:HisOk {g with ss:=ed g.ss c (s,p),bJ:=bJ,jn:=jn,pins:=pins} W):Cau B {g with ss:=ed g.ss c (s,p),bJ:=bJ,jn:=jn,pins:=pins} W pk:=
 ⟨h.jH,h.one,h.pF,h.dep,h.L,h.wt,h.pkt,h.pkw,λx hx d hU=>by
  rw[show({g with ss:=ed g.ss c (s,p),bJ:=bJ,jn:=jn,pins:=pins}:aG).ss x=ed g.ss c (s,p) x from rfl,upd_snd]at hU;split at hU
  ·exact hd d hU
  ·exact h.mD x hx d hU,λx hx i hi=>by
  rw[show({g with ss:=ed g.ss c (s,p),bJ:=bJ,jn:=jn,pins:=pins}:aG).ss x=ed g.ss c (s,p) x from rfl]at hi⊢;by_cases e:x=c
  ·subst e;rw[nO]at hi⊢;exact hs i hi
  ·rw[pT e]at hi⊢;exact h.bY x hx i hi,h.kept,h.del,hh⟩
theorem Cau.get {c i:Nat} {k:ByteArray} {er:Int} {fl:List ax} (hP:Pln B g) (h:Cau B g W pk) (hc:c<4) (hk:Let k) (ji:(g.ss c).1=(i:Int)) (hi:i<g.n) (hg:WG g c i k er fl g'):Cau B g' W pk/\∀ x∈fl,x.ir∈W:=by
 rcases hg with ⟨_,rfl,rfl,_⟩|⟨_,ho,x,b,ev,ht,e1,e2,e3,e4,e5,hm,hr⟩
 ·exact⟨h,λx hx=>by cases hx⟩
 have b':=hP.bY c hc
 have bP:(b=true/\x∈(g.σ i).L k/\top ((g.σ i).L k)=x.st/\x.ir∈W/\x.key=k/\fu x.n x.s=true)∨(b=false/\x.n=0/\x.s=0/\x.ds=[]/\(g.σ i).L k=[]):=by
  rcases told_last ht with ⟨h1,h2,h3⟩|⟨h1,rfl,h3⟩
  ·exact .inl ⟨h1,h2,h3,h.L i hi k hk x h2,(hP.Az i hi k hk x h2).1,(hP.Az i hi k hk x h2).2.2⟩
  ·exact .inr ⟨h1,rfl,rfl,rfl,h3⟩
 have hwd:∀ d∈ev.ds,jc W d:=Cau.wr_merge hm λd hd=>by
  rcases Pv.1 hd with g1|g1
  ·exact h.mD c hc d g1
  ·rcases bP with ⟨_,_,_,h4,_⟩|⟨_,_,_,h4,_⟩
   ·exact h.dep _ h4 d g1
   ·rw[h4]at g1;cases g1
 have hnz:fu ev.n ev.s=true∨(ev.n=0/\ev.s=0):=by
  rw[e4,e5];rcases bP with ⟨_,_,_,_,_,h6⟩|⟨_,h2,h3,_⟩
  ·exact .inl h6
  ·exact .inr ⟨h2,h3⟩
 have gF:La ev.ds (g.ss c).2:=cov_self hm b'
 have hR:∀ M,RightP (g.bJ++M) g.bJ.length ev:=λM=>by
  have hback:∀ {U:Nat} {y},U<g.bJ.length->(g.bJ++M)[U]? =some y->g.bJ[U]? =some y:=λhj hy=>by rwa [qlZ hj]at hy
  refine⟨λU y hj hy bL=> ?_,.inr ⟨e1,?_,?_⟩⟩
  ·have hy:=zV (hback hj hy);obtain⟨h1,h2⟩:=h.Sk.jB y hy c hc (by rw[bL,e2]);obtain⟨_,y2,_,_,y5⟩:=h.Sk.ev y hy;exact⟨cov_up b' hm.cg gF h1 (λz hz=> .inl (y2.ok z hz).2),cov_up b' hm.cg gF h2 (λz hz=>by rw[At.1 hz];exact y5)⟩
  ·rw[e3,e4,e5];show GE (x.n,x.s) (gt ev.ds k)
   rcases gt_wr hm.cg k with e|⟨d,hd,uC,e⟩
   ·rw[e];rcases bP with ⟨_,_,_,_,_,h6⟩|⟨_,h2,h3,_⟩
    ·exact GE.zero h6
    ·rw[h2,h3];exact GE.refl _
   ·rw[e];rcases Pv.1 (hm.mem d hd)with g1|g1
    ·have:=h.bY c hc i ji d g1 (by rw[uC];exact ho);rw[uC]at this;rcases bP with ⟨_,_,h3,_⟩|⟨_,_,_,_,h5⟩
     ·rw[h3]at this;exact this
     ·rw[h5]at this;exact absurd this (GE.not (jc.ok h (h.mD c hc d g1)))
    ·rcases bP with ⟨_,_,_,h4,_⟩|⟨_,_,_,h4,_⟩
     ·exact GE.of ((h.jH _ h4).2.2.2 d g1)
     ·rw[h4]at g1;cases g1
  ·rcases bP with ⟨_,_,_,h4,h5,_⟩|⟨_,h2,h3,_⟩
   ·obtain⟨y,hy,y1,y2,y3,_⟩:=h.Sk.w2e _ h4;obtain⟨U,hj⟩:=List.getElem?_of_mem hy;have rR:=(bg hj);injection y3 with y3 y4;exact .inr ⟨U,y,rR,by rw[qlZ rR];exact hj,y1,by rw[y3,e4];rfl,by rw[y4,e5];rfl,by rw[y2,e3];exact h5⟩
   ·exact .inl ⟨by rw[e4];exact h2,by rw[e5];exact h3⟩
 have mK:∀ w∈W,w.st=(ev.n,ev.s)->La ev.ds w.ds:=λw hw hs=>by
  rcases bP with ⟨_,_,_,h4,_⟩|⟨_,h2,h3,_⟩
  ·have:w=x.ir:=h.one w hw _ h4 (by rw[hs,e4,e5];rfl);rw[this];exact cov_merge hm λz hz=>⟨List.mem_append_right _ hz,jc.ok h (h.dep _ h4 z hz)⟩
  ·have:=(h.jH w hw).2.2.1;unfold my.st at hs;injection hs with s1 s2;rw[s1,e4,h2]at this;unfold fu at this;have:=qck this;omega
 have mf:Let ev.key:=by rw[e3];exact hk
 have mk:∀ (ss:Nat->Int×List aD),(∀ a,a<4->∀ l,(∀ x∈l,fu x.n x.s=true∨(x.n=0/\x.s=0))->La (g.ss a).2 l->La (ss a).2 l)->La (ss c).2 ev.ds->La (ss c).2 [evD ev]->HisOk {g with bJ:=g.bJ++[ev],ss:=ss} W:=λss h1 h2 h3=>by
  have:=HisOk.app (g':={g with bJ:=g.bJ++[ev],ss:=ss}) (V:=[]) h.Sk rfl (λe he=>by rw[At.1 he];exact⟨mf,hm.cg,⟨c,hc,e2⟩,λd hd=>(hwd d hd).app,hnz⟩) (λU e he=>by
    cases U with
    |zero=>simp only[List.getElem?_cons_zero,Option.some.injEq]at he;subst he;exact hR _
    |succ U=>simp at he) (λ_ hx=>by cases hx) (λe he h1=>by rw[At.1 he]at h1;omega) h1 (λe he a ha bL=>by
    rw[At.1 he]at bL⊢;obtain rfl:a=c:=ab;exact⟨h2,h3⟩) (λe he _ w hw hs=>by rw[At.1 he]at hs⊢;exact mK w (by simpa using hw) hs) (λ_ _ _ _ hx=>by cases hx)
  simpa using this
 rcases hr with ⟨rfl,rfl,rfl⟩|⟨rfl,rfl,p',iH,rfl⟩
 ·refine⟨⟨h.jH,h.one,h.pF,h.dep,h.L,h.wt,h.pkt,h.pkw,h.mD,h.bY,h.kept,h.del,mk g.ss (λ_ _ _ _ h=>h) ?_ ?_⟩,λx hx=>by cases hx⟩
  ·refine cov_mem b' λd hd=> ?_;rcases bP with ⟨h1,_⟩|⟨_,_,_,h4,_⟩
   ·cases h1
   ·have:=hm.mem d hd;rw[h4,List.append_nil]at this;exact this
  ·rcases bP with ⟨h1,_⟩|⟨_,h2,h3,_⟩
   ·cases h1
   ·unfold evD;rw[e4,e5,h2,h3];exact cov_zero b' _
 ·rcases bP with ⟨_,h2,h3,h4,h5,h6⟩|⟨h1,_⟩
  ·have vD:La p' (g.ss c).2:=cov_self iH b';refine⟨h.sess hc (Cau.wr_merge iH λd hd=> ?_) (λU hj=> ?_) (mk _ (λa ha l hl bL=> ?_) ?_ ?_),λy hy=>by rw[At.1 hy];exact h4⟩
   ·rcases Pv.1 hd with g1|g1
    ·exact h.mD c hc d g1
    ·exact h.wr_saw h4 d g1
   ·obtain rfl:U=i:=ab;intro d hd ZC;rcases Pv.1 (iH.mem d hd)with g1|g1
    ·exact h.bY c hc U ji d g1 ZC
    ·unfold lm at g1;rcases Pv.1 g1 with g2|g2
     ·exact h.kept U hi k hk x h2 d g2 ZC
     ·rw[At.1 g2];show GE (top ((g.σ U).L x.key)) x.st
      rw[h5,h3];exact GE.refl _
   ·rw[upd_snd];split
    ·rename_i e;subst e;exact cov_up b' iH.cg vD bL hl
    ·exact bL
   ·rw[upd_snd,if_pos rfl];refine cov_merge iH λd hd=>⟨?_,jc.ok h (hwd d hd)⟩;rcases Pv.1 (hm.mem d hd)with g1|g1
    ·exact List.mem_append_left _ g1
    ·exact List.mem_append_right _ (List.mem_append_left _ g1)
   ·rw[upd_snd,if_pos rfl];refine cov_merge iH λd hd=> ?_;rw[At.1 hd];unfold evD;rw[e3,e4,e5];exact⟨List.mem_append_right _ (List.mem_append_right _ (by rw[<- h5];exact At.2 rfl)),h6⟩
  ·cases h1
end
theorem first_of (hp:cH p) {qD b:Nat} (ha:a<p.length) (ho:qD<p.length):Uuc p a b qD=true↔(wk p a qD)[1]? =some b:=by
 have e:pathOf p (a:Int) ((qD:Nat):Int)=wk p a qD:=by
  unfold pathOf;rw[if_pos ⟨hp,⟨ab,ab⟩,ab,ab⟩];simp
 unfold Uuc;rw[e]
 cases h:(wk p a qD)[1]? with
 |none=>simp
 |some x=>simp;omega
theorem first_step (hp:cH p) {qD:Nat} (ha:a<p.length) (ho:qD<p.length) (aN:qD≠a):∃ b,b<p.length/\Nr p a b/\Uuc p a b qD=true:=by
 obtain⟨hw,h1,h2⟩:=Kq hp ha ho;obtain⟨t,ht⟩:=qce hp ha ho;rw[ht]at hw h2
 cases t with
 |nil=>simp at h2;omega
 |cons b t=>exact⟨b,hw.lt 1 b rfl,hw.n' 0 a b rfl rfl,(first_of hp ha ho).2 (by rw[ht];rfl)⟩
theorem first_next (hp:cH p) {s qD:Nat} (hs:s<p.length) (ho:qD<p.length) (hf:Uuc p s t qD=true) (aN:qD≠t):∃ b,b<p.length/\Nr p t b/\b≠s/\Uuc p t b qD=true:=by
 have h1:=(first_of hp hs ho).1 hf;obtain⟨hw,h2,h3⟩:=Kq hp hs ho;obtain⟨l,hl⟩:=qce hp hs ho;have hd:=wk_drop hp hs ho h1;have P3:=hw.lt 1 t h1;rw[hl]at hw h1 h3 hd
 cases l with
 |nil=>simp at h1
 |cons Ig l=>
  obtain rfl:Ig=t:=by simpa using h1
  cases l with
  |nil=>simp at h3;omega
  |cons b l=>exact⟨b,hw.lt 2 b rfl,hw.n' 1 Ig b rfl rfl,Ne.symm (hw.nb 0 s b rfl rfl),(first_of hp P3 ho).2 (by rw[hd];rfl)⟩
theorem nxG_mem {g:aG} (hP:Pln B g) {b qD:Nat} {f:Int} {k:ByteArray} (ha:a<g.n) (ho:qD<g.n) (hb:cq (ow g.es g.os k) qD=true) (pK:b<g.n) (hn:Nr g.ps a b) (hf:(b:Int)≠f) (h1:Uuc g.ps a b qD=true):b∈iO g a f k:=by
 have h2:=qfs hP.fit k;unfold ow at h2 hb;have h3:=tb hP.fit.cV;exact(nxt_mem hP.tree ab ab f a b).2 ⟨a,rfl,ha,pK,hn,hf,qD,ho,hb,h1⟩
theorem seen_ge:∀ (ds:List aD) (a:Int×Int),a.1<=(kH a ds).1/\∀ d∈ds,d.n<=(kH a ds).1
 |[],a=>⟨Int.le_refl _,λd hd=>by cases hd⟩
 |x::t,a=>by
  obtain⟨h1,h2⟩:=seen_ge t (fj a (x.n,x.s));have h3:=qeA a (x.n,x.s);refine⟨Int.le_trans (by rw[h3];omega) h1,λd hd=> ?_⟩;rcases KX.1 hd with rfl|g
  ·exact Int.le_trans (by rw[h3];simp only;omega) h1
  ·exact h2 d g
def sendP (pk:Nat->Nat->List my) (a:Nat) (l:List Nat) (c:my):Nat->Nat->List my:=λi U=>if i=a/\U∈l then pk i U++[c]else pk i U
def PkT (B:Int) (n:Nat) (st:Nat->Nat->bF) (pk:Nat->Nat->List my):Prop:=∀ a b,de n a b=true->(pk a b).length=(st a b).T.length/\∀ (U:Nat) d,(st a b).T[U]? =some d->uc B (λc=>(pk a b)[U]? =some c) d
theorem PkT.send {st:Nat->Nat->bF} {pk:Nat->Nat->List my} (h:PkT B n st pk) (hB:B<=B2) {v:ax} (hr:∀ s∈l,Room (st a s)) (h1:Let v.key) (h2:WC v v.ds) (h3:b9 v.ds) (h4:v.n<=B2) (h5:∀ x∈v.ds,x.n<=B2):
  PkT B2 n (jK st a l ⟨(l9 v v.ds).toArray⟩) (sendP pk a l v.ir):=λx y hP=>by
 obtain⟨hl,hk⟩:=h x y hP;unfold jK sendP;by_cases hc:x=a/\y∈l
 ·rw[if_pos hc,if_pos hc];obtain⟨rfl,hy⟩:=hc;have YE:(st x y).T.length-(st x y).lo<8:=hr y hy;unfold pR;rw[if_pos YE];refine⟨by simp[hl],λU d hd=> ?_⟩;rcases R6 U (st x y).T.length with g|g
  ·rw[qlZ g]at hd;exact(hk U d hd).mono hB λc hc=>by rw[qlZ ab];exact hc
  ·have hj:=(bg hd);have:U=(st x y).T.length:=by simp at hj;omega
   subst this;rw[List.getElem?_append_right (CP _)]at hd;simp at hd;subst hd;exact⟨v,rfl,h1,h2,h3,h4,h5,by rw[List.getElem?_append_right ab,hl];simp⟩
 ·rw[if_neg hc,if_neg hc];exact⟨hl,λU d hd=>(hk U d hd).mono hB λc hc=>hc⟩
theorem PkT.mono {st:Nat->Nat->bF} {pk:Nat->Nat->List my} (h:PkT B n st pk) (hB:B<=B2):PkT B2 n st pk:=λx y hP=>⟨(h x y hP).1,λU d hd=>((h x y hP).2 U d hd).mono hB λ_ h=>h⟩
theorem sendP_mem {pk:Nat->Nat->List my} {c:my} {z:my} (h:z∈sendP pk a l c x y):z∈pk x y∨z=c:=by
 unfold sendP at h;split at h
 ·rcases Pv.1 h with g|g
  ·exact .inl g
  ·exact .inr (At.1 g)
 ·exact .inl h
theorem sendP_at {pk:Nat->Nat->List my} {c:my} {U:Nat} {z:my} (h:(pk x y)[U]? =some z):(sendP pk a l c x y)[U]? =some z:=by
 unfold sendP;split
 ·rw[qlZ (bg h)];exact h
 ·exact h
theorem sendTo_lo (st:Nat->Nat->bF) (a:Nat) (l:List Nat) (d:ByteArray) (x y:Nat):(jK st a l d x y).lo=(st x y).lo:=by
 unfold jK pR;split
 ·split <;>rfl
 ·rfl
theorem fly_send {st:Nat->Nat->bF} {pk:Nat->Nat->List my} (h:PkT B n st pk) {b:Nat} {c:my} (gX:(st a b).lo<=(st a b).T.length) (hf:de n a b=true) (hb:b∈l):∃ U,(st a b).lo<=U/\(sendP pk a l c a b)[U]? =some c:=by
 refine⟨(pk a b).length,by rw[(h a b hf).1];exact gX,?_⟩;unfold sendP;rw[if_pos ⟨rfl,hb⟩,List.getElem?_append_right (CP _)];simp
end Go.Proofs.YtehaoggjlciobaaGreat

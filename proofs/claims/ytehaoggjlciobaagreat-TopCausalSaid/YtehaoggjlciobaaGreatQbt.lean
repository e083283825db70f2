/- Part 36 of 40. -/
import Derived.Test.YtehaoggjlciobaaGreatQbs
set_option linter.all false
set_option maxRecDepth 20000
set_option maxHeartbeats 16000000
namespace Go.Proofs.YtehaoggjlciobaaGreat
open Go.Maps Go.RowKit Go.Proofs.Tryz
variable {B er:Int} {a' aJ os ps:List Int} {aH es:List Nat} {fl:List ax} {L:List nK} {c gb i k s t:Nat} {P:Nat->my->Prop} {w:World} {g':aG}
section
variable {B:Int} {g g':aG} {W:List my} {pk:Nat->Nat->List my}
theorem Cau.mono {B2:Int} (h:Cau B g W pk) (hB:B<=B2):Cau B2 g W pk:={h with pkt:=PkT.mono h.pkt hB}
def Up9 (g g':aG):Prop:=∀ i,i<g.n->(g'.σ i).own=(g.σ i).own/\∀ k,Let k->GE (top ((g'.σ i).L k)) (top ((g.σ i).L k))
theorem Cov9.up {ds:List aD} {i:Nat} (h:Cov9 g i ds) (hu:Up9 g g') (hi:i<g.n) (hd:∀ d∈ds,Let d.key):Cov9 g' i ds:=λd hm ho=>by
 obtain⟨h1,h2⟩:=hu i hi;rw[h1]at ho;exact(h2 d.key (hd d hm)).trans (h d hm ho)
theorem up_site {i:Nat} {s:ci} (hs:s.own=(g.σ i).own) (hL:∀ k,Let k->GE (top (s.L k)) (top ((g.σ i).L k))) (hg:g'.σ=ed g.σ i s):Up9 g g':=λU _=>by
 rw[hg];by_cases e:U=i
 ·subst e;rw[nO];exact⟨hs,hL⟩
 ·rw[pT e];exact⟨rfl,λ_ _=>GE.refl _⟩
theorem Cau.put {c i:Nat} {k vl:ByteArray} {gD:Bool} {er:Int} {fl:List ax} (hP:Pln B g) (hP':Pln (B+2) g') (h:Cau B g W pk) (hc:c<4) (hk:Let k) (ji:(g.ss c).1=(i:Int)) (hi:i<g.n) (hp:yP B g c i k vl gD er fl g'):∃ pk',Cau (B+2) g' (W++fl.map ax.ir) pk':=by
 rcases hp with ⟨_,rfl,rfl,_⟩|⟨_,fK,v,σ',ev,p',rfl,hw,e1,e2,e3,e4,e5,lB,hm,rfl⟩
 ·exact⟨pk,by simpa using h.mono ab⟩
 obtain⟨ho,w1,w2,w3,w4,w5,w6,w7,w8,L',b,cO,rfl⟩:=hw;have b':=hP.bY c hc;obtain⟨s1,s2⟩:=seen_ge (g.ss c).2 ((g.σ i).cn,(g.σ i).cs);have eu:fu v.n v.s=true:=w8.1;have qjU:=cO.put9
 have hless:∀ d∈v.ds,c8 d.n d.s v.n v.s=true:=λd hd=>by
  rw[w4]at hd;have:=s2 d hd;unfold c8;exact ql3 (.inl ab)
 have hfresh:∀ w∈W,w.st≠v.ir.st:=λw hw e=>by
  unfold my.st ax.ir at e;injection e with n1 n2;simp only at n1 n2;have:=h.pF w hw i hi (by rw[n2,w5]);simp only at s1;omega
 have hlk:Let v.key:=by rw[w1];exact hk
 have cv:b9 v.ds:=by rw[w4];exact b'
 obtain⟨g2,dm⟩:=eqR ({g with σ:=ed g.σ i {g.σ i with L:=L',cn:=v.n,cs:=v.s},st:=jK g.st i (iO g i (-1) k) ⟨(l9 v v.ds).toArray⟩,bJ:=g.bJ++[ev],ss:=ed g.ss c ((i:Int),p')}:aG);have cp:g2.n=g.n:=by rw[dm];rfl
 have hσ:g2.σ=ed g.σ i {g.σ i with L:=L',cn:=v.n,cs:=v.s}:=by rw[dm]
 have gI:g2.ss=ed g.ss c ((i:Int),p'):=by rw[dm]
 rw[<- dm]at hP'⊢;have tM:(g2.σ i).L=L':=by rw[hσ,nO]
 have jm:Up9 g g2:=up_site (i:=i) (s:={g.σ i with L:=L',cn:=v.n,cs:=v.s}) rfl (λq hq=>by
  have h1:=hP'.pb i ab q hq;have h2:=hP'.Az i ab q hq;rw[tM]at h1 h2;exact top_mono h1 (λy hy=>(h2 y hy).2.2) λx hx=>⟨x,qjU.old q x hx,rfl⟩) hσ
 have htop:GE (top ((g2.σ i).L v.key)) v.st:=by
  obtain⟨y,hy,e⟩:=qjU.has v (At.2 rfl) (by rw[w1];exact ho);have h1:=hP'.pb i ab v.key hlk;rw[tM]at h1⊢;rw[<- e];exact top_ge h1 hy
 have vD:Cov9 g2 i (g.ss c).2:=(h.bY c hc i ji).up jm hi λd hd=>(b'.ok d hd).1
 have fa:Cov9 g2 i (lm v):=λd hd ZC=>by
  unfold lm at hd;rw[w4]at hd;rcases Pv.1 hd with g1|g1
  ·exact vD d g1 ZC
  ·rw[At.1 g1];exact htop
 have hwp:∀ d∈(g.ss c).2++lm v,jc (W++[v.ir]) d:=λd hd=>by
  unfold lm at hd;rw[w4]at hd;rcases Pv.1 hd with g1|g1
  ·exact(h.mD c hc d g1).app
  ·rcases Pv.1 g1 with g1|g1
   ·exact(h.mD c hc d g1).app
   ·rw[At.1 g1];exact⟨v.ir,ao,rfl,rfl⟩
 have hcov:La p' (g.ss c).2:=cov_self hm b';refine⟨sendP pk i (iO g i (-1) k) v.ir,?_⟩;show Cau (B+2) g2 (W++[v.ir]) _
 refine⟨λw hw=> ?_,λa ha b hb e=> ?_,λw hw U hj e=> ?_,λw hw d hd=> ?_,λU hj q hq x hx=> ?_,λU hj x hx=> ?_,?_,λx y z hz=> ?_,λx hx d hd=> ?_,λx hx U hj=> ?_,λU hj q hq x hx=> ?_,λw hw qD jS oX=> ?_,?_⟩
 ·rcases Pv.1 hw with g1|g1
  ·exact h.jH w g1
  ·rw[At.1 g1];exact⟨hlk,cv,eu,hless⟩
 ·rcases Pv.1 ha with g1|g1 <;>rcases Pv.1 hb with g3|g3
  ·exact h.one a g1 b g3 e
  ·rw[At.1 g3]at e;exact absurd e (hfresh a g1)
  ·rw[At.1 g1]at e;exact absurd e.symm (hfresh b g3)
  ·rw[At.1 g1,At.1 g3]
 ·rw[hσ];rcases Pv.1 hw with g1|g1
  ·have h1:=h.pF w g1 U ab e;by_cases e2:U=i
   ·subst e2;rw[nO];show w.n<=v.n;simp only at s1;omega
   ·rw[pT e2];exact h1
  ·rw[At.1 g1]at e⊢;have e:v.s=(U:Int):=e;obtain rfl:U=i:=ab;rw[nO];exact Int.le_refl _
 ·rcases Pv.1 hw with g1|g1
  ·exact(h.dep w g1 d hd).app
  ·rw[At.1 g1]at hd;have hd:d∈v.ds:=hd;rw[w4]at hd;exact(h.mD c hc d hd).app
 ·by_cases e2:U=i
  ·subst e2;rw[tM]at hx;rcases qjU.new q x hx with g1|⟨g1,_⟩
   ·exact List.mem_append_left _ (h.L U hi q hq x g1)
   ·rw[At.1 g1];simp
  ·rw[hσ,pT e2]at hx;exact List.mem_append_left _ (h.L U ab q hq x hx)
 ·rw[hσ]at hx;refine List.mem_append_left _ (h.wt U ab x ?_);by_cases e2:U=i
  ·subst e2;rw[nO]at hx;exact hx
  ·rw[pT e2]at hx;exact hx
 ·have:=PkT.send (n:=g.n) h.pkt (B2:=B+2) ab fK hlk w8 cv ab λx hx=>by
   rw[w4]at hx;have:=hP.sn c hc x hx;omega
  rw[dm];exact this
 ·rcases sendP_mem hz with g1|g1
  ·exact List.mem_append_left _ (h.pkw x y z g1)
  ·rw[g1];simp
 ·rw[gI,upd_snd]at hd;split at hd
  ·exact hwp d (hm.mem d hd)
  ·exact(h.mD x hx d hd).app
 ·rw[gI]at hj⊢;by_cases e2:x=c
  ·subst e2;rw[nO]at hj⊢;obtain rfl:U=i:=by simp only at hj;omega
   intro d hd ZC;rcases Pv.1 (hm.mem d hd)with g1|g1
   ·exact vD d g1 ZC
   ·exact fa d g1 ZC
  ·rw[pT e2]at hj⊢;by_cases DV:U<g.n
   ·exact(h.bY x hx U hj).up jm DV λd hd=>((hP.bY x hx).ok d hd).1
   ·exact λd hd ZC=>h.bY x hx U hj d hd (by rw[hσ,pT ab]at ZC;exact ZC) |> λr=>by rw[hσ,pT ab];exact r
 ·by_cases e2:U=i
  ·subst e2;rw[tM]at hx;rcases qjU.new q x hx with g1|⟨g1,_⟩
   ·exact(h.kept U hi q hq x g1).up jm hi λd hd=>((hP.Az U hi q hq x g1).2.1.ok d hd).1
   ·rw[At.1 g1,w4];exact vD
  ·rw[hσ,pT e2]at hx;exact(h.kept U ab q hq x hx).up jm ab λd hd=>((hP.Az U ab q hq x hx).2.1.ok d hd).1
 ·rw[cp]at jS;rcases Pv.1 hw with g1|g1
  ·obtain⟨u1,u2⟩:=jm qD jS;rw[u1]at oX;rcases h.del w g1 qD jS oX with d1|⟨x,d1,d2⟩|⟨a,b,U,f1,f3,f4,f5,f6⟩
   ·exact .inl ((u2 _ (h.jH w g1).1).trans d1)
   ·refine .inr (.inl ⟨x,?_,d2⟩);rw[hσ];by_cases e2:qD=i
    ·subst e2;rw[nO];exact d1
    ·rw[pT e2];exact d1
   ·exact .inr (.inr ⟨a,b,U,by rw[cp];exact f1,by rw[dm];exact f3,by rw[dm];exact f4,by rw[dm];simp only;rw[sendTo_lo];exact f5,sendP_at f6⟩)
  ·rw[At.1 g1]at oX⊢;by_cases e2:qD=i
   ·subst e2;exact .inl htop
   ·have oX:b4 (g2.σ qD).own v.key:=oX;rw[(jm qD jS).1,hP.own qD jS,owned_iff hP.fit.up,w1]at oX;obtain⟨b,b1,b2,ck⟩:=first_step hP.tree hi jS e2;have hb:=nxG_mem hP (f:= -1) hi jS oX b1 b2 ab ck;have aN:=(Et b hb).2
    have hf:de g.n i b=true:=by
     unfold de;simp only[Bool.and_eq_true,decide_eq_true_eq];exact⟨⟨hi,b1⟩,aN⟩
    obtain⟨U,J6,j2⟩:=fly_send h.pkt (c:=v.ir) (hP.cm i b hf).lo hf hb;exact .inr (.inr ⟨i,b,U,by rw[cp];exact hf,by rw[dm];exact b2,by rw[dm];exact ck,by rw[dm];simp only;rw[sendTo_lo];exact J6,j2⟩)
 ·have vJ:ev.ds=(g.ss c).2:=lB;refine HisOk.app h.Sk (M:=[ev]) (by rw[dm]) (λe he=> ?_) (λU e he=> ?_) (λw hw=> ?_) (λe he _=> ?_) (λa ha l hl bL=> ?_) (λe he a ha bL=> ?_) (λe he h2=> ?_) (λe he h2 w hw hs=> ?_)
  ·rw[At.1 he];exact⟨by rw[e3];exact hk,by rw[vJ];exact b',⟨c,hc,e2⟩,λd hd=>by rw[vJ]at hd;exact(h.mD c hc d hd).app,.inl (by rw[e4,e5];exact eu)⟩
  ·cases U with
   |succ U=>simp at he
   |zero=>
    simp only[List.getElem?_cons_zero,Option.some.injEq]at he;subst he;refine⟨λU y hj hy bL=> ?_,.inl ⟨e1,by rw[e4,e5];exact eu,λd hd=>by rw[e4,e5];rw[vJ,<- w4]at hd;exact hless d hd,λU y hj hy h1 aV=> ?_⟩⟩
    ·rw[qlZ (by simpa using hj)]at hy;obtain⟨r1,r2⟩:=h.Sk.jB y (zV hy) c hc (by rw[bL,e2]);rw[vJ];exact⟨r1,r2⟩
    ·rw[qlZ (by simpa using hj)]at hy;obtain⟨w,hw,_,q2,_⟩:=h.Sk.e2w y (zV hy) h1;exact hfresh w hw (by rw[q2,aV.1,aV.2,e4,e5];rfl)
  ·rw[At.1 hw];exact⟨ev,ao,e1,by rw[e3,<- w1];rfl,by rw[e4,e5];rfl,by rw[vJ,<- w4];rfl⟩
  ·rw[At.1 he];exact⟨v.ir,ao,by rw[e3,<- w1];rfl,by rw[e4,e5];rfl,by rw[vJ,<- w4];rfl⟩
  ·rw[gI,upd_snd];split
   ·rename_i e;subst e;exact cov_up b' hm.cg hcov bL hl
   ·exact bL
  ·rw[At.1 he]at bL⊢;obtain rfl:a=c:=ab;rw[gI,upd_snd,if_pos rfl];refine⟨by rw[vJ];exact hcov,cov_merge hm λd hd=> ?_⟩;rw[At.1 hd];unfold evD;rw[e3,e4,e5];exact⟨List.mem_append_right _ (List.mem_append_right _ (by rw[<- w1];exact At.2 rfl)),eu⟩
  ·rw[At.1 he]at h2;omega
  ·rw[At.1 hw]at hs⊢;obtain⟨U,hj⟩:=List.getElem?_of_mem he;rcases(h.Sk.right U e hj).kind with ⟨q1,_⟩|⟨_,_,⟨q1,q2⟩|⟨m,y,_,hy,y1,y2,y3,_⟩⟩
   ·omega
   ·unfold my.st ax.ir at hs;injection hs with s3 s4;simp only at s3;rw[s3,q1]at eu;unfold fu at eu;have:=qck eu;omega
   ·obtain⟨w,fM,_,q2,_⟩:=h.Sk.e2w y (zV hy) y1;exact absurd (by rw[q2,y2,y3,hs]) (hfresh w fM)
end
section
variable {B B2:Int} {g g2:aG} {W:List my} {pk pk':Nat->Nat->List my}
theorem HisOk.same (h:HisOk g W) (hh:g2.bJ=g.bJ) (hs:∀ c,(g2.ss c).2=(g.ss c).2):HisOk g2 W:=
 ⟨by rw[hh];exact h.ev,by rw[hh];exact h.right,by rw[hh];exact h.w2e,by rw[hh];exact h.e2w,by rw[hh];intro e he c hc bL;rw[hs];exact h.jB e he c hc bL,by rw[hh];exact h.rd⟩
theorem Cau.sites (hP:Pln B g) (h:Cau B g W pk) (b':g2.ps=g.ps) (gI:g2.ss=g.ss) (hh:g2.bJ=g.bJ)
  (ho:∀ i,i<g.n->(g2.σ i).own=(g.σ i).own) (bL:∀ i,i<g.n->(g.σ i).cn<=(g2.σ i).cn) (hL:∀ i,i<g.n->∀ k,Let k->GE (top ((g2.σ i).L k)) (top ((g.σ i).L k)))
  (hN:∀ i,i<g.n->∀ k,Let k->∀ x∈(g2.σ i).L k,x∈(g.σ i).L k∨(x.ir∈W/\Cov9 g i x.ds)) (hw:∀ i,i<g.n->∀ x∈(g2.σ i).wait,x.ir∈W)
  (hwd:∀ i,i<g.n->∀ x∈(g.σ i).wait,(∃ y∈(g2.σ i).wait,y.ir=x.ir)∨GE (top ((g2.σ i).L x.key)) x.st) (s9:PkT B2 g.n g2.st pk') (hpw:∀ a b,∀ c∈pk' a b,c∈W)
  (hf:∀ c∈W,∀ qD,qD<g.n->b4 (g.σ qD).own c.key->Fly g pk c qD->GE (top ((g2.σ qD).L c.key)) c.st∨(∃ x∈(g2.σ qD).wait,x.ir=c)∨Fly g2 pk' c qD):Cau B2 g2 W pk':=by
 have hn:g2.n=g.n:=by unfold aG.n;rw[b']
 have jm:Up9 g g2:=λi hi=>⟨ho i hi,hL i hi⟩;refine⟨h.jH,h.one,λc hc i hi e=>Int.le_trans (h.pF c hc i ab e) (bL i ab),h.dep,λi hi k hk x hx=> ?_,λi hi x hx=>hw i ab x hx,?_,hpw,by rw[gI];exact h.mD,λc hc i e=> ?_,λi hi k hk x hx=> ?_,λc hc qD jS oX=> ?_,h.Sk.same hh λc=>by rw[gI]⟩
 ·rcases hN i ab k hk x hx with g1|g1
  ·exact h.L i ab k hk x g1
  ·exact g1.1
 ·rw[hn];exact s9
 ·rw[gI]at e⊢;exact(h.bY c hc i e).up jm (by have:=hP.sl c hc;omega) λd hd=>((hP.bY c hc).ok d hd).1
 ·rcases hN i ab k hk x hx with g1|⟨g1,g2⟩
  ·exact(h.kept i ab k hk x g1).up jm ab λd hd=>((hP.Az i ab k hk x g1).2.1.ok d hd).1
  ·exact g2.up jm ab λd hd=>((h.jH _ g1).2.1.ok d hd).1
 ·rw[hn]at jS;rw[ho qD jS]at oX;rcases h.del c hc qD jS oX with d1|⟨x,d1,d2⟩|d1
  ·exact .inl ((hL qD jS _ (h.jH c hc).1).trans d1)
  ·rcases hwd qD jS x d1 with ⟨y,y1,y2⟩|y1
   ·exact .inr (.inl ⟨y,y1,y2.trans d2⟩)
   ·rw[<- d2];exact .inl y1
  ·exact hf c hc qD jS oX d1
theorem Cau.cm (hP:Pln B g) (h:Cau B g W pk) (b':g2.ps=g.ps) (gI:g2.ss=g.ss) (hh:g2.bJ=g.bJ) (hσ:g2.σ=g.σ) (hs:∀ a b,(g2.st a b).T=(g.st a b).T/\(g2.st a b).lo=(g.st a b).lo) (hB:B<=B2):Cau B2 g2 W pk:=by
 refine Cau.sites (g2:=g2) (pk':=pk) hP h b' gI hh (λi _=>by rw[hσ]) (λi _=>by rw[hσ];exact Int.le_refl _) (λi _ k _=>by rw[hσ];exact GE.refl _) (λi _ k _ x hx=>by rw[hσ]at hx;exact .inl hx) (λi hi x hx=>by rw[hσ]at hx;exact h.wt i hi x hx) (λi hi x hx=> .inl ⟨x,by rw[hσ];exact hx,rfl⟩) (λa b hf=> ?_) h.pkw (λc hc qD jS oX hf=> .inr (.inr ?_))
 ·rw[(hs a b).1];exact⟨(h.pkt a b hf).1,λU d hd=>((h.pkt a b hf).2 U d hd).mono hB λ_ h=>h⟩
 ·obtain⟨a,b,U,f1,f3,f4,f5,f6⟩:=hf;have hn:g2.n=g.n:=by unfold aG.n;rw[b']
  exact⟨a,b,U,by rw[hn];exact f1,by rw[b'];exact f3,by rw[b'];exact f4,by rw[(hs a b).2];exact f5,f6⟩
theorem ready_cov {i:Nat} {bM ds:List aD} (h:j0 (g.σ i).L bM) (hr:oA bM (g.σ i).own ds) (hd:∀ d∈ds,Let d.key):Cov9 g i ds:=λd hm ho=>by
 have:=hr d hm ho;rw[h.gt d.key (hd d hm)]at this;exact this
theorem Cau.leave (h:Cau B g W pk) {c:Nat} (hc:c<4):Cau B {g with ss:=ed g.ss c (-1,(g.ss c).2)} W pk:=
 h.sess hc (h.mD c hc) (λi hi=>ab) (h.Sk.same rfl λx=>by
  rw[show({g with ss:=ed g.ss c (-1,(g.ss c).2)}:aG).ss x=ed g.ss c (-1,(g.ss c).2) x from rfl,upd_snd];split
  ·rename_i e;rw[e]
  ·rfl)
theorem Cau.enter (hP:Pln B g) (h:Cau B g W pk) {c s:Nat} {er:Int} (hc:c<4) (hg:WB g c s er g2):Cau B g2 W pk:=by
 rcases hg with ⟨_,rfl⟩|⟨_,hs,_,⟨bM,h1,h2⟩,rfl⟩
 ·exact h
 ·refine h.sess hc (h.mD c hc) (λi hi=> ?_) (h.Sk.same rfl λx=> ?_)
  ·obtain rfl:i=s:=ab;exact ready_cov h1 h2 λd hd=>((hP.bY c hc).ok d hd).1
  ·rw[show({g with ss:=ed g.ss c ((s:Int),(g.ss c).2)}:aG).ss x=ed g.ss c ((s:Int),(g.ss c).2) x from rfl,upd_snd];split
   ·rename_i e;rw[e]
   ·rfl
theorem Cau.aside (h:Cau B g W pk) (pins:List cf) (jn:Nat->List ByteArray×List Int):Cau B {g with pins:=pins,jn:=jn} W pk:=
 ⟨h.jH,h.one,h.pF,h.dep,h.L,h.wt,h.pkt,h.pkw,h.mD,h.bY,h.kept,h.del,h.Sk.same rfl λ_=>rfl⟩
theorem Cau.begin_ (h:Cau B g W pk) {c:Nat} {er:Int} {fl:List ax} (hg:Yi g c er fl g2):Cau B g2 W pk/\∀ x∈fl,x.ir∈W:=by
 rcases hg with ⟨_,rfl,rfl⟩|⟨_,hf,lH,b,rfl⟩
 ·exact⟨h,λx hx=>by cases hx⟩
 ·exact⟨h.aside lH _,λx hx=>by
   obtain⟨s,k,h1,h2,h3⟩:=hf x hx;exact h.L s h1 k h2 x h3⟩
theorem Cau.again (hP:Pln B g) (h:Cau B g W pk) {s t:Nat} {er:Int} (hg:Wy g s t er g2):Cau B g2 W pk:=by
 rcases hg with rfl|⟨_,_,rfl⟩
 ·exact h
 ·refine h.cm hP rfl rfl rfl rfl (λa b=> ?_) (Int.le_refl _);show(gj g.st s t (tX (g.st s t)) a b).T=_/\(gj g.st s t (tX (g.st s t)) a b).lo=_
  unfold gj;by_cases e:a=s/\b=t
  ·obtain⟨rfl,rfl⟩:=e;rw[if_pos ⟨rfl,rfl⟩];exact⟨rfl,rfl⟩
  ·rw[if_neg e];exact⟨rfl,rfl⟩
theorem Cau.clean (hP:Pln B g) (h:Cau B g W pk) (hg:WR g g2):Cau B g2 W pk:=by
 obtain⟨σ',hc,rfl⟩:=hg;have hs:∀ i,i<g.n->∃ L',An (g.σ i).L L'/\σ' i={g.σ i with L:=L'}:=λi hi=>(hc i hi).1 hi;refine Cau.sites hP h rfl rfl rfl (λi hi=> ?_) (λi hi=> ?_) (λi hi k hk=> ?_) (λi hi k hk x hx=> .inl ?_) (λi hi x hx=>h.wt i hi x ?_) (λi hi x hx=> .inl ⟨x,?_,rfl⟩) h.pkt h.pkw (λc hc qD jS oX hf=> .inr (.inr hf))
 all_goals
  obtain⟨L',h1,h2⟩:=hs i hi;simp only[h2]at*
 ·exact Int.le_refl _
 ·have:=(h1 k hk).2;unfold top;rw[this];exact GE.refl _
 ·exact(h1 k hk).1.subset hx
 ·exact hx
 ·exact hx
end
section
variable {B B2:Int} {g g2:aG} {W:List my} {pk pk':Nat->Nat->List my}
theorem Cau.bi {i:Nat} {s:ci} {l:List ax} (hP:Pln B g) (E6:Pln B2 g2) (h:Cau B g W pk) (hi:i<g.n) (hσ:g2.σ=ed g.σ i s) (b':g2.ps=g.ps) (gI:g2.ss=g.ss) (hh:g2.bJ=g.bJ)
  (ho:s.own=(g.σ i).own) (bL:(g.σ i).cn<=s.cn) (qjU:Put9 (g.σ i).own (g.σ i).L l s.L) (hl:∀ x∈l,x.ir∈W/\Cov9 g i x.ds) (hw:∀ x∈s.wait,x.ir∈W)
  (hwd:∀ x∈(g.σ i).wait,x∈s.wait∨x∈l) (s9:PkT B2 g.n g2.st pk') (hpw:∀ a b,∀ c∈pk' a b,c∈W)
  (hf:∀ c∈W,∀ qD,qD<g.n->b4 (g.σ qD).own c.key->Fly g pk c qD->GE (top ((g2.σ qD).L c.key)) c.st∨(∃ x∈(g2.σ qD).wait,x.ir=c)∨Fly g2 pk' c qD):Cau B2 g2 W pk':=by
 have hn:g2.n=g.n:=by unfold aG.n;rw[b']
 have hs:g2.σ i=s:=by rw[hσ,nO]
 have aN:∀ U,U≠i->g2.σ U=g.σ U:=λU e=>by rw[hσ,pT e]
 refine Cau.sites hP h b' gI hh (λU _=> ?_) (λU _=> ?_) (λU hj k hk=> ?_) (λU hj k hk x hx=> ?_) (λU hj x hx=> ?_) (λU hj x hx=> ?_) s9 hpw hf
 ·by_cases e:U=i
  ·subst e;rw[hs];exact ho
  ·rw[aN U e]
 ·by_cases e:U=i
  ·subst e;rw[hs];exact bL
  ·rw[aN U e];exact Int.le_refl _
 ·by_cases e:U=i
  ·subst e;have h1:=E6.pb U ab k hk;have h2:=E6.Az U ab k hk;rw[hs]at h1 h2⊢;exact top_mono h1 (λy hy=>(h2 y hy).2.2) λx hx=>⟨x,qjU.old k x hx,rfl⟩
  ·rw[aN U e];exact GE.refl _
 ·by_cases e:U=i
  ·subst e;rw[hs]at hx;exact(qjU.new k x hx).imp id λ⟨g1,_⟩=>hl x g1
  ·rw[aN U e]at hx;exact .inl hx
 ·by_cases e:U=i
  ·subst e;rw[hs]at hx;exact hw x hx
  ·rw[aN U e]at hx;exact h.wt U hj x hx
 ·by_cases e:U=i
  ·subst e;rw[hs];rcases hwd x hx with g1|g1
   ·exact .inl ⟨x,g1,rfl⟩
   ·obtain⟨x1,_,_,x2⟩:=hP.wt U hi x hx;obtain⟨y,hy,qc⟩:=qjU.has x g1 x2;have h1:=E6.pb U ab x.key x1;rw[hs]at h1;exact .inr (qc▸top_ge h1 hy)
  ·rw[aN U e];exact .inl ⟨x,hx,rfl⟩
theorem put9_same (own:List Rg) (L:ByteArray->List ax):Put9 own L [] L:=⟨λ_ _ h=>h,λ_ _ h=> .inl h,λx hx=>by cases hx⟩
theorem Cau.steps {qD:ee} {er:Int} {fl:List ax} (hP:Pln B g) (E6:Pln B g2) (h:Cau B g W pk) (hg:Wu g qD er fl g2):Cau B g2 W pk/\∀ x∈fl,x.ir∈W:=by
 rcases hg with ⟨_,rfl,rfl⟩|⟨_,i,x,σ',_,hi,rfl,hs,dm⟩
 ·exact⟨h,λx hx=>by cases hx⟩
 rcases hs with ⟨hb,_⟩|⟨_,U,bM,L',b2,hj,h1,h2,h3,rfl⟩
 ·cases hb
 have hx:=zV hj;have hxw:=h.wt i hi x hx;obtain⟨rR,hje⟩:=pi.1 hj
 have fW:(g.σ i).wait=(g.σ i).wait.take U++x::(g.σ i).wait.drop (U+1):=by
  rw[<- hje,<- List.drop_eq_getElem_cons rR,List.take_append_drop]
 refine⟨?_,λy hy=>by rw[At.1 hy];exact hxw⟩;refine Cau.bi (l:=[x]) hP E6 h hi (s:={g.σ i with wait:=(g.σ i).wait.take U++(g.σ i).wait.drop (U+1),L:=L'}) (by rw[dm]) (by rw[dm]) (by rw[dm]) (by rw[dm]) rfl (Int.le_refl _) h3.put9 (λy hy=> ?_) (λy hy=> ?_) (λy hy=> ?_) (by rw[dm];exact h.pkt) h.pkw (λc hc qD jS oX hf=> .inr (.inr ?_))
 ·rw[At.1 hy];exact⟨hxw,ready_cov h1 h2 λd hd=>((hP.wt i hi x hx).2.1.ok d hd).1⟩
 ·refine h.wt i hi y ?_;rcases Pv.1 hy with g1|g1
  ·exact List.mem_of_mem_take g1
  ·exact List.mem_of_mem_drop g1
 ·rw[fW]at hy;rcases Pv.1 hy with g1|g1
  ·exact .inl (List.mem_append_left _ g1)
  ·rcases KX.1 g1 with rfl|g1
   ·exact .inr (At.2 rfl)
   ·exact .inl (List.mem_append_right _ g1)
 ·rw[dm];exact hf
theorem Cau.pick {s t:Nat} {a hh er:Int} {fl:List ax} (hP:Pln B g) (E6:Pln (B+2) g2) (h:Cau B g W pk) (hg:WQ B (λU c=>(pk s t)[U]? =some c) g s t a hh er fl g2):∃ pk',Cau (B+2) g2 W pk'/\∀ x∈fl,x.ir∈W:=by
 rcases hg with ⟨_,rfl,rfl⟩|⟨_,hf,_,_,⟨rfl,bW,rfl⟩|⟨n1,n2,lk,v,yt,σ',rfl,htx,hlk,xY,fq,cX,fK,harr,dm⟩⟩
 ·exact⟨pk,h.mono ab,λx hx=>by cases hx⟩
 ·refine⟨pk,h.cm hP rfl rfl rfl rfl (λx y=> ?_) ab,λx hx=>by cases hx⟩;show(gj g.st s t (mr (g.st s t) a hh) x y).T=_/\(gj g.st s t (mr (g.st s t) a hh) x y).lo=_
  unfold gj;by_cases e:x=s/\y=t
  ·obtain⟨rfl,rfl⟩:=e;rw[if_pos ⟨rfl,rfl⟩];refine⟨(YN _ _ _).2,?_⟩;unfold mr;unfold nI at bW;split
   ·rfl
   ·rename_i q hq
    split
    ·split <;>rfl
    ·split
     ·rfl
     ·split
      ·rename_i q1 q2 q3
       exfalso
       rcases bW with r|r|r
       ·exact q2 r
       ·exact q1 r
       ·rw[decide_eq_false_iff_not]at r;exact r ⟨by rw[hq,q3],ak,ak⟩
      ·rfl
  ·rw[if_neg e];exact⟨rfl,rfl⟩
 ·have hfp:=hf;unfold de at hfp;simp only[Bool.and_eq_true,decide_eq_true_eq]at hfp;obtain⟨⟨j1,lS⟩,aV⟩:=hfp;have hvW:v.ir∈W:=h.pkw s t _ (zV fq);have Dm:=h.jH _ hvW
  have hpq:rj (g.st s t) a=some (g.st s t).lo:=by
   unfold nI at lk;exact(qck lk).1
  have hS:mr (g.st s t) a hh=⟨(g.st s t).T,(g.st s t).lo+1,(g.st s t).aw.eraseIdx a.toNat⟩:=by
   unfold mr;rw[hpq];simp[n1,n2]
  rw[hS]at dm
  have aL:v.n<=B/\∀ x∈v.ds,x.n<=B:=by
   obtain⟨hl,hk⟩:=h.pkt s t hf;have an:=(bg fq);obtain⟨v',_,_,_,_,k1,k2,k3⟩:=hk (g.st s t).lo _ (vF ab);have e:v'.ir=v.ir:=by rw[fq]at k3;injection k3 with k3;exact k3.symm
   unfold ax.ir at e;injection e with _ _ _ e4 _ lB;rw[<- e4,<- lB];exact⟨k1,k2⟩
  obtain⟨st1,hst1⟩:=eqR (gj g.st s t ⟨(g.st s t).T,(g.st s t).lo+1,(g.st s t).aw.eraseIdx a.toNat⟩);rw[<- hst1]at dm
  have e1:∀ x y,(st1 x y).T=(g.st x y).T/\(¬(x=s/\y=t)->st1 x y=g.st x y)/\(st1 s t).lo=(g.st s t).lo+1:=λx y=>by
   rw[hst1];refine⟨?_,λe=> ?_,by unfold gj;rw[if_pos ⟨rfl,rfl⟩]⟩
   ·unfold gj;split
    ·rename_i e;rw[e.1,e.2]
    ·rfl
   ·unfold gj;rw[if_neg e]
  have hpk1:PkT B g.n st1 pk:=λx y hP=>by rw[(e1 x y).1];exact h.pkt x y hP
  have hn:g2.n=g.n:=by rw[dm];rfl
  have SH:∀ x y,(g2.st x y).lo=(st1 x y).lo:=λx y=>by rw[dm];exact sendTo_lo _ _ _ _ _ _
  obtain⟨c1,c2,c3,c4⟩:σ'.own=(g.σ t).own/\(g.σ t).cn<=σ'.cn/\σ'.L=(g.σ t).L/\((∀ x∈(g.σ t).wait,x∈σ'.wait)/\∀ x∈σ'.wait,x∈(g.σ t).wait∨x=v):=by
   rcases harr with ⟨_,_,rfl⟩|⟨_,_,_,_,rfl⟩|⟨_,_,_,rfl⟩
   ·exact⟨rfl,stMax_ge _ _,rfl,λ_ h=>h,λ_ h=> .inl h⟩
   ·exact⟨rfl,stMax_ge _ _,rfl,λ_ h=>List.mem_append_left _ h,λx hx=>(Pv.1 hx).imp id At.1⟩
   ·exact⟨rfl,Int.le_refl _,rfl,λ_ h=>h,λ_ h=> .inl h⟩
  refine⟨sendP pk t (iO g t s v.key) v.ir,Cau.bi (l:=[]) hP E6 h lS (s:=σ') (by rw[dm]) (by rw[dm]) (by rw[dm]) (by rw[dm]) c1 c2 (by rw[c3];exact put9_same _ _) (λx hx=>by cases hx) (λx hx=> ?_) (λx hx=> .inl (c4.1 x hx)) ?_ (λx y z hz=> ?_) (λc hc qD jS oX qu=> ?_),λx hx=>by rw[At.1 hx];exact hvW⟩
  ·rcases c4.2 x hx with g1|rfl
   ·exact h.wt t lS x g1
   ·exact hvW
  ·rw[dm];refine hpk1.send (B2:=B+2) ab (λx hx=> ?_) hlk xY Dm.2.1 ab λx hx=>by have:=aL.2 x hx;omega
   rw[(e1 t x).2.1 λe=>aV e.1.symm];exact fK x hx
  ·rcases sendP_mem hz with g1|rfl
   ·exact h.pkw x y z g1
   ·exact hvW
  ·obtain⟨x,y,U,f0,f3,f4,f5,f6⟩:=qu;have f12:=f0;unfold de at f12;simp only[Bool.and_eq_true,decide_eq_true_eq]at f12;obtain⟨⟨f1,f2⟩,_⟩:=f12;by_cases jl:(x=s/\y=t)/\U=(g.st s t).lo
   ·obtain⟨⟨rfl,rfl⟩,rfl⟩:=jl;have gF:c=v.ir:=by rw[fq]at f6;injection f6 with f6;exact f6.symm
    subst gF;by_cases hot:qD=y
    ·subst hot;have oX:b4 (g.σ qD).own v.key:=oX;have dp:g2.σ qD=σ':=by rw[dm];exact nO _ _ _
     rw[dp,c3];rcases harr with ⟨_,r,_⟩|⟨_,_,_,_,rfl⟩|⟨_,_,r,rfl⟩
     ·exact absurd oX r
     ·exact .inr (.inl ⟨v,ao,rfl⟩)
     ·rcases r with (⟨z,z1,z2,z3⟩|⟨z,z1,z2⟩)|r
      ·have hh3:=hP.pb qD jS v.key hlk;have:=top_ge hh3 z1;unfold ax.st at this;rw[z2,z3]at this;exact .inl this
      ·refine .inr (.inl ⟨z,z1,h.one _ (h.wt qD jS z z1) _ hvW ?_⟩);unfold Hd at z2;unfold my.st ax.ir;simp only;rw[z2.2.1,z2.2.2]
      ·have:=cX oX;omega
    ·have oX:b4 (g.σ qD).own v.key:=oX;rw[hP.own qD jS,owned_iff hP.fit.up]at oX;obtain⟨b,b1,b2,ck,iV⟩:=first_next hP.tree f1 jS f4 hot;have hb:=nxG_mem hP (f:=(x:Int)) f2 jS oX b1 b2 ab iV;have aN:=(Et b hb).2
     have hfb:de g.n y b=true:=by
      unfold de;simp only[Bool.and_eq_true,decide_eq_true_eq];exact⟨⟨f2,b1⟩,aN⟩
     have Ze:=(e1 y b).2.1 λe=>ab;obtain⟨U,J6,j2⟩:=fly_send hpk1 (c:=v.ir) (a:=y) (b:=b) (by rw[Ze];exact(hP.cm y b hfb).lo) hfb hb;exact .inr (.inr ⟨y,b,U,by rw[hn];exact hfb,by rw[dm];exact b2,by rw[dm];exact iV,by rw[SH];exact J6,j2⟩)
   ·refine .inr (.inr ⟨x,y,U,by rw[hn];exact f0,by rw[dm];exact f3,by rw[dm];exact f4,?_,sendP_at f6⟩);rw[SH];by_cases e:x=s/\y=t
    ·obtain⟨rfl,rfl⟩:=e;rw[(e1 x y).2.2];have:U≠(g.st x y).lo:=λe=>jl ⟨⟨rfl,rfl⟩,e⟩;omega
    ·rw[(e1 x y).2.1 e];exact f5
end
theorem maxOf_in (l:List (Int×Int)):maxOf l=(0,0)∨maxOf l∈l:=by
 have key:∀ (l:List (Int×Int)) m,l.foldl zz m=m∨l.foldl zz m∈l:=λl=>by
  induction l with
  |nil=>exact λ_=> .inl rfl
  |cons a t ih=>
   intro m;show t.foldl zz (zz m a)=m∨_
   rcases ih (zz m a)with e|e
   ·rw[show(a::t).foldl zz m=t.foldl zz (zz m a)from rfl,e];unfold zz;split
    ·exact .inr (List.mem_cons_self ..)
    ·exact .inl rfl
   ·exact .inr (zM _ e)
 exact key l (0,0)
section
variable {B B2:Int} {g g2:aG} {W:List my} {pk pk':Nat->Nat->List my}
theorem Cau.end_ {c i:Nat} {er:Int} {fl:List ax} (hP:Pln B g) (h:Cau B g W pk) (hc:c<4) (ji:(g.ss c).1=(i:Int)) (hg:XL g c i er fl g2):Cau B g2 W pk/\∀ x∈fl,x.ir∈W:=by
 rcases hg with ⟨_,rfl,lH,rfl⟩|⟨_,ds,low,p',bM,lH,pa,pn,pc,ha,hb,Ag,hcut,hm,F6,jl,rfl⟩
 ·exact⟨h.aside lH g.jn,λx hx=>by cases hx⟩
 have hi:i<g.n:=by have:=hP.sl c hc;omega
 have b':=hP.bY c hc
 have qu:∀ x∈fl,x.ir∈W/\fu x.n x.s=true/\x.st=gt ds x.key:=λx hx=>by
  obtain⟨s,k,h1,h2,h3,h4⟩:=ha x hx;have hk:=hP.jn c hc k h2;obtain⟨h5,_,h6⟩:=hP.Az s h1 k hk x h3;exact⟨h.L s h1 k hk x h3,h6,by rw[h5];exact h4⟩
 refine⟨?_,λx hx=>(qu x hx).1⟩
 have ja:∀ d∈(g.ss c).2++fl.flatMap lm,jc W d:=λd hd=>by
  rcases Pv.1 hd with g1|g1
  ·exact h.mD c hc d g1
  ·obtain⟨x,hx,g2⟩:=List.mem_flatMap.1 g1;exact h.wr_saw (qu x hx).1 d g2
 have vD:La p' (g.ss c).2:=cov_self hm b'
 have hstk:∀ k∈(g.jn c).1,gt ds k=(0,0)∨∃ x∈fl,x.key=k/\x.st=gt ds k:=λk hk=>by
  by_cases e:gt ds k=(0,0)
  ·exact .inl e
  ·exact .inr (hb k hk e)
 have hnz:∀ k∈(g.jn c).1,fu (gt ds k).1 (gt ds k).2=true∨((gt ds k).1=0/\(gt ds k).2=0):=λk hk=>by
  rcases hstk k hk with e|⟨x,hx,e1,e2⟩
  ·rw[e];exact .inr ⟨rfl,rfl⟩
  ·rw[<- e2];exact .inl (qu x hx).2.1
 have zU:∀ k∈(g.jn c).1,La p' [⟨k,(gt ds k).1,(gt ds k).2⟩]:=λk hk=>by
  rcases hstk k hk with e|⟨x,hx,e1,e2⟩
  ·rw[e];exact cov_zero hm.cg k
  ·refine cov_merge hm λd hd=> ?_;rw[At.1 hd,<- e2,<- e1];refine⟨List.mem_append_right _ (List.mem_flatMap.2 ⟨x,hx,?_⟩),(qu x hx).2.1⟩;unfold lm;exact List.mem_append_right _ (At.2 rfl)
 have rQ:∀ k∈(g.jn c).1,GE (gt ds k) (gt p' k):=λk hk=>by
  have hz:GE (gt ds k) (0,0):=by
   rcases hnz k hk with e|⟨e1,e2⟩
   ·exact GE.zero e
   ·rw[GE.iff];simp only;omega
  rcases gt_wr hm.cg k with e|⟨d,hd,uC,e⟩
  ·rw[e];exact hz
  ·rw[e]
   have qc9:d∈(g.ss c).2++fl.flatMap (·.ds)->GE (gt ds k) d.st:=λhU=>by
    have eu:fu d.n d.s=true:=(hm.cg.ok d hd).2;obtain⟨y,hy,y1,y2⟩:=Ag.all d hU eu;have y3:=Ct Ag.cg.pb hy;rw[y1,uC]at y3;have SI:GE (maxOf (fi fl k)) (gt low k):=hcut k hk;rw[y3]at SI;have h9:GE (maxOf (fi fl k)) d.st:=SI.trans y2;rcases maxOf_in (fi fl k)with e|e
    ·rw[e]at h9;exact absurd h9 (GE.not eu)
    ·obtain⟨x,hx,e2⟩:=List.mem_map.1 e;obtain⟨lR,lV⟩:=List.mem_filter.1 hx;have lV:x.key=k:=qck lV;have:=(qu x lR).2.2;rw[lV]at this;rw[<- this];rw[<- e2]at h9;exact h9
   rcases Pv.1 (hm.mem d hd)with g1|g1
   ·exact qc9 (List.mem_append_left _ g1)
   ·obtain⟨x,hx,g2⟩:=List.mem_flatMap.1 g1;unfold lm at g2;rcases Pv.1 g2 with g3|g3
    ·exact qc9 (List.mem_append_right _ (List.mem_flatMap.2 ⟨x,hx,g3⟩))
    ·rw[At.1 g3]at uC⊢;have:=(qu x hx).2.2;rw[show x.key=k from uC]at this;rw[<- this];exact GE.refl _
 obtain⟨M,hM⟩:=eqR ((g.jn c).1.map (λk=>(⟨2,c,k,(gt ds k).1,(gt ds k).2,pa,pn,pc,p'⟩:nK)))
 have hMe:∀ e∈M,∃ k∈(g.jn c).1,e=⟨2,c,k,(gt ds k).1,(gt ds k).2,pa,pn,pc,p'⟩:=λe he=>by
  rw[hM]at he;obtain⟨k,hk,e2⟩:=List.mem_map.1 he;exact⟨k,hk,e2.symm⟩
 rw[<- hM];refine h.sess hc (Cau.wr_merge hm ja) (λU hj=> ?_) ?_
 ·obtain rfl:U=i:=ab;exact ready_cov F6 jl λd hd=>(hm.cg.ok d hd).1
 ·have:=HisOk.app (g':={g with ss:=ed g.ss c ((i:Int),p'),bJ:=g.bJ++M,jn:=g.jn,pins:=lH}) (V:=[]) (M:=M) h.Sk rfl (λe he=> ?_) (λU e he=> ?_) (λ_ hx=>by cases hx) (λe he h1=> ?_) (λa ha l hl bL=> ?_) (λe he a ha bL=> ?_) (λe he _ w hw hs=> ?_) (λ_ _ _ _ hx=>by cases hx)
  ·simpa using this
  ·obtain⟨k,hk,rfl⟩:=hMe e he;exact⟨hP.jn c hc k hk,hm.cg,⟨c,hc,rfl⟩,λd hd=>(Cau.wr_merge hm ja d hd).app,hnz k hk⟩
  ·obtain⟨k,hk,rfl⟩:=hMe e (zV he);refine⟨λm y gd hy bL=> ?_,.inr ⟨rfl,rQ k hk,?_⟩⟩
   ·rcases R6 m g.bJ.length with hl|hl
    ·rw[qlZ hl]at hy;have hy:=zV hy;obtain⟨h1,h2⟩:=h.Sk.jB y hy c hc bL;obtain⟨_,y2,_,_,y5⟩:=h.Sk.ev y hy;exact⟨cov_up b' hm.cg vD h1 (λz hz=> .inl (y2.ok z hz).2),cov_up b' hm.cg vD h2 (λz hz=>by rw[At.1 hz];exact y5)⟩
    ·rw[List.getElem?_append_right hl]at hy;obtain⟨k2,bb,rfl⟩:=hMe y (zV hy);exact⟨cov_mem hm.cg λ_ h=>h,zU k2 bb⟩
   ·rcases hstk k hk with e|⟨x,hx,e1,e2⟩
    ·exact .inl ⟨by simp only[e],by simp only[e]⟩
    ·obtain⟨y,hy,y1,y2,y3,_⟩:=h.Sk.w2e _ (qu x hx).1;obtain⟨m,gd⟩:=List.getElem?_of_mem hy;have Mh:=(bg gd);injection y3 with y3 y4;refine .inr ⟨m,y,ab,by rw[qlZ Mh];exact gd,y1,?_,?_,by rw[y2];exact e1⟩
     ·show y.n=(gt ds k).1;rw[<- e2,y3];rfl
     ·show y.s=(gt ds k).2;rw[<- e2,y4];rfl
  ·obtain⟨k,_,rfl⟩:=hMe e he;simp only at h1;omega
  ·rw[upd_snd];split
   ·rename_i e;subst e;exact cov_up b' hm.cg vD bL hl
   ·exact bL
  ·obtain⟨k,hk,rfl⟩:=hMe e he;obtain rfl:c=a:=by simp only at bL;omega
   rw[upd_snd,if_pos rfl];exact⟨cov_mem hm.cg λ_ h=>h,zU k hk⟩
  ·obtain⟨k,hk,rfl⟩:=hMe e he;have hw:w∈W:=by simpa using hw
   rcases hstk k hk with e|⟨x,hx,e1,e2⟩
   ·simp only[e]at hs;have:=(h.jH w hw).2.2.1;unfold my.st at hs;injection hs with s1 s2;rw[s1]at this;unfold fu at this;have:=qck this;omega
   ·have hxw:=(qu x hx).1;have:w=x.ir:=h.one w hw _ hxw (by rw[hs];exact e2.symm);rw[this];exact cov_merge hm λz hz=>⟨List.mem_append_right _ (List.mem_flatMap.2 ⟨x,hx,by unfold lm;exact List.mem_append_left _ hz⟩),jc.ok h (h.dep _ hxw z hz)⟩
theorem Cau.rows {aH:List Nat} {aJ a':List Int} (hP:Pln B g) (E6:Pln B g2) (h:Cau B g W pk) (hn:a'.length=g.n) (Lp:eA aH aJ a' a'.length) (hw:∀ i,i<g.n->(g.σ i).wait=[]) (qiS:∀ a c,a<6->c<6->de g.n a c=true->(g.st a c).T.length<=(g.st a c).lo) (hg:Xa g aH aJ a' g2):Cau B g2 W pk:=by
 obtain⟨l,σ',hcf,nR,dm⟩:=hg;have cp:g2.n=g.n:=by rw[dm];exact hn
 have h6:=hP.fit.cV;have bR:∀ i,i<g.n->WZ g aH aJ l i (g2.σ i):=λi hi=>by rw[dm];exact(nR i hi).1 hi
 have hbit:∀ k (i:Nat),b4 (lE aH aJ i) k↔cq (ow aH aJ k) i=true:=λk i=>owned_iff Lp.fit.up i k
 have old:∀ c∈W,∀ a,a<g.n->cq (ow g.es g.os c.key) a=true->GE (top ((g.σ a).L c.key)) c.st:=λc hc a ha hb=>by
  have ho:b4 (g.σ a).own c.key:=by rw[hP.own a ha,owned_iff hP.fit.up];exact hb
  rcases h.del c hc a ha ho with d1|⟨x,d1,_⟩|⟨x,y,U,f0,_,_,f5,f6⟩
  ·exact d1
  ·rw[hw a ha]at d1;cases d1
  ·have f1:=f0;unfold de at f1;simp only[Bool.and_eq_true,decide_eq_true_eq]at f1;have h1:=qiS x y ab ab f0;have h2:=(bg f6);have h3:=(h.pkt x y f0).1;omega
 have new:∀ c∈W,∀ qD,qD<g.n->b4 (lE aH aJ qD) c.key->GE (top ((g2.σ qD).L c.key)) c.st:=λc hc qD ho oX=>by
  have hk:=(h.jH c hc).1;have eu:=(h.jH c hc).2.2.1;obtain⟨L1,wt,L',hs,Mh,_,cO⟩:=bR qD ho;have qjU:=cO.put9;have hsrt:=E6.pb qD ab c.key hk;have hver:=E6.Az qD ab c.key hk;have hL:(g2.σ qD).L=L':=by rw[hs]
  rw[hL]at hsrt hver⊢
  cases hb:cq (ow g.es g.os c.key) qD with
  |true=>
   refine(top_mono hsrt (λy hy=>(hver y hy).2.2) λx hx=>⟨x,qjU.old c.key x ?_,rfl⟩).trans (old c hc qD ho hb);rw[(Mh c.key hk).1 oX];exact hx
  |false=>
   obtain⟨a,ha,ib,c7⟩:=hcf.2 qD ho c.key hk ((hbit _ _).1 oX) hb;have h1:=old c hc a ha ib;rcases top_or ((g.σ a).L c.key)with ⟨_,e⟩|⟨x,hx,_,e⟩
   ·rw[e]at h1;exact absurd h1 (GE.not eu)
   ·rw[e]at h1;have Tt:=(hP.Az a ha c.key hk x hx).1;obtain⟨y,hy,qc⟩:=qjU.has x (c7 x hx) (by rw[Tt];exact oX);rw[Tt]at hy;exact(qc▸top_ge hsrt hy).trans h1
 have cov:∀ i,i<g.n->∀ ds,(∀ d∈ds,jc W d)->Cov9 g2 i ds:=λi hi ds hd d hm ho=>by
  obtain⟨c,hc,e1,e2⟩:=hd d hm;obtain⟨L1,wt,L',hs,_⟩:=bR i hi;rw[show(g2.σ i).own=lE aH aJ i by rw[hs]]at ho;rw[<- e1,<- e2];exact new c hc i hi (by rw[e1];exact ho)
 have rP:∀ i,i<g.n->∀ k,Let k->∀ x∈(g2.σ i).L k,x.ir∈W:=λi hi k hk x hx=>by
  obtain⟨L1,wt,L',hs,Mh,_,cO⟩:=bR i hi;rw[hs]at hx;rcases cO.put9.new k x hx with g1|⟨g1,_⟩
  ·by_cases ho:b4 (lE aH aJ i) k
   ·rw[(Mh k hk).1 ho]at g1;exact h.L i hi k hk x g1
   ·rw[(Mh k hk).2 ho]at g1;cases g1
  ·obtain⟨a,k2,ha,bb,lV⟩:=hcf.1 i x g1;exact h.L a ha k2 bb x lV
 have gI:g2.ss=g.ss:=by rw[dm]
 refine⟨h.jH,h.one,λc hc i hi e=> ?_,h.dep,λi hi=>rP i ab,λi hi x hx=> ?_,?_,h.pkw,by rw[gI];exact h.mD,λc hc i e=> ?_,λi hi k hk x hx=>cov i ab _ (h.dep _ (rP i ab k hk x hx)),λc hc qD jS oX=> .inl ?_,h.Sk.same (by rw[dm]) λc=>by rw[gI]⟩
 ·obtain⟨L1,wt,L',hs,_⟩:=bR i ab;rw[hs];exact Int.le_trans (h.pF c hc i ab e) (clockOf_ge _ ((g.σ i).cn,(g.σ i).cs))
 ·obtain⟨L1,wt,L',hs,_,oP,_⟩:=bR i ab;rw[hs]at hx;rw[hw i ab]at oP;exact absurd (cK.sub oP |>.subset hx) ao
 ·rw[cp,show g2.st=g.st by rw[dm]];exact h.pkt
 ·rw[gI]at e⊢;exact cov i (by have:=hP.sl c hc;omega) _ (h.mD c hc)
 ·obtain⟨L1,wt,L',hs,_⟩:=bR qD ab;exact new c hc qD ab (by rw[hs]at oX;exact oX)
end
theorem Cau.new {g:aG} (h:Jh w es os ps g):Cau 0 g [] λ_ _=>[]:=by
 obtain⟨h1,h2,h3,h4,h5,h6,h7,h8,_⟩:=h;have hn:g.n=ps.length:=by unfold aG.n;rw[h3]
 have hσ:∀ i,i<g.n->g.σ i=sJ es os i:=λi hi=>h4 i ab;refine⟨λc hc=>(by cases hc),λa ha=>(by cases ha),λc hc=>(by cases hc),λc hc=>(by cases hc),λi hi k hk x hx=> ?_,λi hi x hx=> ?_,λa b hf=>⟨by rw[h5];rfl,λU d hd=> ?_⟩,λa b c hc=>(by cases hc),λc hc d hd=> ?_,λc hc i e d hd=> ?_,λi hi k hk x hx=> ?_,λc hc=>(by cases hc),⟨λe he=> ?_,λi e he=> ?_,λc hc=>(by cases hc),λe he=> ?_,λe he=> ?_,λe he=> ?_⟩⟩
 ·rw[hσ i hi]at hx;exact absurd hx (by simp[sJ])
 ·rw[hσ i hi]at hx;exact absurd hx (by simp[sJ])
 ·rw[h5]at hd;cases hd
 ·rw[h6 c hc]at hd;cases hd
 ·rw[h6 c hc]at hd;cases hd
 ·rw[hσ i hi]at hx;exact absurd hx (by simp[sJ])
 ·rw[h8]at he;cases he
 ·rw[h8]at he;cases he
 ·rw[h8]at he;cases he
 ·rw[h8]at he;cases he
 ·rw[h8]at he;cases he
section
variable {B:Int} {g g':aG} {W:List my} {pk:Nat->Nat->List my}
theorem Cau.step {qD:ee} {k c s t:Nat} {aH:List Nat} {aJ a':List Int} {er:Int} {fl:List ax} (hP:Pln B g) (hP':Pln (B+2) g') (h:Cau B g W pk) (eN:1<=k) (bb:k<=12) (hc:c<4) (mf:Let qD.key)
  (hk:sT B (λU c=>(pk s t)[U]? =some c) g qD k c s t aH aJ a' er fl g'∨er≠0/\fl=[]/\g'=g/\(g.ss c).1= -1):
  ∃ V pk',Cau (B+2) g' (W++V) pk'/\(V=if k=1∨k=2 then fl.map ax.ir else [])/\(∀ x∈fl,x.ir∈W++V)/\g.bJ.length<=g'.bJ.length/\(er≠0->g'.bJ.length=g.bJ.length):=by
 have up:=λ{g2:aG} {pk2:Nat->Nat->List my} (hh:Cau B g2 W pk2)=>hh.mono (show B<=B+2 by omega);have fin:∀ {pk2:Nat->Nat->List my},¬(k=1∨k=2)->Cau (B+2) g' W pk2/\(∀ x∈fl,x.ir∈W)->(g.bJ.length<=g'.bJ.length/\(er≠0->g'.bJ.length=g.bJ.length))->∃ V pk',Cau (B+2) g' (W++V) pk'/\(V=if k=1∨k=2 then fl.map ax.ir else [])/\(∀ x∈fl,x.ir∈W++V)/\g.bJ.length<=g'.bJ.length/\(er≠0->g'.bJ.length=g.bJ.length):=λaN h1 h2=>⟨[],_,by simpa using h1.1,by rw[if_neg aN],λx hx=>by simpa using h1.2 x hx,h2⟩
 have put:∀ {i:Nat} {vl:ByteArray} {gD:Bool},(k=1∨k=2)->(g.ss c).1=(i:Int)->yP B g c i qD.key vl gD er fl g'->∃ V pk',Cau (B+2) g' (W++V) pk'/\(V=if k=1∨k=2 then fl.map ax.ir else [])/\(∀ x∈fl,x.ir∈W++V)/\g.bJ.length<=g'.bJ.length/\(er≠0->g'.bJ.length=g.bJ.length):=λ{i vl gD} he ji hp=>by
  have hi:i<g.n:=by have:=hP.sl c hc;omega
  obtain⟨pk',h1⟩:=Cau.put hP hP' h hc mf ji hi hp;refine⟨_,pk',h1,by rw[if_pos he],λx hx=>List.mem_append_right _ (List.mem_map.2 ⟨x,hx,rfl⟩),?_⟩;rcases hp with ⟨_,_,rfl,_⟩|⟨h2,_,v,σ',ev,p',_,_,_,_,_,_,_,_,_,rfl⟩
  ·exact⟨CP _,λ_=>rfl⟩
  ·exact⟨ao,λh3=>absurd h2 h3⟩
 rcases hk with hk|⟨h1,rfl,rfl,_⟩
 case inr=>
  refine⟨[],pk,by simpa using up h,?_,λx hx=>(by cases hx),CP _,λ_=>rfl⟩;split <;>rfl
 rcases(by omega:k=1∨k=2∨k=3∨k=4∨k=5∨k=6∨k=7∨k=8∨k=9∨k=10∨k=11∨k=12)with rfl|rfl|rfl|rfl|rfl|rfl|rfl|rfl|rfl|rfl|rfl|rfl
 ·obtain⟨i,h1,h2⟩:=hk;exact put (.inl rfl) h1 h2
 ·obtain⟨i,h1,h2⟩:=hk;exact put (.inr rfl) h1 h2
 ·obtain⟨i,h1,h2⟩:=hk;obtain⟨r1,r2⟩:=Cau.get hP h hc mf h1 (by have:=hP.sl c hc;omega) h2;refine fin ab ⟨up r1,r2⟩ ?_;rcases h2 with ⟨_,_,rfl,_⟩|⟨h3,_,x,b,ev,_,_,_,_,_,_,_,⟨_,_,rfl⟩|⟨_,_,p',_,rfl⟩⟩
  ·exact⟨CP _,λ_=>rfl⟩
  ·exact⟨ao,λh4=>absurd h3 h4⟩
  ·exact⟨ao,λh4=>absurd h3 h4⟩
 ·obtain⟨_,rfl,rfl⟩:=hk;exact fin ab ⟨up (Cau.leave h hc),λx hx=>by cases hx⟩ ⟨CP _,λ_=>rfl⟩
 ·obtain⟨rfl,h2⟩:=hk;refine fin ab ⟨up (Cau.enter hP h hc h2),λx hx=>by cases hx⟩ ?_;rcases h2 with ⟨_,rfl⟩|⟨_,_,_,_,rfl⟩ <;>exact⟨CP _,λ_=>rfl⟩
 ·obtain⟨i,h1,h2⟩:=hk;obtain⟨r1,r2⟩:=Cau.begin_ h h2;refine fin ab ⟨up r1,r2⟩ ?_;rcases h2 with ⟨_,_,rfl⟩|⟨_,_,lH,b,rfl⟩ <;>exact⟨CP _,λ_=>rfl⟩
 ·obtain⟨i,h1,h2⟩:=hk;obtain⟨r1,r2⟩:=Cau.end_ hP h hc h1 h2;refine fin ab ⟨up r1,r2⟩ ?_;rcases h2 with ⟨_,_,lH,rfl⟩|⟨h3,ds,low,p',bM,lH,pa,pn,pc,_,_,_,_,_,_,_,rfl⟩
  ·exact⟨CP _,λ_=>rfl⟩
  ·exact⟨ao,λh4=>absurd h3 h4⟩
 ·obtain⟨pk',r1,r2⟩:=Cau.pick hP hP' h hk;refine fin ab ⟨r1,r2⟩ ?_;rcases hk with ⟨_,_,rfl⟩|⟨_,_,_,_,⟨_,_,rfl⟩|⟨_,_,_,v,yt,σ',_,_,_,_,_,_,_,_,rfl⟩⟩ <;>exact⟨CP _,λ_=>rfl⟩
 ·obtain⟨rfl,h2⟩:=hk;refine fin ab ⟨up (Cau.again hP h h2),λx hx=>by cases hx⟩ ?_;rcases h2 with rfl|⟨_,_,rfl⟩ <;>exact⟨CP _,λ_=>rfl⟩
 ·have hh:=hk;rcases hh with ⟨_,rfl,rfl⟩|⟨_,i,x,σ',_,_,_,_,hg⟩
  ·exact fin ab ⟨up h,λx hx=>by cases hx⟩ ⟨CP _,λ_=>rfl⟩
  ·have E6:Pln (B+2) g:=⟨hP.tree,hP.fit,hP.own,hP.pb,hP.Az,hP.has,hP.wt,hP.bY,hP.jn,λc hc d hd=>by have:=hP.sn c hc d hd;omega,hP.cm,hP.sl⟩;obtain⟨r1,r2⟩:=Cau.steps E6 hP' (up h) hk;exact fin ab ⟨r1,r2⟩ (by rw[hg];exact⟨CP _,λ_=>rfl⟩)
 ·obtain⟨_,rfl,h2⟩:=hk;refine fin ab ⟨up (Cau.clean hP h h2),λx hx=>by cases hx⟩ ?_;obtain⟨σ',_,rfl⟩:=h2;exact⟨CP _,λ_=>rfl⟩
 ·obtain⟨rfl,h2,_⟩:=hk;rcases h2 with ⟨_,rfl⟩|⟨_,hn,hf,hw,qiS,_,hr⟩
  ·exact fin ab ⟨up h,λx hx=>by cases hx⟩ ⟨CP _,λ_=>rfl⟩
  ·have E6:Pln (B+2) g:=⟨hP.tree,hP.fit,hP.own,hP.pb,hP.Az,hP.has,hP.wt,hP.bY,hP.jn,λc hc d hd=>by have:=hP.sn c hc d hd;omega,hP.cm,hP.sl⟩;refine fin ab ⟨Cau.rows E6 hP' (up h) hn hf hw qiS hr,λx hx=>by cases hx⟩ ?_;obtain⟨l,σ',_,_,rfl⟩:=hr;exact⟨CP _,λ_=>rfl⟩
end
structure FineP (L:List nK):Prop where
 ev:∀ e∈L,Let e.key/\b9 e.ds/\(fu e.n e.s=true∨(e.n=0/\e.s=0))
 right:∀ i e,L[i]? =some e->RightP L i e
 rd:∀ e∈L,∀ x∈L,e.kind=2->x.kind=1->x.n=e.n->x.s=e.s->La e.ds x.ds
theorem Cau.fine {g:aG} {W:List my} {pk:Nat->Nat->List my} (h:Cau B g W pk):FineP g.bJ:=
 ⟨λe he=>⟨(h.Sk.ev e he).1,(h.Sk.ev e he).2.1,(h.Sk.ev e he).2.2.2.2⟩,h.Sk.right,λe he x hx h1 h2 h3 h4=>by
  obtain⟨c,hc,_,e2,e3⟩:=h.Sk.e2w x hx h2;rw[<- e3];exact h.Sk.rd e he h1 c hc (by rw[e2,h3,h4])⟩
theorem FineP.ahead (h:FineP L) (ha:Ahd L k i):k<i/\∃ x y,L[k]? =some x/\L[i]? =some y/\La y.ds x.ds/\(La y.ds [evD x]∨(y.kind=2/\x.kind=1/\x.key=y.key/\x.n=y.n/\x.s=y.s)):=by
 have dir:∀ {m i},Dir L m i->m<i/\∃ x y,L[m]? =some x/\L[i]? =some y/\La y.ds x.ds/\(La y.ds [evD x]∨(y.kind=2/\x.kind=1/\x.key=y.key/\x.n=y.n/\x.s=y.s)):=λ{m i} hd=>by
  obtain⟨an,x,y,hx,hy,hr|⟨r1,r2,r3,r4,r5⟩⟩:=hd
  ·obtain⟨c1,c2⟩:=(h.right i y hy).cov m x an hx hr;exact⟨an,x,y,hx,hy,c1,.inl c2⟩
  ·exact⟨an,x,y,hx,hy,h.rd y (zV hy) x (zV hx) r1 r2 r4 r5,.inr ⟨r1,r2,r3,r4,r5⟩⟩
 induction ha with
 |one hd=>exact dir hd
 |more _ hd ih=>
  obtain⟨l1,x,y,hx,hy,c1,c2⟩:=ih;obtain⟨l2,xw,z,rh,hz,d1,d2⟩:=dir hd;rw[hy]at rh;injection rh with rh;subst rh;have qc:=h.ev y (zV hy);have ex:=h.ev x (zV hx);have nS:=h.ev z (zV hz);refine⟨ab,x,z,hx,hz,cov_up qc.2.1 nS.2.1 d1 c1 (λd hd=> .inl (ex.2.1.ok d hd).2),?_⟩;rcases c2 with c2|⟨r1,r2,r3,r4,r5⟩
  ·exact .inl (cov_up qc.2.1 nS.2.1 d1 c2 (λd hd=>by rw[At.1 hd];exact ex.2.2))
  ·rcases d2 with d2|⟨_,q2,_⟩
   ·refine .inl ?_;unfold evD at d2⊢;rw[r3,r4,r5];exact d2
   ·omega
theorem FineP.ge (h:FineP L) {x y:nK} (ha:Ahd L k i) (hx:L[k]? =some x) (hy:L[i]? =some y) (hr:y.kind=2) (hk:x.key=y.key):GE (y.n,y.s) (x.n,x.s):=by
 obtain⟨_,qci,xw,hx',rh,_,hc⟩:=h.ahead ha;rw[hx]at hx';injection hx' with hx';subst hx';rw[hy]at rh;injection rh with rh;subst rh;rcases hc with hc|⟨_,_,_,r4,r5⟩
 ·have h1:=hc _ (At.2 rfl);rcases(h.right i y hy).kind with ⟨q,_⟩|⟨_,q,_⟩
  ·omega
  ·have h1:GE (gt y.ds x.key) (x.n,x.s):=h1;rw[hk]at h1;exact GE.trans q h1
 ·rw[r4,r5];exact GE.refl _
def OwnA (g:aG):Prop:=∀ i,i<g.n->(g.σ i).own=lE g.es g.os i
theorem OwnA.new {g:aG} (h:Jh w es os ps g):OwnA g:=by
 obtain⟨h1,h2,h3,h4,_⟩:=h;exact λi hi=>by rw[h4 i (by unfold aG.n at hi;rw[h3]at hi;exact hi),h1,h2];rfl
theorem OwnA.put {g:aG} {k vl:ByteArray} {gD:Bool} (h:OwnA g) (hp:yP B g c i k vl gD er fl g'):OwnA g':=by
 rcases hp with ⟨_,_,rfl,_⟩|⟨_,_,v,σ',ev,p',_,hw,_,_,_,_,_,_,_,rfl⟩
 ·exact h
 ·obtain⟨w1,w2,w3,w4,w5,w6,w7,w8,w9,L',b,hp,rfl⟩:=hw;exact OU h rfl
theorem OwnA.step {g:aG} {qD:ee} (h:OwnA g) (h1:1<=k) (h2:k<=12)
  (hk:sT B P g qD k c s t aH aJ a' er fl g'∨er≠0/\fl=[]/\g'=g/\(g.ss c).1= -1):OwnA g':=by
 rcases hk with hk|⟨_,_,rfl,_⟩
 case inr=>exact h
 rcases(by omega:k=1∨k=2∨k=3∨k=4∨k=5∨k=6∨k=7∨k=8∨k=9∨k=10∨k=11∨k=12)with rfl|rfl|rfl|rfl|rfl|rfl|rfl|rfl|rfl|rfl|rfl|rfl
 ·obtain⟨i,_,hk⟩:=hk;exact h.put hk
 ·obtain⟨i,_,hk⟩:=hk;exact h.put hk
 ·obtain⟨i,_,hk⟩:=hk;rcases hk with ⟨_,_,rfl,_⟩|⟨_,_,x,b,ev,_,_,_,_,_,_,_,⟨_,_,rfl⟩|⟨_,_,p',_,rfl⟩⟩ <;>exact h
 ·obtain⟨_,_,rfl⟩:=hk;exact h
 ·obtain⟨_,hk⟩:=hk;rcases hk with ⟨_,rfl⟩|⟨_,_,_,_,rfl⟩ <;>exact h
 ·obtain⟨i,_,hk⟩:=hk;rcases hk with ⟨_,_,rfl⟩|⟨_,_,lH,b,rfl⟩ <;>exact h
 ·obtain⟨i,_,hk⟩:=hk;rcases hk with ⟨_,_,lH,rfl⟩|⟨_,ds,low,p',bM,lH,pa,pn,pc,_,_,_,_,_,_,_,rfl⟩ <;>exact h
 ·rcases hk with ⟨_,_,rfl⟩|⟨_,hP,_,_,⟨_,_,rfl⟩|⟨_,_,_,v,yt,σ',_,ht,hl,xY,hp,_,_,ha,rfl⟩⟩
  ·exact h
  ·exact h
  ·refine OU h ?_;rcases ha with ⟨_,_,rfl⟩|⟨_,_,_,_,rfl⟩|⟨_,_,_,rfl⟩ <;>rfl
 ·obtain⟨_,hk⟩:=hk;rcases hk with rfl|⟨_,hP,rfl⟩ <;>exact h
 ·rcases hk with ⟨_,_,rfl⟩|⟨_,i,x,σ',_,_,_,hs,rfl⟩
  ·exact h
  ·refine OU h ?_;rcases hs with ⟨hb,_⟩|⟨_,i,bM,L',b2,_,_,_,_,rfl⟩
   ·cases hb
   ·rfl
 ·obtain⟨_,_,σ',hc,rfl⟩:=hk;refine λi hi=> ?_;obtain⟨L',_,he⟩:=(hc i hi).1 hi;show(σ' i).own=_
  rw[he];exact h i hi
 ·obtain⟨_,hk,_⟩:=hk;rcases hk with ⟨_,rfl⟩|⟨_,hn,hf,hw,qiS,_,l,σ',_,hr,rfl⟩
  ·exact h
  ·refine λi hi=> ?_
   have eE:i<g.n:=by
    have:i<a'.length:=hi;omega
   obtain⟨L1,wt,L',he,_⟩:=(hr i eE).1 eE;show(σ' i).own=_
   rw[he]
theorem sT.none_ {g:aG} {qD:ee} (hk:sT B P g qD k c s t aH aJ a' er fl g'∨er≠0/\fl=[]/\g'=g/\(g.ss c).1= -1) (he:er≠0) (h:k=1∨k=2):fl=[]:=by
 rcases hk with hk|⟨_,h,_⟩
 case inr=>exact h
 have put:∀ {i vl gD},yP B g c i qD.key vl gD er fl g'->fl=[]:=λhp=>by
  rcases hp with ⟨_,h,_⟩|⟨h,_⟩
  ·exact h
  ·exact absurd h he
 rcases h with rfl|rfl
 ·obtain⟨i,_,h⟩:=hk;exact put h
 ·obtain⟨i,_,h⟩:=hk;exact put h
theorem sT.some_ {g:aG} {qD:ee} (hk:sT B P g qD k c s t aH aJ a' er fl g'∨er≠0/\fl=[]/\g'=g/\(g.ss c).1= -1) (he:er=0) (h:k=1∨k=2):∃ v,fl=[v]:=by
 rcases hk with hk|⟨h,_⟩
 case inr=>exact absurd he h
 have put:∀ {i vl gD},yP B g c i qD.key vl gD er fl g'->∃ v,fl=[v]:=λhp=>by
  rcases hp with ⟨h,_⟩|⟨_,_,v,σ',ev,p',h,_⟩
  ·exact absurd he h
  ·exact⟨v,h⟩
 rcases h with rfl|rfl
 ·obtain⟨i,_,h⟩:=hk;exact put h
 ·obtain⟨i,_,h⟩:=hk;exact put h
theorem aT.hlen {g:aG} (h:aT w B gb g):(g.bJ.length:Int)<=8*B:=by
 obtain⟨V,_,h2⟩:=h;exact h2.cX
theorem ev_at {w2:World} {g:aG} {W:List my} {pk:Nat->Nat->List my} {v:Value} (h:aT w B gb g) (hc:Cau B g W pk) (hv:Rw w2 92 6 sF v g.bJ) (k:ad w w2):EvAt w2 v g.bJ:=by
 obtain⟨V,_,h2⟩:=h;exact⟨hv,λe he=>(h2.a6.rl e he).1.kept k,λe he=>(hc.Sk.ev e he).1,λe he=>(hc.Sk.ev e he).2.1⟩
theorem wr_step {W:List my} {ws:List ax} (h:ws.map ax.ir=W) (hf:∀ x∈fl,x.ir∈W) {x:ax} (hx:x∈fl):∃ (p:Nat) (y:ax),ws[p]? =some y/\y.key=x.key/\y.n=x.n/\y.s=x.s/\y.val=x.val/\y.gone=x.gone:=by
 have:=hf x hx;rw[<- h]at this;obtain⟨y,hy,e⟩:=List.mem_map.1 this;obtain⟨p,hp⟩:=List.getElem?_of_mem hy;injection e with e1 e2 e3 e4 e5;exact⟨p,y,hp,e1,e4,e5,e2,e3⟩
end Go.Proofs.YtehaoggjlciobaaGreat

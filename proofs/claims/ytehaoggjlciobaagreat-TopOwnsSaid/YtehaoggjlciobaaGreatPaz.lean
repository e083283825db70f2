/- Part 26 of 53. -/
import Derived.Test.YtehaoggjlciobaaGreatPay
set_option linter.all false
set_option maxRecDepth 20000
set_option maxHeartbeats 16000000
namespace Go.Proofs.YtehaoggjlciobaaGreat
open Go.Maps Go.RowKit
def Uj (σ:ci) (x:ax) (b:Bool) (σ':ci):Prop:=
 (b=false/\x=zeroV/\σ'=σ)∨(b=true/\∃ i bM L' b2,σ.wait[i]? =some x/\j0 σ.L bM/\oA bM σ.own x.ds/\xP σ.own σ.L x L' b2/\σ'={σ with wait:=σ.wait.take i++σ.wait.drop (i+1),L:=L'})
theorem ah.Uk {a:Nat} {w w2:World} (h:ah [a] w w2) (b o:Nat) (v:Value):ah [b,a] w (w2.setCell ⟨b,o,none⟩ v):=(h.mono (T:=[b,a]) ao).trans ((ah.set b o v).mono ao)
theorem Rw.zero {w w2:World} {q:Nat} {v:Value} {l:List ax} {x0 x1 x2 x3 x4 x5:Value} (h:Rw w 48 6 a8 v l) (hq:VB w q (.string ⟨#[]⟩) (.string ⟨#[]⟩) (.bool false) (.int .i64 0) (.int .i64 0) (.slice none 0 0)) (hn:∀ x∈l,x.n≠0) (hb:ah [q] w w2) (gE:VB w2 q x0 x1 x2 x3 x4 x5):Rw w2 48 6 a8 v l:=by
 obtain⟨A,c,rfl,h1,h2,h3,h4⟩:=h;refine⟨A,c,rfl,h1,h2,h3,λp hl=> ?_⟩;obtain⟨b,off,cur,rfl,hc,hv⟩:=h4 p hl;by_cases e:b=q
 ·subst e
  have e0:l=[]:=by
   cases l with
   |nil=>rfl
   |cons a t=>
    exfalso
    have e3:=hv 0 a rfl 3 (.int .i64 a.n) rfl;rw[show w.heap[b]? =_ from hq]at hc;simp only[Option.some.injEq,Obj.cells.injEq]at hc;obtain⟨hc,_⟩:=hc;have ha:=hn a ao;subst hc;rcases off with _|_|off
    ·simp at e3;exact ha e3.symm
    ·simp at e3;exact ha e3.symm
    ·rcases off with _|off
     ·simp at e3
     ·simp at e3
  subst e0;exact⟨b,off,_,rfl,gE,λi a hi=>by simp at hi⟩
 ·exact⟨b,off,cur,rfl,hb.heap hc (by simpa using e),hv⟩
structure Fz (q:Nat) (w w2:World):Prop where
 but:ah [q] w w2
 zero:VB w q (.string ⟨#[]⟩) (.string ⟨#[]⟩) (.bool false) (.int .i64 0) (.int .i64 0) (.slice none 0 0)
 Az:∃ y0 y1 y2 y3 y4 y5,VB w2 q y0 y1 y2 y3 y4 y5
theorem Fz.fr {q:Nat} {w w2:World} (h:Fz q w w2):Fr (λt=>t≠48) w w2:=Fr.gn h.but λx hx cur e he=>by
 simp only[At]at hx;rw[hx,show w.heap[q]? =_ from h.zero]at he;simp only[Option.some.injEq,Obj.cells.injEq]at he;rw[<- he.2.1];simp
theorem Fz.ne {q:Nat} {w w2:World} (h:Fz q w w2) {b:Nat} {o:Obj} (hb:w.heap[b]? =some o) (ho:∀ cur,o≠.cells cur 48 (0,0)):b∉[q]:=by
 intro hx;simp only[At]at hx;rw[hx,show w.heap[q]? =_ from h.zero]at hb;simp only[Option.some.injEq]at hb;exact ho _ hb.symm
theorem b7.ne {w:World} {B:Int} {v:ax} (h:b7 w B v):v.n≠0:=by
 have:=qck h.wc.1;omega
theorem b7.ln {w w2:World} {q:Nat} {B:Int} {v:ax} (h:b7 w B v) (hk:Fz q w w2):b7 w2 B v:=⟨h.key,h.n,h.jB.fr hk.fr ak,h.cg,h.gR,h.wc⟩
theorem Fz.row {w w2:World} {q:Nat} (hk:Fz q w w2) {v:Value} {l:List ax} (h:Rw w 48 6 a8 v l) (hn:∀ x∈l,x.n≠0):Rw w2 48 6 a8 v l:=by
 obtain⟨y0,y1,y2,y3,y4,y5,hv⟩:=hk.Az;exact h.zero hk.zero hn hk.but hv
theorem dc.ln {w w2:World} {q:Nat} {B:Int} {k:ByteArray} {v:Value} {l:List ax} (h:dc w B k v l) (hk:Fz q w w2):dc w2 B k v l:=
 ⟨hk.row h.row λx hx=>(h.iG x hx).1.ne,λx hx=>⟨(h.iG x hx).1.ln hk,(h.iG x hx).2⟩,h.sd⟩
theorem cP.ln {w w2:World} {q:Nat} {B:Int} {hb mb:Nat} {own:List Rg} {L:ByteArray->List ax} (h:cP w B hb mb own L) (hk:Fz q w w2):cP w2 B hb mb own L:=by
 obtain⟨v,h3,h4⟩:=h.bB;obtain⟨C,h5,h6⟩:=h.fz;refine⟨⟨v,hk.but.heap h3 (hk.ne h3 λcur e=>by injection e with _ e2;exact absurd e2 ak),h4.fr hk.fr ak⟩,h.bx,C,h5.but hk.but ?_,λk bb=>⟨(h6 k bb).1.ln hk,(h6 k bb).2⟩⟩;obtain⟨D,⟨es,clock,h2,_⟩,_⟩:=h5;exact hk.ne h2 λcur e=>by cases e
theorem ba.ln {w w2:World} {q:Nat} {B:Int} {p:cZ} {id:Int} {σ:ci} (h:ba w B p id σ) (hk:Fz q w w2):ba w2 B p id σ:=by
 obtain⟨A,c,h1,h2⟩:=h.bB;exact⟨⟨A,c,hk.but.heap h1 (hk.ne h1 λcur e=>by injection e with _ e2;exact absurd e2 ak),hk.row h2 λx hx=>(h.jH x hx).1.ne⟩,h.sh.ln hk,λv hv=>⟨(h.jH v hv).1.ln hk,(h.jH v hv).2⟩,h.bx,h.pF⟩
theorem ba.Hg {w w2:World} {B:Int} {p:cZ} {id:Int} {σ:ci} {L':ByteArray->List ax} (h:ba w B p id σ) (hb:ah [p.mb] w w2) (hf:Fr bq w w2) (hs:cP w2 B p.hb p.mb σ.own L'):ba w2 B p id {σ with L:=L'}:=by
 obtain⟨A,c,h1,h2⟩:=h.bB;exact⟨⟨A,c,hb.heap h1 (by simpa using h.apart.2.1),h2.fr hf (.inl rfl)⟩,hs,λv hv=>⟨(h.jH v hv).1.fr hf,(h.jH v hv).2⟩,h.bx,h.pF⟩
theorem ah.new {S T:List Nat} {a b c:World} (h:ah S a b) (k:ah T b c) (hT:∀ x∈T,a.heap.size<=x):ah S a c:=
 ⟨k.os.trans h.os,k.tape.trans h.tape,k.output.trans h.output,qcg h.size k.size,λx hx hn=>(k.block x (R4 hx h.size) λhm=>absurd (hT x hm) (Nat.not_le.2 hx)).trans (h.block x hx hn)⟩
theorem ba.Ul {w w2:World} {B:Int} {p:cZ} {id:Int} {σ:ci} (h:ba w B p id σ) (hb:ah [p.sb,p.mb] w w2):Fr bq w w2:=Fr.gn hb λx hx cur e he=>by
 simp only[KX,List.not_mem_nil,or_false]at hx;rcases hx with rfl|rfl
 ·obtain⟨A,c,h1,_⟩:=h.bB;rw[show w.heap[p.sb]? =_ from h1]at he;simp only[Option.some.injEq,Obj.cells.injEq]at he;rw[<- he.2.1];decide
 ·obtain⟨C,⟨D,⟨es,clock,h2,_⟩,_⟩,_⟩:=h.sh.fz;rw[h2]at he;cases he
theorem qez (B:Int) (p:cZ) (id:Int) (σ:ci) (w:World) (h:ba w B p id σ) (hB:0<=B) (h9:B<=100000000000):
  Calls Tryz.prog 112 #[.pointer (some ⟨p.sb,0,none⟩)] w λe w'=>∃ x b σ',e= .returned (.tuple #[aM x,.bool b])/\ba w' B p id σ'/\Uj σ x b σ'/\ah [p.sb,p.mb] w w'/\Fr bq w w':=by
 obtain⟨WA,wc,hb,hw⟩:=h.bB;obtain⟨s0,s1,s2,s3,s4,sf,sl⟩:=hb.cells;have HH:=aa h;have iI:=aa hw;have cX:=h.bx;have f2:=sf 2;have NV:=ns w;obtain⟨r0,r1,r2,r3,r4,r5,rf,_⟩:=NV.cells;have Mx:=aa NV;have DD:ag (∀ w1,ad w w1->Calls Tryz.prog 46 #[.pointer (some ⟨p.sb,0,none⟩)] w1 λe w'=>∃ v' l,e= .returned v'/\Rw w' 60 3 aS v' l/\j0 σ.L l/\ad w1 w'):=λw1 K=>DC B p id σ w1 (HH.o.kept K) hB h9;have oB:ag (∀ w1,ad w w1->Calls Tryz.prog 85 #[.pointer (some ⟨p.sb,0,none⟩)] w1 λe w'=>∃ v',e= .returned v'/\Rw w' 63 2 bZ v' σ.own/\ad w1 w'):=λw1 K=>tD B p id σ w1 (HH.o.kept K);clear sf hb hw h s1 s3 s4 NV rf;go_wp2;refine ku [0,1,2,3,4,6,5,7,8,9,10,11,12,13,14,15,16] [none,none,none,none,none,none,some (λu w'=>∃ l,Rw w' 60 3 aS u l/\j0 σ.L l),some (λu w'=>Rw w' 63 2 bZ u σ.own),some (λu w'=>∃ x kF b,u= .tuple #[aM x,kF,.bool b]/\∃ bM,j0 σ.L bM/\TW w' bM σ.own (.slice WA σ.wait.length wc) σ.wait x kF b),none,none,none,none,some (λu w'=>∃ q,u= .pointer (some ⟨q,0,none⟩)/\w.heap.size+1<=q/\w'.heap[q]? =some (.cells #[.string ⟨#[]⟩,.string ⟨#[]⟩,.bool false,.int .i64 0,.int .i64 0,.slice none 0 0] 48 (0,0)))] (λwB=>ad w wB/\ad (w.alloc (.cells #[.string ⟨#[]⟩,.string ⟨#[]⟩,.bool false,.int .i64 0,.int .i64 0,.slice none 0 0] 48)) wB/\wB.cell? ⟨p.sb,0,none⟩=some (.pointer (some ⟨p.hb,0,none⟩))/\wB.cell? ⟨p.sb,2,none⟩=some (.slice WA σ.wait.length wc)) λwB SS=> ?_;obtain⟨au,br,_⟩:=SS.o _ (ad.refl _);iterate 6 refine SP.on ?_
 refine SP.ew ?_ λv1=> ?_
 ·intro wd hI hF;obtain⟨ae,ay,ai,aj⟩:=SS.o wd hI;clear hF;go_wp2_with ((go_at_call 46;refine(DD.o _ ae).mono ?_;rintro e w4 ⟨v',l,rfl,h4,h5,k4⟩));exact bn rfl ⟨l,h4,h5⟩
 refine SP.ew ?_ λv2=> ?_
 ·intro wd hI hF;obtain⟨ae,ay,ai,aj⟩:=SS.o wd hI;clear hF;go_wp2_with ((go_at_call 85;refine(oB.o _ ae).mono ?_;rintro e w4 ⟨v',rfl,h4,k4⟩));exact bn rfl h4
 refine SP.ew ?_ λv3=> ?_
 ·intro wd hI hF;obtain⟨ae,ay,ai,aj⟩:=SS.o wd hI;have h1:=hF.2.1 av;have h2:=hF.1 av;clear hF;go_wp2_with ((go_at_call 186;obtain⟨wa,⟨hl,kC,gg⟩,nw⟩:=h1;obtain⟨wb,hr,kb⟩:=h2;obtain⟨RA,rc,rfl,_,_⟩:=hr.form;refine(qeh B _ _ σ.wait hl RA _ rc σ.own _ (iI.o.kept ae) ab (λx hx=>(HH.o.jH x hx).1.kept ae) (kC.kept nw) gg.cg (hr.kept kb).rows).mono ?_;rintro e w5 ⟨x,kF,b,rfl,h5,k5⟩));exact bn rfl ⟨x,kF,b,rfl,hl,gg,h5⟩
 refine SP.oe (v:=v3) ?_ ?_
 ·intro wd hI hF;obtain⟨ae,ay,ai,aj⟩:=SS.o wd hI;clear hF;go_wp2;exact aP
 refine SP.oe (v:=eH v3 0) ?_ ?_
 ·intro wd hI hF;obtain⟨ae,ay,ai,aj⟩:=SS.o wd hI;have h1:=hF.1;clear hF;(obtain⟨w9,⟨x,kF,b,rfl,_⟩,_⟩:=h1);go_wp2;exact aP
 refine SP.oe (v:=eH v3 1) ?_ ?_
 ·intro wd hI hF;obtain⟨ae,ay,ai,aj⟩:=SS.o wd hI;have h1:=hF.1;clear hF;(obtain⟨w9,⟨x,kF,b,rfl,_⟩,_⟩:=h1);go_wp2;exact aP
 refine SP.oe (v:=eH v3 2) ?_ ?_
 ·intro wd hI hF;obtain⟨ae,ay,ai,aj⟩:=SS.o wd hI;have h1:=hF.1;clear hF;(obtain⟨w9,⟨x,kF,b,rfl,_⟩,_⟩:=h1);go_wp2;exact aP
 refine SP.ew ?_ λv4=> ?_
 ·intro wd hI hF;obtain⟨ae,ay,ai,aj⟩:=SS.o wd hI;clear hF;go_wp2;exact bn rfl ⟨_,rfl,by have:=ay.size;simpa using this,l5 _ _⟩
 refine SP.late [11,12] av av ?_;intro wd hI hF;obtain⟨ae,ay,ai,aj⟩:=SS.o wd hI;have h1:=hF.2.1;have h2:=hF.1;clear hF SS;obtain⟨w9,⟨x,kF,b,rfl,bM,vp,dV⟩,k9⟩:=h1;obtain⟨w8,⟨q,rfl,ko,hq⟩,k8⟩:=h2;simp only[L4,L5,L6];have qi:=aa dV;have DD:=aa vp;obtain⟨x0,x1,x2,x3,x4,x5,x6,x7,x8⟩:=x;unfold aM;have V2:VB wd q (.string ⟨#[]⟩) (.string ⟨#[]⟩) (.bool false) (.int .i64 0) (.int .i64 0) (.slice none 0 0):=k8.heap hq;obtain⟨z0,z1,z2,z3,z4,z5,zf,zl⟩:=V2.cells;have eY:=aa V2;have g0:=zf 0;have g1:=zf 1;have g2:=zf 2;have g3:=zf 3;have g4:=zf 4;have g5:=zf 5;clear dV vp k8 hq V2 zf;refine TL.go ?_;refine TL.go ?_;refine TL.go ?_;refine TL.nil ?_;obtain⟨W3,db⟩:∃ W3,W3=(((((wd.setCell ⟨q,0,none⟩ (.string x0)).setCell ⟨q,1,none⟩ (.string x1)).setCell ⟨q,2,none⟩ (.bool x2)).setCell ⟨q,3,none⟩ (.int .i64 x3)).setCell ⟨q,4,none⟩ (.int .i64 x4)).setCell ⟨q,5,none⟩ (.slice x5 x6 x7):=⟨_,rfl⟩;have ck:ah [q] wd W3:=by rw[db];exact ah.all q _ _ _ _ _ _
 have K3:ad w W3:=ad.but ae ck (by simp;omega);have sj:ad _ W3:=ad.but ay ck (by simp;omega);have HX:VB W3 q (.string x0) (.string x1) (.bool x2) (.int .i64 x3) (.int .i64 x4) (.slice x5 x6 x7):=by rw[db];exact eY.o.all _ _ _ _ _ _
 have s0:=K3.af s0;have HR:VB W3 w.heap.size (.string ⟨#[]⟩) (.string ⟨#[]⟩) (.bool false) (.int .i64 0) (.int .i64 0) (.slice none 0 0):=VB.but Mx.o (.ar (S:=[]) sj) ao;have cN:ag (∀ l,Rw w9 48 6 a8 kF l->(∀ x∈l,x.n≠0)->Rw W3 48 6 a8 kF l):=λl h hn=>(h.kept k9).zero eY.o hn ck HX;rw[<- db];clear db ck z0 z1 z2 z3 z4 z5 g0 g1 g2 g3 g4 g5 zl ae ay au br k9;obtain⟨z0,z1,z2,z3,z4,z5,_,_⟩:=HX.cells;obtain⟨r0,r1,r2,r3,r4,r5,rf,_⟩:=HR.cells;have g0:=rf 0;have g1:=rf 1;have g2:=rf 2;have g3:=rf 3;have g4:=rf 4;have g5:=rf 5;have dv:=aa HR;have b6:=aa HX;clear rf HR HX
 have Ao:p.mb<w.heap.size:=by
  obtain⟨C,⟨D,⟨es,clock,h2,_⟩,_⟩,_⟩:=HH.o.sh.fz;exact(aQ h2)
 cases b
 ·go_wp2;obtain⟨z0,z1,z2,z3,z4,z5,_,_⟩:=(dv.o.all (.string x0) (.string x1) (.bool x2) (.int .i64 x3) (.int .i64 x4) (.slice x5 x6 x7)).cells;refine KV (v:= .tuple #[aM ⟨x0,x1,x2,x3,x4,x5,x6,x7,x8⟩,.bool false]) (by simp[results,Tryz.results112,go_sem,aM,z0,z1,z2,z3,z4,z5]) rfl ?_;have KE:ad w _:=ad.but K3 (ah.all w.heap.size (.string x0) (.string x1) (.bool x2) (.int .i64 x3) (.int .i64 x4) (.slice x5 x6 x7)) ao;rcases qi.o with ⟨h,_⟩|⟨_,hx,_⟩
  ·cases h
  ·exact⟨_,false,σ,rfl,HH.o.kept KE,.inl ⟨rfl,hx,rfl⟩,.ar KE,.ar KE⟩
 ·obtain⟨i,hi,mK,bU⟩:∃ i,σ.wait[i]? =some ⟨x0,x1,x2,x3,x4,x5,x6,x7,x8⟩/\oA bM σ.own x8/\Rw w9 48 6 a8 kF (σ.wait.take i++σ.wait.drop (i+1)):=by
   rcases qi.o with ⟨_,i,h1,h2,h3⟩|⟨h,_⟩
   ·exact⟨i,h1,h2,h3⟩
   ·cases h
  have rP:=zV hi
  have lU:∀ y∈σ.wait.take i++σ.wait.drop (i+1),y∈σ.wait:=λy hy=>by
   rcases Pv.1 hy with g|g
   ·exact List.mem_of_mem_take g
   ·exact List.mem_of_mem_drop g
  have bU:=cN.o _ bU (λy hy=>by
   have h:=qck (HH.o.jH y (lU y hy)).1.wc.1;omega)
  obtain⟨DE,Hh⟩:∃ DE,DE=σ.wait.take i++σ.wait.drop (i+1):=⟨_,rfl⟩;have hlen:DE.length<=24:=by rw[Hh];simp;omega
  rw[<- Hh]at bU lU;obtain⟨LA,lc,rfl,_,_⟩:=bU.form;have DF:=aa Hh;clear Hh;have HLW:=aa bU;have ii:=aa mK;have HI:=aa hi;have Um:=aa lU;have nx:ag (b7 w B ⟨x0,x1,x2,x3,x4,x5,x6,x7,x8⟩):=(HH.o.jH _ rP).1;clear bU mK hi lU rP r0 r1 r2 r3 r4 r5 g0 g1 g2 g3 g4 g5;have f2:=(K3.frozen p.sb 2 sl).trans f2;go_wp2;refine ey [none,none,none,none,none] (λwB=>ad W3 wB/\ad w wB/\wB.cell? ⟨p.sb,0,none⟩=some (.pointer (some ⟨p.hb,0,none⟩))/\wB.cell? ⟨q,0,none⟩=some (.string x0)/\wB.cell? ⟨q,1,none⟩=some (.string x1)/\wB.cell? ⟨q,2,none⟩=some (.bool x2)/\wB.cell? ⟨q,3,none⟩=some (.int .i64 x3)/\wB.cell? ⟨q,4,none⟩=some (.int .i64 x4)/\wB.cell? ⟨q,5,none⟩=some (.slice x5 x6 x7)) λwB SS=> ?_;iterate 5 refine SP.on ?_
  refine SP.ml SS ?_;rintro wd hI hF ⟨ae,ay,ai,aj,aq,az,aK,a1,cw⟩;clear hF SS;have HP:=Mt B p.hb p.mb σ.own σ.L _ wd (HH.o.sh.kept ay) (nx.o.kept ay) hB h9;have B1:=aa (VB.but dv.o (.ar (S:=[]) ae) ao);have xX:=aa (VB.but b6.o (.ar (S:=[]) ae) ao);have f2:=(ae.frozen p.sb 2 (R4 sl K3.size)).trans f2;have aN:p.sb≠p.mb:=HH.o.apart.2.1;have s2:=ay.af s2;have bu:=ay.size;go_wp2_with (go_at_call 150;refine HP.mono ?_;rintro e w5 ⟨b2,L',rfl,h1,h2,h3,h4⟩;have s2:=h3.af s2 (by simpa using aN);have cL:=h3.Uk p.sb 2 (.slice LA DE.length lc);obtain⟨y0,y1,y2,y3,y4,y5,_,_⟩:=(VB.but xX.o cL (by simp;omega)).cells;have jI:=aa (VB.but B1.o cL (by simp;omega));clear cL;obtain⟨r0,r1,r2,r3,r4,r5,rf,_⟩:=jI.o.cells;have g0:=rf 0;have g1:=rf 1;have g2:=rf 2;have g3:=rf 3;have g4:=rf 4;have g5:=rf 5;have f2:=(h3.frozen (p:=⟨p.sb,2,none⟩) (by simp;omega) (by simpa using aN)).trans f2;have H1:=aa h1;have H2:=aa h2;have H3:=aa h3;have H4:=aa h4;clear h1 h2 h3 h4 rf)
  obtain⟨z0,z1,z2,z3,z4,z5,_,_⟩:=(jI.o.all (.string x0) (.string x1) (.bool x2) (.int .i64 x3) (.int .i64 x4) (.slice x5 x6 x7)).cells;refine KV (v:= .tuple #[aM ⟨x0,x1,x2,x3,x4,x5,x6,x7,x8⟩,.bool true]) (by simp[results,Tryz.results112,go_sem,aM,z0,z1,z2,z3,z4,z5]) rfl ?_;have vq:=(HH.o.kept ay).Hg H3.o H4.o H1.o;obtain⟨AA,cL,DH⟩:=vq.Ui LA lc DE ((HLW.o.kept ae).fr H4.o (.inl rfl)) (λv hv=>⟨((HH.o.jH v (Um.o v hv)).1.kept ay).fr H4.o,(HH.o.jH v (Um.o v hv)).2⟩) hlen;have sk:Fz w.heap.size _ _:=⟨ah.all w.heap.size (.string x0) (.string x1) (.bool x2) (.int .i64 x3) (.int .i64 x4) (.slice x5 x6 x7),jI.o,_,_,_,_,_,_,jI.o.all _ _ _ _ _ _⟩;have mh:=((((ah.ar ay).trans (H3.o.mono (T:=[p.sb,p.mb]) ao)).trans (cL.mono ao))).new sk.but ao;exact⟨_,true,_,rfl,AA.ln sk,.inr ⟨rfl,i,bM,L',b2,HI.o,DD.o,ii.o,H2.o,by rw[DF.o]⟩,mh,HH.o.Ul mh⟩
theorem qeA (a b:Int×Int):(fj a b).1=max (max 0 a.1) b.1:=by
 unfold fj maxOf zz c8;simp only[List.foldl_cons,List.foldl_nil,decide_eq_true_eq];split <;>split <;>simp_all <;>omega
def kH (a:Int×Int) (ds:List aD):Int×Int:=ds.foldl (λm d=>fj m (d.n,d.s)) a
theorem qeB (a:Int×Int) (ds:List aD) (d:aD):kH a (ds++[d])=fj (kH a ds) (d.n,d.s):=by simp[kH]
theorem Un (B:Int):∀ (ds:List aD) (a:Int×Int),0<=a.1->a.1<=B->(∀ d∈ds,d.n<=B)->0<=(kH a ds).1/\(kH a ds).1<=B/\a.1<=(kH a ds).1/\∀ d∈ds,d.n<=(kH a ds).1
 |[],a,h0,h1,_=>⟨h0,h1,Int.le_refl _,λd hd=>by cases hd⟩
 |d::t,a,h0,h1,h2=>by
  have e:=qeA a (d.n,d.s);have h3:=h2 d ao;simp only at e;obtain⟨k1,k2,k3,k4⟩:=Un B t (fj a (d.n,d.s)) ab ab (λx hx=>h2 x (by simp[hx]));refine⟨k1,k2,by show a.1<=(kH (fj a (d.n,d.s)) t).1;omega,λx hx=> ?_⟩;show x.n<=(kH (fj a (d.n,d.s)) t).1
  rcases KX.1 hx with rfl|hx
  ·omega
  ·exact k4 x hx
def Uo (id:Int) (σ:ci) (k vl:ByteArray) (g:Bool) (ds:List aD):Prop:=¬b4 σ.own k∨¬WC ⟨k,vl,g,(kH (σ.cn,σ.cs) ds).1+1,id,none,0,0,ds⟩ ds
def Uq (w:World) (B:Int) (id:Int) (σ:ci) (k vl:ByteArray) (g:Bool) (ds:List aD) (v:ax) (er:Int) (σ':ci):Prop:=
 (er≠0/\v=zeroV/\σ'=σ/\Uo id σ k vl g ds)∨(er=0/\b4 σ.own k/\v.key=k/\v.val=vl/\v.gone=g/\v.ds=ds/\v.s=id/\v.n=(kH (σ.cn,σ.cs) ds).1+1/\b7 w (B+1) v/\∃ L' b,xP σ.own σ.L v L' b/\σ'={σ with L:=L',cn:=v.n,cs:=v.s})
theorem qeC (B:Int) (p:cZ) (id:Int) (σ:ci) (k vl:ByteArray) (g:Bool) (PA:Option Addr) (pc:Nat) (ds:List aD) (w:World) (h:ba w B p id σ) (hid:0<=id/\id<6) (hk:Let k) (hp:Rw w 60 3 aS (.slice PA ds.length pc) ds) (b':b9 ds) (Ur:∀ d∈ds,d.n<=B) (o8:vl.size<=9223372036854775807) (hB:0<=B) (h9:B+1<=100000000000):
  Calls Tryz.prog 87 #[.pointer (some ⟨p.sb,0,none⟩),.string k,.string vl,.bool g,.slice PA ds.length pc] w λe w'=>∃ v er σ',e= .returned (.tuple #[aM v,.int .i64 er])/\ba w' (B+1) p id σ'/\Uq w' B id σ k vl g ds v er σ'/\ah [p.sb,p.mb] w w'/\Fr bq w w':=by
 obtain⟨WA,wc,hb,hw⟩:=h.bB;obtain⟨s0,s1,s2,s3,s4,sf,sl⟩:=hb.cells;have HH:=aa h;have f3:=sf 3;have f4:=sf 4;have Mx:=aa (ns w);have HP:=aa hp;have HO:=aa (λw1 (K:ad w w1)=>Mu B p id σ w1 (HH.o.kept K) k);have ny:=aa s3;have l4:=aa s4;obtain⟨m,hm⟩:∃ m,ds.length=m:=⟨_,rfl⟩;have HM:=aa hm;have sm:m<=8:=by rw[<- hm];exact b'.len
 have bX:=aa b';have G9:=aa Ur;rw[hm]at HP⊢;clear sf hb hw h s2 hp b' Ur hm;go_in;go_wp2_with fail
 refine(HO.o _ al).mono ?_;rintro e w2 ⟨b2,rfl,bG,k2⟩;have K2:ad w w2:=ad.call al k2;have iZ:=aa bG;have NV:=VB.but Mx.o (.ar (S:=[]) k2) ao;clear bG
 cases b2
 ·
  obtain⟨r0,r1,r2,r3,r4,r5,rf,_⟩:=NV.cells;have g0:=rf 0;have g1:=rf 1;have g2:=rf 2;have g3:=rf 3;have g4:=rf 4;have g5:=rf 5;clear rf;go_wp2;obtain⟨z0,z1,z2,z3,z4,z5,_,_⟩:=(NV.all (.string ⟨#[]⟩) (.string ⟨#[]⟩) (.bool false) (.int .i64 0) (.int .i64 0) (.slice none 0 0)).cells;refine KV (v:= .tuple #[aM zeroV,.int .i64 14]) (by simp[results,Tryz.results87,go_sem,aM,zeroV,z0,z1,z2,z3,z4,z5]) rfl ?_;have KE:ad w _:=ad.but K2 (ah.all w.heap.size (.string ⟨#[]⟩) (.string ⟨#[]⟩) (.bool false) (.int .i64 0) (.int .i64 0) (.slice none 0 0)) ao;exact⟨zeroV,14,σ,rfl,(HH.o.kept KE).mono ab,.inl ⟨ak,rfl,rfl,.inl (λh=>Bool.false_ne_true (iZ.o.2 h))⟩,.ar KE,.ar KE⟩
 ·have s3:=K2.af s3;have s4:=K2.af s4;have s1:=K2.af s1;have dC:=aa (iZ.o.1 rfl);clear iZ;go_wp2;go_loopw [34] (λiv wr=>∃ (U:Nat) (bj a2:Int),U<=m/\iv= .int .i64 U/\ad w2 wr/\ag (wr.heap[w2.heap.size]? =some (.cells #[.int .i64 bj,.int .i64 a2] 45 (0,0)))/\ag (kH (σ.cn,σ.cs) (ds.take U)=(bj,a2))) (λiv _=>m-(intOf iv).toNat)
  case atStart=>exact⟨0,σ.cn,σ.cs,ab,rfl,al,l5 _ _,rfl⟩
  case round=>
   obtain⟨U,bj,a2,hj,rfl,kr,hs,lL⟩:=hrel;have t0:=aE hs.o 0;have t1:=aE hs.o 1;have q0:=aI hs.o 0;have q1:=aI hs.o 1;have jy:w2.heap.size<wr.heap.size:=(aQ hs.o);by_cases an:U<m
   ·obtain⟨x,hx⟩:∃ x,ds[U]? =some x:=⟨_,jc (by rw[HM.o];exact an)⟩;obtain⟨b,off,rfl,hb,hc⟩:=HP.o.af hx
    have HT:ag (kH (σ.cn,σ.cs) (ds.take (U+1))=fj (bj,a2) (x.n,x.s)):=by
     unfold ag;rw[QI (by rw[HM.o];exact an),(pi.1 hx).2,qeB,lL.o]
    have c0:=kr.af (K2.af (hc 0 _ rfl));have c1:=kr.af (K2.af (hc 1 _ rfl));have c2:=kr.af (K2.af (hc 2 _ rfl));simp only[aS,Nat.add_zero]at c0 c1 c2;obtain⟨x0,x1,x2⟩:=x;clear hx hc;obtain⟨W3,db⟩:∃ W3,W3=(wr.alloc (.cells #[.string x0,.int .i64 x1,.int .i64 x2] 60)).alloc (.cells #[.int .i64 bj,.int .i64 a2,.int .i64 x1,.int .i64 x2] 45):=⟨_,rfl⟩;have KW:ad wr W3:=by rw[db];exact al
    have Ha:ag (W3.heap[wr.heap.size+1]? =some (.cells #[.int .i64 bj,.int .i64 a2,.int .i64 x1,.int .i64 x2] 45 (0,0))):=by
     rw[db];exact ea ao
    go_wp2_with fail
    rw[<- db];clear db;refine(zA _ 2 2 [(bj,a2),(x1,x2)] W3 (CR Ha.o)).mono ?_;rintro e w4 ⟨rfl,k4⟩;have pC:=KW.call k4;have oy:=pC.heap hs.o;have l4:=aa oy;obtain⟨⟨m1,m2⟩,dn⟩:∃ m,maxOf [(bj,a2),(x1,x2)]=m:=⟨_,rfl⟩;have nz:ag (kH (σ.cn,σ.cs) (ds.take (U+1))=(m1,m2)):=by unfold ag;rw[HT.o,<- dn];rfl
    rw[dn];have t0:=aE oy 0;have t1:=aE oy 1;have q0:=aI oy 0;have q1:=aI oy 1;have K5:ad w2 ((w4.setCell ⟨w2.heap.size,0,none⟩ (.int .i64 m1)).setCell ⟨w2.heap.size,1,none⟩ (.int .i64 m2)):=ad.but (kr.call pC) ((ah.set _ 0 _).trans (ah.set _ 1 _)) ao;have dQ:ag (((w4.setCell ⟨w2.heap.size,0,none⟩ (.int .i64 m1)).setCell ⟨w2.heap.size,1,none⟩ (.int .i64 m2)).heap[w2.heap.size]? =some (.cells #[.int .i64 m1,.int .i64 m2] 45 (0,0))):=Ok _ _ 1 _ _ _ (Ok _ _ 0 _ _ _ oy);clear k4 KW dn oy;go_wp2;go_roundw
    case rel=>first|exact⟨U+1,m1,m2,ab,aA,K5,dQ,nz⟩|((repeat apply R7);exact⟨⟨U+1,m1,m2,ab,aA,K5,dQ,nz⟩,rfl⟩)
    case measure=>simp[intOf];omega
   ·obtain rfl:U=m:=ab
    have iw:kH (σ.cn,σ.cs) ds=(bj,a2):=by
     have h:=lL.o;rwa [qcc (by rw[HM.o];exact CP _)]at h
    have Us:=aa iw;have tE:=Un B ds (σ.cn,σ.cs) HH.o.pF.1 HH.o.pF.2.1 G9.o;rw[iw]at tE;have sa:=aa tE;have ha0:0<=bj:=tE.1;have kC:bj<=B:=tE.2.1;obtain⟨r,hr⟩:∃ r,r=max bj 0+1:=⟨_,rfl⟩;have di:ag (r=bj+1):=by unfold ag;omega
    have qi:ag (∀ W,Calls Tryz.prog 147 #[.agg #[.int .i64 bj,.int .i64 a2],.int .i64 id] W λe w'=>e= .returned (.tuple #[.agg #[.int .i64 r,.int .i64 id],.int .i64 0])/\ad W w'):=λW=>qbp bj a2 id r W hid.1 hid.2 ab hr;have s1:=kr.af s1;have My:=K2.call kr;clear iw tE hr lL;go_wp2;refine ey [none,none,none,none,none,none,none,none,none,some (λu w'=>∃ q,u= .pointer (some ⟨q,0,none⟩)/\wr.heap.size<=q/\w'.heap[q]? =some (.cells #[.int .i64 0,.int .i64 0] 45 (0,0)))] (λwB=>ad w wB/\ad w2 wB/\ad wr wB/\wB.cell? ⟨p.sb,1,none⟩=some (.int .i64 id)/\wB.cell? ⟨w2.heap.size,0,none⟩=some (.int .i64 bj)/\wB.cell? ⟨w2.heap.size,1,none⟩=some (.int .i64 a2)) λwB SS=> ?_;obtain⟨au,br,DI,_⟩:=SS.o _ (ad.refl _);iterate 5 refine SP.on ?_
    apply SP.one av
    ·intro wd hI hF;obtain⟨ae,ay,kI,ai,aj,aq⟩:=SS.o wd hI;clear hF;go_wp2_with ((go_at_call 147;refine(qi.o _).mono ?_;rintro e w5 ⟨rfl,k5⟩));exact aP
    refine SP.np ?_;iterate 3 refine SP.on ?_
    refine SP.ew ?_ λv1=> ?_
    ·intro wd hI hF;obtain⟨ae,ay,kI,ai,aj,aq⟩:=SS.o wd hI;clear hF;go_wp2;exact bn rfl ⟨_,rfl,kI.size,l5 _ _⟩
    refine SP.late [8] av av ?_;intro wd hI hF;obtain⟨ae,ay,kI,ai,aj,aq⟩:=SS.o wd hI;have h1:=hF.1;clear hF SS;obtain⟨w9,⟨q,rfl,ko,hq⟩,k9⟩:=h1;have Q9:=k9.heap hq;have t0:=aE Q9 0;have t1:=aE Q9 1;have q0:=aI Q9 0;have q1:=aI Q9 1;clear hq k9;refine TL.go ?_;refine TL.go ?_;refine TL.nil ?_;obtain⟨W6,pG⟩:∃ W6,W6=(wd.setCell ⟨q,0,none⟩ (.int .i64 r)).setCell ⟨q,1,none⟩ (.int .i64 id):=⟨_,rfl⟩;have Uug:ah [q] wd W6:=by rw[pG];exact(ah.set _ 0 _).trans (ah.set _ 1 _)
    have K6:ad w W6:=ad.but ae Uug (by have:=My.size;simp;omega);have K62:ad w2 W6:=ad.but ay Uug (by have:=kr.size;simp;omega);have tF:ag (W6.heap[q]? =some (.cells #[.int .i64 r,.int .i64 id] 45 (0,0))):=by rw[pG];exact Ok _ _ 1 _ _ _ (Ok _ _ 0 _ _ _ Q9)
    rw[<- pG];clear pG Uug Q9 t0 t1 q0 q1 ae ay kI au br DI hs hI;have x60:=aE tF.o 0;have x61:=aE tF.o 1;have DJ:=aa (HP.o.kept K6);have hK6:=K6.size;go_wp2;refine ey [none,none,none,none,none,some (λu w'=>∃ A c,u= .slice A ds.length c/\Rw w' 60 3 aS u ds),none,some (λu w'=>∃ q,u= .pointer (some ⟨q,0,none⟩)/\W6.heap.size<=q/\w'.heap[q]? =some (.cells #[.string ⟨#[]⟩,.string ⟨#[]⟩,.bool false,.int .i64 0,.int .i64 0,.slice none 0 0] 48 (0,0)))] (λwB=>ad w wB/\ad w2 wB/\ad W6 wB/\wB.cell? ⟨q,0,none⟩=some (.int .i64 r)/\wB.cell? ⟨q,1,none⟩=some (.int .i64 id)) λwB SS=> ?_;obtain⟨au,br,DI,_⟩:=SS.o _ (ad.refl _);iterate 5 refine SP.on ?_
    refine SP.ew ?_ λv1=> ?_
    ·intro wd hI hF;obtain⟨ae,ay,kI,ai,aj⟩:=SS.o wd hI;clear hF;go_wp2_with ((go_at_call 148;refine(FO _ ds _ (DJ.o.kept kI) (by rw[HM.o];omega)).mono ?_;rintro e w5 ⟨v',rfl,ho,k5⟩;obtain⟨A5,c5,oE⟩:=ca ho;subst oE));exact bn rfl ⟨A5,c5,rfl,Rw.bp ho gT ak⟩
    refine SP.oe (v:= .agg #[.string k,.string vl,.bool g,.int .i64 r,.int .i64 id,v1]) ?_ ?_
    ·intro wd hI hF;obtain⟨ae,ay,kI,ai,aj⟩:=SS.o wd hI;have h1:=hF.1;clear hF;(obtain⟨w9,⟨A,c,rfl,_⟩,_⟩:=h1);go_wp2;exact aP
    refine SP.ew ?_ λv2=> ?_
    ·intro wd hI hF;obtain⟨ae,ay,kI,ai,aj⟩:=SS.o wd hI;clear hF;go_wp2;exact bn rfl ⟨_,rfl,kI.size,l5 _ _⟩
    refine SP.ml SS ?_;rintro wd hI hF ⟨ae,ay,kI,ai,aj⟩;have h1:=hF.2.1;have h2:=hF.1;clear hF SS;obtain⟨w9,⟨XA,xc,rfl,bU⟩,k9⟩:=h1;obtain⟨w8,⟨q2,rfl,qkW,gE⟩,k8⟩:=h2;have V2:VB wd q2 (.string ⟨#[]⟩) (.string ⟨#[]⟩) (.bool false) (.int .i64 0) (.int .i64 0) (.slice none 0 0):=k8.heap gE;obtain⟨r0,r1,r2,r3,r4,r5,rf,_⟩:=V2.cells;have g0:=rf 0;have g1:=rf 1;have g2:=rf 2;have g3:=rf 3;have g4:=rf 4;have g5:=rf 5;have eY:=aa V2;have cN:=aa (bU.kept k9);clear rf gE k8 k9 bU;go_wp2_with fail
    obtain⟨W7,lp⟩:∃ W7,W7=(((((wd.setCell ⟨q2,0,none⟩ (.string k)).setCell ⟨q2,1,none⟩ (.string vl)).setCell ⟨q2,2,none⟩ (.bool g)).setCell ⟨q2,3,none⟩ (.int .i64 r)).setCell ⟨q2,4,none⟩ (.int .i64 id)).setCell ⟨q2,5,none⟩ (.slice XA ds.length xc):=⟨_,rfl⟩;have qB:ah [q2] wd W7:=by rw[lp];exact ah.all q2 _ _ _ _ _ _
    have nA:VB W7 q2 (.string k) (.string vl) (.bool g) (.int .i64 r) (.int .i64 id) (.slice XA ds.length xc):=by rw[lp];exact eY.o.all _ _ _ _ _ _
    have vr:Rw W7 60 3 aS (.slice XA ds.length xc) ds:=cN.o.fr (Fz.fr ⟨qB,eY.o,_,_,_,_,_,_,nA⟩) ak;have qkX:=K62.size;have K7:ad w W7:=ad.but ae qB (by simp;omega);have Ut:ad w2 W7:=ad.but ay qB (by simp;omega);have Uu:ad W6 W7:=ad.but kI qB (by simp;omega);rw[<- lp];have vt:=C9 ⟨k,vl,g,r,id,XA,ds.length,xc,ds⟩ ds W7 hk vr (λd hd=>(bX.o.ok d hd).1) (by rw[HM.o];omega) o8;unfold aM at vt;refine vt.mono ?_;rintro e w8 ⟨Gp,rfl,xY,k8⟩;have K8:=K7.call k8;have V8:=VB.but nA (.ar (S:=[]) k8) ao;have Hi:=aa V8;have AB:=aa ((Uu.call k8).heap tF.o);have s0:=K8.af s0;have s3:=K8.af (show w.cell? ⟨p.sb,3,none⟩=_ from ny.o);have s4:=K8.af (show w.cell? ⟨p.sb,4,none⟩=_ from l4.o);have f3:=(K8.frozen p.sb 3 sl).trans f3;have f4:=(K8.frozen p.sb 4 sl).trans f4;have NV:=VB.but NV (.ar (S:=[]) (Ut.call k8)) ao;have Uv:=aa xY;have Mz:=aa (vr.kept k8);have Hj:q<W6.heap.size:=(aQ tF.o);clear lp qB nA vr xY vt K7 Ut Uu r0 r1 r2 r3 r4 r5 g0 g1 g2 g3 g4 g5 ae ay kI au br DI hI x60 x61
    cases Gp
    ·
     obtain⟨r0,r1,r2,r3,r4,r5,rf,_⟩:=NV.cells;have g0:=rf 0;have g1:=rf 1;have g2:=rf 2;have g3:=rf 3;have g4:=rf 4;have g5:=rf 5;clear rf;go_wp2;obtain⟨z0,z1,z2,z3,z4,z5,_,_⟩:=(NV.all (.string ⟨#[]⟩) (.string ⟨#[]⟩) (.bool false) (.int .i64 0) (.int .i64 0) (.slice none 0 0)).cells;refine KV (v:= .tuple #[aM zeroV,.int .i64 1]) (by simp[results,Tryz.results87,go_sem,aM,zeroV,z0,z1,z2,z3,z4,z5]) rfl ?_;have KE:ad w _:=ad.but K8 (ah.all w.heap.size (.string ⟨#[]⟩) (.string ⟨#[]⟩) (.bool false) (.int .i64 0) (.int .i64 0) (.slice none 0 0)) ao;exact⟨zeroV,1,σ,rfl,(HH.o.kept KE).mono ab,.inl ⟨ak,rfl,rfl,.inr (λhw=>Bool.false_ne_true (Uv.o.2 (by rw[Us.o]at hw;rw[di.o];exact hw)))⟩,.ar KE,.ar KE⟩
    ·have nx:ag (b7 w8 (B+1) ⟨k,vl,g,r,id,XA,ds.length,xc,ds⟩):=⟨hk,by have:=di.o;show r<=B+1;omega,Mz.o,bX.o,λd hd=>by have:=G9.o d hd;omega,Uv.o.1 rfl⟩;obtain⟨y0,y1,y2,y3,y4,y5,_,_⟩:=V8.cells;clear V8 k8;have qeD:=aa NV
     have Ao:p.mb<w.heap.size:=by
      obtain⟨C,⟨D,⟨es,clock,h2,_⟩,_⟩,_⟩:=HH.o.sh.fz;exact(aQ h2)
     have aN:p.sb≠p.mb:=HH.o.apart.2.1;have aW:=K2.size;have hz8:=K8.size;have nj:=K6.size;clear NV;go_wp2;refine ey [none,none,none,none,none] (λwB=>ad w8 wB/\ad w wB/\wB.cell? ⟨p.sb,0,none⟩=some (.pointer (some ⟨p.hb,0,none⟩))/\wB.cell? ⟨p.sb,3,none⟩=some (.int .i64 σ.cn)/\wB.cell? ⟨p.sb,4,none⟩=some (.int .i64 σ.cs)/\wB.cell? ⟨q2,0,none⟩=some (.string k)/\wB.cell? ⟨q2,1,none⟩=some (.string vl)/\wB.cell? ⟨q2,2,none⟩=some (.bool g)/\wB.cell? ⟨q2,3,none⟩=some (.int .i64 r)/\wB.cell? ⟨q2,4,none⟩=some (.int .i64 id)/\wB.cell? ⟨q2,5,none⟩=some (.slice XA ds.length xc)) λwB SS=> ?_;iterate 5 refine SP.on ?_
     refine SP.ml SS ?_;rintro wd hI hF ⟨ae,ay,ai,aj,aq,az,aK,a1,cw,d',jf⟩;clear hF SS;have oF:=Mt (B+1) p.hb p.mb σ.own σ.L _ wd ((HH.o.sh.kept ay).mono ab) (nx.o.kept ae) ab h9;have B1:=aa (VB.but qeD.o (.ar (S:=[]) ae) ao);have xX:=aa (VB.but Hi.o (.ar (S:=[]) ae) ao);have MA:=ae.heap AB.o;have f3:=(ae.frozen p.sb 3 ab).trans f3;have f4:=(ae.frozen p.sb 4 ab).trans f4;have bu:=ae.size;go_wp2_with (go_at_call 150;refine oF.mono ?_;rintro e w5 ⟨b2,L',rfl,h1,h2,h3,h4⟩;have s3:=h3.af aj (by simpa using aN);have s4:=h3.af aq (by simpa using aN);have jE:=h3.heap MA (by simp;omega);have t0:=aE jE 0;have t1:=aE jE 1;have cL:=(h3.Uk p.sb 3 (.int .i64 r)).trans ((ah.set p.sb 4 (.int .i64 id)).mono ao);obtain⟨y0,y1,y2,y3,y4,y5,_,_⟩:=(VB.but xX.o cL (by simp;omega)).cells;have jI:=aa (VB.but B1.o cL (by simp;omega));clear cL;obtain⟨r0,r1,r2,r3,r4,r5,rf,_⟩:=jI.o.cells;have g0:=rf 0;have g1:=rf 1;have g2:=rf 2;have g3:=rf 3;have g4:=rf 4;have g5:=rf 5;have f3:=(h3.frozen (p:=⟨p.sb,3,none⟩) (by simp;omega) (by simpa using aN)).trans f3;have f4:=(h3.frozen (p:=⟨p.sb,4,none⟩) (by simp;omega) (by simpa using aN)).trans f4;have H1:=aa h1;have H2:=aa h2;have H3:=aa h3;have H4:=aa h4;clear h1 h2 h3 h4 rf)
     obtain⟨z0,z1,z2,z3,z4,z5,_,_⟩:=(jI.o.all (.string k) (.string vl) (.bool g) (.int .i64 r) (.int .i64 id) (.slice XA ds.length xc)).cells;refine KV (v:= .tuple #[aM ⟨k,vl,g,r,id,XA,ds.length,xc,ds⟩,.int .i64 0]) (by simp[results,Tryz.results87,go_sem,aM,z0,z1,z2,z3,z4,z5]) rfl ?_;have b3:=di.o;have vq:=((HH.o.kept ay).mono (B2:=B+1) ab).Hg H3.o H4.o H1.o;obtain⟨AA,cL,DH⟩:=vq.Hf r id ⟨ab,ab,hid.1,hid.2⟩;have sk:Fz w.heap.size _ _:=⟨ah.all w.heap.size (.string k) (.string vl) (.bool g) (.int .i64 r) (.int .i64 id) (.slice XA ds.length xc),jI.o,_,_,_,_,_,_,jI.o.all _ _ _ _ _ _⟩;have mh:=((((ah.ar ay).trans (H3.o.mono (T:=[p.sb,p.mb]) ao)).trans (cL.mono ao))).new sk.but ao;exact⟨_,0,_,rfl,AA.ln sk,.inr ⟨rfl,dC.o,rfl,rfl,rfl,rfl,rfl,by rw[Us.o];exact b3,(((nx.o.kept ae).fr H4.o).fr DH).ln sk,L',b2,H2.o,rfl⟩,mh,HH.o.Ul mh⟩
end Go.Proofs.YtehaoggjlciobaaGreat

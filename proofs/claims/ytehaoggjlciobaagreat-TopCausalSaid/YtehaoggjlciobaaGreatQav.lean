/- Part 16 of 40. -/
import Derived.Test.YtehaoggjlciobaaGreatQau
import Derived.Deep.RegionLaw
set_option linter.all false
set_option maxRecDepth 20000
set_option maxHeartbeats 16000000
namespace Go.Proofs.YtehaoggjlciobaaGreat
open Go.Maps Go.RowKit Go.Proofs.Tryz
variable {b:Bool} {B k:Int} {l:List cf} {U h i q:Nat} {v:Value} {w w2:World} {p:cZ} {a:cf} {σ:ci}
def Uj (σ:ci) (x:ax) (b:Bool) (σ':ci):Prop:=
 (b=false/\x=zeroV/\σ'=σ)∨(b=true/\∃ i bM L' b2,σ.wait[i]? =some x/\j0 σ.L bM/\oA bM σ.own x.ds/\xP σ.own σ.L x L' b2/\σ'={σ with wait:=σ.wait.take i++σ.wait.drop (i+1),L:=L'})
theorem ah.Uk {a:Nat} (h:ah [a] w w2) (b qD:Nat) (v:Value):ah [b,a] w (w2.setCell ⟨b,qD,none⟩ v):=(h.mono (T:=[b,a]) ao).trans ((ah.set b qD v).mono ao)
theorem Rw.zero {l:List ax} {x0 x1 x2 x3 x4 x5:Value} (h:Rw w 48 6 a8 v l) (hq:VB w q (.string ⟨#[]⟩) (.string ⟨#[]⟩) (.bool false) (.int .i64 0) (.int .i64 0) (.slice none 0 0)) (hn:∀ x∈l,x.n≠0) (hb:ah [q] w w2) (gE:VB w2 q x0 x1 x2 x3 x4 x5):Rw w2 48 6 a8 v l:=by
 obtain⟨A,c,rfl,h1,h2,h3,h4⟩:=h;refine⟨A,c,rfl,h1,h2,h3,λp hl=> ?_⟩;obtain⟨b,off,cur,rfl,hc,hv⟩:=h4 p hl;by_cases e:b=q
 ·subst e
  have e0:l=[]:=by
   cases l with
   |nil=>rfl
   |cons a t=>
    exfalso
    have e3:=hv 0 a rfl 3 (.int .i64 a.n) rfl;rw[show w.heap[b]? =_ from hq]at hc;simp only[Option.some.injEq,Obj.cells.injEq]at hc;obtain⟨hc,_⟩:=hc;have ha:=hn a ao;subst hc;rcases off with _|_|off
    ·simp at e3;exact ha e3.symm
    ·simp at e3;exact ha e3.symm
    ·rcases off with _|off
     ·simp at e3
     ·simp at e3
  subst e0;exact⟨b,off,_,rfl,gE,λi a hi=>by simp at hi⟩
 ·exact⟨b,off,cur,rfl,hb.heap hc (by simpa using e),hv⟩
structure Fz (q:Nat) (w w2:World):Prop where
 but:ah [q] w w2
 zero:VB w q (.string ⟨#[]⟩) (.string ⟨#[]⟩) (.bool false) (.int .i64 0) (.int .i64 0) (.slice none 0 0)
 Az:∃ y0 y1 y2 y3 y4 y5,VB w2 q y0 y1 y2 y3 y4 y5
theorem Fz.fr (h:Fz q w w2):Fr (λt=>t≠48) w w2:=Fr.gn h.but λx hx cur e he=>by
 simp only[At]at hx;rw[hx,show w.heap[q]? =_ from h.zero]at he;simp only[Option.some.injEq,Obj.cells.injEq]at he;rw[<- he.2.1];simp
theorem Fz.ne (h:Fz q w w2) {b:Nat} {qD:Obj} (hb:w.heap[b]? =some qD) (ho:∀ cur,qD≠.cells cur 48 (0,0)):b∉[q]:=by
 intro hx;simp only[At]at hx;rw[hx,show w.heap[q]? =_ from h.zero]at hb;simp only[Option.some.injEq]at hb;exact ho _ hb.symm
theorem b7.ne {v:ax} (h:b7 w B v):v.n≠0:=by
 have:=qck h.wc.1;omega
theorem b7.ln {v:ax} (h:b7 w B v) (hk:Fz q w w2):b7 w2 B v:=⟨h.key,h.n,h.jB.fr hk.fr ak,h.cg,h.gR,h.wc⟩
theorem Fz.row (hk:Fz q w w2) {l:List ax} (h:Rw w 48 6 a8 v l) (hn:∀ x∈l,x.n≠0):Rw w2 48 6 a8 v l:=by
 obtain⟨y0,y1,y2,y3,y4,y5,hv⟩:=hk.Az;exact h.zero hk.zero hn hk.but hv
theorem dc.ln {k:ByteArray} {l:List ax} (h:dc w B k v l) (hk:Fz q w w2):dc w2 B k v l:=
 ⟨hk.row h.row λx hx=>(h.iG x hx).1.ne,λx hx=>⟨(h.iG x hx).1.ln hk,(h.iG x hx).2⟩,h.sd⟩
theorem cP.ln {hb mb:Nat} {own:List Rg} {L:ByteArray->List ax} (h:cP w B hb mb own L) (hk:Fz q w w2):cP w2 B hb mb own L:=by
 obtain⟨v,h3,h4⟩:=h.bB;obtain⟨C,h5,h6⟩:=h.fz;refine⟨⟨v,hk.but.heap h3 (hk.ne h3 λcur e=>by injection e with _ e2;exact absurd e2 ak),h4.fr hk.fr ak⟩,h.bx,C,h5.but hk.but ?_,λk bb=>⟨(h6 k bb).1.ln hk,(h6 k bb).2⟩⟩;obtain⟨D,⟨es,clock,h2,_⟩,_⟩:=h5;exact hk.ne h2 λcur e=>by cases e
theorem ba.ln {id:Int} (h:ba w B p id σ) (hk:Fz q w w2):ba w2 B p id σ:=by
 obtain⟨A,c,h1,h2⟩:=h.bB;exact⟨⟨A,c,hk.but.heap h1 (hk.ne h1 λcur e=>by injection e with _ e2;exact absurd e2 ak),hk.row h2 λx hx=>(h.jH x hx).1.ne⟩,h.sh.ln hk,λv hv=>⟨(h.jH v hv).1.ln hk,(h.jH v hv).2⟩,h.bx,h.pF⟩
theorem ba.Hg {id:Int} {L':ByteArray->List ax} (h:ba w B p id σ) (hb:ah [p.mb] w w2) (hf:Fr bq w w2) (hs:cP w2 B p.hb p.mb σ.own L'):ba w2 B p id {σ with L:=L'}:=by
 obtain⟨A,c,h1,h2⟩:=h.bB;exact⟨⟨A,c,hb.heap h1 (by simpa using h.apart.2.1),h2.fr hf (.inl rfl)⟩,hs,λv hv=>⟨(h.jH v hv).1.fr hf,(h.jH v hv).2⟩,h.bx,h.pF⟩
theorem ah.new {S T:List Nat} {a b c:World} (h:ah S a b) (k:ah T b c) (hT:∀ x∈T,a.heap.size<=x):ah S a c:=
 ⟨k.os.trans h.os,k.tape.trans h.tape,k.output.trans h.output,qcg h.size k.size,λx hx hn=>(k.block x (R4 hx h.size) λhm=>absurd (hT x hm) (Nat.not_le.2 hx)).trans (h.block x hx hn)⟩
theorem ba.Ul {id:Int} (h:ba w B p id σ) (hb:ah [p.sb,p.mb] w w2):Fr bq w w2:=Fr.gn hb λx hx cur e he=>by
 simp only[KX,List.not_mem_nil,or_false]at hx;rcases hx with rfl|rfl
 ·obtain⟨A,c,h1,_⟩:=h.bB;rw[show w.heap[p.sb]? =_ from h1]at he;simp only[Option.some.injEq,Obj.cells.injEq]at he;rw[<- he.2.1];decide
 ·obtain⟨C,⟨D,⟨es,clock,h2,_⟩,_⟩,_⟩:=h.sh.fz;rw[h2]at he;cases he
theorem qez (B:Int) (p:cZ) (id:Int) (σ:ci) (w:World) (h:ba w B p id σ) (hB:0<=B) (h9:B<=100000000000):
  Calls prog 112 #[.pointer (some ⟨p.sb,0,none⟩)] w λe w'=>∃ x b σ',e= .returned (.tuple #[aM x,.bool b])/\ba w' B p id σ'/\Uj σ x b σ'/\ah [p.sb,p.mb] w w'/\Fr bq w w':=by
 obtain⟨WA,wc,hb,hw⟩:=h.bB;obtain⟨s0,s1,s2,s3,s4,sf,sl⟩:=hb.cells;have HH:=aa h;have iI:=aa hw;have cX:=h.bx;have f2:=sf 2;have NV:=ns w;obtain⟨r0,r1,r2,r3,r4,r5,rf,_⟩:=NV.cells;have Mx:=aa NV;have DD:ag (∀ w1,ad w w1->Calls prog 46 #[.pointer (some ⟨p.sb,0,none⟩)] w1 λe w'=>∃ v' l,e= .returned v'/\Rw w' 60 3 aS v' l/\j0 σ.L l/\ad w1 w'):=λw1 K=>DC B p id σ w1 (HH.o.kept K) hB h9;have oB:ag (∀ w1,ad w w1->Calls prog 85 #[.pointer (some ⟨p.sb,0,none⟩)] w1 λe w'=>∃ v',e= .returned v'/\Rw w' 63 2 bZ v' σ.own/\ad w1 w'):=λw1 K=>tD B p id σ w1 (HH.o.kept K);clear sf hb hw h s1 s3 s4 NV rf;go_wp2;refine ku [0,1,2,3,4,6,5,7,8,9,10,11,12,13,14,15,16] [none,none,none,none,none,none,some (λu w'=>∃ l,Rw w' 60 3 aS u l/\j0 σ.L l),some (λu w'=>Rw w' 63 2 bZ u σ.own),some (λu w'=>∃ x kF b,u= .tuple #[aM x,kF,.bool b]/\∃ bM,j0 σ.L bM/\TW w' bM σ.own (.slice WA σ.wait.length wc) σ.wait x kF b),none,none,none,none,some (λu w'=>∃ q,u= .pointer (some ⟨q,0,none⟩)/\w.heap.size+1<=q/\w'.heap[q]? =some (.cells #[.string ⟨#[]⟩,.string ⟨#[]⟩,.bool false,.int .i64 0,.int .i64 0,.slice none 0 0] 48 (0,0)))] (λwB=>ad w wB/\ad (w.alloc (.cells #[.string ⟨#[]⟩,.string ⟨#[]⟩,.bool false,.int .i64 0,.int .i64 0,.slice none 0 0] 48)) wB/\wB.cell? ⟨p.sb,0,none⟩=some (.pointer (some ⟨p.hb,0,none⟩))/\wB.cell? ⟨p.sb,2,none⟩=some (.slice WA σ.wait.length wc)) λwB SS=> ?_;obtain⟨au,br,_⟩:=SS.o _ (ad.refl _);iterate 6 refine SP.on ?_
 refine SP.ew ?_ λv1=> ?_
 ·intro wd hI hF;obtain⟨ae,ay,ai,aj⟩:=SS.o wd hI;clear hF;go_wp2_with ((go_at_call 46;refine(DD.o _ ae).mono ?_;rintro e w4 ⟨v',l,rfl,h4,h5,k4⟩));exact bn rfl ⟨l,h4,h5⟩
 refine SP.ew ?_ λv2=> ?_
 ·intro wd hI hF;obtain⟨ae,ay,ai,aj⟩:=SS.o wd hI;clear hF;go_wp2_with ((go_at_call 85;refine(oB.o _ ae).mono ?_;rintro e w4 ⟨v',rfl,h4,k4⟩));exact bn rfl h4
 refine SP.ew ?_ λv3=> ?_
 ·intro wd hI hF;obtain⟨ae,ay,ai,aj⟩:=SS.o wd hI;have h1:=hF.2.1 av;have h2:=hF.1 av;clear hF;go_wp2_with ((go_at_call 186;obtain⟨wa,⟨hl,kC,gg⟩,nw⟩:=h1;obtain⟨wb,hr,kb⟩:=h2;obtain⟨RA,rc,rfl,_,_⟩:=hr.form;refine(qeh B _ _ σ.wait hl RA _ rc σ.own _ (iI.o.kept ae) ab (λx hx=>(HH.o.jH x hx).1.kept ae) (kC.kept nw) gg.cg (hr.kept kb).rows).mono ?_;rintro e w5 ⟨x,kF,b,rfl,h5,k5⟩));exact bn rfl ⟨x,kF,b,rfl,hl,gg,h5⟩
 refine SP.on (v:=v3) ?_;refine SP.oe (v:=eH v3 0) ?_ ?_
 ·intro wd hI hF;obtain⟨ae,ay,ai,aj⟩:=SS.o wd hI;have h1:=hF.1;clear hF;(obtain⟨w9,⟨x,kF,b,rfl,_⟩,_⟩:=h1);go_wp2;exact aP
 refine SP.oe (v:=eH v3 1) ?_ ?_
 ·intro wd hI hF;obtain⟨ae,ay,ai,aj⟩:=SS.o wd hI;have h1:=hF.1;clear hF;(obtain⟨w9,⟨x,kF,b,rfl,_⟩,_⟩:=h1);go_wp2;exact aP
 refine SP.oe (v:=eH v3 2) ?_ ?_
 ·intro wd hI hF;obtain⟨ae,ay,ai,aj⟩:=SS.o wd hI;have h1:=hF.1;clear hF;(obtain⟨w9,⟨x,kF,b,rfl,_⟩,_⟩:=h1);go_wp2;exact aP
 refine SP.ew ?_ λv4=> ?_
 ·intro wd hI hF;obtain⟨ae,ay,ai,aj⟩:=SS.o wd hI;clear hF;go_wp2;exact bn rfl ⟨_,rfl,by have:=ay.size;simpa using this,yY _ _⟩
 refine SP.late [11,12] av av ?_;intro wd hI hF;obtain⟨ae,ay,ai,aj⟩:=SS.o wd hI;have h1:=hF.2.1;have h2:=hF.1;clear hF SS;obtain⟨w9,⟨x,kF,b,rfl,bM,vp,dV⟩,k9⟩:=h1;obtain⟨w8,⟨q,rfl,ko,hq⟩,k8⟩:=h2;simp only[L4,L5,L6];have qi:=aa dV;have DD:=aa vp;obtain⟨x0,x1,x2,x3,x4,x5,x6,x7,x8⟩:=x;unfold aM;have V2:VB wd q (.string ⟨#[]⟩) (.string ⟨#[]⟩) (.bool false) (.int .i64 0) (.int .i64 0) (.slice none 0 0):=k8.heap hq;obtain⟨z0,z1,z2,z3,z4,z5,zf,zl⟩:=V2.cells;have eY:=aa V2;have g0:=zf 0;have g1:=zf 1;have g2:=zf 2;have g3:=zf 3;have g4:=zf 4;have g5:=zf 5;clear dV vp k8 hq V2 zf;refine TL.go ?_;refine TL.go ?_;refine TL.go ?_;refine TL.nil ?_;obtain⟨W3,db⟩:=eqR ((((((wd.setCell ⟨q,0,none⟩ (.string x0)).setCell ⟨q,1,none⟩ (.string x1)).setCell ⟨q,2,none⟩ (.bool x2)).setCell ⟨q,3,none⟩ (.int .i64 x3)).setCell ⟨q,4,none⟩ (.int .i64 x4)).setCell ⟨q,5,none⟩ (.slice x5 x6 x7));have ck:ah [q] wd W3:=by rw[db];exact ah.all q _ _ _ _ _ _
 have K3:ad w W3:=ad.but ae ck (by simp;omega);have sj:ad _ W3:=ad.but ay ck (by simp;omega);have HX:VB W3 q (.string x0) (.string x1) (.bool x2) (.int .i64 x3) (.int .i64 x4) (.slice x5 x6 x7):=by rw[db];exact eY.o.all _ _ _ _ _ _
 have s0:=K3.af s0;have HR:VB W3 w.heap.size (.string ⟨#[]⟩) (.string ⟨#[]⟩) (.bool false) (.int .i64 0) (.int .i64 0) (.slice none 0 0):=VB.but Mx.o (.ar (S:=[]) sj) ao;have cN:ag (∀ l,Rw w9 48 6 a8 kF l->(∀ x∈l,x.n≠0)->Rw W3 48 6 a8 kF l):=λl h hn=>(h.kept k9).zero eY.o hn ck HX;rw[<- db];clear db ck z0 z1 z2 z3 z4 z5 g0 g1 g2 g3 g4 g5 zl ae ay au br k9;obtain⟨z0,z1,z2,z3,z4,z5,_,_⟩:=HX.cells;obtain⟨r0,r1,r2,r3,r4,r5,rf,_⟩:=HR.cells;have g0:=rf 0;have g1:=rf 1;have g2:=rf 2;have g3:=rf 3;have g4:=rf 4;have g5:=rf 5;have dv:=aa HR;have b6:=aa HX;clear rf HR HX
 have Ao:p.mb<w.heap.size:=by
  obtain⟨C,⟨D,⟨es,clock,h2,_⟩,_⟩,_⟩:=HH.o.sh.fz;exact(aQ h2)
 cases b
 ·go_wp2;obtain⟨z0,z1,z2,z3,z4,z5,_,_⟩:=(dv.o.all (.string x0) (.string x1) (.bool x2) (.int .i64 x3) (.int .i64 x4) (.slice x5 x6 x7)).cells;refine KV (v:= .tuple #[aM ⟨x0,x1,x2,x3,x4,x5,x6,x7,x8⟩,.bool false]) (by simp[results,results112,go_sem,aM,z0,z1,z2,z3,z4,z5]) rfl ?_;have KE:ad w _:=ad.but K3 (ah.all w.heap.size (.string x0) (.string x1) (.bool x2) (.int .i64 x3) (.int .i64 x4) (.slice x5 x6 x7)) ao;rcases qi.o with ⟨h,_⟩|⟨_,hx,_⟩
  ·cases h
  ·exact⟨_,false,σ,rfl,HH.o.kept KE,.inl ⟨rfl,hx,rfl⟩,.ar KE,.ar KE⟩
 ·obtain⟨i,hi,mK,bU⟩:∃ i,σ.wait[i]? =some ⟨x0,x1,x2,x3,x4,x5,x6,x7,x8⟩/\oA bM σ.own x8/\Rw w9 48 6 a8 kF (σ.wait.take i++σ.wait.drop (i+1)):=by
   rcases qi.o with ⟨_,i,h1,h2,h3⟩|⟨h,_⟩
   ·exact⟨i,h1,h2,h3⟩
   ·cases h
  have rP:=zV hi
  have lU:∀ y∈σ.wait.take i++σ.wait.drop (i+1),y∈σ.wait:=λy hy=>by
   rcases Pv.1 hy with g|g
   ·exact List.mem_of_mem_take g
   ·exact List.mem_of_mem_drop g
  have bU:=cN.o _ bU (λy hy=>by
   have h:=qck (HH.o.jH y (lU y hy)).1.wc.1;omega)
  obtain⟨DE,Hh⟩:∃ DE,DE=σ.wait.take i++σ.wait.drop (i+1):=⟨_,rfl⟩;have hlen:DE.length<=24:=by rw[Hh];simp;omega
  rw[<- Hh]at bU lU;obtain⟨LA,lc,rfl,_,_⟩:=bU.form;have DF:=aa Hh;clear Hh;have HLW:=aa bU;have ii:=aa mK;have HI:=aa hi;have Um:=aa lU;have nx:ag (b7 w B ⟨x0,x1,x2,x3,x4,x5,x6,x7,x8⟩):=(HH.o.jH _ rP).1;clear bU mK hi lU rP r0 r1 r2 r3 r4 r5 g0 g1 g2 g3 g4 g5;have f2:=(K3.frozen p.sb 2 sl).trans f2;go_wp2;refine ey [none,none,none,none,none] (λwB=>ad W3 wB/\ad w wB/\wB.cell? ⟨p.sb,0,none⟩=some (.pointer (some ⟨p.hb,0,none⟩))/\wB.cell? ⟨q,0,none⟩=some (.string x0)/\wB.cell? ⟨q,1,none⟩=some (.string x1)/\wB.cell? ⟨q,2,none⟩=some (.bool x2)/\wB.cell? ⟨q,3,none⟩=some (.int .i64 x3)/\wB.cell? ⟨q,4,none⟩=some (.int .i64 x4)/\wB.cell? ⟨q,5,none⟩=some (.slice x5 x6 x7)) λwB SS=> ?_;iterate 5 refine SP.on ?_
  refine SP.ml SS ?_;rintro wd hI hF ⟨ae,ay,ai,aj,aq,az,aK,a1,cw⟩;clear hF SS;have HP:=Mt B p.hb p.mb σ.own σ.L _ wd (HH.o.sh.kept ay) (nx.o.kept ay) hB h9;have B1:=aa (VB.but dv.o (.ar (S:=[]) ae) ao);have xX:=aa (VB.but b6.o (.ar (S:=[]) ae) ao);have f2:=(ae.frozen p.sb 2 (R4 sl K3.size)).trans f2;have aN:p.sb≠p.mb:=HH.o.apart.2.1;have s2:=ay.af s2;have bu:=ay.size;go_wp2_with (go_at_call 150;refine HP.mono ?_;rintro e w5 ⟨b2,L',rfl,h1,h2,h3,h4⟩;have s2:=h3.af s2 (by simpa using aN);have cL:=h3.Uk p.sb 2 (.slice LA DE.length lc);obtain⟨y0,y1,y2,y3,y4,y5,_,_⟩:=(VB.but xX.o cL (by simp;omega)).cells;have jI:=aa (VB.but B1.o cL (by simp;omega));clear cL;obtain⟨r0,r1,r2,r3,r4,r5,rf,_⟩:=jI.o.cells;have g0:=rf 0;have g1:=rf 1;have g2:=rf 2;have g3:=rf 3;have g4:=rf 4;have g5:=rf 5;have f2:=(h3.frozen (p:=⟨p.sb,2,none⟩) (by simp;omega) (by simpa using aN)).trans f2;have H1:=aa h1;have H2:=aa h2;have H3:=aa h3;have H4:=aa h4;clear h1 h2 h3 h4 rf)
  obtain⟨z0,z1,z2,z3,z4,z5,_,_⟩:=(jI.o.all (.string x0) (.string x1) (.bool x2) (.int .i64 x3) (.int .i64 x4) (.slice x5 x6 x7)).cells;refine KV (v:= .tuple #[aM ⟨x0,x1,x2,x3,x4,x5,x6,x7,x8⟩,.bool true]) (by simp[results,results112,go_sem,aM,z0,z1,z2,z3,z4,z5]) rfl ?_;have vq:=(HH.o.kept ay).Hg H3.o H4.o H1.o;obtain⟨AA,cL,DH⟩:=vq.Ui LA lc DE ((HLW.o.kept ae).fr H4.o (.inl rfl)) (λv hv=>⟨((HH.o.jH v (Um.o v hv)).1.kept ay).fr H4.o,(HH.o.jH v (Um.o v hv)).2⟩) hlen;have sk:Fz w.heap.size _ _:=⟨ah.all w.heap.size (.string x0) (.string x1) (.bool x2) (.int .i64 x3) (.int .i64 x4) (.slice x5 x6 x7),jI.o,_,_,_,_,_,_,jI.o.all _ _ _ _ _ _⟩;have mh:=((((ah.ar ay).trans (H3.o.mono (T:=[p.sb,p.mb]) ao)).trans (cL.mono ao))).new sk.but ao;exact⟨_,true,_,rfl,AA.ln sk,.inr ⟨rfl,i,bM,L',b2,HI.o,DD.o,ii.o,H2.o,by rw[DF.o]⟩,mh,HH.o.Ul mh⟩
theorem qeA (a b:Int×Int):(fj a b).1=max (max 0 a.1) b.1:=by
 unfold fj maxOf zz c8;simp only[List.foldl_cons,List.foldl_nil,decide_eq_true_eq];split <;>split <;>simp_all <;>omega
def kH (a:Int×Int) (ds:List aD):Int×Int:=ds.foldl (λm d=>fj m (d.n,d.s)) a
theorem qeB (a:Int×Int) (ds:List aD) (d:aD):kH a (ds++[d])=fj (kH a ds) (d.n,d.s):=by simp[kH]
theorem Un (B:Int):∀ (ds:List aD) (a:Int×Int),0<=a.1->a.1<=B->(∀ d∈ds,d.n<=B)->0<=(kH a ds).1/\(kH a ds).1<=B/\a.1<=(kH a ds).1/\∀ d∈ds,d.n<=(kH a ds).1
 |[],a,h0,h1,_=>⟨h0,h1,Int.le_refl _,λd hd=>by cases hd⟩
 |d::t,a,h0,h1,h2=>by
  have e:=qeA a (d.n,d.s);have h3:=h2 d ao;simp only at e;obtain⟨k1,k2,k3,k4⟩:=Un B t (fj a (d.n,d.s)) ab ab (λx hx=>h2 x (by simp[hx]));refine⟨k1,k2,by show a.1<=(kH (fj a (d.n,d.s)) t).1;omega,λx hx=> ?_⟩;show x.n<=(kH (fj a (d.n,d.s)) t).1
  rcases KX.1 hx with rfl|hx
  ·omega
  ·exact k4 x hx
def Uo (id:Int) (σ:ci) (k vl:ByteArray) (g:Bool) (ds:List aD):Prop:=¬b4 σ.own k∨¬WC ⟨k,vl,g,(kH (σ.cn,σ.cs) ds).1+1,id,none,0,0,ds⟩ ds
def Uq (w:World) (B:Int) (id:Int) (σ:ci) (k vl:ByteArray) (g:Bool) (ds:List aD) (v:ax) (er:Int) (σ':ci):Prop:=
 (er≠0/\v=zeroV/\σ'=σ/\Uo id σ k vl g ds)∨(er=0/\b4 σ.own k/\v.key=k/\v.val=vl/\v.gone=g/\v.ds=ds/\v.s=id/\v.n=(kH (σ.cn,σ.cs) ds).1+1/\b7 w (B+1) v/\∃ L' b,xP σ.own σ.L v L' b/\σ'={σ with L:=L',cn:=v.n,cs:=v.s})
theorem qeC (B:Int) (p:cZ) (id:Int) (σ:ci) (k vl:ByteArray) (g:Bool) (PA:Option Addr) (pc:Nat) (ds:List aD) (w:World) (h:ba w B p id σ) (hid:0<=id/\id<6) (hk:Let k) (hp:Rw w 60 3 aS (.slice PA ds.length pc) ds) (b':b9 ds) (Ur:∀ d∈ds,d.n<=B) (o8:vl.size<=9223372036854775807) (hB:0<=B) (h9:B+1<=100000000000):
  Calls prog 87 #[.pointer (some ⟨p.sb,0,none⟩),.string k,.string vl,.bool g,.slice PA ds.length pc] w λe w'=>∃ v er σ',e= .returned (.tuple #[aM v,.int .i64 er])/\ba w' (B+1) p id σ'/\Uq w' B id σ k vl g ds v er σ'/\ah [p.sb,p.mb] w w'/\Fr bq w w':=by
 obtain⟨WA,wc,hb,hw⟩:=h.bB;obtain⟨s0,s1,s2,s3,s4,sf,sl⟩:=hb.cells;have HH:=aa h;have f3:=sf 3;have f4:=sf 4;have Mx:=aa (ns w);have HP:=aa hp;have HO:=aa (λw1 (K:ad w w1)=>Mu B p id σ w1 (HH.o.kept K) k);have ny:=aa s3;have l4:=aa s4;obtain⟨m,hm⟩:=eqQ ds.length;have HM:=aa hm;have sm:m<=8:=by rw[<- hm];exact b'.len
 have bX:=aa b';have G9:=aa Ur;rw[hm]at HP⊢;clear sf hb hw h s2 hp b' Ur hm;go_in;go_wp2_with fail
 refine(HO.o _ al).mono ?_;rintro e w2 ⟨b2,rfl,bG,k2⟩;have K2:ad w w2:=ad.call al k2;have iZ:=aa bG;have NV:=VB.but Mx.o (.ar (S:=[]) k2) ao;clear bG
 cases b2
 ·
  obtain⟨r0,r1,r2,r3,r4,r5,rf,_⟩:=NV.cells;have g0:=rf 0;have g1:=rf 1;have g2:=rf 2;have g3:=rf 3;have g4:=rf 4;have g5:=rf 5;clear rf;go_wp2;obtain⟨z0,z1,z2,z3,z4,z5,_,_⟩:=(NV.all (.string ⟨#[]⟩) (.string ⟨#[]⟩) (.bool false) (.int .i64 0) (.int .i64 0) (.slice none 0 0)).cells;refine KV (v:= .tuple #[aM zeroV,.int .i64 14]) (by simp[results,results87,go_sem,aM,zeroV,z0,z1,z2,z3,z4,z5]) rfl ?_;have KE:ad w _:=ad.but K2 (ah.all w.heap.size (.string ⟨#[]⟩) (.string ⟨#[]⟩) (.bool false) (.int .i64 0) (.int .i64 0) (.slice none 0 0)) ao;exact⟨zeroV,14,σ,rfl,(HH.o.kept KE).mono ab,.inl ⟨ak,rfl,rfl,.inl (λh=>Bool.false_ne_true (iZ.o.2 h))⟩,.ar KE,.ar KE⟩
 ·have s3:=K2.af s3;have s4:=K2.af s4;have s1:=K2.af s1;have dC:=aa (iZ.o.1 rfl);clear iZ;go_wp2;go_loopw [34] (λiv wr=>∃ (U:Nat) (bj a2:Int),U<=m/\iv= .int .i64 U/\ad w2 wr/\ag (wr.heap[w2.heap.size]? =some (.cells #[.int .i64 bj,.int .i64 a2] 45 (0,0)))/\ag (kH (σ.cn,σ.cs) (ds.take U)=(bj,a2))) (λiv _=>m-(intOf iv).toNat)
  case atStart=>exact⟨0,σ.cn,σ.cs,ab,rfl,al,yY _ _,rfl⟩
  case round=>
   obtain⟨U,bj,a2,hj,rfl,kr,hs,lL⟩:=hrel;have t0:=aE hs.o 0;have t1:=aE hs.o 1;have q0:=aI hs.o 0;have q1:=aI hs.o 1;have jy:w2.heap.size<wr.heap.size:=(aQ hs.o);by_cases an:U<m
   ·obtain⟨x,hx⟩:=exQ ds U (by rw[HM.o];exact an);obtain⟨b,off,rfl,hb,hc⟩:=HP.o.af hx
    have HT:ag (kH (σ.cn,σ.cs) (ds.take (U+1))=fj (bj,a2) (x.n,x.s)):=by
     unfold ag;rw[QI (by rw[HM.o];exact an),(pi.1 hx).2,qeB,lL.o]
    have c0:=kr.af (K2.af (hc 0 _ rfl));have c1:=kr.af (K2.af (hc 1 _ rfl));have c2:=kr.af (K2.af (hc 2 _ rfl));simp only[aS,Nat.add_zero]at c0 c1 c2;obtain⟨x0,x1,x2⟩:=x;clear hx hc;obtain⟨W3,db⟩:=eqR ((wr.alloc (.cells #[.string x0,.int .i64 x1,.int .i64 x2] 60)).alloc (.cells #[.int .i64 bj,.int .i64 a2,.int .i64 x1,.int .i64 x2] 45));have KW:ad wr W3:=by rw[db];exact al
    have Ha:ag (W3.heap[wr.heap.size+1]? =some (.cells #[.int .i64 bj,.int .i64 a2,.int .i64 x1,.int .i64 x2] 45 (0,0))):=by
     rw[db];exact ea ao
    go_wp2_with fail
    rw[<- db];clear db;refine(zA _ 2 2 [(bj,a2),(x1,x2)] W3 (CR Ha.o)).mono ?_;rintro e w4 ⟨rfl,k4⟩;have pC:=KW.call k4;have oy:=pC.heap hs.o;have l4:=aa oy;obtain⟨⟨m1,m2⟩,dn⟩:=eqQ (maxOf [(bj,a2),(x1,x2)]);have nz:ag (kH (σ.cn,σ.cs) (ds.take (U+1))=(m1,m2)):=by unfold ag;rw[HT.o,<- dn];rfl
    rw[dn];have t0:=aE oy 0;have t1:=aE oy 1;have q0:=aI oy 0;have q1:=aI oy 1;have K5:ad w2 ((w4.setCell ⟨w2.heap.size,0,none⟩ (.int .i64 m1)).setCell ⟨w2.heap.size,1,none⟩ (.int .i64 m2)):=ad.but (kr.call pC) ((ah.set _ 0 _).trans (ah.set _ 1 _)) ao;have dQ:ag (((w4.setCell ⟨w2.heap.size,0,none⟩ (.int .i64 m1)).setCell ⟨w2.heap.size,1,none⟩ (.int .i64 m2)).heap[w2.heap.size]? =some (.cells #[.int .i64 m1,.int .i64 m2] 45 (0,0))):=Ok _ _ 1 _ _ _ (Ok _ _ 0 _ _ _ oy);clear k4 KW dn oy;go_wp2;go_roundw
    case rel=>exact⟨U+1,m1,m2,ab,aA,K5,dQ,nz⟩
    case measure=>exact dY
   ·obtain rfl:U=m:=ab
    have iw:kH (σ.cn,σ.cs) ds=(bj,a2):=by
     have h:=lL.o;rwa [qcc (by rw[HM.o];exact CP _)]at h
    have Us:=aa iw;have tE:=Un B ds (σ.cn,σ.cs) HH.o.pF.1 HH.o.pF.2.1 G9.o;rw[iw]at tE;have sa:=aa tE;have ha0:0<=bj:=tE.1;have kC:bj<=B:=tE.2.1;obtain⟨r,hr⟩:=eqR (max bj 0+1);have di:ag (r=bj+1):=by unfold ag;omega
    have qi:ag (∀ W,Calls prog 147 #[.agg #[.int .i64 bj,.int .i64 a2],.int .i64 id] W λe w'=>e= .returned (.tuple #[.agg #[.int .i64 r,.int .i64 id],.int .i64 0])/\ad W w'):=λW=>qbp bj a2 id r W hid.1 hid.2 ab hr;have s1:=kr.af s1;have My:=K2.call kr;clear iw tE hr lL;go_wp2;refine ey [none,none,none,none,none,none,none,none,none,some (λu w'=>∃ q,u= .pointer (some ⟨q,0,none⟩)/\wr.heap.size<=q/\w'.heap[q]? =some (.cells #[.int .i64 0,.int .i64 0] 45 (0,0)))] (λwB=>ad w wB/\ad w2 wB/\ad wr wB/\wB.cell? ⟨p.sb,1,none⟩=some (.int .i64 id)/\wB.cell? ⟨w2.heap.size,0,none⟩=some (.int .i64 bj)/\wB.cell? ⟨w2.heap.size,1,none⟩=some (.int .i64 a2)) λwB SS=> ?_;obtain⟨au,br,DI,_⟩:=SS.o _ (ad.refl _);iterate 5 refine SP.on ?_
    apply SP.one av
    ·intro wd hI hF;obtain⟨ae,ay,kI,ai,aj,aq⟩:=SS.o wd hI;clear hF;go_wp2_with ((go_at_call 147;refine(qi.o _).mono ?_;rintro e w5 ⟨rfl,k5⟩));exact aP
    refine SP.np ?_;iterate 3 refine SP.on ?_
    refine SP.ew ?_ λv1=> ?_
    ·intro wd hI hF;obtain⟨ae,ay,kI,ai,aj,aq⟩:=SS.o wd hI;clear hF;go_wp2;exact bn rfl ⟨_,rfl,kI.size,yY _ _⟩
    refine SP.late [8] av av ?_;intro wd hI hF;obtain⟨ae,ay,kI,ai,aj,aq⟩:=SS.o wd hI;have h1:=hF.1;clear hF SS;obtain⟨w9,⟨q,rfl,ko,hq⟩,k9⟩:=h1;have Q9:=k9.heap hq;have t0:=aE Q9 0;have t1:=aE Q9 1;have q0:=aI Q9 0;have q1:=aI Q9 1;clear hq k9;refine TL.go ?_;refine TL.go ?_;refine TL.nil ?_;obtain⟨W6,pG⟩:=eqR ((wd.setCell ⟨q,0,none⟩ (.int .i64 r)).setCell ⟨q,1,none⟩ (.int .i64 id));have Uug:ah [q] wd W6:=by rw[pG];exact(ah.set _ 0 _).trans (ah.set _ 1 _)
    have K6:ad w W6:=ad.but ae Uug (by have:=My.size;simp;omega);have K62:ad w2 W6:=ad.but ay Uug (by have:=kr.size;simp;omega);have tF:ag (W6.heap[q]? =some (.cells #[.int .i64 r,.int .i64 id] 45 (0,0))):=by rw[pG];exact Ok _ _ 1 _ _ _ (Ok _ _ 0 _ _ _ Q9)
    rw[<- pG];clear pG Uug Q9 t0 t1 q0 q1 ae ay kI au br DI hs hI;have x60:=aE tF.o 0;have x61:=aE tF.o 1;have DJ:=aa (HP.o.kept K6);have hK6:=K6.size;go_wp2;refine ey [none,none,none,none,none,some (λu w'=>∃ A c,u= .slice A ds.length c/\Rw w' 60 3 aS u ds),none,some (λu w'=>∃ q,u= .pointer (some ⟨q,0,none⟩)/\W6.heap.size<=q/\w'.heap[q]? =some (.cells #[.string ⟨#[]⟩,.string ⟨#[]⟩,.bool false,.int .i64 0,.int .i64 0,.slice none 0 0] 48 (0,0)))] (λwB=>ad w wB/\ad w2 wB/\ad W6 wB/\wB.cell? ⟨q,0,none⟩=some (.int .i64 r)/\wB.cell? ⟨q,1,none⟩=some (.int .i64 id)) λwB SS=> ?_;obtain⟨au,br,DI,_⟩:=SS.o _ (ad.refl _);iterate 5 refine SP.on ?_
    refine SP.ew ?_ λv1=> ?_
    ·intro wd hI hF;obtain⟨ae,ay,kI,ai,aj⟩:=SS.o wd hI;clear hF;go_wp2_with ((go_at_call 148;refine(FO _ ds _ (DJ.o.kept kI) (by rw[HM.o];omega)).mono ?_;rintro e w5 ⟨v',rfl,ho,k5⟩;obtain⟨A5,c5,oE⟩:=ca ho;subst oE));exact bn rfl ⟨A5,c5,rfl,Rw.bp ho gT ak⟩
    refine SP.oe (v:= .agg #[.string k,.string vl,.bool g,.int .i64 r,.int .i64 id,v1]) ?_ ?_
    ·intro wd hI hF;obtain⟨ae,ay,kI,ai,aj⟩:=SS.o wd hI;have h1:=hF.1;clear hF;(obtain⟨w9,⟨A,c,rfl,_⟩,_⟩:=h1);go_wp2;exact aP
    refine SP.ew ?_ λv2=> ?_
    ·intro wd hI hF;obtain⟨ae,ay,kI,ai,aj⟩:=SS.o wd hI;clear hF;go_wp2;exact bn rfl ⟨_,rfl,kI.size,yY _ _⟩
    refine SP.ml SS ?_;rintro wd hI hF ⟨ae,ay,kI,ai,aj⟩;have h1:=hF.2.1;have h2:=hF.1;clear hF SS;obtain⟨w9,⟨XA,xc,rfl,bU⟩,k9⟩:=h1;obtain⟨w8,⟨q2,rfl,qkW,gE⟩,k8⟩:=h2;have V2:VB wd q2 (.string ⟨#[]⟩) (.string ⟨#[]⟩) (.bool false) (.int .i64 0) (.int .i64 0) (.slice none 0 0):=k8.heap gE;obtain⟨r0,r1,r2,r3,r4,r5,rf,_⟩:=V2.cells;have g0:=rf 0;have g1:=rf 1;have g2:=rf 2;have g3:=rf 3;have g4:=rf 4;have g5:=rf 5;have eY:=aa V2;have cN:=aa (bU.kept k9);clear rf gE k8 k9 bU;go_wp2_with fail
    obtain⟨W7,lp⟩:=eqR ((((((wd.setCell ⟨q2,0,none⟩ (.string k)).setCell ⟨q2,1,none⟩ (.string vl)).setCell ⟨q2,2,none⟩ (.bool g)).setCell ⟨q2,3,none⟩ (.int .i64 r)).setCell ⟨q2,4,none⟩ (.int .i64 id)).setCell ⟨q2,5,none⟩ (.slice XA ds.length xc));have qB:ah [q2] wd W7:=by rw[lp];exact ah.all q2 _ _ _ _ _ _
    have nA:VB W7 q2 (.string k) (.string vl) (.bool g) (.int .i64 r) (.int .i64 id) (.slice XA ds.length xc):=by rw[lp];exact eY.o.all _ _ _ _ _ _
    have vr:Rw W7 60 3 aS (.slice XA ds.length xc) ds:=cN.o.fr (Fz.fr ⟨qB,eY.o,_,_,_,_,_,_,nA⟩) ak;have qkX:=K62.size;have K7:ad w W7:=ad.but ae qB (by simp;omega);have Ut:ad w2 W7:=ad.but ay qB (by simp;omega);have Uu:ad W6 W7:=ad.but kI qB (by simp;omega);rw[<- lp];have vt:=C9 ⟨k,vl,g,r,id,XA,ds.length,xc,ds⟩ ds W7 hk vr (λd hd=>(bX.o.ok d hd).1) (by rw[HM.o];omega) o8;unfold aM at vt;refine vt.mono ?_;rintro e w8 ⟨Gp,rfl,xY,k8⟩;have K8:=K7.call k8;have V8:=VB.but nA (.ar (S:=[]) k8) ao;have Hi:=aa V8;have AB:=aa ((Uu.call k8).heap tF.o);have s0:=K8.af s0;have s3:=K8.af (show w.cell? ⟨p.sb,3,none⟩=_ from ny.o);have s4:=K8.af (show w.cell? ⟨p.sb,4,none⟩=_ from l4.o);have f3:=(K8.frozen p.sb 3 sl).trans f3;have f4:=(K8.frozen p.sb 4 sl).trans f4;have NV:=VB.but NV (.ar (S:=[]) (Ut.call k8)) ao;have Uv:=aa xY;have Mz:=aa (vr.kept k8);have Hj:q<W6.heap.size:=(aQ tF.o);clear lp qB nA vr xY vt K7 Ut Uu r0 r1 r2 r3 r4 r5 g0 g1 g2 g3 g4 g5 ae ay kI au br DI hI x60 x61
    cases Gp
    ·
     obtain⟨r0,r1,r2,r3,r4,r5,rf,_⟩:=NV.cells;have g0:=rf 0;have g1:=rf 1;have g2:=rf 2;have g3:=rf 3;have g4:=rf 4;have g5:=rf 5;clear rf;go_wp2;obtain⟨z0,z1,z2,z3,z4,z5,_,_⟩:=(NV.all (.string ⟨#[]⟩) (.string ⟨#[]⟩) (.bool false) (.int .i64 0) (.int .i64 0) (.slice none 0 0)).cells;refine KV (v:= .tuple #[aM zeroV,.int .i64 1]) (by simp[results,results87,go_sem,aM,zeroV,z0,z1,z2,z3,z4,z5]) rfl ?_;have KE:ad w _:=ad.but K8 (ah.all w.heap.size (.string ⟨#[]⟩) (.string ⟨#[]⟩) (.bool false) (.int .i64 0) (.int .i64 0) (.slice none 0 0)) ao;exact⟨zeroV,1,σ,rfl,(HH.o.kept KE).mono ab,.inl ⟨ak,rfl,rfl,.inr (λhw=>Bool.false_ne_true (Uv.o.2 (by rw[Us.o]at hw;rw[di.o];exact hw)))⟩,.ar KE,.ar KE⟩
    ·have nx:ag (b7 w8 (B+1) ⟨k,vl,g,r,id,XA,ds.length,xc,ds⟩):=⟨hk,by have:=di.o;show r<=B+1;omega,Mz.o,bX.o,λd hd=>by have:=G9.o d hd;omega,Uv.o.1 rfl⟩;obtain⟨y0,y1,y2,y3,y4,y5,_,_⟩:=V8.cells;clear V8 k8;have qeD:=aa NV
     have Ao:p.mb<w.heap.size:=by
      obtain⟨C,⟨D,⟨es,clock,h2,_⟩,_⟩,_⟩:=HH.o.sh.fz;exact(aQ h2)
     have aN:p.sb≠p.mb:=HH.o.apart.2.1;have aW:=K2.size;have hz8:=K8.size;have nj:=K6.size;clear NV;go_wp2;refine ey [none,none,none,none,none] (λwB=>ad w8 wB/\ad w wB/\wB.cell? ⟨p.sb,0,none⟩=some (.pointer (some ⟨p.hb,0,none⟩))/\wB.cell? ⟨p.sb,3,none⟩=some (.int .i64 σ.cn)/\wB.cell? ⟨p.sb,4,none⟩=some (.int .i64 σ.cs)/\wB.cell? ⟨q2,0,none⟩=some (.string k)/\wB.cell? ⟨q2,1,none⟩=some (.string vl)/\wB.cell? ⟨q2,2,none⟩=some (.bool g)/\wB.cell? ⟨q2,3,none⟩=some (.int .i64 r)/\wB.cell? ⟨q2,4,none⟩=some (.int .i64 id)/\wB.cell? ⟨q2,5,none⟩=some (.slice XA ds.length xc)) λwB SS=> ?_;iterate 5 refine SP.on ?_
     refine SP.ml SS ?_;rintro wd hI hF ⟨ae,ay,ai,aj,aq,az,aK,a1,cw,d',jf⟩;clear hF SS;have oF:=Mt (B+1) p.hb p.mb σ.own σ.L _ wd ((HH.o.sh.kept ay).mono ab) (nx.o.kept ae) ab h9;have B1:=aa (VB.but qeD.o (.ar (S:=[]) ae) ao);have xX:=aa (VB.but Hi.o (.ar (S:=[]) ae) ao);have MA:=ae.heap AB.o;have f3:=(ae.frozen p.sb 3 ab).trans f3;have f4:=(ae.frozen p.sb 4 ab).trans f4;have bu:=ae.size;go_wp2_with (go_at_call 150;refine oF.mono ?_;rintro e w5 ⟨b2,L',rfl,h1,h2,h3,h4⟩;have s3:=h3.af aj (by simpa using aN);have s4:=h3.af aq (by simpa using aN);have jE:=h3.heap MA (by simp;omega);have t0:=aE jE 0;have t1:=aE jE 1;have cL:=(h3.Uk p.sb 3 (.int .i64 r)).trans ((ah.set p.sb 4 (.int .i64 id)).mono ao);obtain⟨y0,y1,y2,y3,y4,y5,_,_⟩:=(VB.but xX.o cL (by simp;omega)).cells;have jI:=aa (VB.but B1.o cL (by simp;omega));clear cL;obtain⟨r0,r1,r2,r3,r4,r5,rf,_⟩:=jI.o.cells;have g0:=rf 0;have g1:=rf 1;have g2:=rf 2;have g3:=rf 3;have g4:=rf 4;have g5:=rf 5;have f3:=(h3.frozen (p:=⟨p.sb,3,none⟩) (by simp;omega) (by simpa using aN)).trans f3;have f4:=(h3.frozen (p:=⟨p.sb,4,none⟩) (by simp;omega) (by simpa using aN)).trans f4;have H1:=aa h1;have H2:=aa h2;have H3:=aa h3;have H4:=aa h4;clear h1 h2 h3 h4 rf)
     obtain⟨z0,z1,z2,z3,z4,z5,_,_⟩:=(jI.o.all (.string k) (.string vl) (.bool g) (.int .i64 r) (.int .i64 id) (.slice XA ds.length xc)).cells;refine KV (v:= .tuple #[aM ⟨k,vl,g,r,id,XA,ds.length,xc,ds⟩,.int .i64 0]) (by simp[results,results87,go_sem,aM,z0,z1,z2,z3,z4,z5]) rfl ?_;have b3:=di.o;have vq:=((HH.o.kept ay).mono (B2:=B+1) ab).Hg H3.o H4.o H1.o;obtain⟨AA,cL,DH⟩:=vq.Hf r id ⟨ab,ab,hid.1,hid.2⟩;have sk:Fz w.heap.size _ _:=⟨ah.all w.heap.size (.string k) (.string vl) (.bool g) (.int .i64 r) (.int .i64 id) (.slice XA ds.length xc),jI.o,_,_,_,_,_,_,jI.o.all _ _ _ _ _ _⟩;have mh:=((((ah.ar ay).trans (H3.o.mono (T:=[p.sb,p.mb]) ao)).trans (cL.mono ao))).new sk.but ao;exact⟨_,0,_,rfl,AA.ln sk,.inr ⟨rfl,dC.o,rfl,rfl,rfl,rfl,rfl,by rw[Us.o];exact b3,(((nx.o.kept ae).fr H4.o).fr DH).ln sk,L',b2,H2.o,rfl⟩,mh,HH.o.Ul mh⟩
theorem qeE (B:Int) (p:cZ) (id:Int) (σ:ci) (n s:Int) (pv:Value) (ds:List aD) (w:World) (h:ba w B p id σ) (hp:Rw w 60 3 aS pv ds) (hd:ds.length<=1000000) (hB:0<=B) (h9:B<=100000000000):
  Calls prog 115 #[.pointer (some ⟨p.sb,0,none⟩),.agg #[.int .i64 n,.int .i64 s],pv] w λe w'=>∃ L',e= .returned (.tuple #[])/\ba w' B p id {σ with L:=L'}/\An σ.L L'/\ah [p.mb] w w'/\Fr bq w w':=by
 obtain⟨WA,wc,hb,hw⟩:=h.bB;obtain⟨s0,s1,s2,s3,s4,sf,sl⟩:=hb.cells;have HH:=aa h;have HP:=aa hp;clear sf hb hw h s1 s2 s3 s4 hp;go_wp2;refine ey [none,none,none,none,none,none,none] (λwB=>ad w wB/\wB.cell? ⟨p.sb,0,none⟩=some (.pointer (some ⟨p.hb,0,none⟩))/\wB.cell? ⟨w.heap.size,0,none⟩=some (.int .i64 n)/\wB.cell? ⟨w.heap.size,1,none⟩=some (.int .i64 s)) λwB SS=> ?_;iterate 7 refine SP.on ?_
 refine SP.ml SS ?_;rintro wd hI hF ⟨ae,ai,aj,aq⟩;clear hF SS;have HC:=qd8 B p.hb p.mb σ.own σ.L n s pv ds wd (HH.o.sh.kept ae) (HP.o.kept ae) hd hB h9;go_wp2_with (go_at_call 187;refine HC.mono ?_;rintro e w5 ⟨L',rfl,h1,h2,h3,h4⟩;have H1:=aa h1;have H2:=aa h2;have H3:=aa h3;have H4:=aa h4;clear h1 h2 h3 h4)
 go_end0
 exact⟨L',rfl,(HH.o.kept ae).Hg H3.o H4.o H1.o,H2.o,(ah.ar ae).trans H3.o,(Fr.ar ae).trans H4.o⟩
theorem qeF (B id:Int) (v:Value) (rs:List Rg) (w:World) (hid:0<=id/\id<6) (hv:Rw w 63 2 bZ v rs) (hb:rs.length<=1000) (hB:0<=B):
  Calls prog 26 #[.int .i64 id,v] w λe w'=>∃ p,e= .returned (.pointer (some ⟨p.sb,0,none⟩))/\ba w' B p id ⟨rs,λ_=>[],[],0,0⟩/\w.heap.size<=p.sb/\w.heap.size<=p.hb/\w.heap.size<=p.mb/\ad w w':=by
 have HV:=aa hv;have gr:=hid.1;have hi6:=hid.2;clear hv;go_in;go_wp2_with fail
 refine(qdY B v rs w HV.o hb).mono ?_;rintro e w1 ⟨hb,mb,rfl,h1,h2,h3,k1⟩;have H1:=aa h1;have K1:=aa k1;clear h1;go_wp2;go_ret;have KE:ad w1 _:=(ad.refl w1).alloc (.cells #[.pointer (some ⟨hb,0,none⟩),.int .i64 id,.slice none 0 0,.int .i64 0,.int .i64 0] 126);exact⟨⟨w1.heap.size,hb,mb⟩,rfl,⟨⟨none,0,yY _ _,Rw.nil _⟩,H1.o.kept KE,λv hv=>(by cases hv),ao,⟨ao,by simpa using hB,ao,ao⟩⟩,K1.o.size,h2,h3,K1.o.call KE⟩
def tG (own:List Rg):(ByteArray->List ax)->List ax->(ByteArray->List ax)->Prop
 |L,[],L'=>L'=L
 |L,v::t,L'=>∃ L1 b,xP own L v L1 b/\tG own L1 t L'
theorem tG.snoc {own:List Rg}:∀ {xs:List ax} {L L1 L':ByteArray->List ax} {v:ax} {b:Bool},tG own L xs L1->xP own L1 v L' b->tG own L (xs++[v]) L'
 |[],L,L1,L',v,b,h,k=>by
  obtain rfl:L1=L:=h;exact⟨L',b,k,rfl⟩
 |x::t,L,L1,L',v,b,⟨L2,b2,h1,h2⟩,k=>⟨L2,b2,h1,tG.snoc h2 k⟩
def clockOf (a:Int×Int) (l:List ax):Int×Int:=l.foldl (λm v=>fj m (v.n,v.s)) a
theorem qeG (a:Int×Int) (l:List ax) (v:ax):clockOf a (l++[v])=fj (clockOf a l) (v.n,v.s):=by simp[clockOf]
theorem ba.qeH {w3:World} {id:Int} {dE:List Rg} {L1:ByteArray->List ax} (h:ba w B p id σ) (hb:ah [p.hb,p.mb] w w2) (hf:Fr bq w w2) (hs:cP w2 B p.hb p.mb dE L1) (hk:ad w2 w3) (A:Option Addr) (c:Nat) (l:List ax) (hr:Rw w3 48 6 a8 (.slice A l.length c) l) (hl:∀ v∈l,v∈σ.wait/\b4 dE v.key) (hn:l.length<=24):
  ba (w3.setCell ⟨p.sb,2,none⟩ (.slice A l.length c)) B p id {σ with own:=dE,L:=L1,wait:=l}/\ah [p.sb,p.hb,p.mb] w (w3.setCell ⟨p.sb,2,none⟩ (.slice A l.length c))/\Fr bq w (w3.setCell ⟨p.sb,2,none⟩ (.slice A l.length c)):=by
 obtain⟨A0,c0,h1,h2⟩:=h.bB;obtain⟨bj,a2,_⟩:=h.apart;have h3:Ay w3 p id (.slice A0 σ.wait.length c0) σ.cn σ.cs:=hk.heap (hb.heap h1 (by simp;exact⟨bj,a2⟩));have dO:ah [p.sb] w3 (w3.setCell ⟨p.sb,2,none⟩ (.slice A l.length c)):=ah.set _ 2 _;have tH:=Mw h3 dO;have ia:=(hf.trans (.ar hk)).trans tH;exact⟨⟨⟨A,c,Ok _ _ 2 _ _ _ h3,hr.fr tH (.inl rfl)⟩,(hs.kept hk).but dO tH (by simp;exact Ne.symm bj) (by simp;exact Ne.symm a2),λv hv=>⟨(h.jH v (hl v hv).1).1.fr ia,(hl v hv).2⟩,hn,h.pF⟩,((hb.mono ao).trans (.ar hk)).trans (dO.mono ao),ia⟩
theorem qeI (B:Int) (p:cZ) (id:Int) (σ:ci) (RA:Option Addr) (rc:Nat) (dE:List Rg) (LA:Option Addr) (lc:Nat) (l:List ax) (w:World) (h:ba w B p id σ) (hv:Rw w 63 2 bZ (.slice RA dE.length rc) dE) (bG:dE.length<=1000) (hl:Rw w 48 6 a8 (.slice LA l.length lc) l) (qI:l.length<=1000000000) (eh:∀ x∈l,b7 w B x) (hB:0<=B) (h9:B<=100000000000):
  Calls prog 124 #[.pointer (some ⟨p.sb,0,none⟩),.slice RA dE.length rc,.slice LA l.length lc] w λe w'=>∃ L1 wt L',e= .returned (.tuple #[])/\ba w' B p id ⟨dE,L',wt,(clockOf (σ.cn,σ.cs) l).1,(clockOf (σ.cn,σ.cs) l).2⟩/\Dv dE σ.L L1/\Dy dE σ.wait wt/\tG dE L1 l L'/\ah [p.sb,p.hb,p.mb] w w'/\Fr bq w w':=by
 obtain⟨WA,wc,hb,hw⟩:=h.bB;obtain⟨s0,s1,s2,s3,s4,sf,sl⟩:=hb.cells;obtain⟨bj,a2,_⟩:=h.apart;have f2:=sf 2;have HH:=aa h;have HV:=aa hv;have HL:=aa hl;have iI:=aa hw;have jF:=aa eh;have cX:=h.bx;obtain⟨m,hm⟩:=eqQ l.length;have HM:=aa hm;have sm:m<=1000000000:=ab;rw[hm]at HL⊢;clear sf hb hw h s1 s3 s4 hv hl eh hm;go_in;go_wp2_with fail
 refine(qea B p.hb p.mb σ.own dE σ.L _ w HH.o.sh HV.o bG).mono ?_;rintro e w2 ⟨L1,rfl,h1,h2,h3,h4⟩;have H1:=aa h1;have H2:=aa h2;have H3:=aa h3;have H4:=aa h4;have s2:=h3.af s2 (by simp;exact⟨bj,a2⟩);have f2:=(h3.frozen (p:=⟨p.sb,2,none⟩) (by simpa using sl) (by simp;exact⟨bj,a2⟩)).trans f2;have sl2:=R4 sl h3.size;clear h1 h2 h3 h4;go_wp2_with fail
 refine(qei _ σ.wait RA dE.length rc dE w2 ab (iI.o.fr H4.o (.inl rfl)) (HV.o.fr H4.o (.inr (.inr (.inl rfl)))).rows).mono ?_;rintro e w3 ⟨v3,wt,rfl,gG,uD,k3⟩;obtain⟨A3,c3,rfl,_,_⟩:=gG.form;have s2:=k3.af s2;have f2:=(k3.frozen p.sb 2 sl2).trans f2;have hS:=HH.o.qeH H3.o H4.o H1.o k3 A3 c3 wt gG (λv hv=>(uD.mem v).1 hv) (qcg uD.sub.length_le cX);have HDT:=aa uD;obtain⟨n3,xZ⟩:=eqQ wt.length;rw[xZ]at hS⊢;have HS:=aa hS;clear gG uD hS xZ;go_wp2;go_loopw [28] (λiv wr=>∃ (U:Nat) (L':ByteArray->List ax) (c1 c2:Int),U<=m/\iv= .int .i64 U/\ag (ba wr B p id ⟨dE,L',wt,c1,c2⟩)/\ag (tG dE L1 (l.take U) L')/\ag (clockOf (σ.cn,σ.cs) (l.take U)=(c1,c2))/\ag (ah [p.sb,p.hb,p.mb] w wr)/\ag (Fr bq w wr)) (λiv _=>m-(intOf iv).toNat)
 case atStart=>exact⟨0,L1,σ.cn,σ.cs,ab,rfl,HS.o.1,rfl,rfl,HS.o.2.1,HS.o.2.2⟩
 case round=>
  obtain⟨U,L',c1,c2,hj,rfl,ji,Uw,eu,Ux,cG⟩:=hrel;by_cases an:U<m
  ·obtain⟨x,hx⟩:=exQ l U (by rw[HM.o];exact an);obtain⟨b,off,rfl,hb,hc⟩:=HL.o.af hx;obtain⟨b,off,fQ,hb,hc⟩:=(HL.o.fr cG.o (.inl rfl)).af hx;injection fQ with fQ;injection fQ with e1 e2;subst e1 e2;have nx:ag (b7 wr B x):=(jF.o x (zV hx)).fr cG.o
   have Uy:ag (l.take (U+1)=l.take U++[x]):=by
    unfold ag;rw[QI (by rw[HM.o];exact an),(pi.1 hx).2]
   obtain⟨x0,x1,x2,x3,x4,x5,x6,x7,x8⟩:=x;obtain⟨d0,d1,d2,d3,d4,d5⟩:=o5 λU u hu=>hc U u hu;obtain⟨qey,wcB,dP,_⟩:=ji.o.bB;obtain⟨s0,s1,s2',s3,s4,sf,slr⟩:=dP.cells;have f3:=sf 3;have f4:=sf 4;clear hx hc dP sf s1 s2';have xH:ag (VB (wr.alloc (.cells #[.string x0,.string x1,.bool x2,.int .i64 x3,.int .i64 x4,.slice x5 x6 x7] 48)) wr.heap.size (.string x0) (.string x1) (.bool x2) (.int .i64 x3) (.int .i64 x4) (.slice x5 x6 x7)):=yY _ _;obtain⟨y0,y1,y2,y3,y4,y5,_,_⟩:=xH.o.cells;go_wp2;refine ey [none,none,none,none,none] (λwB=>ad wr wB/\ad (wr.alloc (.cells #[.string x0,.string x1,.bool x2,.int .i64 x3,.int .i64 x4,.slice x5 x6 x7] 48)) wB/\wB.cell? ⟨p.sb,0,none⟩=some (.pointer (some ⟨p.hb,0,none⟩))/\wB.cell? ⟨wr.heap.size,0,none⟩=some (.string x0)/\wB.cell? ⟨wr.heap.size,1,none⟩=some (.string x1)/\wB.cell? ⟨wr.heap.size,2,none⟩=some (.bool x2)/\wB.cell? ⟨wr.heap.size,3,none⟩=some (.int .i64 x3)/\wB.cell? ⟨wr.heap.size,4,none⟩=some (.int .i64 x4)/\wB.cell? ⟨wr.heap.size,5,none⟩=some (.slice x5 x6 x7)) λwB SS=> ?_;obtain⟨au,br,aB,aC,aF,aX,bK,fg,qO⟩:=SS.o _ (ad.refl _);iterate 5 refine SP.on ?_
   refine SP.ml SS ?_;rintro wd hI hF ⟨ae,ay,ai,aj,aq,az,aK,a1,cw⟩;clear hF SS;have oF:=Mt B p.hb p.mb dE L' _ wd (ji.o.sh.kept ae) (nx.o.kept ae) hB h9;have aN:p.sb≠p.mb:=a2;go_wp2_with (go_at_call 150;refine oF.mono ?_;rintro e w5 ⟨b2,Uz,rfl,h1,h2,h3,h4⟩)
   have vq:=(ji.o.kept ae).Hg h3 h4 h1
   have Ao:p.mb<wr.heap.size:=by
    obtain⟨C,⟨D,⟨es,clock,h2,_⟩,_⟩,_⟩:=ji.o.sh.fz;exact(aQ h2)
   have e3:=h3.af aK (by simp;omega);have e4:=h3.af a1 (by simp;omega);obtain⟨WC,wcC,dP,_⟩:=vq.bB;obtain⟨_,_,_,s3,s4,sf,UA⟩:=dP.cells;have f3:=sf 3;have f4:=sf 4;have qU:=aa (vq.clock ((nx.o.kept ae).fr h4));have dQ:=aa vq;have HP5:ag (tG dE L1 (l.take (U+1)) Uz):=by unfold ag;rw[Uy.o];exact Uw.o.snoc h2
   have HC5:ag (clockOf (σ.cn,σ.cs) (l.take (U+1))=fj (c1,c2) (x3,x4)):=by unfold ag;rw[Uy.o,qeG,eu.o]
   have nt:ag (ah [p.sb,p.hb,p.mb] w w5):=(Ux.o.trans (.ar ae)).trans (h3.mono ao);have mi:ag (Fr bq w w5):=(cG.o.trans (.ar ae)).trans h4;clear dP sf h1 h2 h3 h4 vq y0 y1 y2 y3 y4 y5 d0 d1 d2 d3 d4 d5 ai aj aq az aK a1 cw aB aC aF aX bK fg qO au br hI ae ay;refine ey [none,none,none,none,none,none,none,some (λu w'=>∃ q,u= .slice (some ⟨q,0,none⟩) 2 2/\w'.heap[q]? =some (.cells #[.int .i64 c1,.int .i64 c2,.int .i64 x3,.int .i64 x4] 45 (0,0))),none,none,none] (λwB=>ad w5 wB/\wB.cell? ⟨p.sb,3,none⟩=some (.int .i64 c1)/\wB.cell? ⟨p.sb,4,none⟩=some (.int .i64 c2)/\wB.cell? ⟨wr.heap.size,3,none⟩=some (.int .i64 x3)/\wB.cell? ⟨wr.heap.size,4,none⟩=some (.int .i64 x4)) λwB SS=> ?_;iterate 7 refine SP.on ?_
   refine SP.ew ?_ λv1=> ?_
   ·intro wd hI hF;obtain⟨ae,ai,aj,aq,az⟩:=SS.o wd hI;clear hF;go_wp2_with (fail);exact bn rfl ⟨_,rfl,yY _ _⟩
   apply SP.one av
   ·intro wd hI hF;obtain⟨ae,ai,aj,aq,az⟩:=SS.o wd hI;have h1:=hF.1;clear hF;go_wp2_with ((go_at_call 146;obtain⟨wq,⟨q,rfl,hq⟩,xC⟩:=h1;refine(zA _ 2 2 [(c1,c2),(x3,x4)] wd (CR (xC.heap hq))).mono ?_;rintro e w5 ⟨rfl,k5⟩));exact aP
   refine SP.np ?_;iterate 2 refine SP.on ?_
   refine SP.ml SS ?_;rintro wd hI hF ⟨ae,ai,aj,aq,az⟩;clear hF SS;have f3:=(ae.frozen p.sb 3 UA).trans f3;have f4:=(ae.frozen p.sb 4 UA).trans f4;have bL:=qU.o;obtain⟨⟨m1,m2⟩,dn⟩:=eqQ (fj (c1,c2) (x3,x4));have sq:ag (clockOf (σ.cn,σ.cs) (l.take (U+1))=(m1,m2)):=HC5.o.trans dn;simp only at bL;rw[dn]at bL;have su:=aa ((dQ.o.kept ae).Hf m1 m2 bL);have qV:=aa ((nt.o.trans (.ar ae)).trans (su.o.2.1.mono ao));have DK:=aa ((mi.o.trans (.ar ae)).trans su.o.2.2);have qW:=aa su.o.1;unfold fj at dn;rw[dn];clear dn bL;go_wp2;go_roundw
   case rel=>exact⟨U+1,Uz,m1,m2,ab,aA,qW,HP5,sq,qV,DK⟩
   case measure=>exact dY
  ·obtain rfl:U=m:=ab;go_wp2;go_end0
   have ht:l.take U=l:=qcc (by rw[HM.o];exact CP _);have hc:=eu.o;have hp:=Uw.o;rw[ht]at hc hp;exact⟨L1,wt,L',rfl,by rw[hc];exact ji.o,H2.o,HDT.o,hp,Ux.o,cG.o⟩
theorem AD (a:Int) (w:World):Calls prog 272 #[.int .i64 a] w λe w'=>e= .returned (.bool false)/\ad w w':=by
 go_wp2;go_ret;exact⟨ao,al⟩
theorem qeJ (a b:Int) (w:World):Calls prog 225 #[.int .i64 a,.int .i64 b] w λe w'=>∃ r:Int,e= .returned (.int .i64 r)/\(r<0↔a<b)/\(r=0↔a=b)/\ad w w':=by
 rcases Int.lt_trichotomy a b with g|g|g
 ·have e1:decide (a<b)=decide (a<b):=rfl;have G:=aa g;go_in;go_wp2_with fail
  refine(AD _ _).mono ?_;rintro e w1 ⟨rfl,k1⟩;go_wp2_with fail
  refine(AD _ _).mono ?_;rintro e w2 ⟨rfl,k2⟩;have h1:¬(a<b)∨a<b:=ab
  (try have n1:¬a<b:=ab)
  (try have n2:¬b<a:=ab)
  (try have n3:¬a=b:=ab)
  go_wp2;go_ret;exact⟨-1,rfl,ab,ab,k1.call k2⟩
 ·have e1:decide (a<b)=decide (a<b):=rfl;have G:=aa g;go_in;go_wp2_with fail
  refine(AD _ _).mono ?_;rintro e w1 ⟨rfl,k1⟩;go_wp2_with fail
  refine(AD _ _).mono ?_;rintro e w2 ⟨rfl,k2⟩;have h1:¬(a<b)∨a<b:=ab
  (try have n1:¬a<b:=ab)
  (try have n2:¬b<a:=ab)
  (try have n3:¬a=b:=ab)
  go_wp2;go_ret;exact⟨0,rfl,ab,ab,k1.call k2⟩
 ·have e1:decide (a<b)=decide (a<b):=rfl;have G:=aa g;go_in;go_wp2_with fail
  refine(AD _ _).mono ?_;rintro e w1 ⟨rfl,k1⟩;go_wp2_with fail
  refine(AD _ _).mono ?_;rintro e w2 ⟨rfl,k2⟩;have h1:¬(a<b)∨a<b:=ab
  (try have n1:¬a<b:=ab)
  (try have n2:¬b<a:=ab)
  (try have n3:¬a=b:=ab)
  go_wp2;go_ret;exact⟨1,rfl,ab,ab,k1.call k2⟩
theorem UB (d:cf) (k:Int) (w:World):Calls prog 224 #[.agg #[.int .i64 d.id,.slice d.uN d.gR d.dz],.int .i64 k] w λe w'=>∃ r:Int,e= .returned (.int .i64 r)/\(r<0↔d.id<k)/\(r=0↔d.id=k)/\ad w w':=by
 go_in;go_wp2_with fail
 refine(qeJ d.id k _).mono ?_;rintro e w2 ⟨r,rfl,h1,h2,k2⟩;go_wp2;go_ret;exact⟨r,rfl,h1,h2,ad.call al k2⟩
def lq (l:List cf):Prop:=l.Pairwise λa b=>a.id<b.id
structure pH (l:List cf) (k:Int) (i:Nat) (b:Bool):Prop where
 le:i<=l.length
 low:∀ t a,t<i->l[t]? =some a->a.id<k
 high:∀ t a,i<=t->l[t]? =some a->k<=a.id
 is:b=true↔∃ a,l[i]? =some a/\a.id=k
theorem pH.lt (h:pH l k i b) (hb:b=true):i<l.length:=by
 obtain⟨a,ha,_⟩:=h.is.1 hb;exact(bg ha)
structure kJ (l:List cf) (k:Int) (i U:Nat):Prop where
 low:∀ t a,t<i->l[t]? =some a->a.id<k
 high:∀ t a,U<=t->l[t]? =some a->k<=a.id
theorem UC (h:l.Pairwise λa b=>a.id<b.id) {b:cf} (fV:i<=U) (ha:l[i]? =some a) (hb:l[U]? =some b):a.id<=b.id:=by
 rcases Nat.eq_or_lt_of_le fV with rfl|an
 ·rw[ha]at hb;injection hb with hb;rw[hb];exact Int.le_refl _
 ·obtain⟨h1,rfl⟩:=pi.1 ha;obtain⟨h2,rfl⟩:=pi.1 hb;exact Int.le_of_lt (List.pairwise_iff_getElem.1 h i U h1 h2 an)
theorem kJ.right (s:kJ l k i U) (hp:lq l) (ha:l[h]? =some a) (hl:a.id<k):kJ l k (h+1) U:=
 ⟨λt b ht hb=>by have:=UC hp (show t<=h by omega) hb ha;omega,s.high⟩
theorem kJ.left (s:kJ l k i U) (hp:lq l) (ha:l[h]? =some a) (hl:¬a.id<k):kJ l k i h:=
 ⟨s.low,λt b ht hb=>by have:=UC hp ht ha hb;omega⟩
theorem kJ.start (l:List cf) (k:Int):kJ l k 0 l.length:=⟨λt a h=>ab,λt a h ha=>by have:=(bg ha);omega⟩
theorem kJ.pos (s:kJ l k i i) (hp:lq l) (ha:l[i]? =some a) (hb:b=true↔a.id=k):pH l k i b:=
 ⟨Nat.le_of_lt (bg ha),s.low,s.high,hb.trans ⟨λh=>⟨a,ha,h⟩,λ⟨x,hx,he⟩=>by rw[ha]at hx;injection hx with hx;rw[hx,he]⟩⟩
theorem kJ.none (s:kJ l k l.length l.length):pH l k l.length false:=
 ⟨CP _,s.low,s.high,ao⟩
theorem bsp (v:Value) (l:List cf) (k:Int) (w:World) (bH:Rw w 166 2 gS v l) (hp:lq l) (hl:l.length<=1000):
  Calls prog 223 #[v,.int .i64 k,.func (.func 224) #[] #[]] w λe w'=>∃ (i:Nat) (b:Bool),e= .returned (.tuple #[.int .i64 i,.bool b])/\pH l k i b/\ad w w':=by
 obtain⟨A,c,rfl,bl,bQ⟩:=bH.form;have uH:ag (kJ l k 0 l.length):=kJ.start l k;obtain⟨n,hn⟩:=eqQ l.length;rw[hn]at bH bl hl uH⊢;have HV:=aa bH;have HN:=aa hn;have HP:=aa hp;clear bH hn hp;go_wp2;go_loopw [9,10] (λiv jv wr=>∃ i U:Nat,i<=U/\U<=n/\iv= .int .i64 i/\jv= .int .i64 U/\ad w wr/\ag (kJ l k i U)) (λiv jv _=>(intOf jv).toNat-(intOf iv).toNat)
 case atStart=>exact⟨0,n,ab,ab,rfl,rfl,al,uH⟩
 case round=>
  obtain⟨i,U,fV,hj,rfl,rfl,kr,hs⟩:=hrel;by_cases an:i<U
  ·obtain⟨h,hh⟩:=eqQ ((i+U)/2);have F6:i<=h/\h<U:=ab;have Kl:=Rf i U ab;rw[hh]at Kl;obtain⟨a,ha⟩:=exQ l h (by rw[HN.o];omega);obtain⟨b,off,rfl,hb,hc⟩:=HV.o.af ha;have HR:ag (a.id<k->kJ l k (h+1) U):=λg=>hs.o.right HP.o ha g;have HL:ag (k<=a.id->kJ l k i h):=λg=>hs.o.left HP.o ha ab;clear ha;obtain⟨x0,x1,x2,x3,x4⟩:=a;obtain⟨c0,c1⟩:=Uuh λU u hu=>kr.af (hc U u hu);clear hc;go_wp2_with fail
   refine(UB ⟨x0,x1,x2,x3,x4⟩ k wr).mono ?_;rintro e w2 ⟨r,rfl,iy,_,k2⟩;have K2:=kr.call k2;have dv:=aa iy;clear iy;by_cases hr:r<0
   ·have xh:=aa (HR.o (dv.o.1 hr));go_wp2;go_roundw
    case rel=>exact⟨h+1,U,ab,ab,congrArg (Value.int .i64) ab,rfl,K2,xh⟩
    case measure=>exact dY
   ·have xh:=aa (HL.o (by have:=dv.o;simp only at this;omega));go_wp2;go_roundw
    case rel=>exact⟨i,h,ab,ab,rfl,congrArg (Value.int .i64) ab,K2,xh⟩
    case measure=>exact dY
  ·obtain rfl:i=U:=ab;by_cases c7:i<n
   ·obtain⟨a,ha⟩:=exQ l i (by rw[HN.o];omega);obtain⟨b,off,rfl,hb,hc⟩:=HV.o.af ha;have Km:ag (∀ b:Bool,(b=true↔a.id=k)->pH l k i b):=λb g=>hs.o.pos HP.o ha g;clear ha;obtain⟨x0,x1,x2,x3,x4⟩:=a;obtain⟨c0,c1⟩:=Uuh λU u hu=>kr.af (hc U u hu);clear hc;go_wp2_with fail
    refine(UB ⟨x0,x1,x2,x3,x4⟩ k wr).mono ?_;rintro e w2 ⟨r,rfl,_,b3,k2⟩;have di:=aa b3;clear b3;go_wp2;go_ret2
    exact⟨i,_,rfl,Km.o _ (by simpa using di.o),kr.call k2⟩
   ·obtain rfl:i=n:=ab;go_wp2;go_ret2
    exact⟨i,false,rfl,by have h:=HN.o;have g:=hs.o;rw[<- h]at g⊢;exact g.none,kr⟩
theorem MC (v:Value) (l:List cf) (k:Int) (w:World) (bH:Rw w 166 2 gS v l) (hp:lq l) (hl:l.length<=1000):
  Calls prog 161 #[v,.int .i64 k] w λe w'=>∃ (i:Nat) (b:Bool),e= .returned (.tuple #[.int .i64 i,.bool b])/\pH l k i b/\ad w w':=by
 have HV:=aa bH;have HP:=aa hp;clear bH hp;go_in;go_wp2_with fail
 refine(bsp v l k w HV.o HP.o hl).mono ?_;rintro e w1 ⟨i,b,rfl,h1,k1⟩;have H1:=aa h1;clear h1;go_wp2;go_ret2
 exact⟨i,b,rfl,H1.o,k1⟩
def qX (p:cf):Value:= .agg #[.int .i64 p.id,.slice p.uN p.gR p.dz]
def Hk:cf:=⟨0,none,0,0,[]⟩
def UD (l:List cf) (k:Int) (x:cf) (b:Bool):Prop:=(b=true/\x∈l/\x.id=k)∨(b=false/\x=Hk/\∀ y∈l,y.id≠k)
theorem pH.no (h:pH l k i false) (hp:lq l):∀ d∈l,d.id≠k:=by
 rintro d hd rfl;obtain⟨t,ht⟩:=qcl.1 hd;rcases R6 t i with g|g
 ·have:=h.low t d g ht;omega
 ·rcases Nat.eq_or_lt_of_le g with rfl|g
  ·have:=h.is.2 ⟨d,ht,rfl⟩;cases this
  ·have hi:i<l.length:=by have:=(bg ht);omega
   have h1:=h.high i l[i] (CP _) (vF hi);obtain⟨h2,rfl⟩:=pi.1 ht;have:=List.pairwise_iff_getElem.1 hp i t hi h2 g;omega
theorem qeK (v:Value) (l:List cf) (k:Int) (w:World) (bH:Rw w 166 2 gS v l) (hp:lq l) (hl:l.length<=1000):
  Calls prog 100 #[v,.int .i64 k] w λe w'=>∃ x b,e= .returned (.tuple #[qX x,.bool b])/\UD l k x b/\ad w w':=by
 obtain⟨A,c,rfl,bl,bQ⟩:=bH.form;have HV:=aa bH;have HP:=aa hp;clear bH hp;go_in;go_wp2_with fail
 refine(MC _ l k _ (HV.o.kept al) HP.o hl).mono ?_;rintro e wr ⟨i,b,rfl,eM,k1⟩;have h1:=eM.le;have h2:=eM.lt;have z0:wr.cell? ⟨w.heap.size,0,none⟩=some (.int .i64 0):=k1.af (by go_simp);have z1:wr.cell? ⟨w.heap.size,1,none⟩=some (.slice none 0 0):=k1.af (by go_simp);have kr:ad w wr:=ad.call al k1;have hf:∀ qD,wr.frozen? ⟨w.heap.size,qD,none⟩=false:=λqD=>by rw[k1.frozen w.heap.size qD ao];go_simp
 have f0:=hf 0;have f1:=hf 1;have mY:=aa eM;clear k1 hf eM
 cases b
 ·go_wp2;have y0:((wr.setCell ⟨w.heap.size,0,none⟩ (.int .i64 0)).setCell ⟨w.heap.size,1,none⟩ (.slice none 0 0)).cell? ⟨w.heap.size,0,none⟩=some (.int .i64 0):=by go_simp
  have y1:((wr.setCell ⟨w.heap.size,0,none⟩ (.int .i64 0)).setCell ⟨w.heap.size,1,none⟩ (.slice none 0 0)).cell? ⟨w.heap.size,1,none⟩=some (.slice none 0 0):=by go_simp
  refine KV (v:= .tuple #[qX Hk,.bool false]) (by simp[results,results100,go_sem,qX,Hk,y0,y1]) rfl ?_;exact⟨Hk,false,rfl,.inr ⟨rfl,rfl,mY.o.no HP.o⟩,al⟩
 ·have hi:=h2 rfl;obtain⟨a,ha⟩:=exQ l i hi;obtain⟨b,off,rfl,hb,hc⟩:=HV.o.af ha
  have HM:ag (a∈l/\a.id=k):=by
   obtain⟨x,hx,hk⟩:=mY.o.is.1 rfl;rw[ha]at hx;injection hx with hx;subst hx;exact⟨zV ha,hk⟩
  clear ha;obtain⟨x0,x1,x2,x3,x4⟩:=a;obtain⟨c0,c1⟩:=Uuh λU u hu=>kr.af (hc U u hu);clear hc;go_wp2;have y0:((wr.setCell ⟨w.heap.size,0,none⟩ (.int .i64 x0)).setCell ⟨w.heap.size,1,none⟩ (.slice x1 x2 x3)).cell? ⟨w.heap.size,0,none⟩=some (.int .i64 x0):=by go_simp
  have y1:((wr.setCell ⟨w.heap.size,0,none⟩ (.int .i64 x0)).setCell ⟨w.heap.size,1,none⟩ (.slice x1 x2 x3)).cell? ⟨w.heap.size,1,none⟩=some (.slice x1 x2 x3):=by go_simp
  refine KV (v:= .tuple #[qX ⟨x0,x1,x2,x3,x4⟩,.bool true]) (by simp[results,results100,go_sem,qX,y0,y1]) rfl ?_;exact⟨_,true,rfl,.inl ⟨rfl,HM.o⟩,al⟩
theorem pH.ins {x:cf} (h:pH l x.id i false) (hp:lq l):lq (l.take i++x::l.drop i):=by
 unfold lq at*;have aN:=h.no hp;have hs:l=l.take i++l.drop i:=(List.take_append_drop i l).symm
 have h1:∀ a∈l.take i,a.id<x.id:=λa ha=>by
  obtain⟨t,ht⟩:=qcl.1 ha;rw[List.getElem?_take]at ht;split at ht
  ·exact h.low t a bk ht
  ·cases ht
 have h2:∀ a∈l.drop i,x.id<a.id:=λa ha=>by
  obtain⟨t,ht⟩:=qcl.1 ha;rw[List.getElem?_drop]at ht;have g1:=h.high (i+t) a ab ht;have g2:=aN a (zV ht);omega
 rw[hs,List.pairwise_append]at hp;obtain⟨p1,p2,p3⟩:=hp
 exact List.pairwise_append.2 ⟨p1,List.pairwise_cons.2 ⟨λa ha=>h2 a ha,p2⟩,λa ha b hb=>by
  rcases KX.1 hb with rfl|hb
  ·exact h1 a ha
  ·exact p3 a ha b hb⟩
def UE (w:World) (l:List cf) (x:cf) (v':Value) (er:Int):Prop:=
 (er≠0/\v'= .slice none 0 0)∨(er=0/\l.length<8/\1<=x.id/\(∀ y∈l,y.id≠x.id)/\∃ i,lq (l.take i++x::l.drop i)/\Rw w 166 2 gS v' (l.take i++x::l.drop i))
theorem qeL (v:Value) (l:List cf) (x:cf) (w:World) (bH:Rw w 166 2 gS v l) (hp:lq l) (hl:l.length<=1000):
  Calls prog 99 #[v,qX x] w λe w'=>∃ v' er,e= .returned (.tuple #[v',.int .i64 er])/\UE w' l x v' er/\ad w w':=by
 obtain⟨LA,lc,rfl,_,_⟩:=bH.form;have HV:=aa bH;have HP:=aa hp;have sw:ag (l.length<=1000):=hl;obtain⟨x0,x1,x2,x3,x4⟩:=x;unfold qX;clear bH hp;go_in;go_wp2_with fail
 refine(MC _ l x0 _ (HV.o.kept al) HP.o hl).mono ?_;rintro e w1 ⟨i,is,rfl,eM,k1⟩;have hi:=eM.le;have mY:=aa eM;have e0:w1.cell? ⟨w.heap.size,0,none⟩=some (.int .i64 x0):=k1.af (by go_simp);have e1:w1.cell? ⟨w.heap.size,1,none⟩=some (.slice x1 x2 x3):=k1.af (by go_simp);have K1:ad w w1:=ad.call al k1;clear k1 eM;by_cases hx:x0<1
 ·go_wp2;go_ret2
  exact⟨_,1,rfl,.inl ⟨ak,rfl⟩,K1⟩
 cases is
 rotate_left
 ·go_wp2;go_ret2
  exact⟨_,13,rfl,.inl ⟨ak,rfl⟩,K1⟩
 by_cases h8:8<=l.length
 ·go_wp2;go_ret2
  exact⟨_,15,rfl,.inl ⟨ak,rfl⟩,K1⟩
 ·go_wp2;refine ku [0,2,3,1,4,5,6,7] [none,none,none,some (λu w'=>∃ b0,b0<=w'.heap.size/\w.heap.size<=b0/\w'.ownsRow b0 166 2 u l.length (l.flatMap gS)),some (λu w'=>∃ g,u= .slice (some ⟨g,0,none⟩) 1 1/\w'.heap[g]? =some (.cells #[.int .i64 x0,.slice x1 x2 x3] 166 (0,0)))] (λwB=>ad w wB/\ad w1 wB/\wB.cell? ⟨w.heap.size,0,none⟩=some (.int .i64 x0)/\wB.cell? ⟨w.heap.size,1,none⟩=some (.slice x1 x2 x3)) λwB SS=> ?_;iterate 3 refine SP.on ?_
  refine SP.ew ?_ λv1=> ?_
  ·intro wd hI hF;obtain⟨ae,ay,ai,aj⟩:=SS.o wd hI;clear hF;go_wp2_with ((go_at_call 163;refine(QH _ l _ (HV.o.kept ae) ab).mono ?_;rintro e w4 ⟨v4,rfl,h4,k4⟩));exact bn rfl ⟨_,k4.size,ae.size,h4⟩
  refine SP.ew ?_ λv2=> ?_
  ·intro wd hI hF;obtain⟨ae,ay,ai,aj⟩:=SS.o wd hI;clear hF;go_wp2;exact bn rfl ⟨_,rfl,yY _ _⟩
  refine SP.ml SS ?_;rintro wd hI hF ⟨ae,ay,ai,aj⟩;have h1:=hF.2.1;have h2:=hF.1;clear hF SS;obtain⟨wc,⟨b0,dW,bD,ho⟩,kc⟩:=h1;obtain⟨Ac,⟨g,rfl,hg⟩,tp⟩:=h2;have HB:ag (∀ x,v1.ownBlock=some x->w.heap.size<=x):=λx hx=>qcg bD (ho.lt x hx).1;have HO:=aa (ad.own ho kc);have HG:=aa (tp.heap hg);have rX:b0<=wd.heap.size:=qcg dW kc.size;clear ho hg dW bD;go_wp2_with fail
  refine(qbg b0 v1 l ⟨x0,x1,x2,x3,x4⟩ i g wd rX HO.o ab hi HG.o).mono ?_;rintro e w5 ⟨v5,rfl,h5,k5⟩;have H5:=aa h5;clear h5;go_wp2;go_ret2
  exact⟨v5,0,rfl,.inr ⟨rfl,ab,by simp only;omega,mY.o.no HP.o,i,pH.ins (x:=⟨x0,x1,x2,x3,x4⟩) mY.o HP.o,H5.o⟩,ad.but ae k5 λx hx=>HB.o x (Option.mem_toList.1 hx)⟩
theorem qeM (w:World):(zeroValue 166).run prog w= .ok (.agg #[.int .i64 0,.slice none 0 0]) w:=av
theorem qeN {e:TypeId} {g qD k p:Nat} {cur:Array Value} {xs:List Value} (h:w.heap[g]? =some (.cells cur e (0,0))) (hx:∀ (t:Nat) u,xs[t]? =some u->cur[t]? =some u) (ho:qD+k<=xs.length) (hp:p=xs.length-k) (bu:xs.length<=cur.size) (zs:List Value):
  ∃ eX:Array Value,((w.setCells g qD (xs.drop (qD+k))).setCells g p zs).heap[g]? =some (.cells eX e (0,0))/\∀ (t:Nat) u,(xs.take qD++xs.drop (qD+k))[t]? =some u->eX[t]? =some u:=by
 obtain⟨c1,bj,a2,a3,a4⟩:=wR (xs.drop (qD+k)) qD w cur h;obtain⟨c2,b1,b2,ck,iV⟩:=wR zs p _ c1 bj;refine⟨c2,b1,λt u hu=> ?_⟩;have hd:(xs.drop (qD+k)).length=xs.length-(qD+k):=ql1;have gq:(xs.take qD).length=qD:=by rw[qcd];omega
 have an:=(bg hu);rw[zH,gq,hd]at an;rw[ck t (.inl ab)];rcases R6 t qD with h1|h1
 ·rw[qlZ ab,qlY h1]at hu;rw[a3 t (.inl h1)];exact hx t u hu
 ·rw[List.getElem?_append_right ab,gq]at hu;have:=a4 (t-qD) ab ab;rw[show qD+(t-qD)=t by omega]at this;rw[this];exact hu
theorem qeO {α:Type} {k:Nat} {f:α->List Value} (hf:∀ a,(f a).length=k) (l:List α) (i:Nat) (hi:i<l.length):
  (l.take i++l.drop (i+1)).flatMap f=(l.flatMap f).take (i*k)++(l.flatMap f).drop (i*k+k):=by
 have e:l.flatMap f=(l.take i).flatMap f++(f l[i]++(l.drop (i+1)).flatMap f):=by
  have h0:=congrArg (List.flatMap f) (List.take_append_drop i l);rw[List.drop_eq_getElem_cons hi,List.flatMap_append,List.flatMap_cons]at h0;exact h0.symm
 have hl:((l.take i).flatMap f).length=i*k:=by rw[eF hf,qcd,Nat.min_eq_left ab]
 have h2:((l.take i).flatMap f++f l[i]).length=i*k+k:=by rw[zH,hl,hf]
 rw[e,List.take_left' hl,<- List.append_assoc,List.drop_left' h2];simp
theorem qeP (base g c:Nat) (l:List cf) (i:Nat) (w:World) (ho:w.ownsRow base 166 2 (.slice (some ⟨g,0,none⟩) l.length c) l.length (l.flatMap gS)) (hl:l.length<=1000) (hi:i<l.length):
  Calls prog 164 #[.slice (some ⟨g,0,none⟩) l.length c,.int .i64 i,.int .i64 ((i:Int)+1)] w λe w'=>∃ v',e= .returned v'/\Rw w' 166 2 gS v' (l.take i++l.drop (i+1))/\ah [g] w w':=by
 obtain⟨n,hn⟩:=eqQ l.length;have FH:=qeO FJ l i hi;have dN:=eF FJ l;have lR:=QE l;obtain⟨xs,bP⟩:=eqQ (l.flatMap gS);have eO:(l.take i++l.drop (i+1)).length=n-1:=by simp;omega
 obtain⟨cur,qo,fa,kU,bQ,zU⟩:∃ cur:Array Value,w.heap[g]? =some (.cells cur 166 (0,0))/\cur.size=c*2/\l.length<=c/\c<=maxLen/\∀ (t:Nat) u,xs[t]? =some u->cur[t]? =some u:=by
  have zW:=λt ht=>ho.cellAt t ht;rcases ho.2 with ⟨h',_⟩|⟨g',kP,cur,h',_,hg,h1,h2,h3,_⟩
  ·cases h'
  ·injection h' with h5 h6 h7;injection h5 with h5;injection h5 with h5 _ _;subst h5 h7;refine⟨cur,hg,h3,h1,h2,λt u hu=> ?_⟩;have:=zW t (by have:=(bg hu);rw[<- bP,dN]at this;exact this);rw[bP,hu,aE hg]at this;exact this
 rw[bP,hn]at dN;rw[bP]at lR FH;rw[hn]at hl hi kU⊢;clear ho;have uV:∀ U,w.frozen? ⟨g,U,none⟩=false:=λU=>aI qo U;have zt:∀ U,U<c*2->(w.cell? ⟨g,U,none⟩).isSome=true:=λU hj=>by rw[aE qo,Ht ab];rfl
 have kt:(xs.drop (i*2+2)).length=(n-(i+1))*2:=by rw[ql1,dN];omega
 obtain⟨A,hA,zr⟩:∃ A:Addr,(if c=i+1 then(some (⟨g,0,none⟩:Addr))else some ⟨g,(i+1)*2,none⟩)=some A/\ag (∀ (t:Nat) u,(xs.drop (i*2+2))[t]? =some u->w.drew.cell? (A.add t)=some u):=by
  by_cases h:c=i+1
  ·refine⟨_,by rw[if_pos h],λt u hu=> ?_⟩;have:=(bg hu);omega
  ·refine⟨_,by rw[if_neg h],λt u hu=> ?_⟩;rw[List.getElem?_drop]at hu;rw[Addr.add_lit,show(i+1)*2+t=i*2+2+t by omega];exact(aE qo _).trans (zU _ u hu)
 obtain⟨i0,gr,a7,aY,aW⟩:=ql0 FN;obtain⟨news,Hl⟩:=eqR (xs.drop (i*2+2));rw[<- Hl]at zr kt;have s1:ag (news.length=(n-(i+1))*2):=kt;have s2:ag (∀ u∈news,u.oneCell'=true):=λu hu=>lR u (List.mem_of_mem_drop (Hl▸hu))
 have s3:ag (∀ t,t<news.length->(w.drew.cell? ⟨g,0+i*2+t,none⟩).isSome=true/\w.drew.frozen? ⟨g,0+i*2+t,none⟩=false):=λt ht=>by
  rw[kt]at ht;rw[Nat.zero_add];exact⟨zt _ ab,uV _⟩
 obtain⟨W1,eZ⟩:=eqR (w.drew.setCells g (0+i*2) news)
 obtain⟨zs,UF⟩:=FR W1 80 166 0 _ underlying80 qeM 2 rfl ak g ((n-1)*2) 1 (c-(n-1)) ab (λt ht=>by
  rw[eZ];exact World.isSome_setCells g _ _ w.drew _ (zt _ ab)) (λt ht=>by rw[eZ,World.frozen?_setCells];exact uV _)
 have bL:∀ ty,(Builtin.clear_ #[80] ty #[.slice (some ⟨g,(n-1)*2,none⟩) 1 (c-(n-1))]).run prog W1= .ok (.tuple #[]) (W1.setCells g ((n-1)*2) zs):=λ_=>UF;have qU:=aa bL;have qeQ:=aa (qeN (w:=w.drew) (k:=2) (show w.drew.heap[g]? =_ from qo) zU (show i*2+2<=xs.length by omega) (show(n-1)*2=xs.length-2 by omega) ab zs);have HW:ag (W1=w.drew.setCells g (0+i*2) news):=eZ;have HNW:ag (news=xs.drop (i*2+2)):=Hl;have HFD:=aa FH;have sw:=aa eO;have Kf:c<=9223372036854775807:=by unfold maxLen at bQ;exact bQ
 have f':IntKind.i64.wrap ((i:Int)+1)=(i:Int)+1:=by rw[IntKind.wrap_i64];omega
 have aN:¬((i:Int)=(i:Int)+1):=ab;have hic:i<=c:=ab;have qkY:i+1<=c:=ab;have qkZ:(0:Int)<=(i:Int)+1:=ab;have qk0:(i:Int)+1<=(n:Int):=ab;have mixed:prog.follows Departure.mixedOrders=true:=av;have lS:((i:Int)+1).toNat=i+1:=ab;have j4:i+(n-(i+1))=n-1:=ab;have cp:n-(n-1)=1:=ab;have xZ:¬(c=n-1):=ab;clear bL UF eZ Hl kt qo fa zU uV zt lR dN bP FH eO hn;go_wp2;go_region_law_o (refine step_append_room rfl (.tmp 22) (.tmp 25) 80 rfl 166 i0 2 underlying80 gr aY g 0 i c (by simp[Act.eval,Act.put]) A (n-(i+1)) (c-(i+1)) news (by simp[Act.eval,Act.put]) s1.o zr.o s2.o ab s3.o ?_;rw[<- HW.o])
 have bL:=qU.o;go_wp2;go_ret;obtain⟨eX,g1,g2⟩:=qeQ.o;have hb:ah [g] w (W1.setCells g ((n-1)*2) zs):=by rw[HW.o];exact o6 _ _ _ (o6 _ _ _ (ah.refl _ _).drew)
 refine⟨_,rfl,?_,hb⟩;rw[<- sw.o];refine Cf FJ (cur:=eX) ?_ (by rw[HFD.o];exact g2) (by rw[sw.o];omega) bQ;rw[HW.o,HNW.o,Nat.zero_add,sw.o];exact g1
def UG (w:World) (l:List cf) (k:Int) (v':Value) (er:Int):Prop:=
 (er≠0/\v'= .slice none 0 0/\∀ y∈l,y.id≠k)∨(er=0/\∃ i a,l[i]? =some a/\a.id=k/\Rw w 166 2 gS v' (l.take i++l.drop (i+1)))
theorem qeR (v:Value) (l:List cf) (k:Int) (w:World) (bH:Rw w 166 2 gS v l) (hp:lq l) (hl:l.length<=1000):
  Calls prog 101 #[v,.int .i64 k] w λe w'=>∃ v' er,e= .returned (.tuple #[v',.int .i64 er])/\UG w' l k v' er/\ad w w':=by
 obtain⟨LA,lc,rfl,_,_⟩:=bH.form;have HV:=aa bH;have HP:=aa hp;clear bH hp;go_in;go_wp2_with fail
 refine(MC _ l k _ (HV.o.kept al) HP.o hl).mono ?_;rintro e w1 ⟨i,is,rfl,eM,k1⟩;have hi:=eM.le;have mY:=aa eM
 cases is
 ·clear eM;go_wp2;go_ret2
  exact⟨_,12,rfl,.inl ⟨ak,rfl,mY.o.no HP.o⟩,k1⟩
 ·have an:=eM.lt rfl;clear eM;go_wp2_with fail
  refine(QH _ l _ (HV.o.kept k1) ab).mono ?_;rintro e w2 ⟨v2,rfl,h2,k2⟩;obtain⟨g,c2,rfl,_,_⟩:=uK h2 ab;have hg:=h2.lt g rfl;have HO:=aa h2;have f':IntKind.i64.wrap ((i:Int)+1)=(i:Int)+1:=by rw[IntKind.wrap_i64];omega
  clear h2;go_wp2_with fail
  refine(qeP _ g c2 l i w2 HO.o hl an).mono ?_;rintro e w3 ⟨v3,rfl,h3,k3⟩;obtain⟨l2,jy⟩:∃ l2,l2=l.take i++l.drop (i+1):=⟨_,rfl⟩;rw[<- jy]at h3;have vu:=aa jy;obtain⟨A3,c3,rfl,_,_⟩:=h3.form;clear jy;have H3:=aa h3;clear h3;go_wp2;go_ret2
  obtain⟨a,ha,hk⟩:=mY.o.is.1 rfl;exact⟨_,0,rfl,.inr ⟨rfl,i,a,ha,hk,by rw[<- vu.o];exact H3.o⟩,(k1.call k2).but k3 (λx hx=>by simp at hx;subst hx;have:=k1.size;omega)⟩
end Go.Proofs.YtehaoggjlciobaaGreat

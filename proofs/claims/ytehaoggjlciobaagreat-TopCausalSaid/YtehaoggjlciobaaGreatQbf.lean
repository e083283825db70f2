/- Part 22 of 40. -/
import Derived.Test.YtehaoggjlciobaaGreatQbe
set_option linter.all false
set_option maxRecDepth 20000
set_option maxHeartbeats 16000000
namespace Go.Proofs.YtehaoggjlciobaaGreat
open Go.Maps Go.RowKit Go.Proofs.Tryz
variable {d:ByteArray} {B:Int} {l:List Nat} {a b s:Nat} {st:Nat->Nat->bF} {e t:TypeId} {x0 x1:Value} {w w2:World}
theorem qgL (v:Value) (l:List Int) (g:Nat) (cb:Array Value) (Q:Int->Bool->Prop) (w:World) (hv:Rw w 3 1 cJ v l) (S:List Nat) (hq:fI S w g cb (λx=> .int .i64 x) l Q):
  Calls prog 203 #[v,.func (.func g) #[] cb] w λe w'=>∃ r:Int,e= .returned (.int .i64 r)/\wP l Q r/\ad w w':=by
 obtain⟨A,c,rfl,bl,bQ⟩:=hv.form;obtain⟨n,hn⟩:=eqQ l.length;rw[hn]at hv bl⊢;have HV:=aa hv;obtain⟨lO,hq⟩:=hq;have HQ:=aa hq;have HN:=aa hn;clear hv hq hn;go_wp2;go_loopw [8] (λiv wr=>∃ U:Nat,U<=n/\iv= .int .i64 U/\ad w wr/\ag (∀ i a,i<U->l[i]? =some a->Q a false)) (λiv _=>n-(intOf iv).toNat)
 case atStart=>exact⟨0,ab,rfl,al,λi a hi=>ab⟩
 case round=>
  obtain⟨U,hj,rfl,kr,b8⟩:=hrel;by_cases an:U<n
  ·obtain⟨a,ha⟩:=exQ l U (by rw[HN.o];exact an);have HA:=aa ha;obtain⟨b,off,rfl,hb,hc⟩:=HV.o.af ha;have HT:=aa (HQ.o wr (.ar kr) a (zV ha))
   have HX:ag (∀ x,x=a->Q x false->∀ i a,i<U+1->l[i]? =some a->Q a false):=λx hx h i bI hi kR=>by
    rcases R6 i U with g|g
    ·exact b8.o i bI g kR
    ·obtain rfl:i=U:=ab;rw[HA.o]at kR;injection kR with kR;rw[<- kR,<- hx];exact h
   have HY:ag (Q a true->wP l Q U):=λh=> .inr ⟨U,a,rfl,HA.o,h,b8.o⟩;skip
   obtain c0:=iU λU u hu=>kr.af (hc U u hu)
   (try simp only[Nat.mul_one]at c0)
   clear hc ha HA b8;go_wp2_with fail
   refine HT.o.mono ?_;rintro e w2 ⟨b,rfl,mN,k2⟩;have mO:=aa mN;clear mN;have K2:=kr.call k2
   cases b
   ·go_wp2;go_roundw
    case rel=>exact⟨U+1,ab,aA,K2,HX.o _ rfl mO.o⟩
    case measure=>exact dY
   ·go_wp2;go_ret;exact⟨U,rfl,HY.o mO.o,K2⟩
  ·obtain rfl:U=n:=ab;go_wp2;go_ret
   exact⟨-1,rfl,.inl ⟨rfl,λa ha=>by
    obtain⟨i,hi⟩:=qcl.1 ha;exact b8.o i a (by have:=(bg hi);rw[HN.o]at this;exact this) hi⟩,kr⟩
theorem qgM (v:Value) (l:List Int) (g:Nat) (cb:Array Value) (Q:Int->Bool->Prop) (w:World) (hv:Rw w 3 1 cJ v l) (S:List Nat) (hq:fI S w g cb (λx=> .int .i64 x) l Q):
  Calls prog 142 #[v,.func (.func g) #[] cb] w λe w'=>∃ b:Bool,e= .returned (.bool b)/\(b=true->∃ a∈l,Q a true)/\(b=false->∀ a∈l,Q a false)/\ad w w':=by
 have HV:=aa hv;have HQ:=aa hq;clear hv hq;go_in;go_wp2_with fail
 refine(qgL v l g cb Q _ HV.o S HQ.o).mono ?_;rintro e w2 ⟨r,rfl,hr,k2⟩;have HR:=aa hr;clear hr;have hb:∃ b:Bool,decide (0<=r)=b:=⟨_,rfl⟩;go_wp2;go_ret;refine⟨decide (0<=r),rfl,λh=> ?_,λh=> ?_,k2⟩
 ·rcases HR.o with ⟨rfl,_⟩|⟨i,a,rfl,hi,ha,_⟩
  ·simp at h
  ·exact⟨a,zV hi,ha⟩
 ·rcases HR.o with ⟨rfl,h2⟩|⟨i,a,rfl,hi,ha,_⟩
  ·exact h2
  ·simp at h
theorem vG {x2:Value} (h:w.heap[b]? =some (.cells #[x0,x1,x2] t (0,0))) (y0 y1 y2:Value):(((w.setCell ⟨b,0,none⟩ y0).setCell ⟨b,1,none⟩ y1).setCell ⟨b,2,none⟩ y2).heap[b]? =some (.cells #[y0,y1,y2] t (0,0)):=
 Ok _ b 2 _ _ _ (Ok _ b 1 _ _ _ (Ok w b 0 _ _ _ h))
theorem ah.vG (b:Nat) (y0 y1 y2:Value):ah [b] w (((w.setCell ⟨b,0,none⟩ y0).setCell ⟨b,1,none⟩ y1).setCell ⟨b,2,none⟩ y2):=((ah.set _ 0 _).trans (ah.set _ 1 _)).trans (ah.set _ 2 _)
theorem bC (h:w.heap[b]? =some (.cells #[x0,x1] t (0,0))) (y0 y1:Value):((w.setCell ⟨b,0,none⟩ y0).setCell ⟨b,1,none⟩ y1).heap[b]? =some (.cells #[y0,y1] t (0,0)):=
 Ok _ b 1 _ _ _ (Ok w b 0 _ _ _ h)
theorem ah.bC (b:Nat) (y0 y1:Value):ah [b] w ((w.setCell ⟨b,0,none⟩ y0).setCell ⟨b,1,none⟩ y1):=(ah.set _ 0 _).trans (ah.set _ 1 _)
theorem Fr.one {cur:Array Value} {P:TypeId->Prop} (hb:ah [b] w w2) (h:w.heap[b]? =some (.cells cur e (0,0))) (he:¬P e):Fr P w w2:=
 Fr.gn hb λs hs jb e2 h2=>by
  simp at hs;subst hs;rw[h]at h2;simp only[Option.some.injEq,Obj.cells.injEq]at h2;exact h2.2.1▸he
theorem gl (er:Int) (w:World):Calls prog 30 #[.int .i64 er] w λe w'=>e= .returned (.agg #[.int .i64 er,.slice none 0 0])/\ad w w':=by
 go_in;go_wp2_with fail
 have y0:(w.alloc (.cells #[.int .i64 er,.slice none 0 0] 42)).cell? ⟨w.heap.size,0,none⟩=some (.int .i64 er):=by go_simp
 have y1:(w.alloc (.cells #[.int .i64 er,.slice none 0 0] 42)).cell? ⟨w.heap.size,1,none⟩=some (.slice none 0 0):=by go_simp
 refine KV (v:= .agg #[.int .i64 er,.slice none 0 0]) (by simp[results,results30,go_sem,y0,y1]) rfl ?_;exact⟨rfl,al⟩
theorem AQ (A:Option Addr) (n c:Nat) (w:World):Calls prog 91 #[.slice A n c] w λe w'=>e= .returned (.agg #[.int .i64 0,.slice A n c])/\ad w w':=by
 go_in;go_wp2_with fail
 have y0:(w.alloc (.cells #[.int .i64 0,.slice A n c] 42)).cell? ⟨w.heap.size,0,none⟩=some (.int .i64 0):=by go_simp
 have y1:(w.alloc (.cells #[.int .i64 0,.slice A n c] 42)).cell? ⟨w.heap.size,1,none⟩=some (.slice A n c):=by go_simp
 refine KV (v:= .agg #[.int .i64 0,.slice A n c]) (by simp[results,results91,go_sem,y0,y1]) rfl ?_;exact⟨rfl,al⟩
theorem M8 (rv ov pv:Value) (es:List Nat) (os ps:List Int) (w:World) (h:fm w rv ov pv es os ps) (hl:os.length<=1000/\ps.length<=1000/\es.length<=1000):
  Calls prog 24 #[.agg #[rv,ov,pv]] w λe w'=>∃ r2 o2 p2,e= .returned (.agg #[r2,o2,p2])/\fm w' r2 o2 p2 es os ps/\ad w w':=by
 obtain⟨A,c1,rfl,_,_⟩:=h.r.form;obtain⟨A2,c2,rfl,_,_⟩:=h.qD.form;obtain⟨A3,c3,rfl,_,_⟩:=h.p.form;obtain⟨n1,j4⟩:=eqQ ((bw es).length);have qk9:n1<=1001:=by rw[<- j4,ju];omega
 have HR:=aa h.r;have HO:=aa h.qD;have HP:=aa h.p;have HN:=aa j4;rw[j4]at HR⊢;clear h j4;go_wp2;refine ku [0,1,3,4,6,7,2,5,8,9,10] [none,none,none,none,none,none,some (λu w'=>∃ b0,w'.ownsRow b0 63 2 u (bw es).length ((bw es).flatMap bZ)),some (λu w'=>∃ b0,w'.ownsRow b0 3 1 u os.length (os.flatMap cJ)),some (λu w'=>∃ b0,w'.ownsRow b0 3 1 u ps.length (ps.flatMap cJ))] (λwB=>ad w wB/\ad ((w.alloc (.cells #[.slice A n1 c1,.slice A2 os.length c2,.slice A3 ps.length c3] 29)).alloc (.cells #[.slice none 0 0,.slice none 0 0,.slice none 0 0] 29)) wB/\wB.cell? ⟨w.heap.size,0,none⟩=some (.slice A n1 c1)/\wB.cell? ⟨w.heap.size,1,none⟩=some (.slice A2 os.length c2)/\wB.cell? ⟨w.heap.size,2,none⟩=some (.slice A3 ps.length c3)) λwB SS=> ?_;iterate 6 refine SP.on ?_
 refine SP.ew ?_ λv1=> ?_
 ·intro wd hI hF;obtain⟨ae,ay,ai,aj,aq⟩:=SS.o wd hI;clear hF;go_wp2_with ((go_at_call 49;refine(FQ _ (bw es) _ (HR.o.kept ae) (by rw[HN.o];omega)).mono ?_;rintro e w4 ⟨v4,rfl,h4,k4⟩));exact bn rfl ⟨_,h4⟩
 refine SP.ew ?_ λv2=> ?_
 ·intro wd hI hF;obtain⟨ae,ay,ai,aj,aq⟩:=SS.o wd hI;clear hF;go_wp2_with ((go_at_call 50;refine(QK _ os _ (HO.o.kept ae) ab).mono ?_;rintro e w4 ⟨v4,rfl,h4,k4⟩));exact bn rfl ⟨_,h4⟩
 refine SP.ew ?_ λv3=> ?_
 ·intro wd hI hF;obtain⟨ae,ay,ai,aj,aq⟩:=SS.o wd hI;clear hF;go_wp2_with ((go_at_call 50;refine(QK _ ps _ (HP.o.kept ae) ab).mono ?_;rintro e w4 ⟨v4,rfl,h4,k4⟩));exact bn rfl ⟨_,h4⟩
 refine SP.ml SS ?_;rintro wd hI hF ⟨ae,ay,ai,aj,aq⟩;have h1:=hF.2.2.1;have h2:=hF.2.1;have h3:=hF.1;clear hF SS;obtain⟨wa,⟨b1,o1⟩,k1⟩:=h1;obtain⟨wb,⟨b2,o2⟩,k2⟩:=h2;obtain⟨wc,⟨ck,vE⟩,k3⟩:=h3;have bS:wd.heap[w.heap.size+1]? =some (.cells #[.slice none 0 0,.slice none 0 0,.slice none 0 0] 29 (0,0)):=ay.heap (by have h:=yY (w.alloc (.cells #[.slice A n1 c1,.slice A2 os.length c2,.slice A3 ps.length c3] 29)) (.cells #[.slice none 0 0,.slice none 0 0,.slice none 0 0] 29);rw[World.size_alloc]at h;exact h);have HO1:=aa (Rw.bp (ad.own o1 k1) nZ ak);have dC:=aa (Rw.bp (ad.own o2 k2) J3 ak);have eR:=aa (Rw.bp (ad.own vE k3) J3 ak);obtain⟨D1,e1,rfl⟩:=ca o1;obtain⟨D2,e2,rfl⟩:=ca o2;obtain⟨D3,e3,rfl⟩:=ca vE;have f0:=aI bS 0;have f1:=aI bS 1;have f2:=aI bS 2;have x0:wd.cell? ⟨w.heap.size+1,0,none⟩=some (.slice none 0 0):=aE bS 0;have x1:wd.cell? ⟨w.heap.size+1,1,none⟩=some (.slice none 0 0):=aE bS 1;have x2:wd.cell? ⟨w.heap.size+1,2,none⟩=some (.slice none 0 0):=aE bS 2;have dG:=aa bS;clear o1 o2 vE k1 k2 k3 bS;go_wp2_with fail
 have aL:=vG dG.o (.slice D1 (bw es).length e1) (.slice D2 os.length e2) (.slice D3 ps.length e3);have fk:=ah.vG (w:=wd) (w.heap.size+1) (.slice D1 (bw es).length e1) (.slice D2 os.length e2) (.slice D3 ps.length e3);have cG:=Fr.one (P:=bq) fk dG.o ak;have y0:=ap aL 0;have y1:=ap aL 1;have y2:=ap aL 2;refine KV (v:= .agg #[.slice D1 (bw es).length e1,.slice D2 os.length e2,.slice D3 ps.length e3]) (by simp[results,results24,go_sem,y0,y1,y2]) rfl ?_;exact⟨_,_,_,rfl,⟨HO1.o.fr cG (by unfold bq;decide),dC.o.fr cG (by unfold bq;decide),eR.o.fr cG (by unfold bq;decide)⟩,ae.but fk ao⟩
theorem Eg (B:Int) (gb:Nat) (g:aG) (s:Int) (w:World) (h:aT w B gb g):
  Calls prog 45 #[.pointer (some ⟨gb,0,none⟩),.int .i64 s] w λe w'=>e= .returned (.pointer (if 0<=s/\s<g.n then some ⟨(g.p s.toNat).sb,0,none⟩else none))/\ad w w':=by
 obtain⟨V,h1,h2⟩:=h;have dO:w.cell? ⟨gb,3,none⟩=some V.sv:=aE h1 3;obtain⟨SA,sc,mx,_,_⟩:=h2.a6.sites.form;have HS:=aa h2.a6.sites;rw[mx]at dO HS;have eO:((List.range g.n).map λi=>(g.p i).sb).length=g.n:=ao;rw[eO]at dO HS;obtain⟨n,hN⟩:=eqQ g.n;rw[hN]at dO HS⊢;have jJ:n<=6:=by rw[<- hN];exact h2.a6.fit.fit.cV
 clear h1 h2 mx eO hN;by_cases od:s<0
 ·go_wp2;go_ret;exact⟨rfl,al⟩
 by_cases C2:(n:Int)<=s
 ·go_wp2;go_ret;exact⟨rfl,al⟩
 ·obtain⟨i,rfl⟩:∃ i:Nat,s=i:=⟨s.toNat,ab⟩;have hi:i<n:=ab;have hx:((List.range n).map λi=>(g.p i).sb)[i]? =some (g.p i).sb:=by rw[List.getElem?_map,List.getElem?_range hi];rfl
  obtain⟨b,off,rfl,hb,hc⟩:=HS.o.af hx;have c0:=iU hc;simp only[Nat.mul_one]at c0;rw[if_pos ab];simp only[Int.toNat_natCast];clear hc hx;go_wp2;go_ret;exact⟨rfl,al⟩
def Room (x:bF):Prop:=x.T.length-x.lo<8
theorem qgN {A:Option Addr} {c:Nat} (h:bo w A l.length c (ints l)) (ht:tk w A):Rw w 3 1 cJ (.slice A l.length c) (ints l):=by
 obtain⟨h1,h2,h3,h4,h5⟩:=h;refine⟨A,c,by simp[ints],by simpa [ints]using h2,h3,λe=>⟨by have:=(h4 e).1;cases l <;>simp_all [ints],(h4 e).2⟩,λp hp=> ?_⟩;obtain⟨b,off,cur,rfl,hb⟩:=ht p hp;refine⟨b,off,cur,rfl,hb,λi a hi U u hu=> ?_⟩;have an:i<l.length:=by have:=(bg hi);simpa [ints]using this
 obtain⟨b2,gA,e2,hc⟩:=h5 ab;rw[hp]at e2;cases e2;have:=hc i an;rw[aE hb]at this
 have hj:U=0:=by cases U with
  |zero=>rfl
  |succ U=>simp[cJ]at hu
 subst hj;simp only[cJ,List.getElem?_cons_zero,Option.some.injEq]at hu;subst hu;rw[Nat.mul_one,Nat.add_zero,this,hi];rfl
theorem qgO (B:Int) (gb G F:Nat) (g:aG) (a s:Nat) (w:World) (h:aT w B gb g) (hB:B<=900) (hG:w.cell? ⟨G,0,none⟩=some (.pointer (some ⟨gb,0,none⟩))) (hF:w.cell? ⟨F,0,none⟩=some (.int .i64 a)) (ha:a<g.n) (hs:s<g.n) (aN:a≠s):
  Calls prog 143 #[.int .i64 s,.pointer (some ⟨G,0,none⟩),.pointer (some ⟨F,0,none⟩)] w λe w'=>∃ b:Bool,e= .returned (.bool b)/\(b=false↔Room (g.st a s))/\ad w w':=by
 obtain⟨V,h1,h2⟩:=h;have hN:w.cell? ⟨gb,4,none⟩=some (.pointer (some ⟨V.N,0,none⟩)):=aE h1 4;have jJ:=h2.a6.fit.fit.cV;have hP:de g.n a s=true:=by simp[de,ha,hs,aN]
 have hT:(g.st a s).T.length<=1000:=by have:=(h2.bx a s ab ab).1;omega
 have HN:=aa h2.cm;clear h1 h2;obtain⟨m,hm⟩:=eqQ ((g.st a s).T.length-(g.st a s).lo);have HM:=aa hm;go_wp2;refine bz (λwB=>ad w wB/\wB.cell? ⟨G,0,none⟩=some (.pointer (some ⟨gb,0,none⟩))/\wB.cell? ⟨F,0,none⟩=some (.int .i64 a)/\wB.cell? ⟨gb,4,none⟩=some (.pointer (some ⟨V.N,0,none⟩))) λwB SS=> ?_;obtain⟨au,aB,aC,aF⟩:=SS.o _ (ad.refl _);repeat(apply DW.ct;(focus (intro wd hI;obtain⟨ae,ai,aj,aq⟩:=SS.o wd hI;go_wp2_with (go_at_call 144;refine(Wk g.w0 (j6 g) V.N (de g.n) g.st a s a s _ (HN.o.keep (au.call hI)) rfl rfl ab ab hP hT).mono ?_;rw[HM.o];rintro e w6 ⟨rfl,cL⟩);exact aP));refine DW.np ?_)
 refine DW.nl SS ?_;rintro wd hI ⟨ae,ai,aj,aq⟩;go_wp2;go_ret;refine⟨_,rfl,?_,ae⟩;have hm:=HM.o;unfold Room;rw[hm];simp;try omega
theorem Wm (B:Int) (gb:Nat) (g:aG) (a:Nat) (v:Value) (l:List Nat) (w:World) (h:aT w B gb g) (hB:B<=900) (ha:a<g.n) (hl:∀ s∈l,s<g.n/\a≠s) (hv:Rw w 3 1 cJ v (ints l)):
  Calls prog 86 #[.pointer (some ⟨gb,0,none⟩),.int .i64 a,v] w λe w'=>∃ b:Bool,e= .returned (.bool b)/\(b=false->∀ s∈l,Room (g.st a s))/\(b=true->∃ s∈l,¬Room (g.st a s))/\ad w w':=by
 have an:=h.lt;obtain⟨A,c,rfl,bl,bQ⟩:=hv.form;have HG:=aa h;have HV:=aa hv;generalize (ints l).length=n at HV;clear h hv;obtain⟨W,hW⟩:=eqR ((w.alloc (.cells #[.pointer (some ⟨gb,0,none⟩)] 31)).alloc (.cells #[.int .i64 a] 3));have hk:ad w W:=by rw[hW];exact al
 have HT:ag (fI [] W 143 #[.pointer (some ⟨w.heap.size,0,none⟩),.pointer (some ⟨w.heap.size+1,0,none⟩)] (λx=> .int .i64 x) (ints l) (λx b=>∀ s:Nat,x=s->(b=false↔Room (g.st a s)))):=by
  refine⟨λargs w=>enters_of func143 av rfl args w,λW2 fw x hx=> ?_⟩;obtain⟨s,hs,rfl⟩:∃ s∈l,x=(s:Int):=by simp[ints]at hx;obtain⟨s,h1,h2⟩:=hx;exact⟨s,h1,h2.symm⟩
  have n0:=fw.kept;refine(qgO B gb w.heap.size (w.heap.size+1) g a s W2 (HG.o.kept (hk.call n0)) hB (n0.af (by rw[hW];go_simp)) (n0.af (by rw[hW];go_simp)) ha (hl s hs).1 (hl s hs).2).mono ?_;rintro e w' ⟨b,rfl,hb,k⟩;exact⟨b,rfl,λt ht=>(Int.natCast_inj.1 ht:s=t)▸hb,k⟩
 have iS:∀ fn first cap w,(Instr.makeFunc fn first cap).run prog w= .ok (.func fn first cap) w:=λ_ _ _ _=>rfl
 go_in;go_wp2_with fail
 refine(qgM _ (ints l) _ _ _ _ (by rw[<- hW];exact HV.o.kept hk) [] (by rw[<- hW];exact HT.o)).mono ?_;rintro e w2 ⟨b,rfl,bD,hb,k⟩;rw[<- hW]at k;have HB:=aa hb;have tw:=aa bD;clear hb bD;go_wp2;go_ret;refine⟨b,rfl,λhf s hs=>(by have h:=HB.o hf (s:Int) (List.mem_map.2 ⟨s,hs,rfl⟩) s rfl;simpa [hf]using h),λht=> ?_,hk.call k⟩;obtain⟨x,hx,hq⟩:=tw.o ht;obtain⟨s,hs,rfl⟩:∃ s∈l,x=(s:Int):=by simp[ints]at hx;obtain⟨s,h1,h2⟩:=hx;exact⟨s,h1,h2.symm⟩
 exact⟨s,hs,λhr=>by have h:=hq s rfl;simp[hr]at h⟩
theorem Wn (B:Int) (gb:Nat) (g:aG) (a:Nat) (v:Value) (l:List Nat) (w:World) (h:aT w B gb g) (hB:B<=900) (ha:a<g.n) (hl:∀ s∈l,s<g.n/\a≠s) (hv:Rw w 3 1 cJ v (ints l)):
  Calls prog 86 #[.pointer (some ⟨gb,0,none⟩),.int .i64 a,v] w λe w'=>∃ b:Bool,e= .returned (.bool b)/\(b=false->∀ s∈l,Room (g.st a s))/\ad w w':=by
 refine(Wm B gb g a v l w h hB ha hl hv).mono ?_;rintro e w' ⟨b,rfl,h1,_,k⟩;exact⟨b,rfl,h1,k⟩
def jK (st:Nat->Nat->bF) (a:Nat) (l:List Nat) (d:ByteArray):Nat->Nat->bF:=λi U=>if i=a/\U∈l then pR (st i U) d else st i U
theorem qgP (st:Nat->Nat->bF) (a:Nat) (d:ByteArray):jK st a [] d=st:=by funext i U;simp[jK]
theorem qgQ (h:s∉l):jK st a l d a s=st a s:=by simp[jK,h]
theorem Wo (h:s∉l):gj (jK st a l d) a s (pR (st a s) d)=jK st a (l++[s]) d:=by
 funext i U
 unfold gj jK;by_cases h1:i=a
 ·by_cases h2:U=s
  ·subst h1 h2;simp
  ·simp[h1,h2]
 ·simp[h1]
theorem qgR (x:bF) (d:ByteArray):(pR x d).T.length<=x.T.length+1/\(pR x d).aw.length<=x.aw.length+1:=by
 unfold pR;split <;>simp
theorem qgS (h:∀ a b,a<6->b<6->((st a b).T.length:Int)<=B/\((st a b).aw.length:Int)<=32+B) (i U:Nat) (hi:i<6) (hj:U<6):((jK st a l d i U).T.length:Int)<=B+1/\((jK st a l d i U).aw.length:Int)<=32+(B+1):=by
 have:=h i U hi hj;have:=qgR (st i U) d;unfold jK;split <;>omega
theorem qgT (h:l.Nodup) {U:Nat} (hs:l[U]? =some s):s∉l.take U:=λhm=>by
 obtain⟨i,hi⟩:=qcl.1 hm;obtain⟨hl,he⟩:=pi.1 hi;rw[qcd]at hl;rw[qlY ab]at hi;have:=(List.getElem?_inj ab h).1 (hi.trans hs.symm);omega
theorem Wp (B:Int) (gb:Nat) (g:aG) (a:Nat) (v:Value) (l:List Nat) (x:ax) (w:World) (h:aT w B gb g) (hB:B<=900) (ha:a<g.n) (hl:∀ s∈l,s<g.n/\a≠s) (ek:l.Nodup) (hv:Rw w 3 1 cJ v (ints l)) (hx:b7 w B x):
  Calls prog 88 #[.pointer (some ⟨gb,0,none⟩),.int .i64 a,v,aM x] w λe w'=>e= .returned (.tuple #[])/\aT w' (B+1) gb {g with st:=jK g.st a l ⟨(l9 x x.ds).toArray⟩}/\bN w w':=by
 have an:=h.lt;obtain⟨A,c,rfl,bl,bQ⟩:=hv.form;obtain⟨n,hn⟩:=eqQ ((ints l).length);have cp:l.length=n:=by rw[<- hn];simp[ints]
 rw[hn]at hv bl⊢;have HG:=aa h;have HV:=aa hv;have HX:=aa hx;have HN:=aa cp;have HD:=aa ek;have HL:=aa hl;obtain⟨d,hd⟩:=eqR (⟨(l9 x x.ds).toArray⟩:ByteArray);have Im:=aa hd;rw[<- hd];clear h hv hx hn cp ek hl hd;unfold aM;go_wp2;have HB:ag ((w.alloc (.cells #[.string x.key,.string x.val,.bool x.gone,.int .i64 x.n,.int .i64 x.s,.slice x.pa x.pn x.pc] 48)).heap[w.heap.size]? =some (.cells #[.string x.key,.string x.val,.bool x.gone,.int .i64 x.n,.int .i64 x.s,.slice x.pa x.pn x.pc] 48 (0,0))):=yY _ _;go_loopw [12] (λiv wr=>∃ U:Nat,U<=n/\iv= .int .i64 U/\ag (aT wr (B+1) gb {g with st:=jK g.st a (l.take U) d})/\bN w wr/\ag (wr.heap[w.heap.size]? =some (.cells #[.string x.key,.string x.val,.bool x.gone,.int .i64 x.n,.int .i64 x.s,.slice x.pa x.pn x.pc] 48 (0,0)))) (λiv _=>n-(intOf iv).toNat)
 case atStart=>exact⟨0,ab,rfl,by simp only[List.take_zero,qgP];exact(HG.o.kept al).mono ab,.ar al,HB⟩
 case round=>
  obtain⟨U,hj,rfl,hg,hf,hb⟩:=hrel;by_cases iT:U<n
  ·obtain⟨s,hs⟩:=exQ l U (by rw[HN.o];exact iT);have ji:(ints l)[U]? =some (s:Int):=by simp[ints,hs]
   obtain⟨b,off,rfl,mh,hc⟩:=(HV.o.fr hf ak).af ji;have c0:=iU hc;simp only[Nat.mul_one]at c0;have M9:=aa (HL.o s (zV hs));have hV:=aa (qgT HD.o hs);have Io:=aa hs
   have Wq:ag (l.take (U+1)=l.take U++[s]):=by
    unfold ag;rw[List.take_add_one,hs];rfl
   clear hc ji hs;obtain⟨g2,dm⟩:∃ g2:aG,g2={g with st:=jK g.st a (l.take U) d}:=⟨_,rfl⟩;rw[<- dm]at hg;have q1:g2.n=g.n:=by rw[dm];rfl
   have q2:g2.st a s=g.st a s:=by rw[dm];exact qgQ hV.o
   have LK:ag ({g2 with st:=gj g2.st a s (pR (g2.st a s) d)}={g with st:=jK g.st a (l.take (U+1)) d}):=by
    unfold ag;rw[Wq.o,<- Wo hV.o,q2,dm]
   have M':ag (∀ i k,i<6->k<6->((gj g2.st a s (pR (g2.st a s) d) i k).T.length:Int)<=B+1/\((gj g2.st a s (pR (g2.st a s) d) i k).aw.length:Int)<=32+(B+1)):=by
    unfold ag;rw[q2,dm];simp only[Wo hV.o];obtain⟨V0,_,bH⟩:=HG.o;exact λi k hi hk=>qgS bH.bx i k hi hk
   have nm:=aa q1;have kS:=aa q2;clear dm q1 q2 Wq hV;obtain⟨V,h1,h2⟩:=hg.o;have h4:wr.cell? ⟨gb,4,none⟩=some (.pointer (some ⟨V.N,0,none⟩)):=aE h1 4;have H1:=aa h1;have H2:=aa h2;obtain⟨M,hM⟩:=eqQ V.N;rw[hM]at h4;have e0:=ap hb.o 0;have e1:=ap hb.o 1;have e2:=ap hb.o 2;have e3:=ap hb.o 3;have e4:=ap hb.o 4;have e5:=ap hb.o 5;have jJ:=h2.a6.fit.fit.cV;have iw:=M9.o;have AR:g.n<=6:=by rw[<- nm.o];exact jJ
   have cX:=h2.bx a s ab ab;rw[kS.o]at cX;have HF:=aa cX;have Ip:=aa AR;clear jJ iw AR;have bU:wr.heap.size<=wr.heap.size:=CP _;clear h1 h2 cX;go_wp2;skip
   refine bz (λwB=>ad wr wB/\wB.cell? ⟨gb,4,none⟩=some (.pointer (some ⟨M,0,none⟩))/\wB.cell? ⟨w.heap.size,0,none⟩=some (.string x.key)/\wB.cell? ⟨w.heap.size,1,none⟩=some (.string x.val)/\wB.cell? ⟨w.heap.size,2,none⟩=some (.bool x.gone)/\wB.cell? ⟨w.heap.size,3,none⟩=some (.int .i64 x.n)/\wB.cell? ⟨w.heap.size,4,none⟩=some (.int .i64 x.s)/\wB.cell? ⟨w.heap.size,5,none⟩=some (.slice x.pa x.pn x.pc)) λwB SS=> ?_;obtain⟨au,aB,aC,aF,aX,bK,fg,qO⟩:=SS.o _ (ad.refl _);iterate 8 (apply DW.ct;(focus (intro wd hI;obtain⟨ae,ai,aj,aq,az,aK,a1,cw⟩:=SS.o wd hI;go_wp2_with (go_at_call 152;refine(S7 x x.ds _ HX.o.key ((HX.o.jB.fr hf ak).kept (au.call hI)) (λd hd=>(HX.o.cg.ok d hd).1) HX.o.wc).mono ?_;rw[<- Im.o];rintro e w6 ⟨rfl,cL⟩);exact aP));refine DW.np ?_)
   refine DW.tail av λwd hI=> ?_;obtain⟨ae,ai,aj,aq,az,aK,a1,cw⟩:=SS.o wd hI;clear SS;have jo:=aa (show GB wd gb g2 V from ae.heap H1.o);have nP:=aa (H2.o.kept ae);have hP:de g2.n a s=true:=by rw[nm.o];simp[de,ha,M9.o]
   have AR:=Ip.o;have iw:=M9.o;have Q3:=HF.o;have tE:=aa (ae.heap hb.o);have JG:wd.cell? ⟨gb,4,none⟩=some (.pointer (some ⟨M,0,none⟩)):=ai;subst hM;go_wp2_with fail
   refine(qgz (bare g2 wd) (j6 g2) V.N (de g2.n) g2.st a s a s wd nP.o.Ec (Eb g2 wd) rfl rfl ab ab d hP (by rw[kS.o];omega) (by rw[kS.o];omega)).mono ?_;rintro e w5 ⟨rfl,gq⟩;have yn:=aa gq;clear gq;obtain⟨jL,dS⟩:=aT.Ed jo.o nP.o yn.o (Int.le_refl _) M'.o;have lA:=aa (LK.o▸jL);have fh:=(hf.trans (.ar ae)).trans dS;have nt:=aa (dS.block _ _ _ tE.o ak);clear jL;go_wp2;go_roundw
   case rel=>exact⟨U+1,ab,aA,lA,fh,nt⟩
   case measure=>exact dY
  ·obtain rfl:U=n:=ab;go_wp2;go_end0
   rw[qcc (by rw[HN.o];exact CP _)]at hg;exact⟨rfl,hg.o,hf⟩
theorem qgU:(prog.info? 92).map (λi=>(i.zero,i.size,i.bytes))=some (some (.agg #[.int .i64 0,.int .i64 0,.string ⟨#[]⟩,.int .i64 0,.int .i64 0,.slice none 0 0]),6,72):=av
def vH (b0:Nat) (w:World) (v:Value) (n:Nat) (xs:List Value):Prop:=w.ownsRow b0 92 6 v n xs
theorem vH.kept {b0:Nat} {v:Value} {n:Nat} {xs:List Value} (h:vH b0 w v n xs) (k:ad w w2):vH b0 w2 v n xs:=ad.own h k
theorem aT.qgV {B2:Int} {gb:Nat} {g:aG} {V:e9} {hv:Value} {l:List nK} (hG:GB w gb g V) (h:fo w B gb g V) (hb:ah (gb::V.hv.ownBlock.toList) w w2) (hc:w2.heap[gb]? =some (.cells ((M4 g V).setIfInBounds 22 hv) 82 (0,0)))
  (ho:vH g.w0.heap.size w2 hv l.length (l.flatMap sF)) (hl:∀ e∈l,Rw w 60 3 aS (.slice e.pa e.pn e.pc) e.ds/\e.ds.length=e.pn) (hB:B<=B2) (hf:(l.length:Int)<=8*B2):aT w2 B2 gb {g with bJ:=l}/\bN w w2:=by
 have hY:∀ y∈gb::V.hv.ownBlock.toList,y<w.heap.size->∃ cur e,w.heap[y]? =some (.cells cur e (0,0))/\(e=82∨e=92):=λy hy _=>by
  rcases KX.1 hy with rfl|hy
  ·exact⟨_,_,hG,.inl rfl⟩
  ·obtain⟨cur,hc⟩:=j5 h.bJ (Option.mem_toList.1 hy);exact⟨cur,_,hc,.inr rfl⟩
 have hg:bN w w2:=bN.gn hb λy hy hl cur e he=>by
  obtain⟨jb,e2,h3,h4⟩:=hY y hy hl;rw[he]at h3;simp only[Option.some.injEq,Obj.cells.injEq]at h3;obtain⟨_,rfl,_⟩:=h3;rcases h4 with rfl|rfl <;>decide
 have cG:=hg.j7;have hd:=h.a6.fr cG hB
 refine⟨⟨{V with hv:=hv},hc,⟨⟨hd.row,hd.fit,hd.sites,hd.bY,hd.oJ,hd.pins,λe he=>⟨(hl e he).1.fr cG (by unfold bq;decide),(hl e he).2⟩⟩,λi hi=>((h.bi i hi).mono hB).oK hb cG λy hy hl=> ?_,h.apart,h.cm.oK hb λy hy hl=> ?_,λa b ha hb=>by have:=h.bx a b ha hb;simp only;omega,ho,hf,(h.old.but hb λy hy _=> .inl (by
  rcases KX.1 hy with rfl|hy
  ·exact h.old.gb
  ·exact(h.bJ.lt y (Option.mem_toList.1 hy)).1)).oU rfl rfl rfl⟩⟩,hg⟩
 ·obtain⟨cur,e,h3,h4⟩:=hY y hy hl;exact⟨cur,e,h3,(by rcases h4 with rfl|rfl <;>decide),(by rcases h4 with rfl|rfl <;>decide)⟩
 ·obtain⟨cur,e,h3,h4⟩:=hY y hy hl;exact .inr ⟨cur,e,h3,(by rcases h4 with rfl|rfl <;>decide),(by rcases h4 with rfl|rfl <;>decide)⟩
theorem Na (B B2:Int) (gb:Nat) (g:aG) (x:nK) (w:World) (h:aT w B gb g) (hB:B<=B2) (h9:B2<=900) (hf:(g.bJ.length:Int)+1<=8*B2) (hx:Rw w 60 3 aS (.slice x.pa x.pn x.pc) x.ds) (dN:x.ds.length=x.pn):
  Calls prog 89 #[.pointer (some ⟨gb,0,none⟩),.int .i64 x.kind,.int .i64 x.Ij,.string x.key,.agg #[.int .i64 x.n,.int .i64 x.s],.slice x.pa x.pn x.pc] w λe w'=>e= .returned (.tuple #[])/\aT w' B2 gb {g with bJ:=g.bJ++[x]}/\bN w w':=by
 have an:=h.lt;obtain⟨V,h1,h2⟩:=h;have c22:w.cell? ⟨gb,22,none⟩=some V.hv:=aE h1 22;obtain⟨A,c,Nb⟩:=ca h2.bJ;have HO:ag (vH g.w0.heap.size w V.hv g.bJ.length (g.bJ.flatMap sF)):=h2.bJ
 have Iq:gb∉V.hv.ownBlock.toList:=λhy=>by
  obtain⟨cur,hc⟩:=j5 h2.bJ (Option.mem_toList.1 hy);rw[GB]at h1;exact fB h1 hc ak rfl
 have Nc:w.heap.size∉V.hv.ownBlock.toList:=λhy=>by
  have:=(h2.bJ.lt _ (Option.mem_toList.1 hy)).2;omega
 obtain⟨hv,Nd⟩:=eqQ V.hv;obtain⟨vI,Nf⟩:=eqQ g.bJ.length;have qgW:=aa h2.old.size;have H1:=aa h1;have H2:=aa h2;have HX:=aa hx;have pO:=aa dN;have HH:=aa Nd;have Ng:=aa Nf;rw[Nd]at c22 Nb HO Iq Nc;have HN:=aa Iq;rw[Nf]at hf Nb HO;subst Nb;obtain⟨Eh,xc,Ei,xn,xs,Ej,Ek,Em,cR⟩:=x;simp only at HX pO⊢;clear h1 h2 hx dN Nd Nf;go_wp2;obtain⟨ol,lY⟩:=eqQ (g.bJ.flatMap sF);have Nh:=aa lY;rw[lY]at HO;clear lY;have HO:=aa (HO.o.kept ((ad.refl w).alloc (.cells #[.int .i64 xn,.int .i64 xs] 45)));refine oY (oS (((Value.slice A vI c).ownBlock.toList))) (λwB=>ah (((Value.slice A vI c).ownBlock.toList)) w wB/\wB.cell? ⟨gb,22,none⟩=some (.slice A vI c)/\wB.cell? ⟨w.heap.size,0,none⟩=some (.int .i64 xn)/\wB.cell? ⟨w.heap.size,1,none⟩=some (.int .i64 xs)/\ag (vH g.w0.heap.size wB (.slice A vI c) vI ol)) ?_ av av _ (by(try simp only[List.append_eq,List.cons_append,List.nil_append,List.toList_toArray]);exact rfl) ?_
 ·exact⟨by exact hD,by first|assumption|go_simp,by first|assumption|go_simp,by first|assumption|go_simp,by first|assumption|skip⟩
 rintro wB ⟨au,aB,aC,aF,iE⟩;repeat((first|(apply DW.ct;(focus (intro wd hI;have ae:=au.trans hI;have ai:=hI.af aB bk;have aj:=hI.af aC bk;have aq:=hI.af aF bk;go_wp2_with (fail);refine bd.mk _ rfl ⟨rfl,?_⟩;exact al)))|(refine DW.bt av ?_;intro wd hI;have ae:=au.trans (ah.ar hI);have ai:=hI.af aB;have aj:=hI.af aC;have aq:=hI.af aF;go_wp2_with (at_builtin;refine jh rfl _ _ 49 92 _ 6 72 sF rfl underlying49 qgU rfl ak ak qgE qgF g.w0.heap.size _ g.bJ [⟨Eh,xc,Ei,xn,xs,Ej,Ek,Em,cR⟩] rfl (by rw[Nh.o,Ng.o];exact(iE.o.kept hI)) _ 0 1 1 rfl (Rw.one (hI.heap (yY _ _))) (by have:=Ng.o;simp;omega) (qcg qgW.o ae.size) ?_;intro v6 w6 O6 cj jM);refine bd.bt _ rfl (by exact hD) (λbf=> ?_);have b5:=(ah.ar (S:=((Value.slice A vI c).ownBlock.toList)) hI).trans bf;have au:=au.trans b5;have aB:=b5.af aB bk;have aC:=b5.af aC bk;have aF:=b5.af aF bk;(first|have iE:=aa (iE.o.kept (ad.call hI (ad.tQ bf)))|have iE:=aa (iE.o.kept (ad.call hI (ad.tR bf)))|skip)));simp only[Act.put,List.setIfInBounds_toArray,List.set_cons_succ,List.set_cons_zero])
 refine DW.tail av ?_;intro wd hI;have ae:=au.trans (ah.ar hI);have ai:=hI.af aB;have aj:=hI.af aC;have aq:=hI.af aF;obtain⟨A6,gu,rfl⟩:=ca O6;have Wr:vH g.w0.heap.size wd (.slice A6 (g.bJ++[(⟨Eh,xc,Ei,xn,xs,Ej,Ek,Em,cR⟩:nK)]).length gu) (g.bJ++[(⟨Eh,xc,Ei,xn,xs,Ej,Ek,Em,cR⟩:nK)]).length ((g.bJ++[(⟨Eh,xc,Ei,xn,xs,Ej,Ek,Em,cR⟩:nK)]).flatMap sF):=ad.own O6 hI;have eo:=aa Wr;have jo:wd.heap[gb]? =some (.cells (M4 g V) 82 (0,0)):=ae.heap H1.o HN.o;have Dk:=aa jo;have f22:=aI jo 22;obtain⟨l2,jy⟩:∃ l2,l2=g.bJ++[(⟨Eh,xc,Ei,xn,xs,Ej,Ek,Em,cR⟩:nK)]:=⟨_,rfl⟩;have vu:=aa jy;rw[<- jy]at eo⊢;clear O6 Wr jo jy iE HO jM;go_wp2;go_end0
 have bG:ah (gb::V.hv.ownBlock.toList) w (wd.setCell ⟨gb,22,none⟩ (.slice A6 l2.length gu)):=(ae.mono (by rw[HH.o];intro y hy;exact zM _ hy)).trans ((ah.set gb 22 _).mono ao);have ri:=Ok wd gb 22 _ _ (.slice A6 l2.length gu) Dk.o
 have bA:vH g.w0.heap.size (wd.setCell ⟨gb,22,none⟩ (.slice A6 l2.length gu)) (.slice A6 l2.length gu) l2.length (l2.flatMap sF):=cB eo.o (ah.set gb 22 _) λb hb hy=>by
  simp only[At]at hy;subst hy;obtain⟨cur,hc⟩:=j5 eo.o hb;exact fB Dk.o hc ak rfl
 obtain⟨r1,r2⟩:=aT.qgV H1.o H2.o bG ri bA (λe he=>by
  rw[vu.o]at he;rcases Pv.1 he with he|he
  ·exact H2.o.a6.rl e he
  ·simp only[At]at he;subst he;exact⟨HX.o,pO.o⟩) hB (by rw[vu.o,zH,Ng.o];simp;omega)
 exact⟨rfl,vu.o▸r1,r2⟩
theorem rrow (v:Value) (l:List aD) (w:World) (hv:Rw w 60 3 aS v l) (hp:b9 l):
  Calls prog 68 #[v] w λe w'=>e= .returned (.bool true)/\ad w w':=by
 obtain⟨A,c,rfl,bl,bQ⟩:=hv.form;obtain⟨n,hn⟩:=eqQ l.length;rw[hn]at hv bl⊢;have HV:=aa hv;have HN:=aa hn;have HP:=aa (PC.of hp).1;have HK:=aa hp.ok;clear hv hn hp;go_in;go_wp2_with fail
 go_loopw [3] (λiv wr=>∃ U:Nat,U<=n/\iv= .int .i64 U/\ad w wr) (λiv _=>n-(intOf iv).toNat)
 case atStart=>exact⟨0,ab,rfl,al⟩
 case round=>
  obtain⟨U,hj,rfl,kr⟩:=hrel;by_cases an:U<n
  ·obtain⟨a,ha⟩:=exQ l U (by rw[HN.o];exact an);obtain⟨b,off,rfl,hb,hc⟩:=HV.o.af ha;obtain⟨hl,eu⟩:=HK.o a (zV ha);have HL:=aa hl;have fy:=aa eu;have HA:=aa ha;obtain⟨x0,x1,x2⟩:=a;simp only at hl eu;have cz:ag (∀ U u,(aS ⟨x0,x1,x2⟩)[U]? =some u->w.cell? ⟨b,off+_*3+U,none⟩=some u):=hc;obtain⟨c0,c1,c2⟩:=kQ λU u hu=>kr.af (hc U u hu);clear hc ha hl eu;go_wp2_with fail
   refine(rkcheck x0 HL.o _).mono ?_;rintro e w1 ⟨rfl,k1⟩;have K1:ad wr w1:=ad.call al k1;have d1:=K1.af c1;have d2:=K1.af c2;go_wp2_with fail
   refine(rcheck_any x1 x2 _).mono ?_;rintro e w2 ⟨rfl,k2⟩;rw[show fu x1 x2=true from fy.o];have K2:ad wr w2:=K1.call (ad.call al k2);have K3:ad w w2:=kr.call K2;have e0:=K2.af c0;clear k1 k2 K1 d1 d2 c0 c1 c2
   cases U with
   |zero=>
    have hgt:decide ((0:Int)<0)=false:=rfl;simp only[Nat.zero_mul,Nat.add_zero]at e0;go_wp2_with fail
    refine bz (λwB=>ad w wB/\ad w2 wB/\wB.cell? ⟨b,off,none⟩=some (.string x0)) λwB SS=> ?_;repeat refine DW.dt ?_
    refine DW.nl SS ?_;rintro wd hI ⟨ae,ay,ai⟩;go_wp2_with fail
    go_roundw
    case rel=>exact⟨1,ab,aA,ae⟩
    case measure=>exact dY
   |succ k=>
    obtain⟨p,fN⟩:=exQ l k (by rw[HN.o];omega);obtain⟨b2,gA,e2,_,hU⟩:=HV.o.af fN
    cases e2
    have qI:Op.bytesLess p.key.toList x0.toList=true:=HP.o.2 k _ _ (by rw[HN.o];exact an) fN HA.o;obtain⟨y0,y1,y2⟩:=p;simp only at qI;obtain⟨d0,d1,d2⟩:=kQ λU u hu=>K3.af (hU U u hu);have hgt:decide ((0:Int)<((k+1:Nat):Int))=true:=ao;have eN:((k+1:Nat):Int)-1=(k:Int):=ab;clear hU fN;go_wp2_with fail
    refine bz (λwB=>ad w wB/\ad w2 wB/\wB.cell? ⟨b,off+(k+1)*3,none⟩=some (.string x0)/\wB.cell? ⟨b,off+k*3,none⟩=some (.string y0)) λwB SS=> ?_;repeat refine DW.dt ?_
    refine DW.nl SS ?_;rintro wd hI ⟨ae,ay,ai,aj⟩;go_wp2_with fail
    go_roundw
    case rel=>exact⟨k+2,ab,aA,ae⟩
    case measure=>exact dY
  ·obtain rfl:U=n:=ab;go_wp2_with fail
   go_ret;exact⟨rfl,kr⟩
theorem Rw.two {α:Type} {k q:Nat} {f:α->List Value} {a b:α} (hk:(f a).length=k) (h:w.heap[q]? =some (.cells (f a++f b).toArray e (0,0))):Rw w e k f (.slice (some ⟨q,0,none⟩) 2 2) [a,b]:=
 ⟨_,2,rfl,CP _,ak,(λh=>by cases h),λp hp=>⟨q,0,_,by injection hp with hp;exact hp.symm,h,λi x hi U u hu=>by
  rcases i with _|_|i
  ·simp only[List.getElem?_cons_zero,Option.some.injEq]at hi;subst hi;rw[List.getElem?_toArray,show 0+0*k+U=U by omega,qlZ (bg hu)];exact hu
  ·simp only[List.getElem?_cons_succ,List.getElem?_cons_zero,Option.some.injEq]at hi;subst hi;rw[List.getElem?_toArray,show 0+(0+1)*k+U=k+U by omega,List.getElem?_append_right ab,hk,show k+U-k=U by omega];exact hu
  ·simp at hi⟩⟩
def evD (e:nK):aD:=⟨e.key,e.n,e.s⟩
theorem rbehind (v:Value) (L:List nK) (i:Nat) (e:nK) (w:World) (hv:Rw w 92 6 sF v L) (he:L[i]? =some e) (hs:Rw w 60 3 aS (.slice e.pa e.pn e.pc) e.ds) (hk:Let e.key) (hp:b9 e.ds):
  Calls prog 70 #[v,.int .i64 i] w λr w'=>∃ v' l',r= .returned v'/\Rw w' 60 3 aS v' l'/\(∀ x∈l',x∈e.ds∨x=evD e)/\ad w w':=by
 obtain⟨A,c,rfl,bl,bQ⟩:=hv.form;obtain⟨b,off,rfl,hb,hc⟩:=hv.af he;have hi:=(bg he);have HS:=aa hs;have HK:=aa hk;have HP:=aa hp;obtain⟨n,hn⟩:=eqQ L.length;rw[hn]at bl hi⊢;obtain⟨x0,x1,x2,x3,x4,x5,x6,x7,x8⟩:=e;obtain⟨c0,c1,c2,c3,c4,c5⟩:=o5 hc;have g0:decide ((i:Int)<0)=false:=ao;have g1:decide ((n:Int)<=(i:Int))=false:=by simp;omega
 clear hc hv hs he hk hp hn;go_in;go_wp2_with fail
 refine ey [none,none,none,none,none,none,none,none,none,none,none,none,none,none,none,none,some (λu w'=>∃ g,u= .slice (some ⟨g,0,none⟩) 1 1/\w'.heap[g]? =some (.cells (aS ⟨x2,x3,x4⟩).toArray 60 (0,0))),some (λu w'=>∃ g x g1,u= .slice (some ⟨g,0,none⟩) 2 2/\w'.heap[g]? =some (.cells #[.slice x5 x6 x7,x] 46 (0,0))/\x= .slice (some ⟨g1,0,none⟩) 1 1/\w'.heap[g1]? =some (.cells (aS ⟨x2,x3,x4⟩).toArray 60 (0,0)))] (λwB=>ad w wB/\wB.cell? ⟨b,off+i*6+2,none⟩=some (.string x2)/\wB.cell? ⟨b,off+i*6+3,none⟩=some (.int .i64 x3)/\wB.cell? ⟨b,off+i*6+4,none⟩=some (.int .i64 x4)/\wB.cell? ⟨b,off+i*6+5,none⟩=some (.slice x5 x6 x7)) λwB SS=> ?_;iterate 16 (apply SP.one av;(focus (intro wd hI hF;clear hF;obtain⟨ae,ai,aj,aq,az⟩:=SS.o wd hI;(try obtain⟨w0,⟨g1,rfl,o7⟩,k1⟩:=h1);go_wp2_with (fail);exact aP));refine SP.np ?_)
 refine SP.ew ?_ λv1=> ?_
 ·intro wd hI hF;obtain⟨ae,ai,aj,aq,az⟩:=SS.o wd hI;clear hF;(try obtain⟨w0,⟨g1,rfl,o7⟩,k1⟩:=h1);go_wp2_with (fail);exact bn rfl ⟨_,rfl,yY _ _⟩
 refine SP.ew ?_ λv2=> ?_
 ·intro wd hI hF;obtain⟨ae,ai,aj,aq,az⟩:=SS.o wd hI;have h1:=hF.1 av;clear hF;(try obtain⟨w0,⟨g1,rfl,o7⟩,k1⟩:=h1);go_wp2_with (fail);exact bn rfl ⟨_,_,g1,rfl,yY _ _,rfl,(k1.alloc _).heap o7⟩
 refine SP.ml SS ?_;rintro wd hI hF ⟨ae,ai,aj,aq,az⟩;have h2:=hF.1;clear hF SS;obtain⟨w7,⟨g,x,g1,rfl,hg,rfl,o7⟩,nr⟩:=h2;have HG:=aa (nr.heap hg);have HG1:=aa (nr.heap o7);clear hg o7 nr;go_wp2_with fail
 refine(rmerge _ [(.slice x5 x6 x7,x8),(.slice (some ⟨g1,0,none⟩) 1 1,[⟨x2,x3,x4⟩])] wd (Rw.two (f:=Gy) rfl HG.o) (λy hy=> ?_) (λd hd=> ?_) ?_).mono ?_
 ·simp only[KX,List.not_mem_nil,or_false]at hy;rcases hy with rfl|rfl
  ·exact HS.o.kept ae
  ·exact Rw.one HG1.o
 ·simp only[l7,List.flatMap_cons,List.flatMap_nil,List.append_nil,Pv,At]at hd;rcases hd with g|rfl
  ·exact(HP.o.ok d g).1
  ·exact HK.o
 ·have:=HP.o.len;simp only[l7,List.flatMap_cons,List.flatMap_nil,List.append_nil,zH,List.length_singleton]
  (try simp only at this)
  omega
 rintro r w5 ⟨v5,ti,rfl,h5,hm,k5⟩;have H5:=aa h5
 have HM:ag (∀ x∈ti,x∈x8∨x=evD ⟨x0,x1,x2,x3,x4,x5,x6,x7,x8⟩):=λx hx=>by
  have:=hm.mem x hx;simpa [l7,evD]using this
 have K5:ad w w5:=ae.call k5;clear h5 hm k5;go_wp2_with fail
 go_ret;first|exact⟨v5,ti,rfl,H5.o,HM.o,K5⟩|exact⟨_,rfl,ti,H5.o,HM.o,K5⟩
end Go.Proofs.YtehaoggjlciobaaGreat

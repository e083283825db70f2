/- Part 21 of 53. -/
import Derived.Test.YtehaoggjlciobaaGreatPat
import Derived.Maps.Views
import Derived.Maps.Own
import Derived.Maps.OwnSet
import Derived.Maps.RangeWalk
set_option linter.all false
set_option maxRecDepth 20000
set_option maxHeartbeats 16000000
namespace Go.Proofs.YtehaoggjlciobaaGreat
open Go.RowKit Go.Maps
def kD (x:Int×Int):List Value:=[.int .i64 x.1,.int .i64 x.2]
theorem Aj:∀ a,(kD a).length=2:=λ_=>rfl
theorem LZ:∀ (l:List (Int×Int)),∀ u∈l.flatMap kD,u.oneCell'=true:=λl u hu=>by
 obtain⟨a,_,ha⟩:=List.mem_flatMap.1 hu;simp only[kD,KX,List.not_mem_nil,or_false]at ha;rcases ha with rfl|rfl <;>rfl
theorem Uuh {w:World} {b p:Nat} {x y:Value} (h:∀ U u,[x,y][U]? =some u->w.cell? ⟨b,p+U,none⟩=some u):
  w.cell? ⟨b,p,none⟩=some x/\w.cell? ⟨b,p+1,none⟩=some y:=⟨h 0 _ rfl,h 1 _ rfl⟩
theorem qdP (v:Value) (l:List (Int×Int)) (n s:Int) (w:World) (hv:Rw w 45 2 kD v l) (hl:l.length<=1000000000000):
  Calls Tryz.prog 320 #[v,.agg #[.int .i64 n,.int .i64 s]] w λe w'=>∃ r:Int,e= .returned (.int .i64 r)/\ad w w':=by
 obtain⟨A,c,rfl,bl,bQ⟩:=hv.form;obtain⟨k,hn⟩:∃ k,l.length=k:=⟨_,rfl⟩;rw[hn]at hv bl hl⊢;have HV:=aa hv;have HN:=aa hn;clear hv hn;go_wp2;go_loopw [5,8] (λ_ iv wr=>∃ U:Nat,U<=k/\iv= .int .i64 U/\ad w wr/\wr.cell? ⟨w.heap.size,0,none⟩=some (.int .i64 n)/\wr.cell? ⟨w.heap.size,1,none⟩=some (.int .i64 s)) (λ_ iv _=>k-(intOf iv).toNat)
 case atStart=>exact⟨0,ab,rfl,al,by go_simp,by go_simp⟩
 case round=>
  obtain⟨U,hj,rfl,kr,e0,e1⟩:=hrel;by_cases an:U<k
  ·obtain⟨a,ha⟩:∃ a,l[U]? =some a:=⟨_,jc (by rw[HN.o];exact an)⟩;obtain⟨b,off,rfl,hb,hc⟩:=HV.o.af ha;obtain⟨x0,x1⟩:=a;obtain⟨c0,c1⟩:=Uuh λU u hu=>kr.af (hc U u hu);clear hc ha;by_cases q0:n=x0
   ·subst q0;by_cases q1:s=x1
    ·subst q1;go_wp2;refine bz (λwB=>ad w wB/\ad wr wB/\wB.cell? ⟨w.heap.size,0,none⟩=some (.int .i64 n)/\wB.cell? ⟨w.heap.size,1,none⟩=some (.int .i64 s)/\wB.cell? ⟨b,off+U*2,none⟩=some (.int .i64 n)/\wB.cell? ⟨b,off+U*2+1,none⟩=some (.int .i64 s)) λwB SS=> ?_;repeat refine DW.dt ?_
     refine DW.nl SS ?_;rintro wd hI ⟨ae,ay,ai,aj,aq,az⟩;go_wp2;go_ret;exact⟨_,rfl,ae⟩
    ·skip
     go_wp2;refine bz (λwB=>ad w wB/\ad wr wB/\wB.cell? ⟨w.heap.size,0,none⟩=some (.int .i64 n)/\wB.cell? ⟨w.heap.size,1,none⟩=some (.int .i64 s)/\wB.cell? ⟨b,off+U*2,none⟩=some (.int .i64 n)/\wB.cell? ⟨b,off+U*2+1,none⟩=some (.int .i64 x1)) λwB SS=> ?_;repeat refine DW.dt ?_
     refine DW.nl SS ?_;rintro wd hI ⟨ae,ay,ai,aj,aq,az⟩;go_wp2;go_roundw
     case rel=>first|exact⟨U+1,ab,aA,ae,ai,aj⟩|((repeat apply R7);exact⟨⟨U+1,ab,aA,ae,ai,aj⟩,rfl⟩)
     case measure=>simp[intOf];omega
   ·skip
    go_wp2;refine bz (λwB=>ad w wB/\ad wr wB/\wB.cell? ⟨w.heap.size,0,none⟩=some (.int .i64 n)/\wB.cell? ⟨w.heap.size,1,none⟩=some (.int .i64 s)/\wB.cell? ⟨b,off+U*2,none⟩=some (.int .i64 x0)/\wB.cell? ⟨b,off+U*2+1,none⟩=some (.int .i64 x1)) λwB SS=> ?_;repeat refine DW.dt ?_
    refine DW.nl SS ?_;rintro wd hI ⟨ae,ay,ai,aj,aq,az⟩;go_wp2;go_roundw
    case rel=>first|exact⟨U+1,ab,aA,ae,ai,aj⟩|((repeat apply R7);exact⟨⟨U+1,ab,aA,ae,ai,aj⟩,rfl⟩)
    case measure=>simp[intOf];omega
  ·obtain rfl:U=k:=ab;go_wp2;go_ret;exact⟨_,rfl,kr⟩
theorem qdQ (v:Value) (l:List (Int×Int)) (n s:Int) (w:World) (hv:Rw w 45 2 kD v l) (hl:l.length<=1000000000000):
  Calls Tryz.prog 305 #[v,.agg #[.int .i64 n,.int .i64 s]] w λe w'=>∃ b:Bool,e= .returned (.bool b)/\ad w w':=by
 have HV:=aa hv;clear hv;go_in;go_wp2_with fail
 refine(qdP v l n s _ (HV.o.kept al) hl).mono ?_;rintro e w1 ⟨r,rfl,k1⟩;have K1:ad w w1:=ad.call al k1;go_wp2;go_ret;exact⟨decide (0<=r),rfl,K1⟩
def me (w:World) (x:ax):Prop:=r' w x x.ds/\x.ds.length<=1000000000000
theorem me.kept {w w2:World} {x:ax} (h:me w x) (hk:ad w w2):me w2 x:=⟨h.1.kept hk,h.2⟩
theorem b7.qdR {w:World} {B:Int} {x:ax} (h:b7 w B x):me w x:=⟨h.jB,by have:=h.cg.len;omega⟩
theorem me.zero (w:World):me w zeroV:=⟨Rw.nil w,by simp[zeroV]⟩
theorem Ty (x y:ax) (b:Bool) (P:Nat) (w:World) (hx:me w x) (hy:me w y) (hc:w.heap[P]? =some (.cells (a8 y).toArray 48 (0,0))):
  Calls Tryz.prog 303 #[aM x,.bool b,.pointer (some ⟨P,0,none⟩)] w λe w'=>∃ b2,e= .returned (.bool b2)/\(b=true->x=y->b2=true)/\ad w w':=by
 have HX:=aa hx;have HY:=aa hy;have hP:P<w.heap.size:=(aQ hc);obtain⟨c0,c1,c2,c3,c4,c5,_,_⟩:=VB.cells (show VB w P _ _ _ _ _ _ from hc);clear hx hy hc;obtain⟨x0,x1,x2,x3,x4,x5,x6,x7,x8⟩:=x;obtain⟨y0,y1,y2,y3,y4,y5,y6,y7,y8⟩:=y;simp only at c0 c1 c2 c3 c4 c5;unfold aM
 cases b
 ·go_wp2;go_ret;exact⟨_,rfl,λh=>(by cases h),al⟩
 ·go_in;go_wp2_with fail
  obtain⟨h1,h2⟩:=HX.o;obtain⟨h3,h4⟩:=HY.o;refine(qdO ⟨x0,x1,x2,x3,x4,x5,x6,x7,x8⟩ ⟨y0,y1,y2,y3,y4,y5,y6,y7,y8⟩ x8 y8 _ (h1.kept al) (h3.kept al) h2).mono ?_;rintro e w1 ⟨b,rfl,hb,k1⟩;have HB:=aa hb;have K1:ad w w1:=ad.call al k1;clear h1 h3 k1 hb h2 h4;go_wp2;go_ret;exact⟨_,rfl,λ_ h=>HB.o h (by injection h),K1⟩
theorem Told.last {l:List ax} {x y:ax} {b:Bool} (h:Told l ((l.length:Int)-1) x b) (hy:l.getLast?=some y):b=true/\x=y:=by
 rw[List.getLast?_eq_getElem?]at hy;have hl:=(bg hy);rcases h with ⟨rfl,U,h1,h2⟩|⟨_,_,h2⟩
 ·rw[show l.length-1=U by omega,h2]at hy;injection hy with hy;exact⟨rfl,hy⟩
 ·rw[h2 (l.length-1) ab]at hy;cases hy
theorem qdS (e6:Value) (l:List ax) (n s:Int) (pv:Value) (ps:List (Int×Int)) (y:ax) (w:World) (hv:Rw w 48 6 a8 e6 l) (hs:l.Pairwise lf) (hl:l.length<=1000000000000) (hp:Rw w 45 2 kD pv ps) (cO:ps.length<=1000000000000) (b':∀ x∈l,me w x) (hy:me w y):
  Calls Tryz.prog 277 #[e6,.agg #[.int .i64 n,.int .i64 s],pv,aM y] w λe w'=>∃ b,e= .returned (.bool b)/\(l.getLast?=some y->b=true)/\ad w w':=by
 obtain⟨A,c,rfl,bl,bQ⟩:=hv.form;have iS:∀ fn first cap w,(Instr.makeFunc fn first cap).run Tryz.prog w= .ok (.func fn first cap) w:=λ_ _ _ _=>rfl
 have HV:=aa hv;have HP:=aa hp;have bX:=aa b';have HY:=aa hy;have HS:=aa hs;clear hv hp b' hy hs
 have gV:∀ (x:ax) (b:Bool),GW l x b->me w x:=λx b h=>by
  rcases h with ⟨_,h⟩|⟨_,rfl⟩
  ·exact bX.o x h
  ·exact me.zero w
 have Tz:=aa gV;clear gV;go_in;unfold aM;go_wp2_with fail
 refine(qdQ pv ps y.n y.s _ (HP.o.kept al) cO).mono ?_;rintro e w1 ⟨b1,rfl,k1⟩;have e0:w1.cell? ⟨w.heap.size,0,none⟩=some (.int .i64 n):=k1.af (by go_simp);have e1:w1.cell? ⟨w.heap.size,1,none⟩=some (.int .i64 s):=k1.af (by go_simp);have bD:w1.heap[w.heap.size+1]? =some (.cells (a8 y).toArray 48 (0,0)):=k1.heap (by have h:=l5 (w.alloc (.cells #[.int .i64 n,.int .i64 s] 45)) (.cells (a8 y).toArray 48);rwa [World.size_alloc]at h);obtain⟨c0,c1,c2,c3,c4,c5,_,_⟩:=VB.cells (show VB w1 (w.heap.size+1) _ _ _ _ _ _ from bD);have tw:=aa bD;have K1:ad w w1:=ad.call al k1;clear k1 bD c0 c1 c2 c5
 cases b1
 rotate_left
 ·go_wp2;go_ret;exact⟨_,rfl,λ_=>rfl,K1⟩
 go_wp2_with fail
 refine(qw y.n y.s n s _).mono ?_;rintro e w2 ⟨rfl,k2⟩;have e0:=k2.af e0;have e1:=k2.af e1;have iZ:=aa (k2.heap tw.o);have K2:=K1.call k2;obtain⟨lb,qI⟩:∃ lb,c8 y.n y.s n s=lb:=⟨_,rfl⟩;rw[qI];clear k2 K1 tw c3 c4 qI
 cases lb
 ·go_wp2;go_ret;exact⟨_,rfl,λ_=>rfl,K2⟩
 go_wp2_with fail
 refine(To _ l _ (HV.o.kept K2)).mono ?_;rintro e w3 ⟨x,ck,rfl,ht,k3⟩;have HX:=aa (Tz.o x ck ht.one);have L0:ag (l.getLast?=some y->ck=true/\x=y):=λh=>ht.last h;have e0:=k3.af e0;have e1:=k3.af e1;have px:=aa (k3.heap iZ.o);have K3:=K2.call k3;clear k3 K2 iZ ht;unfold aM;go_wp2_with fail
 refine(Ty x y ck (w.heap.size+1) _ (HX.o.kept K3) (HY.o.kept K3) px.o).mono ?_;rintro e w4 ⟨iV,rfl,ga,k4⟩;have CE:ag (l.getLast?=some y->iV=true):=λh=>ga (L0.o h).1 (L0.o h).2;clear ga L0;have e0:=k4.af e0;have e1:=k4.af e1;have GY:=aa (k4.heap px.o);have K4:=K3.call k4;clear k4 K3 px HX
 cases iV
 rotate_left
 ·go_wp2;go_ret;exact⟨_,rfl,λ_=>rfl,K4⟩
 go_wp2_with fail
 refine(qdL _ l n s _ (HV.o.kept K4) HS.o hl).mono ?_;rintro e w5 ⟨x5,dB,rfl,ht,k5⟩;have HX:=aa (Tz.o x5 dB ht);have nt:=aa (k5.heap GY.o);have K5:=K4.call k5;clear k5 K4 GY ht e0 e1;unfold aM;go_wp2_with fail
 refine(Ty x5 y dB (w.heap.size+1) _ (HX.o.kept K5) (HY.o.kept K5) nt.o).mono ?_;rintro e w6 ⟨Uug,rfl,_,k6⟩;have K6:=K5.call k6;go_wp2;go_ret;exact⟨_,rfl,λh=>(by have:=CE.o h;cases this),K6⟩
theorem qdT (e6:Value) (l:List ax) (n s:Int) (pv:Value) (ps:List (Int×Int)) (y:ax) (P Q R:Nat) (w:World) (hv:Rw w 48 6 a8 e6 l) (hs:l.Pairwise lf) (hl:l.length<=1000000000000) (hp:Rw w 45 2 kD pv ps) (cO:ps.length<=1000000000000) (b':∀ x∈l,me w x) (hy:me w y)
  (ff:w.cell? ⟨P,0,none⟩=some e6) (cQ0:w.cell? ⟨Q,0,none⟩=some (.int .i64 n)) (cQ1:w.cell? ⟨Q,1,none⟩=some (.int .i64 s)) (qdU:w.cell? ⟨R,0,none⟩=some pv):
  Calls Tryz.prog 276 #[aM y,.pointer (some ⟨P,0,none⟩),.pointer (some ⟨Q,0,none⟩),.pointer (some ⟨R,0,none⟩)] w λe w'=>∃ b,e= .returned (.bool b)/\(l.getLast?=some y->b=false)/\ad w w':=by
 obtain⟨A,c,rfl,_,_⟩:=hv.form;obtain⟨A2,c2,rfl,_,_⟩:=hp.form;have HV:=aa hv;have HP:=aa hp;have bX:=aa b';have HY:=aa hy;have HS:=aa hs;have hP:P<w.heap.size:=Aa w _ ff;have o3:Q<w.heap.size:=Aa w _ cQ0;have hR:R<w.heap.size:=Aa w _ qdU;clear hv hp b' hy hs;unfold aM;go_in;go_wp2_with fail
 refine(qdS _ l n s _ ps y _ (HV.o.kept al) HS.o hl (HP.o.kept al) cO (λx hx=>(bX.o x hx).kept al) (HY.o.kept al)).mono ?_;rintro e w1 ⟨b,rfl,hb,k1⟩;have HB:=aa hb;clear hb;have K1:ad w w1:=ad.call al k1;go_wp2;go_ret;exact⟨_,rfl,λh=>by rw[HB.o h];rfl,K1⟩
theorem qdV {l m:List ax} (h:cK (λy b=>l.getLast?=some y->b=false) l m):m.getLast?=l.getLast?:=by
 have gen:∀ (l m:List ax) (z:Option ax),cK (λy b=>z=some y->b=false) l m->l.getLast?=z->m.getLast?=z:=by
  intro l m z h
  induction h with
  |nil=>exact id
  |keep h1 h2 ih=>
   rename_i a l m
   intro hz
   cases l with
   |nil=>cases h2;exact hz
   |cons b t=>
    have:=ih (by rw[List.getLast?_cons_cons]at hz;exact hz);rw[List.getLast?_cons,this];rw[List.getLast?_cons_cons,List.getLast?_cons]at hz;rw[<- hz];rfl
  |drop h1 h2 ih=>
   rename_i a l m
   intro hz
   cases l with
   |nil=>
    have:=h1 (by rw[<- hz];rfl)
    cases this
   |cons b t=>exact ih (by rw[List.getLast?_cons_cons]at hz;exact hz)
 exact gen l m _ h rfl
theorem qdW (e6:Value) (l:List ax) (n s:Int) (pv:Value) (ps:List (Int×Int)) (w:World) (hv:Rw w 48 6 a8 e6 l) (hs:l.Pairwise lf) (hl:l.length<=1000000000000) (hp:Rw w 45 2 kD pv ps) (cO:ps.length<=1000000000000) (b':∀ x∈l,me w x):
  Calls Tryz.prog 245 #[e6,.agg #[.int .i64 n,.int .i64 s],pv] w λe w'=>∃ v' l',e= .returned v'/\Rw w' 48 6 a8 v' l'/\l'.Sublist l/\l'.getLast?=l.getLast?/\ad w w':=by
 obtain⟨A,c,rfl,_,_⟩:=hv.form;obtain⟨A2,c2,rfl,_,_⟩:=hp.form;have iS:∀ fn first cap w,(Instr.makeFunc fn first cap).run Tryz.prog w= .ok (.func fn first cap) w:=λ_ _ _ _=>rfl
 have HV:=aa hv;have HP:=aa hp;have bX:=aa b';have HS:=aa hs;clear hv hp b' hs;go_in;go_wp2_with fail
 refine(FP _ l _ (HV.o.kept al) hl).mono ?_;rintro e w1 ⟨v1,rfl,ho,k1⟩;have K1:ad w w1:=ad.call al k1;have d0:w1.cell? ⟨w.heap.size,0,none⟩=some (.slice A l.length c):=k1.af (by go_simp);have d1:w1.cell? ⟨w.heap.size+1,0,none⟩=some (.int .i64 n):=k1.af (by go_simp);have d2:w1.cell? ⟨w.heap.size+1,1,none⟩=some (.int .i64 s):=k1.af (by go_simp);have d3:w1.cell? ⟨w.heap.size+1+1,0,none⟩=some (.slice A2 ps.length c2):=k1.af (by go_simp);have an:w.heap.size+1+1<w1.heap.size:=Aa w1 _ d3;have HO:=aa ho;have HB:ag (∀ g,v1.ownBlock=some g->w.heap.size+3<=g):=λg hg=>by have:=(ho.lt g hg).1;simpa using this
 have hn:∀ (k:Nat),k<3->w.heap.size+k∉v1.ownBlock.toList:=λk hk hx=>by have:w.heap.size+3<=w.heap.size+k:=HB.o _ (Option.mem_toList.1 hx);omega
 have HT:ag (fI v1.ownBlock.toList w1 276 #[.pointer (some ⟨w.heap.size,0,none⟩),.pointer (some ⟨w.heap.size+1,0,none⟩),.pointer (some ⟨w.heap.size+1+1,0,none⟩)] aM l (λy b=>l.getLast?=some y->b=false)):=⟨λargs w=>enters_of Tryz.func276 av rfl args w,λW1 h1 y hy=>by
  have KW:ad w W1:=ad.but K1 h1 λx hx=>by have:w.heap.size+3<=x:=HB.o x (Option.mem_toList.1 hx);omega
  exact qdT _ l n s _ ps y _ _ _ W1 (HV.o.kept KW) HS.o hl (HP.o.kept KW) cO (λx hx=>(bX.o x hx).kept KW) ((bX.o y hy).kept KW) (h1.af d0 (hn 0 ab)) (h1.af d1 (hn 1 ab)) (h1.af d2 (hn 1 ab)) (h1.af d3 (hn 2 ab))⟩
 clear ho k1 hn d0 d1 d2 d3;go_wp2_with fail
 refine(QO _ v1 l _ _ _ w1 (by simp;omega) HO.o HT.o).mono ?_;rintro e w2 ⟨v2,l2,rfl,h1,h2,h3⟩;have H1:=aa h1;have H2:=aa h2;clear h1 h2;go_wp2;go_ret;exact⟨v2,l2,rfl,Rw.bp H1.o gp ak,cK.sub H2.o,qdV H2.o,ad.but K1 h3 λx hx=>by have:=HB.o x (Option.mem_toList.1 hx);omega⟩
theorem dc.sub {w w2:World} {B:Int} {k:ByteArray} {v v2:Value} {l l2:List ax} (h:dc w B k v l) (hk:ad w w2) (hs:l2.Sublist l) (hr:Rw w2 48 6 a8 v2 l2):dc w2 B k v2 l2:=
 ⟨hr,λx hx=>⟨(h.iG x (hs.subset hx)).1.kept hk,(h.iG x (hs.subset hx)).2⟩,h.sd.sublist hs⟩
theorem Ak:Keyed Tryz.prog 9:=string_keyed Tryz.underlying9
def RV (v:Value):Option (DataW Value×List MemPlace):=some (.held v,[])
def ig (k:ByteArray):Lit:= .string k.data.toList
theorem GZ {k:ByteArray} (h:Let k):keyOf Tryz.prog 9 (.string k)=some (ig k):=by
 obtain⟨c,_,_,rfl⟩:=h;exact Go.WideMaps.keyOf_string_mk Tryz.underlying9 (by show 1<=maxLen;decide)
theorem TA {a b:ByteArray} (h:ig a=ig b):a=b:=by
 unfold ig at h;injection h with h;exact C7 h
abbrev Ch:=ByteArray->Option Value
def MapAt (w:World) (b:Nat) (C:Ch):Prop:=∃ D,w.ownsMap Tryz.prog 9 RV b (Maps.size D) D/\Maps.size D<=8/\
 (∀ k,Let k->∀ z,D.atKey (ig k) z=match C k with|some v=> .held v|none=>z)/\
 (∀ kl,Maps.has D kl=true->∃ k v,Let k/\C k=some v/\kl=ig k)
theorem TB {w:World} {b n:Nat} {D:DataW Value} (h:w.ownsMap Tryz.prog 9 RV b n D):w.ownsMap Tryz.prog 9 RV b (Maps.size D) D:=by
 obtain⟨es,clock,hb,F,hs,ja⟩:=h;refine⟨es,clock,hb,F,?_,ja⟩;rw[ja,size_eq,length_sorted,List.length_map];simp
theorem L3:∀ (n:Nat) (l:List Nat),l.Nodup->(∀ x∈l,x<n)->l.length<=n
 |0,l,_,h=>by
  cases l with
  |nil=>simp
  |cons a t=>exact absurd (h a ao) ab
 |n+1,l,hd,h=>by
  have h1:=L3 n (l.filter (· ≠n)) (hd.filter _) (λx hx=>by
   have:=h x (List.mem_filter.1 hx).1;have h2:=(List.mem_filter.1 hx).2;simp at h2;omega)
  have h3:l.length<=(l.filter (· ≠n)).length+1:=by
   have:=hd;clear h h1
   induction l with
   |nil=>simp
   |cons a t ih=>
    obtain⟨h4,h5⟩:=List.nodup_cons.1 this;by_cases e:a=n
    ·subst e;have:t.filter (· ≠a)=t:=List.filter_eq_self.2 λx hx=>by simp;rintro rfl;exact h4 hx
     rw[List.filter_cons_of_neg ao,this];simp
    ·have:=ih (by exact h5) h5;rw[List.filter_cons_of_pos (by simpa using e)];simp only[List.length_cons];omega
  omega
theorem TC {w:World} {b n:Nat} {D:DataW Value} {C:Ch} (h:w.ownsMap Tryz.prog 9 RV b n D) (h2:∀ kl,Maps.has D kl=true->∃ k v,Let k/\C k=some v/\kl=ig k):Maps.size D<=8:=by
 obtain⟨es,rfl,hp⟩:=h.tidy Ak;rw[size_eq]
 have hk:∀ p∈es,∃ c:Nat,97<=c/\c<105/\p.1=ig (ch c):=λp hp=>by
  obtain⟨k,v,⟨c,h3,h4,rfl⟩,_,e⟩:=h2 p.1 (by
   rw[has_eq,List.any_eq_true]
   exact⟨p,hp,by
    have mf:=(h.keysOf);obtain⟨aH,he,bb⟩:=mf;injection he with he;subst he;obtain⟨x,hx⟩:=bb p hp;obtain⟨s,_,hs,_⟩:=Maps.keyOf_str Tryz.underlying9 hx;rw[hs];simp[Lit.sameKey]⟩)
  exact⟨c,h3,h4,e⟩
 have code:∃ f:Lit->Nat,∀ c:Nat,97<=c->c<105->f (ig (ch c))=c-97:=⟨λl=>match l with| .string (x::_)=>x.toNat-97|_=>0,λc h1 h2=>by
  show(UInt8.ofNat c).toNat-97=_
  simp;omega⟩
 obtain⟨f,hf⟩:=code
 have h3:(es.map λp=>f p.1).Nodup:=List.pairwise_map.2 (hp.imp_of_mem λ{p q} iH py aN e=>aN (by
  obtain⟨c,h4,h5,h6⟩:=hk p iH;obtain⟨d,h7,h8,h9⟩:=hk q py;rw[h6,h9,hf c h4 h5,hf d h7 h8]at e;rw[h6,h9,show c=d by omega]))
 have:=L3 8 _ h3 λx hx=>by
  obtain⟨p,iH,rfl⟩:=List.mem_map.1 hx;obtain⟨c,h4,h5,h6⟩:=hk p iH;rw[h6,hf c h4 h5];omega
 simpa using this
theorem MapAt.lt {w:World} {b:Nat} {C:Ch} (h:MapAt w b C):b<w.heap.size:=by
 obtain⟨D,h1,_⟩:=h;exact h1.lt
theorem MapAt.but {w w2:World} {b:Nat} {C:Ch} {X:List Nat} (h:MapAt w b C) (hb:ah X w w2) (hn:b∉X):MapAt w2 b C:=by
 obtain⟨D,⟨es,clock,h1,h2⟩,h3⟩:=h;exact⟨D,⟨es,clock,hb.heap h1 hn,h2⟩,h3⟩
theorem MapAt.keep {w w2:World} {b:Nat} {C:Ch} (h:MapAt w b C) (hk:ad w w2):MapAt w2 b C:=h.but (.ar (S:=[]) hk) ao
theorem MapAt.new (w:World):MapAt (w.alloc (.map #[] 0)) w.heap.size (λ_=>none):=
 ⟨.map [],World.ownsMap_made w _ _ _,by simp[size_eq],λk _ z=>rfl,λk h=>by simp[Maps.has]at h⟩
theorem TD (w:World):(zeroValue 33).run Tryz.prog w= .ok (.slice none 0 0) w:=av
def jC (o:Option Value):Value:=o.getD (.slice none 0 0)
theorem MapAt.look {w:World} {b:Nat} {C:Ch} (h:MapAt w b C) {k:ByteArray} (hk:Let k):
  (Instr.lookup 146 (.map (some b)) (.string k) false).run Tryz.prog w= .ok (jC (C k)) w:=by
 obtain⟨D,h1,_,h2,_⟩:=h;obtain⟨v,ps,cr,hv⟩:=h1.lookup Ak Tryz.underlying146 (TD w) (show RV _=some (_,_)from rfl) (GZ hk);rw[cr];rw[h2 k hk]at hv;unfold RV at hv;unfold jC
 cases hc:C k with
 |none=>rw[hc]at hv;simp at hv;rw[hv.1];rfl
 |some s=>rw[hc]at hv;simp at hv;rw[hv.1];rfl
def xN (C:Ch) (k:ByteArray) (v:Value):Ch:=λx=>if x=k then some v else C x
def Al (C:Ch) (k:ByteArray):Ch:=λx=>if x=k then none else C x
theorem MapAt.put {w:World} {b:Nat} {C:Ch} (h:MapAt w b C) {k:ByteArray} (hk:Let k) (v:Value):
  ∃ w',(Instr.mapUpdate 146 (.map (some b)) (.string k) v).run Tryz.prog w= .ok () w'/\MapAt w' b (xN C k v)/\ah [b] w w':=by
 obtain⟨D,h1,h8,h2,h3⟩:=h;obtain⟨w',cr,ho,hg⟩:=h1.update Ak Tryz.underlying146 (by unfold maxLen;omega) (GZ hk) (show RV v=some (_,_)from rfl);have hm:IsMap D:=h1.isMap
 have h4:∀ kl,Maps.has (D.put (ig k) (.held v)) kl=true->∃ k2 v2,Let k2/\xN C k v k2=some v2/\kl=ig k2:=λkl gC=>by
  by_cases e:kl=ig k
  ·exact⟨k,v,hk,by simp[xN],e⟩
  ·rw[has_put_other e]at gC;obtain⟨k2,v2,h5,h6,rfl⟩:=h3 kl gC;exact⟨k2,v2,h5,by unfold xN;rw[if_neg];exact h6;rintro rfl;exact e rfl,rfl⟩
 refine⟨w',cr,⟨_,TB ho,TC ho h4,λx hx z=> ?_,h4⟩,(ah.refl [b] w).grown hg (λg hg=>by injection hg with hg;exact .inl (by simp[hg]))⟩;unfold xN;by_cases e:x=k
 ·subst e;rw[if_pos rfl,atKey_put_same hm (Ak.key (GZ hx))]
 ·rw[if_neg e,atKey_put_other (λg=>e (TA g)),h2 x hx]
theorem MapAt.drop {w:World} {b:Nat} {C:Ch} (h:MapAt w b C) {k:ByteArray} (hk:Let k) (ty:TypeId):
  ∃ w',(Builtin.delete_ #[146,9] ty #[.map (some b),.string k]).run Tryz.prog w= .ok (.tuple #[]) w'/\MapAt w' b (Al C k)/\ah [b] w w':=by
 obtain⟨D,h1,h8,h2,h3⟩:=h;obtain⟨w',cr,ho,ht⟩:=h1.drop Ak Tryz.underlying146 (GZ hk) ty
 have h4:∀ kl,Maps.has (D.del (ig k)) kl=true->∃ k2 v2,Let k2/\Al C k k2=some v2/\kl=ig k2:=λkl gC=>by
  by_cases e:kl=ig k
  ·rw[e,has_del_same]at gC;cases gC
  ·rw[has_del_other e]at gC;obtain⟨k2,v2,h5,h6,rfl⟩:=h3 kl gC;exact⟨k2,v2,h5,by unfold Al;rw[if_neg];exact h6;rintro rfl;exact e rfl,rfl⟩
 refine⟨w',cr,⟨_,TB ho,TC ho h4,λx hx z=> ?_,h4⟩,?_⟩
 ·unfold Al;by_cases e:x=k
  ·subst e;rw[if_pos rfl,atKey_del_same]
  ·rw[if_neg e,atKey_del_other (λg=>e (TA g)),h2 x hx]
 ·obtain⟨es,clock,vj,qdX,hb,rfl⟩:=ht;exact⟨rfl,rfl,rfl,by simp[Go.ChangeMaps.setBlock],λi _ hi=>Go.ChangeMaps.heap_setBlock_other hb _ (by simpa using hi)⟩
def bq (e:TypeId):Prop:=e=48∨e=60∨e=63∨e=3∨e=9∨e=166∨e=83
instance:DecidablePred bq:=λe=>by unfold bq;infer_instance
theorem b7.fr {w w2:World} {B:Int} {v:ax} (h:b7 w B v) (hk:Fr bq w w2):b7 w2 B v:=⟨h.key,h.n,h.jB.fr hk (.inr (.inl rfl)),h.cg,h.gR,h.wc⟩
theorem dc.fr {w w2:World} {B:Int} {k:ByteArray} {v:Value} {l:List ax} (h:dc w B k v l) (hk:Fr bq w w2):dc w2 B k v l:=
 ⟨h.row.fr hk (.inl rfl),λx hx=>⟨(h.iG x hx).1.fr hk,(h.iG x hx).2⟩,h.sd⟩
theorem dc.nil (w:World) (B:Int) (k:ByteArray):dc w B k (.slice none 0 0) []:=⟨Rw.nil w,λx hx=>(by cases hx),List.Pairwise.nil⟩
structure cP (w:World) (B:Int) (hb mb:Nat) (own:List Rg) (L:ByteArray->List ax):Prop where
 bB:∃ v,w.heap[hb]? =some (.cells #[v,.map (some mb)] 148 (0,0))/\Rw w 63 2 bZ v own
 bx:own.length<=1000
 fz:∃ C,MapAt w mb C/\∀ k,Let k->dc w B k (jC (C k)) (L k)/\(C k≠none->b4 own k/\L k≠[])
theorem cP.apart {w:World} {B:Int} {hb mb:Nat} {own:List Rg} {L:ByteArray->List ax} (h:cP w B hb mb own L):hb≠mb:=by
 rintro rfl;obtain⟨v,h1,_⟩:=h.bB;obtain⟨C,⟨D,⟨es,clock,h2,_⟩,_⟩,_⟩:=h.fz;rw[h1]at h2;cases h2
theorem cP.but {w w2:World} {B:Int} {hb mb:Nat} {own:List Rg} {L:ByteArray->List ax} {X:List Nat} (h:cP w B hb mb own L) (hk:ah X w w2) (hf:Fr bq w w2) (h1:hb∉X) (h2:mb∉X):cP w2 B hb mb own L:=by
 obtain⟨v,h3,h4⟩:=h.bB;obtain⟨C,h5,h6⟩:=h.fz;exact⟨⟨v,hk.heap h3 h1,h4.fr hf (.inr (.inr (.inl rfl)))⟩,h.bx,C,h5.but hk h2,λk bb=>⟨(h6 k bb).1.fr hf,(h6 k bb).2⟩⟩
theorem cP.kept {w w2:World} {B:Int} {hb mb:Nat} {own:List Rg} {L:ByteArray->List ax} (h:cP w B hb mb own L) (hk:ad w w2):cP w2 B hb mb own L:=
 h.but (X:=[]) (.ar hk) (.ar hk) ao ao
theorem cP.mono {w:World} {B B2:Int} {hb mb:Nat} {own:List Rg} {L:ByteArray->List ax} (h:cP w B hb mb own L) (hB:B<=B2):cP w B2 hb mb own L:=by
 obtain⟨C,h5,h6⟩:=h.fz;exact⟨h.bB,h.bx,C,h5,λk bb=>⟨(h6 k bb).1.mono hB,(h6 k bb).2⟩⟩
theorem qdY (B:Int) (v:Value) (rs:List Rg) (w:World) (hv:Rw w 63 2 bZ v rs) (hb:rs.length<=1000):
  Calls Tryz.prog 53 #[v] w λe w'=>∃ hb mb,e= .returned (.pointer (some ⟨hb,0,none⟩))/\cP w' B hb mb rs (λ_=>[])/\w.heap.size<=hb/\w.heap.size<=mb/\ad w w':=by
 have z':=λW=>run_makeMap (P:=Tryz.prog) 146 W;have HV:=aa hv;clear hv;go_in;go_wp2_with fail
 refine(FQ v rs _ HV.o ab).mono ?_;rintro e w1 ⟨v1,rfl,ho,k1⟩;have HR:=aa (Rw.bp ho nZ ak);clear ho;obtain⟨A1,c1,rfl,_,_⟩:=HR.o.form;go_wp2;go_ret;have hm:=(MapAt.new w1);have hz:=k1.size;have K2:ad w1 ((w1.alloc (.map #[] 0)).alloc (.cells #[.slice A1 rs.length c1,.map (some w1.heap.size)] 148)):=((ad.refl w1).alloc _).alloc _;refine⟨w1.heap.size+1,w1.heap.size,rfl,⟨⟨_,?_,HR.o.kept K2⟩,hb,_,hm.keep ((ad.refl _).alloc _),λk _=>⟨dc.nil _ _ _,λh=>absurd rfl h⟩⟩,ab,hz,k1.call K2⟩;have h:=l5 (w1.alloc (.map #[] 0)) (.cells #[.slice A1 rs.length c1,.map (some w1.heap.size)] 148);rwa [World.size_alloc]at h
def eH (v:Value) (i:Nat):Value:=match v with| .tuple a=>a[i]?.getD undef|_=>undef
theorem tz (a b:Value):eH (.tuple #[a,b]) 0=a:=rfl
theorem tA (a b:Value):eH (.tuple #[a,b]) 1=b:=rfl
theorem L4 (a b c:Value):eH (.tuple #[a,b,c]) 0=a:=rfl
theorem L5 (a b c:Value):eH (.tuple #[a,b,c]) 1=b:=rfl
theorem L6 (a b c:Value):eH (.tuple #[a,b,c]) 2=c:=rfl
theorem xO {w:World} {hb mb:Nat} {v:Value} (h:w.heap[hb]? =some (.cells #[v,.map (some mb)] 148 (0,0))):w.cell? ⟨hb,0,none⟩=some v/\w.cell? ⟨hb,1,none⟩=some (.map (some mb))/\(∀ o,w.frozen? ⟨hb,o,none⟩=false)/\hb<w.heap.size:=
 ⟨aE h 0,aE h 1,aI h,(aQ h)⟩
theorem qdZ (B:Int) (hb mb:Nat) (own:List Rg) (L:ByteArray->List ax) (w:World) (h:cP w B hb mb own L):
  Calls Tryz.prog 141 #[.pointer (some ⟨hb,0,none⟩)] w λe w'=>∃ v',e= .returned v'/\Rw w' 63 2 bZ v' own/\ad w w':=by
 obtain⟨v,h1,h2⟩:=h.bB;obtain⟨c0,c1,_,an⟩:=xO h1;have cX:=h.bx;have HR:=aa h2;clear h h1 h2;go_in;go_wp2_with fail
 refine(FQ v own _ HR.o ab).mono ?_;rintro e w1 ⟨v1,rfl,ho,k1⟩;have HO:=aa ho;clear ho;go_wp2;go_ret;exact⟨v1,rfl,Rw.bp HO.o nZ ak,k1⟩
theorem L7 (B:Int) (hb mb:Nat) (own:List Rg) (L:ByteArray->List ax) (k:ByteArray) (w:World) (h:cP w B hb mb own L) (hk:Let k) (hB:0<=B) (h9:B<=100000000000):
  Calls Tryz.prog 194 #[.pointer (some ⟨hb,0,none⟩),.string k] w λe w'=>∃ v',e= .returned v'/\dc w' B k v' (L k)/\ad w w':=by
 obtain⟨v,h1,h2⟩:=h.bB;obtain⟨c0,c1,_,an⟩:=xO h1;obtain⟨C,hm,hc⟩:=h.fz;have cr:=hm.look hk;obtain⟨e6,gF⟩:∃ e6,jC (C k)=e6:=⟨_,rfl⟩;have eu:=(hc k hk).1;have hlen:=eu.len hB h9;rw[gF]at cr eu;have HC:=aa eu;clear h h1 h2 hc eu hm gF;go_in;go_wp2_with fail
 refine(FP e6 (L k) _ HC.o.row hlen).mono ?_;rintro e w1 ⟨v1,rfl,ho,k1⟩;have HO:=aa ho;clear ho;go_wp2;go_ret;exact⟨v1,rfl,HC.o.sub k1 (List.Sublist.refl _) (Rw.bp HO.o gp ak),k1⟩
theorem TF (B:Int) (hb mb:Nat) (own:List Rg) (L:ByteArray->List ax) (k:ByteArray) (w:World) (h:cP w B hb mb own L) (hk:Let k) (hB:0<=B) (h9:B<=100000000000):
  Calls Tryz.prog 131 #[.pointer (some ⟨hb,0,none⟩),.string k] w λe w'=>∃ x b,e= .returned (.tuple #[aM x,.bool b])/\Told (L k) (((L k).length:Int)-1) x b/\ad w w':=by
 have HH:=aa h;clear h;go_in;go_wp2_with fail
 refine(L7 B hb mb own L k _ (HH.o.kept al) hk hB h9).mono ?_;rintro e w1 ⟨v1,rfl,hc,k1⟩;have HC:=aa hc;have V1:=aa (VB.but (ns w) (ah.ar (S:=[]) k1) ao);have K1:ad w w1:=ad.call al k1;clear k1 hc;go_wp2_with fail
 refine(To v1 (L k) _ HC.o.row).mono ?_;rintro e w2 ⟨x,b,rfl,ht,k2⟩;have HT:=aa ht;have VV:=V1.o.but (ah.ar (S:=[]) k2) ao;have K2:=K1.call k2;obtain⟨z0,z1,z2,z3,z4,z5,zf,_⟩:=VV.cells;have f0:=zf 0;have f1:=zf 1;have f2:=zf 2;have f3:=zf 3;have f4:=zf 4;have f5:=zf 5;have qP:=aa VV;obtain⟨x0,x1,x2,x3,x4,x5,x6,x7,x8⟩:=x;unfold aM;clear k2 zf ht VV V1;go_wp2_with fail
 obtain⟨z0,z1,z2,z3,z4,z5,_,_⟩:=(qP.o.all (.string x0) (.string x1) (.bool x2) (.int .i64 x3) (.int .i64 x4) (.slice x5 x6 x7)).cells;refine KV (v:= .tuple #[aM ⟨x0,x1,x2,x3,x4,x5,x6,x7,x8⟩,.bool b]) (by simp[results,Tryz.results131,go_sem,aM,z0,z1,z2,z3,z4,z5]) rfl ?_;exact⟨_,b,rfl,HT.o,ad.but K2 (ah.all w.heap.size _ _ _ _ _ _) ao⟩
theorem qd0 (B:Int) (hb mb:Nat) (own:List Rg) (L:ByteArray->List ax) (k:ByteArray) (n s:Int) (w:World) (h:cP w B hb mb own L) (hk:Let k) (hB:0<=B) (h9:B<=100000000000):
  Calls Tryz.prog 274 #[.pointer (some ⟨hb,0,none⟩),.string k,.agg #[.int .i64 n,.int .i64 s]] w λe w'=>∃ x b,e= .returned (.tuple #[aM x,.bool b])/\vi (L k) n s x b/\ad w w':=by
 have HH:=aa h;clear h;obtain⟨W,hW⟩:∃ W,W=(w.alloc (.cells #[.int .i64 n,.int .i64 s] 45)).alloc (.cells #[.string ⟨#[]⟩,.string ⟨#[]⟩,.bool false,.int .i64 0,.int .i64 0,.slice none 0 0] 48):=⟨_,rfl⟩;have V0:=(ns (w.alloc (.cells #[.int .i64 n,.int .i64 s] 45)));rw[World.size_alloc,<- hW]at V0;have G0:=aa V0;have e0:W.cell? ⟨w.heap.size,0,none⟩=some (.int .i64 n):=by rw[hW];go_simp
 have e1:W.cell? ⟨w.heap.size,1,none⟩=some (.int .i64 s):=by rw[hW];go_simp
 have KW:ad w W:=by rw[hW];exact al
 clear V0;go_wp2;rw[<- hW];clear hW;refine ku [0,1,3,2,4,5,6,7,8] [none,none,none,some (λu w'=>dc w' B k u (L k)),some (λu w'=>∃ x b,u= .tuple #[aM x,.bool b]/\vi (L k) n s x b),none,none] (λwB=>ad w wB/\ad W wB/\wB.cell? ⟨w.heap.size,0,none⟩=some (.int .i64 n)/\wB.cell? ⟨w.heap.size,1,none⟩=some (.int .i64 s)) λwB SS=> ?_;iterate 3 refine SP.on ?_
 refine SP.ew ?_ λv1=> ?_
 ·intro wd hI hF;obtain⟨ae,ay,ai,aj⟩:=SS.o wd hI;clear hF;go_wp2_with ((go_at_call 194;refine(L7 B hb mb own L k _ (HH.o.kept ae) hk hB h9).mono ?_;rintro e w4 ⟨v4,rfl,h4,k4⟩));exact bn rfl h4
 refine SP.ew ?_ λv2=> ?_
 ·intro wd hI hF;obtain⟨ae,ay,ai,aj⟩:=SS.o wd hI;have h1:=hF.1 av;clear hF;go_wp2_with ((go_at_call 301;obtain⟨wc,hc,kc⟩:=h1;refine(cat _ (L k) n s _ (hc.kept kc).row hc.sd).mono ?_;rintro e w2 ⟨x,b,rfl,ht,k2⟩));exact bn rfl ⟨x,b,rfl,ht⟩
 refine SP.oe (v:=eH v2 0) ?_ ?_
 ·intro wd hI hF;obtain⟨ae,ay,ai,aj⟩:=SS.o wd hI;have h2:=hF.1;clear hF;(obtain⟨w9,⟨x,b,rfl,_⟩,_⟩:=h2);go_wp2;exact aP
 refine SP.oe (v:=eH v2 1) ?_ ?_
 ·intro wd hI hF;obtain⟨ae,ay,ai,aj⟩:=SS.o wd hI;have h2:=hF.1;clear hF;(obtain⟨w9,⟨x,b,rfl,_⟩,_⟩:=h2);go_wp2;exact aP
 refine SP.ml SS ?_;rintro wd hI hF ⟨ae,ay,ai,aj⟩;have h2:=hF.1;clear hF SS;obtain⟨w9,⟨x,b,rfl,ht⟩,_⟩:=h2;simp only[tz,tA];have HT:=aa ht;have VV:=G0.o.but (ah.ar (S:=[]) ay) ao;have K2:=ae;obtain⟨z0,z1,z2,z3,z4,z5,zf,_⟩:=VV.cells;have f0:=zf 0;have f1:=zf 1;have f2:=zf 2;have f3:=zf 3;have f4:=zf 4;have f5:=zf 5;have qP:=aa VV;obtain⟨x0,x1,x2,x3,x4,x5,x6,x7,x8⟩:=x;unfold aM;clear zf ht VV G0;go_wp2;obtain⟨z0,z1,z2,z3,z4,z5,_,_⟩:=(qP.o.all (.string x0) (.string x1) (.bool x2) (.int .i64 x3) (.int .i64 x4) (.slice x5 x6 x7)).cells;refine KV (v:= .tuple #[aM ⟨x0,x1,x2,x3,x4,x5,x6,x7,x8⟩,.bool b]) (by simp[results,Tryz.results274,go_sem,aM,z0,z1,z2,z3,z4,z5]) rfl ?_;exact⟨_,b,rfl,HT.o,ad.but K2 (ah.all _ _ _ _ _ _ _) ao⟩
end Go.Proofs.YtehaoggjlciobaaGreat

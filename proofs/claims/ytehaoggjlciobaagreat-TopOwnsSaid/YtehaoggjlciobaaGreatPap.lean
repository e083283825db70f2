/- Part 16 of 53. -/
import Derived.Test.YtehaoggjlciobaaGreatPao
import Derived.Test.YtehaoggjlciobaaGreatSh
import Derived.Shelf.Strings.Builder1
import Derived.Laws.EntriesVeiled
set_option linter.all false
set_option maxRecDepth 20000
set_option maxHeartbeats 16000000
namespace Go.Proofs.YtehaoggjlciobaaGreat
open Go.RowKit
def qH (l:List aD) (U:Nat):Prop:=(∀ i d,i<U->l[i]? =some d->fu d.n d.s=true)/\∀ i d e,i+1<U->l[i]? =some d->l[i+1]? =some e->Op.bytesLess d.key.toList e.key.toList=true
def PC (l:List aD):Prop:=qH l l.length/\l.length<=24
theorem qH.zero (l:List aD):qH l 0:=⟨λi d h=>ab,λi d e h=>ab⟩
theorem qH.one {l:List aD} {d:aD} (h:l[0]? =some d) (hc:fu d.n d.s=true):qH l 1:=⟨λi Lg hi hd=>by
 obtain rfl:i=0:=ab;rw[h]at hd;injection hd with hd;rw[<- hd];exact hc,λi d e h=>ab⟩
theorem qH.step {l:List aD} {U:Nat} {d e:aD} (h:qH l (U+1)) (hd:l[U]? =some d) (he:l[U+1]? =some e) (hc:fu e.n e.s=true) (hl:Op.bytesLess d.key.toList e.key.toList=true):qH l (U+2):=by
 refine⟨λi x hi hx=> ?_,λi x y hi hx hy=> ?_⟩
 ·rcases R6 i (U+1)with g|g
  ·exact h.1 i x g hx
  ·obtain rfl:i=U+1:=ab;rw[he]at hx;injection hx with hx;rw[<- hx];exact hc
 ·rcases R6 (i+1) (U+1)with g|g
  ·exact h.2 i x y g hx hy
  ·obtain rfl:i=U:=ab;rw[hd]at hx;injection hx with hx;rw[he]at hy;injection hy with hy;rw[<- hx,<- hy];exact hl
theorem PC.of {l:List aD} (h:b9 l):PC l:=
 ⟨⟨λi d _ hd=>(h.ok d (zV hd)).2,λi d e _ hd he=>by
  obtain⟨h1,rfl⟩:=pi.1 hd;obtain⟨h2,rfl⟩:=pi.1 he;rw[(h.ok _ (List.getElem_mem h2)).1.less];exact ql3 (List.pairwise_iff_getElem.1 h.pb i (i+1) h1 h2 ab)⟩,by have:=h.len;omega⟩
theorem Lh (v:Value) (l:List aD) (w:World) (hl:l.length<=1000000000000) (hv:Rw w 60 3 aS v l) (hk:∀ d∈l,Let d.key):
  Calls Tryz.prog 207 #[v] w λe w'=>∃ b:Bool,e= .returned (.bool b)/\(b=true↔PC l)/\ad w w':=by
 obtain⟨A,c,rfl,bl,bQ⟩:=hv.form;obtain⟨n,hn⟩:∃ n,l.length=n:=⟨_,rfl⟩;rw[hn]at hv bl hl⊢;have HV:=aa hv;have HN:=aa hn;have HK:=aa hk;clear hv hn hk;go_wp2;go_loopw [7] (λiv wr=>∃ U:Nat,U<=n/\iv= .int .i64 U/\ad w wr/\ag (qH l U)) (λiv _=>n-(intOf iv).toNat)
 case atStart=>exact⟨0,ab,rfl,al,qH.zero l⟩
 case round=>
  obtain⟨U,hj,rfl,kr,hp⟩:=hrel;by_cases an:U<n
  ·obtain⟨a,ha⟩:∃ a,l[U]? =some a:=⟨_,jc (by rw[HN.o];exact an)⟩;obtain⟨b,off,rfl,hb,hc⟩:=HV.o.af ha;have HA:=aa ha;have HL:=aa (HK.o a (zV ha))
   have bW:ag (fu a.n a.s=false->¬PC l):=λh hp=>by
    have:=hp.1.1 U a (by rw[HN.o];exact an) HA.o;rw[h]at this;cases this
   obtain⟨x0,x1,x2⟩:=a;obtain⟨c0,c1,c2⟩:=kQ λU u hu=>kr.af (hc U u hu);have oq:b<wr.heap.size:=Aa wr _ c0;clear hc ha;obtain⟨dD,eu⟩:∃ dD,fu x1 x2=dD:=⟨_,rfl⟩;have fy:=aa eu;clear eu
   cases U with
   |zero=>
    have hgt:decide ((0:Int)<0)=false:=rfl;simp only[Nat.zero_mul,Nat.add_zero]at c0 c1 c2
    cases dD
    all_goals
     go_wp2;refine bz (λwB=>ad w wB/\ad wr wB/\wB.cell? ⟨wr.heap.size,0,none⟩=some (.string x0)/\wB.cell? ⟨wr.heap.size,1,none⟩=some (.int .i64 x1)/\wB.cell? ⟨wr.heap.size,2,none⟩=some (.int .i64 x2)) λwB SS=> ?_;obtain⟨au,br,aB,aC,aF⟩:=SS.o _ (ad.refl _);repeat(first|(apply DW.ct;(focus (intro wd hI;obtain⟨ae,ay,ai,aj,aq⟩:=SS.o wd hI;go_wp2_with (go_at_call 216;refine(xi ⟨x0,x1,x2⟩ HL.o _).mono ?_;rintro e w5 ⟨he,k5⟩;rw[fy.o]at he;obtain rfl:=he);exact aP));refine DW.np ?_)|(refine DW.bt av ?_;intro wd hI;obtain⟨ae,ay,ai,aj,aq⟩:=SS.o wd hI;go_wp2_with (go_at_call 216;refine(xi ⟨x0,x1,x2⟩ HL.o _).mono ?_;rintro e w5 ⟨he,k5⟩;rw[fy.o]at he;obtain rfl:=he);refine cu hI SS (λbf SS=> ?_) rfl;obtain⟨au,br,aB,aC,aF⟩:=SS.o _ (ad.refl _)))
     refine DW.nl SS ?_;rintro wd hI ⟨ae,ay,ai,aj,aq⟩;go_wp2
    ·go_ret;exact⟨false,rfl,by simp;exact bW.o fy.o,ae⟩
    ·have l8:=aa (qH.one HA.o fy.o);go_roundw
     case rel=>first|exact⟨1,ab,aA,ae,l8⟩|((repeat apply R7);exact⟨⟨1,ab,aA,ae,l8⟩,rfl⟩)
     case measure=>simp[intOf];omega
   |succ k=>
    obtain⟨p,fN⟩:∃ p,l[k]? =some p:=⟨_,jc (by rw[HN.o];omega)⟩;obtain⟨b2,gA,e2,_,cz⟩:=HV.o.af fN
    cases e2
    obtain⟨y0,y1,y2⟩:=p;obtain⟨d0,d1,d2⟩:=kQ λU u hu=>kr.af (cz U u hu);have jd:=aa fN;obtain⟨lb,qI⟩:∃ lb,Op.bytesLess y0.toList x0.toList=lb:=⟨_,rfl⟩;have pj:=aa qI
    have zO:ag (lb=false->¬PC l):=λh hp=>by
     have:=hp.1.2 k _ _ (by rw[HN.o];exact an) jd.o HA.o;rw[pj.o,h]at this;cases this
    have hgt:decide ((0:Int)<((k+1:Nat):Int))=true:=ao;have eN:((k+1:Nat):Int)-1=(k:Int):=ab;clear cz fN qI
    cases dD
    ·go_wp2;refine bz (λwB=>ad w wB/\ad wr wB/\wB.cell? ⟨wr.heap.size,0,none⟩=some (.string x0)/\wB.cell? ⟨wr.heap.size,1,none⟩=some (.int .i64 x1)/\wB.cell? ⟨wr.heap.size,2,none⟩=some (.int .i64 x2)/\wB.cell? ⟨b,off+k*3,none⟩=some (.string y0)) λwB SS=> ?_;obtain⟨au,br,aB,aC,aF,aX⟩:=SS.o _ (ad.refl _);repeat(first|(apply DW.ct;(focus (intro wd hI;obtain⟨ae,ay,ai,aj,aq,az⟩:=SS.o wd hI;go_wp2_with (go_at_call 216;refine(xi ⟨x0,x1,x2⟩ HL.o _).mono ?_;rintro e w5 ⟨he,k5⟩;rw[fy.o]at he;obtain rfl:=he);exact aP));refine DW.np ?_)|(refine DW.bt av ?_;intro wd hI;obtain⟨ae,ay,ai,aj,aq,az⟩:=SS.o wd hI;go_wp2_with (go_at_call 216;refine(xi ⟨x0,x1,x2⟩ HL.o _).mono ?_;rintro e w5 ⟨he,k5⟩;rw[fy.o]at he;obtain rfl:=he);refine cu hI SS (λbf SS=> ?_) rfl;obtain⟨au,br,aB,aC,aF,aX⟩:=SS.o _ (ad.refl _)))
     refine DW.nl SS ?_;rintro wd hI ⟨ae,ay,ai,aj,aq,az⟩;go_wp2;go_ret;exact⟨false,rfl,by simp;exact bW.o fy.o,ae⟩
    ·have qI:=pj.o
     cases lb
     all_goals
      go_wp2;refine bz (λwB=>ad w wB/\ad wr wB/\wB.cell? ⟨wr.heap.size,0,none⟩=some (.string x0)/\wB.cell? ⟨wr.heap.size,1,none⟩=some (.int .i64 x1)/\wB.cell? ⟨wr.heap.size,2,none⟩=some (.int .i64 x2)/\wB.cell? ⟨b,off+k*3,none⟩=some (.string y0)) λwB SS=> ?_;obtain⟨au,br,aB,aC,aF,aX⟩:=SS.o _ (ad.refl _);repeat(first|(apply DW.ct;(focus (intro wd hI;obtain⟨ae,ay,ai,aj,aq,az⟩:=SS.o wd hI;go_wp2_with (go_at_call 216;refine(xi ⟨x0,x1,x2⟩ HL.o _).mono ?_;rintro e w5 ⟨he,k5⟩;rw[fy.o]at he;obtain rfl:=he);exact aP));refine DW.np ?_)|(refine DW.bt av ?_;intro wd hI;obtain⟨ae,ay,ai,aj,aq,az⟩:=SS.o wd hI;go_wp2_with (go_at_call 216;refine(xi ⟨x0,x1,x2⟩ HL.o _).mono ?_;rintro e w5 ⟨he,k5⟩;rw[fy.o]at he;obtain rfl:=he);refine cu hI SS (λbf SS=> ?_) rfl;obtain⟨au,br,aB,aC,aF,aX⟩:=SS.o _ (ad.refl _)))
      refine DW.nl SS ?_;rintro wd hI ⟨ae,ay,ai,aj,aq,az⟩;go_wp2
     ·go_ret;exact⟨false,rfl,by simp;exact zO.o (by first|rfl|trivial),ae⟩
     ·have l8:=aa (hp.o.step jd.o HA.o fy.o pj.o);go_roundw
      case rel=>first|exact⟨k+2,ab,aA,ae,l8⟩|((repeat apply R7);exact⟨⟨k+2,ab,aA,ae,l8⟩,rfl⟩)
      case measure=>simp[intOf];omega
  ·obtain rfl:U=n:=ab;go_wp2;go_ret;exact⟨decide ((U:Int)<=24),by first|rfl|simp,by rw[decide_eq_true_iff,PC,HN.o];exact⟨λh=>⟨hp.o,ab⟩,λh=>by have:=h.2;omega⟩,kr⟩
def enc (n:Nat):List UInt8:=if n<128 then [UInt8.ofNat n]else UInt8.ofNat (128+n%128)::enc (n/128)
termination_by n
decreasing_by omega
theorem CU {n:Nat} (h:n<128):enc n=[UInt8.ofNat n]:=by rw[enc,if_pos h]
theorem CV {n:Nat} (h:128<=n):enc n=UInt8.ofNat (128+n%128)::enc (n/128):=by rw[enc,if_neg ab]
theorem Sv (n:Nat):enc n≠[]:=by rw[enc];split <;>simp
theorem CW (n:Nat):0<(enc n).length:=by
 have:=Sv n
 cases h:enc n with
 |nil=>exact absurd h this
 |cons a l=>simp
theorem CX (n:Nat) (h:n<256):(UInt8.ofNat n).toNat=n:=by simp[UInt8.toNat_ofNat'];omega
theorem Ad (m:Nat) (c:UInt8) (r:List UInt8) (hc:c.toNat<128):enc m <+: c::r↔m=c.toNat:=by
 constructor
 ·intro h;rcases R6 m 128 with hm|hm
  ·rw[CU hm,List.cons_prefix_cons]at h;rw[<- h.1,CX m ab]
  ·rw[CV hm,List.cons_prefix_cons]at h;have:=h.1;have h2:c.toNat=128+m%128:=by rw[<- this,CX _ ab]
   omega
 ·rintro rfl;rw[CU hc];simp
theorem CY (m:Nat) (c:UInt8) (r:List UInt8) (hc:128<=c.toNat):enc m <+: c::r↔∃ k,m=(c.toNat-128)+128*k/\0<k/\enc k <+: r:=by
 have cz:c.toNat<256:=c.toNat_lt;constructor
 ·intro h;rcases R6 m 128 with hm|hm
  ·rw[CU hm,List.cons_prefix_cons]at h;have h2:c.toNat=m:=by rw[<- h.1,CX m ab]
   omega
  ·rw[CV hm,List.cons_prefix_cons]at h;have h2:c.toNat=128+m%128:=by rw[<- h.1,CX _ ab]
   exact⟨m/128,ab,ab,h.2⟩
 ·rintro⟨k,rfl,hk,h⟩;rw[CV ab,List.cons_prefix_cons];refine⟨?_,?_⟩
  ·apply UInt8.toNat_inj.1
   rw[CX _ ab];omega
  ·rw[show(c.toNat-128+128*k)/128=k by omega];exact h
theorem Li (m:Nat):¬enc m <+: []:=by
 intro h;exact Sv m (List.prefix_nil.1 h)
def je (L:List UInt8) (U n:Nat):Prop:=n<128 ^ U/\∀ m,enc m <+: L↔∃ k,m=n+128 ^ U*k/\(0<U->0<k)/\enc k <+: L.drop U
theorem je.zero (L:List UInt8):je L 0 0:=⟨ao,λm=>ao⟩
theorem drop_cons {L:List UInt8} {U:Nat} {c:UInt8} (h:L[U]? =some c):L.drop U=c::L.drop (U+1):=by
 obtain⟨hl,he⟩:=pi.1 h;rw[List.drop_eq_getElem_cons hl,he]
theorem je.next {L:List UInt8} {U n:Nat} (h:je L U n) {c:UInt8} (hc:L[U]? =some c) (h1:128<=c.toNat):je L (U+1) (n+(c.toNat-128)*128 ^ U):=by
 have cz:c.toNat<256:=c.toNat_lt;refine⟨?_,λm=> ?_⟩
 ·have h0:=h.1;have:(c.toNat-128)*128 ^ U<=127*128 ^ U:=Nat.mul_le_mul_right _ ab;rw[Nat.pow_succ];omega
 ·rw[h.2,drop_cons hc];constructor
  ·rintro⟨k,rfl,_,hk⟩;obtain⟨k2,rfl,h3,h4⟩:=(CY k c _ h1).1 hk;refine⟨k2,?_,λ_=>h3,h4⟩;rw[Nat.pow_succ,Nat.mul_add,Nat.mul_comm (128 ^ U) (c.toNat-128),Nat.mul_assoc];omega
  ·rintro⟨k2,rfl,h3,h4⟩;refine⟨(c.toNat-128)+128*k2,?_,λ_=>by have:=h3 ab;omega,(CY _ c _ h1).2 ⟨k2,rfl,h3 ab,h4⟩⟩;rw[Nat.pow_succ,Nat.mul_add,Nat.mul_comm (128 ^ U) (c.toNat-128),Nat.mul_assoc];omega
theorem je.done {L:List UInt8} {U n:Nat} (h:je L U n) {c:UInt8} (hc:L[U]? =some c) (h1:c.toNat<128) (h2:0<U->0<c.toNat) (m:Nat):enc m <+: L↔m=n+c.toNat*128 ^ U:=by
 rw[h.2,drop_cons hc];constructor
 ·rintro⟨k,rfl,_,hk⟩;rw[(Ad k c _ h1).1 hk,Nat.mul_comm]
 ·rintro rfl;exact⟨c.toNat,by rw[Nat.mul_comm],h2,(Ad _ c _ h1).2 rfl⟩
theorem je.bad {L:List UInt8} {U n:Nat} (h:je L U n) {c:UInt8} (hc:L[U]? =some c) (h1:c.toNat=0) (h2:0<U) (m:Nat):¬enc m <+: L:=by
 rw[h.2,drop_cons hc];rintro⟨k,rfl,h3,hk⟩;have:=(Ad k c _ ab).1 hk;have:=h3 h2;omega
theorem je.Lj {L:List UInt8} {U n:Nat} (h:je L U n) (h2:L.length<=U) (m:Nat):¬enc m <+: L:=by
 rw[h.2,List.drop_eq_nil_of_le h2];rintro⟨k,_,_,hk⟩;exact Li k hk
theorem je.big {L:List UInt8} {U n:Nat} (h:je L U n) {c:UInt8} (hc:L[U]? =some c) (B:Nat) (h1:B<=(c.toNat%128)*128 ^ U) (m:Nat) (hm:m<B):¬enc m <+: L:=by
 have cz:c.toNat<256:=c.toNat_lt;rw[h.2,drop_cons hc];rintro⟨k,rfl,h3,hk⟩
 have bb:c.toNat%128<=k:=by
  rcases R6 c.toNat 128 with an|rQ
  ·have:=(Ad k c _ an).1 hk;omega
  ·obtain⟨k2,rfl,_,_⟩:=(CY k c _ rQ).1 hk;omega
 have:=Nat.mul_le_mul_left (128 ^ U) bb;rw[Nat.mul_comm (128 ^ U) (c.toNat%128)]at this;omega
theorem je.qcT {L:List UInt8} {n:Nat} (h:je L 10 n) (m:Nat) (hm:m<18446744073709551616):¬enc m <+: L:=by
 rw[h.2];rintro⟨k,rfl,h3,hk⟩;have:=h3 ab;have:128 ^ 10*1<=128 ^ 10*k:=Nat.mul_le_mul_left _ ab;omega
theorem Ae (m n:Nat) (L:List UInt8) (h1:enc m <+: L) (h2:enc n <+: L):m=n:=by
 induction m using Nat.strongRecOn generalizing n L with
 |_ m ih=>
  cases L with
  |nil=>exact absurd h1 (Li m)
  |cons c r=>
   rcases R6 c.toNat 128 with hc|hc
   ·rw[(Ad m c r hc).1 h1,(Ad n c r hc).1 h2]
   ·obtain⟨k,hk,pq,k1⟩:=(CY m c r hc).1 h1;obtain⟨l,hl,Uuf,l1⟩:=(CY n c r hc).1 h2;have:=ih k ab l r k1 l1;omega
theorem Lk (n:Nat):∀ U,(enc n).length<=U+1↔n<128 ^ (U+1):=by
 induction n using Nat.strongRecOn with
 |_ n ih=>
  intro U;rcases R6 n 128 with h|h
  ·rw[CU h];have:128 ^ 1<=128 ^ (U+1):=Nat.pow_le_pow_right ab ab;simp only[List.length_cons,List.length_nil];omega
  ·rw[CV h];simp only[List.length_cons]
   cases U with
   |zero=>have:=CW (n/128);omega
   |succ U=>
    rw[Nat.add_le_add_iff_right,ih (n/128) ab U,Nat.pow_succ 128 (U+1),Nat.div_lt_iff_lt_mul ab]
theorem je.len {L:List UInt8} {U n:Nat} (h:je L U n) (c m:Nat) (h1:c<128) (h2:0<U->0<c) (hm:n+c*128 ^ U=m):(enc m).length=U+1:=by
 have h0:=h.1;have h3:c*128 ^ U<=127*128 ^ U:=Nat.mul_le_mul_right _ ab;have h4:(enc m).length<=U+1:=(Lk m U).2 (by rw[Nat.pow_succ];omega);rcases U with _|U
 ·have:=CW m;omega
 ·have h5:¬(enc m).length<=U+1:=by
   rw[Lk];have:1*128 ^ (U+1)<=c*128 ^ (U+1):=Nat.mul_le_mul_right _ (h2 ab);omega
  omega
theorem qcU (n U:Nat) (h:n<128 ^ (U+1)):(enc n).length<=U+1:=(Lk n U).2 h
theorem kz (n:Nat) (h:n<18446744073709551616):(enc n).length<=10:=qcU n 9 ab
theorem infoByte:(Tryz.prog.info? 5).map (λi=>(i.zero,i.size,i.bytes))=some (some (.int .u8 0),1,1):=av
theorem Sw:((Tryz.prog.info? 315).map (·.size))=some 2:=av
theorem liesBuilder:liesAt Tryz.prog Tryz.prog.depth 315 (2/Tryz.prog.cellsOf 315) 0 315 1=true:=av
theorem qcV (b:Nat) (w:World) (h0:w.cell? ⟨b,0,none⟩=some (.pointer (some ⟨b,0,none⟩))):
  Calls Tryz.prog 283 #[.pointer (some ⟨b,0,none⟩)] w λe w'=>e= .returned (.tuple #[])/\w=w':=by
 obtain⟨U,hj,_⟩:=Option.map_eq_some_iff.1 Sw;have aN:=λ(w:World)=>Lib.run_neq_ptr_same (P:=Tryz.prog) w ⟨b,0,none⟩ Tryz.underlying313 hj;go_wp2;go_end0
 exact⟨rfl,rfl⟩
theorem qcW (b:Nat) (w:World) (h0:w.cell? ⟨b,0,none⟩=some (.pointer none)) (wJ:w.shape? b=some (315,2)) (uV:w.frozen? ⟨b,0,none⟩=false):
  Calls Tryz.prog 283 #[.pointer (some ⟨b,0,none⟩)] w λe w'=>e= .returned (.tuple #[])/\w.setCell ⟨b,0,none⟩ (.pointer (some ⟨b,0,none⟩))=w':=by
 obtain⟨U,hj,hjs⟩:=Option.map_eq_some_iff.1 Sw;go_wp2;rw[Lib.run_to_unsafe w ⟨b,0,none⟩ Tryz.underlying313 Tryz.underlying358 hj (by rw[hjs];decide) wJ (Nat.zero_lt_succ 1)];simp only[Result.andThen];rw[Oper.upon_value];go_wp2;rw[run_callFunc_extern Tryz.func310 av av av (e:=Extern.AbiNoEscape.same) av];rw[Lib.run_noEscape];simp only[Result.andThen];rw[Oper.upon_value];go_wp2;rw[Lib.run_from_unsafe w ⟨b,0,none⟩ Tryz.underlying358 Tryz.underlying313 hj wJ liesBuilder];simp only[Result.andThen];rw[Oper.upon_value];go_wp2;go_end0
 exact⟨rfl,rfl⟩
theorem Sx (B b:Nat) (bs:List Value) (w:World) (h:Lib.IsBuilder 315 5 B b bs w):
  Calls Tryz.prog 283 #[.pointer (some ⟨b,0,none⟩)] w λe w'=>e= .returned (.tuple #[])/\(Lib.BuilderAt 315 5 B b (.pointer (some ⟨b,0,none⟩)) bs w'/\Below B w w'):=by
 rcases h with h|h
 ·refine(qcW b w h.cell0 h.shape h.frozen0).mono ?_;rintro e w' ⟨rfl,rfl⟩;exact⟨rfl,h.used _,(Below.refl B w).setCell (p:=⟨b,0,none⟩) h.1 _⟩
 ·refine(qcV b w h.cell0).mono ?_;rintro e w' ⟨rfl,rfl⟩;exact⟨rfl,h,Below.refl B _⟩
theorem Sy (B b:Nat) (bs:List Value) (c:Int) (w:World) (h:Lib.IsBuilder 315 5 B b bs w) (hlen:bs.length+1<=140737488355328) (Sz:B<=w.heap.size):
  Calls Tryz.prog 312 #[.pointer (some ⟨b,0,none⟩),.int .u8 c] w λe w'=>e= .returned .nilIface/\(Lib.IsBuilder 315 5 B b (bs++[.int .u8 c]) w'/\Below B w w'):=by
 obtain⟨i0,hi,a7,aY,aW⟩:=ql0 infoByte;go_in;go_wp2_with fail
 refine(Sx B b bs _ h).mono ?_;rintro e w1 ⟨rfl,h1,bD⟩;obtain⟨hB,v,dP,bA,aN⟩:=h1;have c0:w1.cell? ⟨b,0,none⟩=some (.pointer (some ⟨b,0,none⟩)):=by rw[Lib.cell_of_heap dP];rfl
 have c1:w1.cell? ⟨b,1,none⟩=some v:=by rw[Lib.cell_of_heap dP];rfl
 go_wp2_with (at_builtin;refine wpList_append_own _ rfl _ _ 105 rfl B 5 i0 (.int .u8 0) 1 1 Tryz.underlying105 hi a7 aY aW rfl ak _ _ _ rfl (bA.alloc _) ⟨w1.heap.size,0,none⟩ 1 1 [.int .u8 c] rfl rfl ?c1 ?c2 ?c3 ?c4 ?c5 ?_)
 case c1=>
  intro U u hj
  match U,hj with
  |0,hj=>simp at hj;subst hj;simp[Addr.add]
 case c2=>intro u hu;simp at hu;subst hu;rfl
 case c3=>unfold maxLen;omega
 case c4=>omega
 case c5=>have:=bD.size;simp;omega
 intro v' w2 dk gW _
 have an:b<w1.heap.size:=by
  rcases R6 b w1.heap.size with h'|h'
  ·exact h'
  ·simp[Array.getElem?_eq_none h']at dP
 have bG:w2.heap[b]? =some (.cells #[.pointer (some ⟨b,0,none⟩),v] 315 (0,0)):=by
  rw[gW.block b (by simp;omega) (λe=>aN e.symm),Lib.alloc_old w1 _ b an];exact dP
 have d0:w2.cell? ⟨b,0,none⟩=some (.pointer (some ⟨b,0,none⟩)):=by rw[Lib.cell_of_heap bG];rfl
 have d1:w2.cell? ⟨b,1,none⟩=some v:=by rw[Lib.cell_of_heap bG];rfl
 have f1:w2.frozen? ⟨b,1,none⟩=false:=Lib.frozen_of_heap bG 1
 obtain⟨g,cap,rfl⟩:∃ g cap,v'= .slice (some ⟨g,0,none⟩) (bs.length+1) cap:=by
  rcases dk.2 with ⟨_,h0⟩|⟨g,cap,cur,hv,_⟩
  ·omega
  ·exact⟨g,cap,hv⟩
 go_wp2;go_ret;refine⟨rfl,.inr ?_,?_⟩
 ·exact Lib.BuilderAt.put (T:=315) (e:=5) hB bG (bs':=bs++[.int .u8 c]) (by simpa using dk) ak
 ·exact((bD.alloc (by have:=bD.size;omega) _).grown gW (by have:=bD.size;simp;omega) (λk hk=>(bA.lt k hk).1)).setCell (p:=⟨b,1,none⟩) hB _
theorem qcX:∀ x:Nat,x<256->bits .or .u8 (x:Int) 128=((128+x%128:Nat):Int):=by
 intro x hx;have h:∀ y:Fin 256,bits .or .u8 ((y.val:Nat):Int) 128=((128+y.val%128:Nat):Int):=by decide+kernel
 exact h ⟨x,hx⟩
theorem SC (l:List UInt8) (m:Nat) (h:m<256) (c:Int) (hc:c=(m:Int)):Lib.byteCells l++[.int .u8 c]=Lib.byteCells (l++[UInt8.ofNat m]):=by
 subst hc;simp[Lib.byteCells,Nat.mod_eq_of_lt h]
theorem Ll (l:List UInt8):(Lib.byteCells l).length=l.length:=by simp[Lib.byteCells]
def SD (B b:Nat) (l:List UInt8) (w:World) (e:Ending) (w':World):Prop:=e= .returned (.tuple #[])/\Lib.IsBuilder 315 5 B b (Lib.byteCells l) w'/\Below B w w'
theorem qcY (B b:Nat) (l:List UInt8) (n:Nat) (w:World) (hn:n<18446744073709551616) (h:Lib.IsBuilder 315 5 B b (Lib.byteCells l) w) (hl:l.length+11<=140737488355328) (hB:B<=w.heap.size):
  Calls Tryz.prog 286 #[.pointer (some ⟨b,0,none⟩),.int .u64 n] w (SD B b (l++enc n) w):=by
 have qkR:=kz n hn;have HN:=aa hn;clear hn;go_wp2;go_loopw [1] (λv wr=>∃ (m:Nat) (l2:List UInt8),m<=n/\v= .int .u64 m/\l++enc n=l2++enc m/\Lib.IsBuilder 315 5 B b (Lib.byteCells l2) wr/\Below B w wr) (λv _=>(intOf v).toNat)
 case atStart=>exact⟨n,l,CP _,rfl,rfl,h,Below.refl _ _⟩
 case round=>
  obtain⟨m,l2,hmn,rfl,heq,hb,kb⟩:=hrel;have SE:=aa heq
  have jy:l2.length<=l.length+10:=by
   have:=congrArg List.length heq;simp only[qC]at this;have:=CW m;omega
  clear heq;have HL:=aa hl;clear hl;have r9:B<=wr.heap.size:=qcg hB kb.size;rcases R6 m 128 with hm|hm
  ·go_wp2_with fail
   refine(Sy B b (Lib.byteCells l2) _ wr hb (by rw[Ll];have:=HL.o;omega) r9).mono ?_;rintro e w4 ⟨rfl,h4,k4⟩;rw[SC l2 m ab _ rfl]at h4;go_wp2;go_end0
   refine⟨rfl,?_,kb.trans k4⟩;rw[SE.o,CU hm];exact h4
  ·have h7:0<m/128:=ab;go_wp2_with fail
   refine(Sy B b (Lib.byteCells l2) _ wr hb (by rw[Ll];have:=HL.o;omega) r9).mono ?_;rintro e w4 ⟨rfl,h4,k4⟩
   rw[SC l2 (128+m%128) ab _ (by
    rw[show((m:Int)%256)=((m%256:Nat):Int)by omega,qcX (m%256) ab,show m%256%128=m%128 by omega])]at h4
   have SF:ag (l++enc n=(l2++[UInt8.ofNat (128+m%128)])++enc (m/128)):=by
    unfold ag;rw[SE.o,CV hm,List.append_assoc];rfl
   generalize Lm:l2++[UInt8.ofNat (128+m%128)]=l3 at*;clear Lm;go_wp2;go_roundw
   case rel=>first|exact⟨m/128,l3,ab,aA,SF.o,h4,kb.trans k4⟩|((repeat apply R7);exact⟨⟨m/128,l3,ab,aA,SF.o,h4,kb.trans k4⟩,rfl⟩)
   case measure=>simp[intOf];omega
theorem qcZ (B b:Nat) (l:List UInt8) (n:Nat) (w:World) (hn:n<18446744073709551616) (h:Lib.IsBuilder 315 5 B b (Lib.byteCells l) w) (hl:l.length+11<=140737488355328) (hB:B<=w.heap.size) (fn:Fn) (w0:World):
  Calls Tryz.prog 285 #[.int .u64 n,.pointer (some ⟨b,0,none⟩)] w (SD B b (l++enc n) w):=by
 have HN:=aa hn;have HL:=aa hl;clear hn hl;go_in;go_wp2_with fail
 refine(qcY B b l n w HN.o h HL.o hB).mono ?_;rintro e w1 ⟨rfl,h1,k1⟩;go_wp2_with fail
 go_end0
 exact⟨rfl,h1,k1⟩
def encs (l:List Nat):List UInt8:=(l.map enc).flatten
theorem qc0 (l:List Nat) (n:Nat):encs (l++[n])=encs l++enc n:=by simp[encs]
theorem qc1 (l:List Nat) (h:∀ n∈l,n<18446744073709551616):(encs l).length<=l.length*10:=by
 induction l with
 |nil=>simp[encs]
 |cons a l ih=>
  have h1:=kz a (h a ao);have h2:=ih λn hn=>h n (by simp[hn]);have e:encs (a::l)=enc a++encs l:=rfl;rw[e,qC,List.length_cons];omega
def Str (l:List UInt8) (w:World) (e:Ending) (w':World):Prop:=e= .returned (.string ⟨l.toArray⟩)/\ad w w'
theorem SG (A:Option Addr) (n c:Nat) (xs:List Nat) (w:World) (hn:xs.length=n) (aL:n<=1000) (kU:n<=c) (hx:∀ x∈xs,x<18446744073709551616)
  (hc:0<n->∃ b off,A=some ⟨b,off,none⟩/\b<w.heap.size/\∀ i,i<n->w.cell? ⟨b,off+i,none⟩=some (.int .u64 (xs[i]?.getD 0:Nat))):
  Calls Tryz.prog 263 #[.slice A n c] w (Str (encs xs) w):=by
 have HN:=aa hn;have HX:=aa hx;have HC:=aa hc;clear hn hx hc;have iS:∀ (fn:Fn) (first cap:Array Value) (w:World),(Instr.makeFunc fn first cap).run Tryz.prog w= .ok (.func fn first cap) w:=λ_ _ _ _=>rfl
 have CZ:Lib.IsBuilder 315 5 w.heap.size w.heap.size (Lib.byteCells []) (w.alloc (.cells #[.pointer none,.slice none 0 0] 315)):=
  .inl ⟨CP _,_,l5 w _,qcb _ _ _ _,by simp[Value.ownBlock]⟩
 go_wp2;go_loopw [10] (λv wr=>∃ k:Nat,k<=n/\v= .int .i64 k/\Lib.IsBuilder 315 5 w.heap.size w.heap.size (Lib.byteCells (encs (xs.take k))) wr/\ad w wr) (λv _=>n-(intOf v).toNat)
 case atStart=>exact⟨0,Nat.zero_le _,rfl,CZ,al⟩
 case round=>
  clear CZ;obtain⟨k,hk,rfl,hb,kr⟩:=hrel;have hz:=kr.size
  have cM:ag ((encs (xs.take k)).length<=10000):=by
   unfold ag;have h1:=qc1 (xs.take k) (λx hx=>HX.o x (List.mem_of_mem_take hx));have h2:(xs.take k).length<=k:=List.length_take_le _ _;omega
  by_cases an:k<n
  ·obtain⟨b,off,rfl,dZ,hc⟩:=HC.o ab;have dD:=kr.af (hc k an);clear hc;obtain⟨y,hy⟩:∃ y,y=xs[k]?.getD 0:=⟨_,rfl⟩;rw[<- hy]at dD;have HY:=aa hy;clear hy;go_wp2_with fail
   refine(qcZ w.heap.size w.heap.size (encs (xs.take k)) y wr (by
    rw[HY.o,jc (by rw[HN.o];exact an)];exact HX.o _ (List.getElem_mem _)) hb (by have:=cM.o;omega) hz (.func 285) wr).mono ?_
   rintro e w4 ⟨rfl,h4,k4⟩
   have he:ag (encs (xs.take k)++enc y=encs (xs.take (k+1))):=by
    unfold ag;rw[List.take_add_one,jc (by rw[HN.o];exact an),Option.toList_some,qc0,HY.o,jc (by rw[HN.o];exact an)];rfl
   rw[he.o]at h4;have k5:ad w w4:=Below.trans kr k4;go_wp2;go_roundw
   case rel=>first|exact⟨k+1,ab,aA,h4,k5⟩|((repeat apply R7);exact⟨⟨k+1,ab,aA,h4,k5⟩,rfl⟩)
   case measure=>simp[intOf];omega
  ·obtain rfl:n=k:=ab;rw[qcc (by rw[HN.o];exact CP _)]at hb;go_wp2_with fail
   refine(Tryz.Builder_String_any w.heap.size w.heap.size (encs xs) wr hb hz).mono ?_;rintro e w4 ⟨rfl,k4⟩;have k5:ad w w4:=Below.trans kr k4;go_wp2;go_ret;exact⟨rfl,k5⟩
def num (n:Nat):ByteArray:=⟨(enc n).toArray⟩
theorem Ln (n:Nat) (w:World) (hn:n<18446744073709551616):
  Calls Tryz.prog 212 #[.int .u64 n] w λe w'=>e= .returned (.string (num n))/\ad w w':=by
 have HN:=aa hn;clear hn;have C0:=l5 w (.cells #[.int .u64 n] 244);have qJ:=aa C0;clear C0;go_in;go_wp2_with fail
 refine(SG (some ⟨w.heap.size,0,none⟩) 1 1 [n] _ rfl ab ab (by simpa using HN.o) (λ_=>⟨w.heap.size,0,rfl,ao,λi hi=> ?_⟩)).mono ?_
 ·obtain rfl:i=0:=ab;rw[Lib.cell_of_heap qJ.o];rfl
 rintro e w1 ⟨rfl,k1⟩;have e1:encs [n]=enc n:=by simp[encs]
 rw[e1];have k2:ad w w1:=ad.call al k1;go_wp2;go_ret;exact⟨rfl,k2⟩
def eB (s:ByteArray):ByteArray:=num s.size++s
theorem GC (s:ByteArray) (w:World) (hs:s.size<=4294967296):
  Calls Tryz.prog 211 #[.string s] w λe w'=>e= .returned (.string (eB s))/\ad w w':=by
 have hz:(num s.size).size<=10:=kz _ ab;go_in;go_wp2_with fail
 refine(Ln s.size w ab).mono ?_;rintro e w1 ⟨rfl,k1⟩;go_wp2;go_ret;exact⟨rfl,k1⟩
end Go.Proofs.YtehaoggjlciobaaGreat

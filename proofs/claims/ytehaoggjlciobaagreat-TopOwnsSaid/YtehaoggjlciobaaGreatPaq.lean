/- Part 17 of 53. -/
import Derived.Test.YtehaoggjlciobaaGreatPap
import Derived.Lib.Bytes
set_option linter.all false
set_option maxRecDepth 20000
set_option maxHeartbeats 16000000
namespace Go.Proofs.YtehaoggjlciobaaGreat
open Go.RowKit
theorem qc2:∀ x:Nat,x<256->bits .andNot .u64 (x:Int) 128=((x%128:Nat):Int):=by
 intro x hx;have h:∀ y:Fin 256,bits .andNot .u64 ((y.val:Nat):Int) 128=((y.val%128:Nat):Int):=by decide+kernel
 exact h ⟨x,hx⟩
theorem Lo (U:Nat):(2:Int) ^ (7*U)=((128 ^ U:Nat):Int):=by
 rw[Int.pow_mul];simp
theorem qc3 (lo U:Nat) (h:lo*128 ^ U<18446744073709551616):IntKind.u64.wrap ((lo:Int)*2 ^ (7*U))=((lo*128 ^ U:Nat):Int):=by
 rw[Lo,<- Int.natCast_mul,IntKind.wrap_u64];omega
theorem qc4 (lo U:Nat):((lo*128 ^ U:Nat):Int)/2 ^ (7*U)=(lo:Int):=by
 rw[Lo,<- Int.natCast_ediv,Nat.mul_div_cancel _ (Nat.pow_pos ab)]
theorem qc5 (lo U:Nat) (h:18446744073709551616<=lo*128 ^ U):∃ q:Nat,IntKind.u64.wrap ((lo:Int)*2 ^ (7*U))/2 ^ (7*U)=(q:Int)/\q≠lo:=by
 rw[Lo,<- Int.natCast_mul,IntKind.wrap_u64];refine⟨(lo*128 ^ U)%18446744073709551616/128 ^ U,ao,λe=> ?_⟩;have h1:=Nat.div_mul_le_self ((lo*128 ^ U)%18446744073709551616) (128 ^ U);rw[e]at h1;have:=Nat.mod_lt (lo*128 ^ U) (show 0<18446744073709551616 by omega);omega
theorem qc6 (n lo U:Nat) (h1:n<128 ^ U) (h2:n+lo*128 ^ U<18446744073709551616):bits .or .u64 (n:Int) ((lo*128 ^ U:Nat):Int)=((n+lo*128 ^ U:Nat):Int):=by
 have e:∀ m:Nat,m<18446744073709551616->(BitVec.ofInt 64 (m:Int)).toNat=m:=λm hm=>by
  rw[BitVec.ofInt_natCast,BitVec.toNat_ofNat];exact Nat.mod_eq_of_lt ab
 show IntKind.u64.wrap ((BitVec.ofInt 64 (n:Int) ||| BitVec.ofInt 64 ((lo*128 ^ U:Nat):Int)).toNat:Int)=_
 rw[BitVec.toNat_or,e n ab,e (lo*128 ^ U) ab,IntKind.wrap_u64]
 have h3:n ||| lo*128 ^ U=n+lo*128 ^ U:=by
  have e2:128 ^ U=2 ^ (7*U):=by rw[Nat.pow_mul]
  rw[e2]at h1⊢;rw[Nat.or_comm,Nat.mul_comm,<- Nat.two_pow_add_eq_or_of_lt h1,Nat.add_comm]
 rw[h3];omega
theorem qc7 (U:Nat) (h:U<=8):128 ^ U<=72057594037927936:=by
 have:=Nat.pow_le_pow_right (show 0<128 by omega) h;omega
def Rd (L:List UInt8) (a:Int) (n:Nat) (e:Int) (ok:Bool):Prop:=
 (ok=true/\n<18446744073709551616/\0<=a/\enc n <+: L.drop a.toNat/\e=a+((enc n).length:Nat))∨
 (ok=false/\n=0/\e=0/\(0<=a->∀ m,m<18446744073709551616->¬enc m <+: L.drop a.toNat))
def qc8 (s:ByteArray) (a:Int) (w:World) (e:Ending) (w':World):Prop:=
 ∃ (n:Nat) (en:Int) (ok:Bool),e= .returned (.tuple #[.int .u64 n,.int .i64 en,.bool ok])/\Rd s.data.toList a n en ok/\ad w w'
theorem GD (s:ByteArray) (a:Int) (w:World) (hs:s.size<=1099511627776):
  Calls Tryz.prog 239 #[.string s,.int .i64 a] w (qc8 s a w):=by
 rcases Int.lt_or_le a 0 with h0|h0
 ·go_wp2;go_step3
  go_wp2;try rw[Exit.noGoto_ret]
  go_ret3
  exact⟨0,0,false,rfl,.inr ⟨rfl,rfl,rfl,λh=>absurd h ab⟩,al⟩
 ·obtain⟨k,rfl⟩:=Int.eq_ofNat_of_zero_le h0;rcases R6 k s.size with h1|h1
  ·clear h0;have e1:decide (s.size<=k)=false:=by simp;(try omega)
   have e2:decide ((k:Int)<0)=false:=by simp;(try omega)
   go_wp2;go_step3
   go_wp2;go_step3
   go_wp2;go_loopw [4,7] (λnv iv wr=>∃ (U n:Nat),U<=10/\k+U<=s.size/\nv= .int .u64 n/\iv= .int .i64 ((k+U:Nat):Int)/\je (s.data.toList.drop k) U n/\ad w wr) (λ_ i _=>s.size-(intOf i).toNat)
   case atStart=>exact⟨0,0,ab,ab,rfl,rfl,je.zero _,ad.refl _⟩
   case round=>
    obtain⟨U,n,hj,fX,rfl,rfl,hh,kr⟩:=hrel;by_cases an:k+U<s.size
    ·obtain⟨c,hc⟩:∃ c,s[k+U].toNat=c:=⟨_,rfl⟩;have cz:c<256:=by rw[<- hc];exact UInt8.toNat_lt _
     have GF:ag ((s.data.toList.drop k)[U]? =some s[k+U]):=by
      unfold ag;rw[List.getElem?_drop,Array.getElem?_toList,qci an];rfl
     have HC:=aa hc;have qc9:=qc2 c cz;obtain⟨lo,gX⟩:∃ lo,c%128=lo:=⟨_,rfl⟩;rw[gX]at qc9;have SH:lo<=127:=ab;have C1:=aa gX;have HH:=aa hh;clear hh gX;have SI:(c:Int)<256:=ab;rcases R6 U 10 with qc'|qc'
     ·rcases R6 (lo*128 ^ U) 18446744073709551616 with Lp|C2
      ·have Lq:=HH.o.1;obtain⟨sh,wJ⟩:∃ sh,lo*128 ^ U=sh:=⟨_,rfl⟩;have r1:=qc3 lo U Lp;have r2:=qc4 lo U;rw[wJ]at r1 r2;have C3:=aa wJ;have jW:=aa Lp;clear wJ Lp;by_cases hz:c=0/\0<U
       ·obtain⟨aY,aW⟩:=hz;have mS:((c:Int)==0)=true:=by simp[aY]
        have C4:=aa aY;clear aY;go_wp2
        (try rw[Exit.noGoto_ret])
        go_ret3
        exact⟨0,0,false,rfl,.inr ⟨rfl,rfl,rfl,λ_ m _=>HH.o.bad GF.o (by rw[HC.o];exact C4.o) aW m⟩,kr⟩
       ·have Cs:((c:Int)==0&&decide ((k:Int)<(k:Int)+(U:Int)))=false:=by
         rw[Bool.and_eq_false_iff];by_cases h1:c=0
         ·right;simp;omega
         ·left;simp;omega
        have HZ:=aa hz;clear hz
        have C5:n+sh<18446744073709551616:=by
         have h1:=C3.o;have h2:=jW.o;rcases R6 U 9 with h9|h9
         ·have h3:=qc7 U ab;have h4:lo*128 ^ U<=127*72057594037927936:=Nat.mul_le_mul SH h3;omega
         ·obtain rfl:U=9:=ab;simp only[Nat.reducePow]at h1 h2 Lq;omega
        have r3:bits .or .u64 (n:Int) (sh:Int)=((n+sh:Nat):Int):=by
         rw[<- C3.o];exact qc6 n lo U Lq (by rw[C3.o];exact C5)
        have qda:=aa C5;clear C5 Lq;have GG:c=0∨0<c:=ab;obtain⟨m,hm⟩:∃ m,n+sh=m:=⟨_,rfl⟩;rw[hm]at r3;have HM:=aa hm;clear hm
        have done:c<128->enc m <+: s.data.toList.drop k/\m<18446744073709551616/\(enc m).length=U+1:=by
         intro qK
         have h0:0<U->0<c:=λC6=>by
          rcases GG with h|h
          ·exact absurd ⟨h,C6⟩ HZ.o
          ·exact h
         have h1:=HH.o.done GF.o (by rw[HC.o];exact qK) (by rw[HC.o];exact h0);rw[HC.o]at h1
         have h2:n+c*128 ^ U=m:=by
          rw[<- HM.o,<- C3.o,<- C1.o,Nat.mod_eq_of_lt qK]
         rw[h2]at h1;exact⟨(h1 m).2 rfl,by rw[<- HM.o];exact qda.o,HH.o.len c m qK h0 h2⟩
        have SJ:=aa done
        have next:128<=c->je (s.data.toList.drop k) (U+1) m:=by
         intro qK;have h1:=HH.o.next GF.o (by rw[HC.o];exact qK);rw[HC.o]at h1;have h2:c-128=lo:=by rw[<- C1.o];omega
         rw[h2,C3.o,HM.o]at h1;exact h1
        have KL:=aa next;clear done next GG;rcases vd:((c:Int)==0)with _|_
        ·rcases R6 c 128 with qK|qK
         ·obtain⟨d1,d2,d3⟩:=SJ.o qK;have D1:=aa d1;have D2:=aa d2;have D3:=aa d3;clear d1 d2 d3;go_wp2
          (try rw[Exit.noGoto_ret])
          go_ret3
          exact⟨m,_,true,rfl,.inl ⟨rfl,D2.o,ab,D1.o,by rw[D3.o];omega⟩,kr⟩
         ·have D1:=aa (KL.o qK);go_wp2;go_roundw
          case rel=>first|exact⟨U+1,m,ab,ab,rfl,aA,D1.o,kr⟩|((repeat apply R7);exact⟨⟨U+1,m,ab,ab,rfl,aA,D1.o,kr⟩,rfl⟩)
          case measure=>simp[intOf];omega
        ·have C6:U<=0:=by
          have h1:c=0:=by simpa using vd
          rcases Nat.eq_zero_or_pos U with h|h
          ·omega
          ·exact absurd ⟨h1,h⟩ HZ.o
         have nj:decide ((k:Int)<(k:Int)+(U:Int))=false:=by simp;omega
         have qK:c<128:=by
          have h1:c=0:=by simpa using vd
          omega
         obtain⟨d1,d2,d3⟩:=SJ.o qK;have D1:=aa d1;have D2:=aa d2;have D3:=aa d3;clear d1 d2 d3;go_wp2
         (try rw[Exit.noGoto_ret])
         go_ret3
         exact⟨m,_,true,rfl,.inl ⟨rfl,D2.o,ab,D1.o,by rw[D3.o];omega⟩,kr⟩
      ·obtain⟨q,kp,gE⟩:=qc5 lo U C2;have Lr:((q:Int)==(lo:Int))=false:=by simp;omega
       have Ls:((q:Int)!=(lo:Int))=true:=by simp;omega
       have qdb:=aa C2;clear C2;go_wp2
       (try rw[Exit.noGoto_ret])
       go_ret3
       exact⟨0,0,false,rfl,.inr ⟨rfl,rfl,rfl,λ_ m hm=>HH.o.big GF.o _ (by rw[HC.o,C1.o];exact qdb.o) m hm⟩,kr⟩
     ·obtain rfl:U=10:=ab;go_wp2
      (try rw[Exit.noGoto_ret])
      go_ret3
      exact⟨0,0,false,rfl,.inr ⟨rfl,rfl,rfl,λ_ m hm=>HH.o.qcT m hm⟩,kr⟩
    ·have HH:=aa hh;clear hh;go_wp2
     (try rw[Exit.noGoto_ret])
     go_ret3
     exact⟨0,0,false,rfl,.inr ⟨rfl,rfl,rfl,λ_ m hm=>HH.o.Lj (by simp;omega) m⟩,kr⟩
  ·go_wp2;go_step3
   go_wp2
   (try rw[Exit.noGoto_ret])
   go_ret3
   exact⟨0,0,false,rfl,.inr ⟨rfl,rfl,rfl,λ_ m hm=>by
    have e:s.data.toList.drop (k:Int).toNat=[]:=List.drop_eq_nil_of_le (by simpa using h1);rw[e];exact Li m⟩,al⟩
theorem Rd.ok {L:List UInt8} {a:Int} {n m:Nat} {e:Int} {ok:Bool} (h:Rd L a n e ok) (h0:0<=a) (hm:m<18446744073709551616) (hp:enc m <+: L.drop a.toNat):n=m/\e=a+((enc m).length:Nat)/\ok=true:=by
 rcases h with ⟨rfl,_,_,h1,rfl⟩|⟨_,_,_,h1⟩
 ·have:=Ae n m _ h1 hp;subst this;exact⟨rfl,rfl,rfl⟩
 ·exact absurd hp (h1 h0 m hm)
theorem Rd.no {L:List UInt8} {a:Int} {n:Nat} {e:Int} {ok:Bool} (h:Rd L a n e ok) (hp:0<=a->∀ m,m<18446744073709551616->¬enc m <+: L.drop a.toNat):n=0/\e=0/\ok=false:=by
 rcases h with ⟨rfl,h2,h3,h1,rfl⟩|⟨h2,h3,h4,h1⟩
 ·exact absurd h1 (hp h3 n h2)
 ·exact⟨h3,h4,h2⟩
theorem Lt (s:ByteArray) (a:Int) (k m len:Nat) (w:World) (hs:s.size<=1099511627776) (ha:a=(k:Int)) (hm:m<18446744073709551616) (hp:enc m <+: s.data.toList.drop k) (hl:len=(enc m).length):
  Calls Tryz.prog 239 #[.string s,.int .i64 a] w λe w'=>e= .returned (.tuple #[.int .u64 m,.int .i64 ((k:Int)+(len:Int)),.bool true])/\ad w w':=by
 subst ha hl;refine(GD s k w hs).mono ?_;rintro e w' ⟨n,en,ok,rfl,hr,hk⟩;obtain⟨rfl,rfl,rfl⟩:=hr.ok ab hm hp;exact⟨rfl,hk⟩
theorem C7 {a b:ByteArray} (h:a.data.toList=b.data.toList):a=b:=by
 ext1
 exact Array.toList_inj.1 h
theorem SM (a b:ByteArray):(a++b).data.toList=a.data.toList++b.data.toList:=by simp[ByteArray.data_append]
theorem qdc (a:ByteArray) (i U:Nat):(a.extract i U).data.toList=(a.data.toList.take U).drop i:=by
 simp[ByteArray.data_extract,List.extract_eq_take_drop,List.drop_take]
theorem Af (a:ByteArray):a.data.toList.length=a.size:=rfl
def SN (c:Int):ByteArray:=⟨#[UInt8.ofNat c.toNat]⟩
def iD (n s:Nat):List UInt8:=enc n++enc s
theorem GH (n s:Nat):(iD n s).length=(enc n).length+(enc s).length:=by simp[iD]
theorem C8 (n s:Nat) (X:List UInt8):iD n s <+: X↔enc n <+: X/\enc s <+: X.drop (enc n).length:=by
 unfold iD;constructor
 ·rintro⟨r,rfl⟩;refine⟨by rw[List.append_assoc];exact List.prefix_append _ _,?_⟩;rw[List.append_assoc,List.drop_left];exact List.prefix_append _ _
 ·rintro⟨⟨r,rfl⟩,h2⟩;rw[List.drop_left]at h2;obtain⟨q,rfl⟩:=h2;exact⟨q,by rw[List.append_assoc]⟩
def pr (L:List UInt8) (a:Int) (n s:Nat) (e:Int) (ok:Bool):Prop:=
 (ok=true/\1<=n/\n<=1099511627776/\s<6/\0<=a/\iD n s <+: L.drop a.toNat/\e=a+((iD n s).length:Nat))∨
 (ok=false/\n=0/\s=0/\e=0/\(0<=a->∀ m t,1<=m->m<=1099511627776->t<6->¬iD m t <+: L.drop a.toNat))
theorem qdd {n s m t:Nat} {X:List UInt8} (h:iD n s <+: X) (g:iD m t <+: X):n=m/\s=t:=by
 rw[C8]at h g;have:=Ae n m X h.1 g.1;subst this;exact⟨rfl,Ae s t _ h.2 g.2⟩
theorem pr.same {L:List UInt8} {a:Int} {n s m t:Nat} {e f:Int} {ok is:Bool} (h:pr L a n s e ok) (g:pr L a m t f is):n=m/\s=t/\e=f/\ok=is:=by
 rcases h with ⟨rfl,h1,h2,h3,h4,h5,rfl⟩|⟨rfl,rfl,rfl,rfl,h1⟩
 ·rcases g with ⟨rfl,g1,g2,g3,g4,g5,rfl⟩|⟨rfl,rfl,rfl,rfl,g1⟩
  ·obtain⟨rfl,rfl⟩:=qdd h5 g5;exact⟨rfl,rfl,rfl,rfl⟩
  ·exact absurd h5 (g1 h4 n s h1 h2 h3)
 ·rcases g with ⟨rfl,g1,g2,g3,g4,g5,rfl⟩|⟨rfl,rfl,rfl,rfl,g1⟩
  ·exact absurd g5 (h1 g4 m t g1 g2 g3)
  ·exact⟨rfl,rfl,rfl,rfl⟩
theorem Lu (L:List UInt8) (a:Int) (n:Nat) (h0:0<=a):L.drop (a+((enc n).length:Nat)).toNat=(L.drop a.toNat).drop (enc n).length:=by
 rw[List.drop_drop,show(a+((enc n).length:Nat)).toNat=a.toNat+(enc n).length by omega]
theorem qde {L:List UInt8} {a mid en:Int} {n m:Nat} (h:Rd L a n mid true) (g:Rd L mid m en true) (h1:1<=n) (h2:n<=1099511627776) (h3:m<6):pr L a n m en true:=by
 rcases h with ⟨_,_,h4,h5,rfl⟩|⟨h,_⟩
 ·rcases g with ⟨_,_,g4,g5,rfl⟩|⟨g,_⟩
  ·refine .inl ⟨rfl,h1,h2,h3,h4,(C8 n m _).2 ⟨h5,?_⟩,by rw[GH];omega⟩;rw[Lu L a n h4]at g5;exact g5
  ·cases g
 ·cases h
theorem qdf {L:List UInt8} {a mid:Int} {n:Nat} (h:Rd L a n mid false):pr L a 0 0 0 false:=by
 rcases h with ⟨h,_⟩|⟨_,_,_,h1⟩
 ·cases h
 ·exact .inr ⟨rfl,rfl,rfl,rfl,λh0 m t _ h2 _ hp=>h1 h0 m ab ((C8 m t _).1 hp).1⟩
theorem qdg {L:List UInt8} {a mid en:Int} {n m:Nat} (h:Rd L a n mid true) (g:Rd L mid m en false):pr L a 0 0 0 false:=by
 rcases h with ⟨_,h3,h4,h5,rfl⟩|⟨h,_⟩
 ·rcases g with ⟨g,_⟩|⟨_,_,_,g1⟩
  ·cases g
  ·refine .inr ⟨rfl,rfl,rfl,rfl,λh0 k t _ h2 ht hp=> ?_⟩;rw[C8]at hp;have:=Ae n k _ h5 hp.1;subst this;refine g1 ab t ab ?_;rw[Lu L a n h4];exact hp.2
 ·cases h
theorem SO {L:List UInt8} {a mid en:Int} {n m:Nat} (h:Rd L a n mid true) (g:Rd L mid m en true) (hb:1099511627776<n∨n<1∨6<=m):pr L a 0 0 0 false:=by
 rcases h with ⟨_,h3,h4,h5,rfl⟩|⟨h,_⟩
 ·rcases g with ⟨_,g3,g4,g5,rfl⟩|⟨g,_⟩
  ·refine .inr ⟨rfl,rfl,rfl,rfl,λh0 k t eN bb ht hp=> ?_⟩;rw[C8]at hp;have:=Ae n k _ h5 hp.1;subst this;rw[Lu L a n h4]at g5;have:=Ae m t _ g5 hp.2;omega
  ·cases g
 ·cases h
def xE (n s:Nat):ByteArray:=⟨(iD n s).toArray⟩
theorem qdh (n s:Nat):(xE n s).size=(iD n s).length:=rfl
theorem GI (n s:Nat) (w:World) (h1:1<=n) (h2:n<=1099511627776) (h3:s<6):
  Calls Tryz.prog 213 #[.agg #[.int .i64 n,.int .i64 s]] w λe w'=>e= .returned (.string (xE n s))/\ad w w':=by
 have C0:=l5 w (.cells #[.int .i64 n,.int .i64 s] 45);have qJ:=aa C0;clear C0;go_in;go_wp2_with fail
 refine(Q' n s _ ab).mono ?_;rintro e w1 ⟨rfl,k1⟩;have K1:ad w w1:=ad.call al k1;have Lv:=k1.heap qJ.o;have c0:w1.cell? ⟨w.heap.size,0,none⟩=some (.int .i64 n):=by rw[Lib.cell_of_heap Lv];rfl
 have c1:w1.cell? ⟨w.heap.size,1,none⟩=some (.int .i64 s):=by rw[Lib.cell_of_heap Lv];rfl
 clear Lv;have SQ:=l5 w1 (.cells #[.int .u64 n,.int .u64 s] 244);have HJ1:=aa SQ;clear SQ;go_wp2_with fail
 refine(SG (some ⟨w1.heap.size,0,none⟩) 2 2 [n,s] _ rfl ab ab (by intro x hx;simp at hx;omega) (λ_=>⟨w1.heap.size,0,rfl,ao,λi hi=> ?_⟩)).mono ?_
 ·rw[Lib.cell_of_heap HJ1.o];have:i=0∨i=1:=ab;rcases this with rfl|rfl <;>rfl
 rintro e w2 ⟨rfl,k2⟩;have K2:ad w w2:=K1.call (ad.call al k2);have e1:encs [n,s]=iD n s:=by simp[encs,iD]
 rw[e1];go_wp2;go_ret;exact⟨rfl,K2⟩
def qdi (s:ByteArray) (a:Int) (w:World) (e:Ending) (w':World):Prop:=
 ∃ (n m:Nat) (en:Int) (ok:Bool),e= .returned (.tuple #[.agg #[.int .i64 n,.int .i64 m],.int .i64 en,.bool ok])/\pr s.data.toList a n m en ok/\ad w w'
theorem qdj (s:ByteArray) (a:Int) (w:World) (hs:s.size<=1099511627776):
  Calls Tryz.prog 179 #[.string s,.int .i64 a] w (qdi s a w):=by
 have X0:=l5 w (.cells #[.int .i64 0,.int .i64 0] 45);have Lw:=aa X0;clear X0;go_in;go_wp2_with fail
 refine(GD s a _ hs).mono ?_;rintro e w1 ⟨n,mid,ok1,rfl,h1,k1⟩;go_wp2_with fail
 refine(GD s mid _ hs).mono ?_;rintro e w2 ⟨m,en,ok2,rfl,h2,k2⟩;have X2:=(k1.call k2).heap Lw.o;have x0:w2.cell? ⟨w.heap.size,0,none⟩=some (.int .i64 0):=by rw[Lib.cell_of_heap X2];rfl
 have x1:w2.cell? ⟨w.heap.size,1,none⟩=some (.int .i64 0):=by rw[Lib.cell_of_heap X2];rfl
 have f0:w2.frozen? ⟨w.heap.size,0,none⟩=false:=Lib.frozen_of_heap X2 0;have f1:w2.frozen? ⟨w.heap.size,1,none⟩=false:=Lib.frozen_of_heap X2 1;have K2:ad w w2:=ad.call al (k1.call k2);have aW:w.heap.size<w2.heap.size:=by have:=(k1.call k2).size;simp at this;omega
 have iE:=aa X2;have H1:=aa h1;have H2:=aa h2;clear h1 h2 X2
 cases ok1
 ·go_wp2;refine KV (v:= .tuple #[.agg #[.int .i64 0,.int .i64 0],.int .i64 0,.bool false]) (by simp[results,Tryz.results179,go_sem,x0,x1]) rfl ⟨0,0,0,false,rfl,qdf H1.o,?_⟩;exact al
 ·cases ok2
  ·go_wp2;refine KV (v:= .tuple #[.agg #[.int .i64 0,.int .i64 0],.int .i64 0,.bool false]) (by simp[results,Tryz.results179,go_sem,x0,x1]) rfl ⟨0,0,0,false,rfl,qdg H1.o H2.o,?_⟩;exact al
  ·by_cases hb:1099511627776<n∨6<=m
   ·have bW:pr s.data.toList a 0 0 0 false:=SO H1.o H2.o ab;have jX:=aa bW;clear bW;rcases R6 1099511627776 n with h1|h1
    ·go_wp2;refine KV (v:= .tuple #[.agg #[.int .i64 0,.int .i64 0],.int .i64 0,.bool false]) (by simp[results,Tryz.results179,go_sem,x0,x1]) rfl ⟨0,0,0,false,rfl,jX.o,?_⟩;exact al
    ·have h2:6<=m:=ab;clear hb;go_wp2;refine KV (v:= .tuple #[.agg #[.int .i64 0,.int .i64 0],.int .i64 0,.bool false]) (by simp[results,Tryz.results179,go_sem,x0,x1]) rfl ⟨0,0,0,false,rfl,jX.o,?_⟩;exact al
   ·have bD:n<=1099511627776:=ab;have bG:m<6:=ab;clear hb;have SR:ad w ((w2.setCell ⟨w.heap.size,0,none⟩ (.int .i64 n)).setCell ⟨w.heap.size,1,none⟩ (.int .i64 m)):=(K2.setCell ao _).setCell ao _
    have XS:ag (((w2.setCell ⟨w.heap.size,0,none⟩ (.int .i64 n)).setCell ⟨w.heap.size,1,none⟩ (.int .i64 m)).heap[w.heap.size]? =some (.cells #[.int .i64 n,.int .i64 m] 45 (0,0))):=by
     unfold ag;have:=iE.o;simp[World.setCell,Array.getElem?_modify,this]
    rcases Nat.eq_zero_or_pos n with hz|hz
    ·subst hz;have bW:pr s.data.toList a 0 0 0 false:=SO H1.o H2.o ab;have jX:=aa bW;clear bW;go_wp2_with fail
     refine(qbo 0 m _ ab).mono ?_;rintro e w3 ⟨rfl,k3⟩;have X3:=k3.heap XS.o;have x0:w3.cell? ⟨w.heap.size,0,none⟩=some (.int .i64 0):=by rw[Lib.cell_of_heap X3];rfl
     have x1:w3.cell? ⟨w.heap.size,1,none⟩=some (.int .i64 m):=by rw[Lib.cell_of_heap X3];rfl
     have f0:w3.frozen? ⟨w.heap.size,0,none⟩=false:=Lib.frozen_of_heap X3 0;have f1:w3.frozen? ⟨w.heap.size,1,none⟩=false:=Lib.frozen_of_heap X3 1;have K3:=SR.call k3;clear X3;go_wp2;refine KV (v:= .tuple #[.agg #[.int .i64 0,.int .i64 0],.int .i64 0,.bool false]) (by simp[results,Tryz.results179,go_sem,x0,x1]) rfl ⟨0,0,0,false,rfl,jX.o,?_⟩;exact al
    ·have lZ:pr s.data.toList a n m en true:=qde H1.o H2.o hz bD bG;have HY:=aa lZ;clear lZ;go_wp2_with fail
     refine(Q' n m _ ab).mono ?_;rintro e w3 ⟨rfl,k3⟩;have X3:=k3.heap XS.o;have x0:w3.cell? ⟨w.heap.size,0,none⟩=some (.int .i64 n):=by rw[Lib.cell_of_heap X3];rfl
     have x1:w3.cell? ⟨w.heap.size,1,none⟩=some (.int .i64 m):=by rw[Lib.cell_of_heap X3];rfl
     have f0:w3.frozen? ⟨w.heap.size,0,none⟩=false:=Lib.frozen_of_heap X3 0;have f1:w3.frozen? ⟨w.heap.size,1,none⟩=false:=Lib.frozen_of_heap X3 1;have K3:=SR.call k3;clear X3;go_wp2;refine KV (v:= .tuple #[.agg #[.int .i64 n,.int .i64 m],.int .i64 en,.bool true]) (by simp[results,Tryz.results179,go_sem,x0,x1]) rfl ⟨n,m,en,true,rfl,HY.o,?_⟩;exact al
def sh (s:ByteArray) (n:Nat):ByteArray:=if n<s.size then s.extract 0 n else s
def nk (s:ByteArray) (n:Nat) (en:Int) (ok:Bool) (da:Int):Bool:=ok&&decide (0<=da)&&decide ((n:Int)<=da)&&decide ((n:Int)<=(s.size:Int)-en)
def ve (s:ByteArray) (n:Nat) (en:Int) (ok:Bool) (da:Int):ByteArray:=if nk s n en ok da then s.extract en.toNat (en.toNat+n)else⟨#[]⟩
def vf (s:ByteArray) (n:Nat) (en:Int) (ok:Bool) (da:Int):Int:=if nk s n en ok da then en+n else 0
def qdk (s:ByteArray) (a da:Int) (w:World) (e:Ending) (w':World):Prop:=
 ∃ (n:Nat) (en:Int) (ok:Bool),e= .returned (.tuple #[.string (ve s n en ok da),.int .i64 (vf s n en ok da),.bool (nk s n en ok da)])/\Rd s.data.toList a n en ok/\ad w w'
theorem qdl {s:ByteArray} {a:Int} {n:Nat} {en:Int} {ok:Bool} (h:Rd s.data.toList a n en ok):0<=en/\en<=(s.size:Int):=by
 rcases h with ⟨_,_,h1,h2,rfl⟩|⟨_,_,rfl,_⟩
 ·have h3:=h2.length_le;have h5:=CW n;rw[ql1]at h3;have h4:s.data.toList.length=s.size:=rfl;omega
 ·omega
theorem qdm (s:ByteArray) (a da:Int) (w:World) (hs:s.size<=1099511627776) (Ag: -9223372036854775808<=da) (gd:da<=9223372036854775807):
  Calls Tryz.prog 238 #[.string s,.int .i64 a,.int .i64 da] w (qdk s a da w):=by
 have HM1:=aa Ag;have HM2:=aa gd;clear Ag gd;go_in;go_wp2_with fail
 refine(GD s a w hs).mono ?_;rintro e w1 ⟨n,en,ok,rfl,hr,k1⟩;obtain⟨he1,he2⟩:=qdl hr;have HR:=aa hr;clear hr
 cases ok
 ·have ho:nk s n en false da=false:=rfl;go_wp2;go_ret3
  exact⟨n,en,false,by rw[ve,vf,ho];rfl,HR.o,k1⟩
 ·rcases Int.lt_or_le da 0 with h1|h1
  ·have ho:ag (nk s n en true da=false):=by unfold ag nk;simp;omega
   go_wp2;go_ret3
   exact⟨n,en,true,by rw[ve,vf,ho.o];rfl,HR.o,k1⟩
  ·have gd:=HM2.o;rcases Int.lt_or_le da (n:Int)with h2|h2
   ·have ho:ag (nk s n en true da=false):=by unfold ag nk;simp;omega
    go_wp2;go_ret3
    exact⟨n,en,true,by rw[ve,vf,ho.o];rfl,HR.o,k1⟩
   ·rcases Int.lt_or_le ((s.size:Int)-en) (n:Int)with h3|h3
    ·have ho:ag (nk s n en true da=false):=by unfold ag nk;simp;omega
     go_wp2;go_ret3
     exact⟨n,en,true,by rw[ve,vf,ho.o];rfl,HR.o,k1⟩
    ·have ho:ag (nk s n en true da=true):=by unfold ag nk;simp;omega
     obtain⟨k,rfl⟩:=Int.eq_ofNat_of_zero_le he1;go_wp2;go_ret3
     exact⟨n,(k:Int),true,by rw[ve,vf,ho.o];rfl,HR.o,k1⟩
theorem qdn (s:ByteArray) (a da:Int) (k m len:Nat) (w:World) (hs:s.size<=1099511627776) (ha:a=(k:Int)) (Ag:(m:Int)<=da) (gd:da<=9223372036854775807) (hp:enc m <+: s.data.toList.drop k) (hl:len=(enc m).length) (hz:k+len+m<=s.size) (d:ByteArray) (hd:d=s.extract (k+len) (k+len+m)) (E:Int) (mR:E=((k+len+m:Nat):Int)):
  Calls Tryz.prog 238 #[.string s,.int .i64 a,.int .i64 da] w λe w'=>e= .returned (.tuple #[.string d,.int .i64 E,.bool true])/\ad w w':=by
 subst ha hl hd mR;refine(qdm s k da w hs ab gd).mono ?_;rintro e w' ⟨n,en,ok,rfl,hr,hk⟩;obtain⟨rfl,rfl,rfl⟩:=hr.ok ab ab hp;have ho:nk s n ((k:Int)+((enc n).length:Nat)) true da=true:=by unfold nk;simp;omega
 have e1:((k:Int)+((enc n).length:Nat)).toNat=k+(enc n).length:=ab;have e2:ve s n ((k:Int)+((enc n).length:Nat)) true da=s.extract (k+(enc n).length) (k+(enc n).length+n):=by rw[ve,ho,if_pos rfl,e1]
 have e3:vf s n ((k:Int)+((enc n).length:Nat)) true da=((k+(enc n).length+n:Nat):Int):=by rw[vf,ho,if_pos rfl];omega
 rw[e2,e3,ho];exact⟨rfl,hk⟩
def aM (v:ax):Value:= .agg #[.string v.key,.string v.val,.bool v.gone,.int .i64 v.n,.int .i64 v.s,.slice v.pa v.pn v.pc]
def r' (w:World) (v:ax) (ds:List aD):Prop:=Rw w 60 3 aS (.slice v.pa v.pn v.pc) ds
def WC (v:ax) (ds:List aD):Prop:=fu v.n v.s=true/\PC ds/\v.val.size<=32/\(v.gone=true->v.val.toList=[])
theorem C9 (v:ax) (ds:List aD) (w:World) (hk:Let v.key) (hp:r' w v ds) (hd:∀ d∈ds,Let d.key) (hl:ds.length<=1000000000000) (hs:v.val.size<=9223372036854775807):
  Calls Tryz.prog 149 #[aM v] w λe w'=>∃ b:Bool,e= .returned (.bool b)/\(b=true↔WC v ds)/\ad w w':=by
 have HP:=aa hp;have HD:=aa hd;obtain⟨c,og,cz,hc⟩:=hk;have HC:=aa hc;clear hp hd hc;unfold aM;go_in;go_wp2_with fail
 rw[HC.o];refine(FG c _ ab ab).mono ?_;rw[<- HC.o];rintro e w1 ⟨rfl,k1⟩;have e1:w1.cell? ⟨w.heap.size,1,none⟩=some (.string v.val):=k1.af (by go_simp);have e2:w1.cell? ⟨w.heap.size,2,none⟩=some (.bool v.gone):=k1.af (by go_simp);have e3:w1.cell? ⟨w.heap.size,3,none⟩=some (.int .i64 v.n):=k1.af (by go_simp);have e4:w1.cell? ⟨w.heap.size,4,none⟩=some (.int .i64 v.s):=k1.af (by go_simp);have e5:w1.cell? ⟨w.heap.size,5,none⟩=some (.slice v.pa v.pn v.pc):=k1.af (by go_simp);have K1:ad w w1:=ad.call al k1;clear k1;go_wp2_with fail
 refine(F5 v.n v.s _).mono ?_;rintro e w2 ⟨rfl,k2⟩;obtain⟨dD,eu⟩:∃ dD,fu v.n v.s=dD:=⟨_,rfl⟩;have fy:=aa eu;rw[eu];clear eu;have e1:=k2.af e1;have e2:=k2.af e2;have e5:=k2.af e5;have K2:=K1.call k2;clear K1 k2 e3 e4
 cases dD
 ·go_wp2;go_ret;exact⟨false,rfl,⟨λh=>(by cases h),λh=>by have h1:=h.1;rw[fy.o]at h1;cases h1⟩,K2⟩
 go_wp2_with fail
 refine(Lh _ ds _ hl (HP.o.kept K2) HD.o).mono ?_;rintro e w3 ⟨b,rfl,hb,k3⟩;have HB:=aa hb;have e1:=k3.af e1;have e2:=k3.af e2;have K3:=K2.call k3;clear K2 k3 e5 hb
 cases b
 ·go_wp2;go_ret;exact⟨false,rfl,⟨λh=>(by cases h),λh=>by have:=HB.o.2 h.2.1;cases this⟩,K3⟩
 obtain⟨lb,qI⟩:∃ lb,decide ((v.val.size:Int)<=32)=lb:=⟨_,rfl⟩;have pj:ag (lb=true↔v.val.size<=32):=by unfold ag;rw[<- qI,decide_eq_true_iff];omega
 obtain⟨Ah,heb⟩:∃ Ah,v.val.toList.isEmpty=Ah:=⟨_,rfl⟩;have SU:ag (Ah=true↔v.val.toList=[]):=by unfold ag;rw[<- heb,List.isEmpty_iff]
 obtain⟨gb,eP⟩:∃ gb,v.gone=gb:=⟨_,rfl⟩;have vg:=aa eP;rw[eP]at e2;clear eP
 cases lb
 ·go_wp2;go_ret;exact⟨false,rfl,⟨λh=>(by cases h),λh=>by have:=pj.o.2 h.2.2.1;cases this⟩,K3⟩
 cases gb
 ·go_wp2;go_ret;exact⟨true,rfl,⟨λ_=>⟨fy.o,HB.o.1 (by trivial),pj.o.1 (by trivial),λh=>by rw[vg.o]at h;cases h⟩,λ_=>rfl⟩,K3⟩
 cases Ah
 ·go_wp2;go_ret;exact⟨false,rfl,⟨λh=>(by cases h),λh=>by have:=SU.o.2 (h.2.2.2 vg.o);cases this⟩,K3⟩
 ·go_wp2;go_ret;exact⟨true,rfl,⟨λ_=>⟨fy.o,HB.o.1 (by trivial),pj.o.1 (by trivial),λ_=>SU.o.1 (by trivial)⟩,λ_=>rfl⟩,K3⟩
end Go.Proofs.YtehaoggjlciobaaGreat

/- Part 14 of 53. -/
import Derived.Test.YtehaoggjlciobaaGreatPam
import Derived.Maps.AppendAt
import Derived.ChangeKeysEq
import Derived.Laws.BytesArg
set_option linter.all false
set_option maxRecDepth 20000
set_option maxHeartbeats 16000000
namespace Go.Proofs.YtehaoggjlciobaaGreat
open Go.RowKit
abbrev Pr:=Int×Int
def qs (N:Int->Int->List Nat) (f:Int):Nat->List Pr
 |0=>[(-1,f)]
 |i+1=>qs N f i++match (qs N f i)[i]? with
  |none=>[]
  |some x=>(N x.1 x.2).map λs=>(x.2,((s:Nat):Int))
def Small (N:Int->Int->List Nat) (f:Int):Prop:=∀ i,(qs N f i).length<=7
theorem qcf (p:List Int) (a n:Nat):(fc p a n).Nodup:=List.Nodup.sublist List.filter_sublist List.nodup_range
theorem qlc {p:List Int} {a n b:Nat}:b∈fc p a n↔b<n/\Nr p a b:=by
 simp[fc,ky,Nr]
theorem qcj:∀ x:Fin 64,∀ y:Fin 64,(bits .and .i64 ((x:Nat):Int) ((y:Nat):Int)==0)= !((List.range 6).any λk=>(decide ((x:Nat)/2 ^ k%2=1)&&decide ((y:Nat)/2 ^ k%2=1))):=qck av
def qkO (ps:List Int) (o:Int) (a:Int) (s:Nat):Prop:=∃ k:Nat,k<ps.length/\cq o k=true/\Uuc ps a s k=true
theorem R8 {o:Int} (h0:0<=o) (k:Nat) (hk:k<6):cq o k=decide (o.toNat/2 ^ k%2=1):=by
 obtain⟨m,rfl⟩:=Int.eq_ofNat_of_zero_le h0;unfold cq;rw[Int.toNat_natCast,Int.toNat_natCast]
 have e:((m:Int)/2 ^ k%2=1)↔(m/2 ^ k%2=1):=by
  rw[show((2:Int) ^ k)=((2 ^ k:Nat):Int)by simp,<- Int.natCast_ediv];omega
 have h1:decide ((0:Int)<=(k:Nat))=true:=ao;have h2:decide (((k:Nat):Int)<6)=true:=by simp;omega
 rw[h1,h2];simp[e]
def p3:List Int:=[-1,0,1]
theorem t3:cH p3:=Rq ak ak ak ak ak
theorem n3 (a:Nat) (ha:a<3):fe p3 a=fc p3 a 3:=by
 unfold fe;rw[if_pos ⟨t3,ab,by simp[p3];omega⟩,Int.toNat_natCast];rfl
theorem qcm (c:Nat) (w:World) (h2:c<128):
  Calls Tryz.prog 197 #[.int .u8 (c:Nat)] w λe w'=>e= .returned (.int .i64 1)/\ad w w':=by
 have d:decide (((c:Nat):Int)<128)=true:=by simp;omega
 go_wp2;go_ret;exact⟨rfl,al⟩
theorem qcn (c:Nat) (w:World) (h1:33<=c) (h2:c<128):
  Calls Tryz.prog 125 #[.string (ch c)] w λe w'=>e= .returned (.int .i64 1)/\ad w w':=by
 obtain⟨s,hs⟩:∃ s,s=ch c:=⟨_,rfl⟩;have bu:s.size=1:=by rw[hs];rfl
 rw[<- hs];have HS:=aa bu
 have KY:∀ w,(Instr.index 9 (.string s) (.int .i64 0)).run Tryz.prog w= .ok (.int .u8 (c:Int)) w:=λw=>by
  rw[run_index_string w 9 s .i64 0 Tryz.underlying9,dif_pos ⟨ab,ab⟩];congr 3
  subst hs;show((UInt8.ofNat c).toNat)=c
  simp;omega
 clear hs;have d1:((c:Int)==224)=false:=by simp;omega
 have d2:((c:Int)==237)=false:=by simp;omega
 have d3:((c:Int)==240)=false:=by simp;omega
 have d4:((c:Int)==244)=false:=by simp;omega
 go_wp2;go_loopw [3,4] (λnv pv wr=>∃ pos:Nat,pos<=1/\nv= .int .i64 pos/\pv= .int .i64 pos/\ad w wr) (λnv _ _=>1-(intOf nv).toNat)
 case atStart=>exact⟨0,ab,rfl,rfl,ad.refl w⟩
 case round=>
  obtain⟨pos,hp,rfl,rfl,kr⟩:=hrel;by_cases h0:pos=0
  ·subst h0;have lR:∀ w,(Instr.index 9 (.string s) (.int .i64 ((0:Nat):Int))).run Tryz.prog w= .ok (.int .u8 (c:Int)) w:=λw=>KY w;go_wp2_with fail
   refine(qcm c _ h2).mono ?_;rintro e w1 ⟨rfl,k1⟩;go_wp2;go_loopw [6] (λiv Kt=>iv= .int .i64 1/\ad w1 Kt) (λ_ _=>0)
   case atStart=>exact⟨rfl,ad.refl _⟩
   case round=>
    obtain⟨rfl,Gb⟩:=hrel;go_wp2;go_roundw
    case rel=>first|exact⟨1,ab,aA,aA,(kr.call k1).call Gb⟩|((repeat apply R7);exact⟨⟨1,ab,aA,aA,(kr.call k1).call Gb⟩,rfl⟩)
    case measure=>first|(simp[intOf];done)|(simp[intOf];omega)
  ·obtain rfl:pos=1:=ab;go_wp2;go_ret;exact⟨rfl,kr⟩
theorem qco (c:Nat) (w:World) (h1:33<=c) (h2:c<128):
  Calls Tryz.prog 67 #[.string (ch c)] w λe w'=>e= .returned (.bool true)/\ad w w':=by
 have HR:=aa (λw=>qcn c w h1 h2);obtain⟨s,hs⟩:∃ s,s=ch c:=⟨_,rfl⟩;have bu:s.size=1:=by rw[hs];rfl
 rw[<- hs]at HR⊢;have HS:=aa bu
 have KY:∀ w,(Instr.index 9 (.string s) (.int .i64 0)).run Tryz.prog w= .ok (.int .u8 (c:Int)) w:=λw=>by
  rw[run_index_string w 9 s .i64 0 Tryz.underlying9,dif_pos ⟨ab,ab⟩];congr 3
  subst hs;show((UInt8.ofNat c).toNat)=c
  simp;omega
 have lR:∀ w,(Instr.index 9 (.string s) (.int .i64 ((0:Nat):Int))).run Tryz.prog w= .ok (.int .u8 (c:Int)) w:=λw=>KY w;clear hs;have d1:decide ((c:Int)<33)=false:=by simp;omega
 go_in;go_wp2_with fail
 refine(HR.o _).mono ?_;rintro e w1 ⟨rfl,k1⟩;go_wp2;go_loopw [4] (λpv wr=>∃ pos:Nat,pos<=1/\pv= .int .i64 pos/\ad w wr) (λpv _=>1-(intOf pv).toNat)
 case atStart=>exact⟨0,ab,rfl,k1⟩
 case round=>
  obtain⟨pos,hp,rfl,kr⟩:=hrel;by_cases h0:pos=0
  ·subst h0;go_wp2;go_roundw
   case rel=>first|exact⟨1,ab,aA,kr⟩|((repeat apply R7);exact⟨⟨1,ab,aA,kr⟩,rfl⟩)
   case measure=>first|(simp[intOf];done)|(simp[intOf];omega)
  ·obtain rfl:pos=1:=ab;go_wp2;go_ret;exact⟨rfl,kr⟩
theorem qcp (w:World):
  Calls Tryz.prog 67 #[.string nil] w λe w'=>e= .returned (.bool false)/\ad w w':=by
 have HR:ag (∀ w,Calls Tryz.prog 125 #[.string nil] w λe w'=>e= .returned (.int .i64 0)/\ad w w'):=λw=>by
  have bu:nil.size=0:=rfl;generalize nil=s at*;go_wp2;go_loopw [3,4] (λnv pv wr=>nv= .int .i64 0/\pv= .int .i64 0/\ad w wr) (λnv _ _=>0)
  case atStart=>exact⟨rfl,rfl,ad.refl w⟩
  case round=>
   obtain⟨rfl,rfl,kr⟩:=hrel;go_wp2;go_ret;exact⟨rfl,kr⟩
 have bu:nil.size=0:=rfl;generalize nil=s at*;go_in;go_wp2_with fail
 refine(HR.o _).mono ?_;rintro e w1 ⟨rfl,k1⟩;go_wp2;go_loopw [4] (λpv wr=>pv= .int .i64 0/\ad w wr) (λpv _=>0)
 case atStart=>exact⟨rfl,k1⟩
 case round=>
  obtain⟨rfl,kr⟩:=hrel;go_wp2;go_ret;exact⟨rfl,kr⟩
theorem R9 (s:ByteArray) (w:World) (h:Plain s):
  Calls Tryz.prog 67 #[.string s] w λe w'=>e= .returned (.bool (!s.toList.isEmpty))/\ad w w':=by
 rcases h with rfl|⟨c,rfl,h1,h2⟩
 ·rw[nU];exact qcp w
 ·rw[oR];exact qco c w h1 h2
theorem qcq (f t:ByteArray) (w:World) (hf:Plain f) (ht:Plain t) (h:t=nil∨Op.bytesLess f.toList t.toList=true):
  Calls Tryz.prog 129 #[.agg #[.string f,.string t]] w λe w'=>e= .returned (.bool true)/\ad w w':=by
 have HF:=aa hf;have HT:=aa ht
 have hb:t.toList.isEmpty=true∨(t.toList.isEmpty=false/\Op.bytesLess f.toList t.toList=true):=by
  rcases h with rfl|h
  ·left;rw[nU];rfl
  ·cases he:t.toList.isEmpty
   ·exact .inr ⟨rfl,h⟩
   ·exact .inl rfl
 have h1:f.toList.isEmpty=true∨f.toList.isEmpty=false:=by cases f.toList.isEmpty <;>simp
 clear hf ht h;go_in;go_wp2_with fail
 refine(R9 f _ HF.o).mono ?_;rintro e w1 ⟨rfl,k1⟩;have K1:ad w w1:=ad.call al k1;have c0:w1.cell? ⟨w.heap.size,0,none⟩=some (.string f):=k1.af (by go_simp);have c1:w1.cell? ⟨w.heap.size,1,none⟩=some (.string t):=k1.af (by go_simp);go_wp2_with fail
 refine(R9 t _ HT.o).mono ?_;rintro e w2 ⟨rfl,k2⟩;have K2:=K1.call k2;have c0:=k2.af c0;have c1:=k2.af c1;rcases h1 with h1|h1
 ·rcases hb with hb|⟨bD,bG⟩
  ·rw[h1,hb];go_wp2;go_ret;exact⟨rfl,K2⟩
  ·rw[h1,bD];go_wp2;go_ret;exact⟨rfl,K2⟩
 ·rcases hb with hb|⟨bD,bG⟩
  ·rw[h1,hb];go_wp2;go_ret;exact⟨rfl,K2⟩
  ·rw[h1,bD];go_wp2;go_ret;exact⟨rfl,K2⟩
theorem Sa (n:Nat) (w:World) (h:n<=6):
  Calls Tryz.prog 77 #[.int .i64 n] w λe w'=>e= .returned (.int .i64 ((2 ^ n:Nat):Int))/\ad w w':=by
 go_wp2;go_loopw [3,4] (λfF kv w9=>∃ k:Nat,k<=n/\fF= .int .i64 ((2 ^ k:Nat):Int)/\kv= .int .i64 k/\ad w w9) (λ_ kv _=>n-(intOf kv).toNat)
 case atStart=>exact⟨0,ab,rfl,rfl,ad.refl _⟩
 case round=>
  obtain⟨k,hk,rfl,rfl,kr⟩:=hrel;by_cases tm:k<n
  ·have fN:=tb (n:=k) ab;have ez:ag (2 ^ (k+1)=2*2 ^ k):=by unfold ag;rw[Nat.pow_succ,Nat.mul_comm]
   generalize 2 ^ k=t at*;go_wp2;go_roundw
   case rel=>first|exact⟨k+1,ab,by rw[ez.o];go_num,aA,kr⟩|((repeat apply R7);exact⟨⟨k+1,ab,by rw[ez.o];go_num,aA,kr⟩,rfl⟩)
   case measure=>simp[intOf];omega
  ·obtain rfl:k=n:=ab;obtain⟨t,ht⟩:∃ t,2 ^ k=t:=⟨_,rfl⟩;have HT:=aa ht;rw[ht];go_wp2;go_ret;exact⟨by rw[HT.o];rfl,kr⟩
theorem qcr (M s:Nat) (w:World) (h0:M<64) (hs:s<6):
  Calls Tryz.prog 44 #[.int .i64 M,.int .i64 s] w λe w'=>e= .returned (.bool (decide (M/2 ^ s%2=1)))/\ad w w':=by
 have hp:0<2 ^ s:=Nat.pow_pos ab;have fN:=tb (n:=s) ab;have hr:=Sa s w ab
 have HQ:ag (∀ q:Nat,q=M/2 ^ s->((M:Int).tdiv ((2 ^ s:Nat):Int))=q):=λq hq=>by
  rw[Int.tdiv_eq_ediv_of_nonneg ab,<- Int.natCast_ediv,hq]
 have kt:M/2 ^ s<=M:=Nat.div_le_self _ _;generalize 2 ^ s=t at*;have hq:=HQ.o _ rfl;generalize M/t=q at*;have aN:((t:Int)==0)=false:=by simp;omega
 go_in;go_wp2_with fail
 refine hr.mono ?_;rintro e w1 ⟨rfl,k1⟩;rcases Nat.mod_two_eq_zero_or_one q with hm|hm
 ·have gd:((q:Nat):Int).tmod 2=0:=by rw[Int.tmod_eq_emod_of_nonneg ab];omega
  go_wp2;go_ret;exact⟨by rw[hm];rfl,k1⟩
 ·have gd:((q:Nat):Int).tmod 2=1:=by rw[Int.tmod_eq_emod_of_nonneg ab];omega
  go_wp2;go_ret;exact⟨by rw[hm];rfl,k1⟩
theorem qcs (A:Option Addr) (n c:Nat) (es:List Nat) (w:World) (hx:dL w A n c (bw es)) (hu:Up es):
  Calls Tryz.prog 76 #[.slice A n c] w λe w'=>e= .returned (.bool true)/\ad w w':=by
 have hn:es.length+1=n:=by have:=hx.1;rwa [ju]at this
 have h6:=hu.cV;obtain⟨b,off,rfl,hc⟩:=hx.2.2.2.2 ab;have fE:n<=c/\c<=9223372036854775807:=by have h1:=hx.2.1;have h2:=hx.2.2.1;unfold maxLen at h2;omega
 have HU:=aa hu
 have HC:ag (∀ i,i<n->w.cell? ⟨b,off+i*2,none⟩=some (.string (fr es i))/\w.cell? ⟨b,off+i*2+1,none⟩=some (.string (to es i))):=λi hi=>by
  have:=hc i hi;rwa [wH ab]at this
 clear hx hc hu;go_wp2;go_loopw [3] (λiv wr=>∃ i:Nat,i<=n/\iv= .int .i64 i/\ad w wr) (λiv _=>n-(intOf iv).toNat)
 case atStart=>exact⟨0,ab,rfl,al⟩
 case round=>
  obtain⟨i,hi,rfl,kr⟩:=hrel;by_cases an:i<n
  ·obtain⟨c1,c2⟩:=HC.o i an;have c1:=kr.af c1;have c2:=kr.af c2;have hg:=aa (qcq (fr es i) (to es i) · (Qm HU.o ab) (Qn HU.o ab) (Qo HU.o ab));rcases Nat.eq_zero_or_pos i with h0|h0
   ·subst h0;have hz:(fr es 0).toList.isEmpty=true:=by rw[Qq,nU];rfl
    generalize fr es 0=f at*;generalize to es 0=t at*;simp only[Nat.zero_mul,Nat.add_zero]at c1 c2;go_wp2_with fail
    refine(hg.o _).mono ?_;rintro e w2 ⟨rfl,k2⟩;have K2:=kr.call k2;have c1:=k2.af c1;have c2:=k2.af c2;go_wp2;refine bz (λwB=>ad w wB/\wB.cell? ⟨b,off,none⟩=some (.string f)/\wB.cell? ⟨b,off+1,none⟩=some (.string t)) λwB SS=> ?_;repeat refine DW.dt ?_
    refine DW.nl SS ?_;rintro wd hI ⟨ae,ai,aj⟩;go_wp2;go_roundw
    case rel=>first|exact⟨1,ab,aA,ae⟩|((repeat apply R7);exact⟨⟨1,ab,aA,ae⟩,rfl⟩)
    case measure=>first|(simp[intOf];done)|(simp[intOf];omega)
   ·obtain⟨p,rfl⟩:∃ p,i=p+1:=⟨i-1,ab⟩;have lL:=Qr (es:=es) h0;obtain⟨c3,c4⟩:=HC.o p ab;have c4:=kr.af c4;rw[<- Qp es ab]at c4;have d0:((((p+1:Nat)):Int)==0)=false:=by first|(simp;done)|(simp;omega)
    have d1:(((p:Int)+1)==0)=false:=by first|(simp;done)|(simp;omega)
    have d2:decide ((0:Int)<(p:Int)+1)=true:=by first|(simp;done)|(simp;omega)
    generalize fr es (p+1)=f at*;generalize to es (p+1)=t at*;go_wp2_with fail
    refine(hg.o _).mono ?_;rintro e w2 ⟨rfl,k2⟩;have K2:=kr.call k2;have c1:=k2.af c1;have c2:=k2.af c2;have c4:=k2.af c4;go_wp2;refine bz (λwB=>ad w wB/\wB.cell? ⟨b,off+(p+1)*2,none⟩=some (.string f)/\wB.cell? ⟨b,off+(p+1)*2+1,none⟩=some (.string t)/\wB.cell? ⟨b,off+p*2+1,none⟩=some (.string f)) λwB SS=> ?_;repeat refine DW.dt ?_
    refine DW.nl SS ?_;rintro wd hI ⟨ae,ai,aj,aq⟩;go_wp2;go_roundw
    case rel=>first|exact⟨p+1+1,ab,aA,ae⟩|((repeat apply R7);exact⟨⟨p+1+1,ab,aA,ae⟩,rfl⟩)
    case measure=>first|(simp[intOf];done)|(simp[intOf];omega)
  ·obtain rfl:i=n:=ab;obtain⟨p,rfl⟩:∃ p,i=p+1:=⟨i-1,ab⟩;obtain⟨c3,c4⟩:=HC.o p ab;have c4:=kr.af c4;have aN:(to es p).toList.isEmpty=true:=by rw[show p=es.length by omega,JR,nU];rfl
   have d2:decide ((0:Int)<(p:Int)+1)=true:=by first|(simp;done)|(simp;omega)
   generalize to es p=t at*;go_wp2;go_ret;exact⟨rfl,kr⟩
def qD (a b:Nat):Prop:=∃ k,a/2 ^ k%2=1/\b/2 ^ k%2=1
theorem qct (a b:Nat):qD a b↔(a%2=1/\b%2=1)∨qD (a/2) (b/2):=by
 have key:∀ x k:Nat,x/2/2 ^ k=x/2 ^ (k+1):=λx k=>by rw[Nat.div_div_eq_div_mul,Nat.pow_succ,Nat.mul_comm]
 constructor
 ·rintro⟨k,h1,h2⟩
  cases k with
  |zero=>left;exact⟨by simpa using h1,by simpa using h2⟩
  |succ k=>right;exact⟨k,by rw[key];exact h1,by rw[key];exact h2⟩
 ·rintro(⟨h1,h2⟩|⟨k,h1,h2⟩)
  ·exact⟨0,by simpa using h1,by simpa using h2⟩
  ·exact⟨k+1,by rw[<- key];exact h1,by rw[<- key];exact h2⟩
theorem qcu {a b:Nat} (h:a=0∨b=0):¬qD a b:=by
 rintro⟨k,h1,h2⟩;rcases h with rfl|rfl
 ·simp at h1
 ·simp at h2
theorem qcv (a b:Nat) (w:World) (ha:a<64) (hb:b<64):
  Calls Tryz.prog 38 #[.int .i64 a,.int .i64 b] w (uJ (qD a b) w):=by
 go_wp2;go_loopw [0,1] (λfF bv wr=>∃ x y:Nat,x<64/\y<64/\fF= .int .i64 x/\bv= .int .i64 y/\ag (qD a b↔qD x y)/\ad w wr) (λfF _ _=>(intOf fF).toNat)
 case atStart=>exact⟨a,b,ha,hb,rfl,rfl,Iff.rfl,ad.refl _⟩
 case round=>
  obtain⟨x,y,hx,hy,rfl,rfl,hm,kr⟩:=hrel;have aV:=aa (qct x y);have Cg:=aa (qcu (a:=x) (b:=y));by_cases h0:0<x/\0<y
  ·have d1:decide ((0:Int)<(x:Int))=true:=by simp;omega
   have d2:decide ((0:Int)<(y:Int))=true:=by simp;omega
   have lV:((x:Nat):Int).tdiv 2=((x/2:Nat):Int):=by rw[Int.tdiv_eq_ediv_of_nonneg ab];omega
   have k':((y:Nat):Int).tdiv 2=((y/2:Nat):Int):=by rw[Int.tdiv_eq_ediv_of_nonneg ab];omega
   have tn:((x:Nat):Int).tmod 2=((x%2:Nat):Int):=by rw[Int.tmod_eq_emod_of_nonneg ab];omega
   have xw:((y:Nat):Int).tmod 2=((y%2:Nat):Int):=by rw[Int.tmod_eq_emod_of_nonneg ab];omega
   have zX:x/2<x:=ab;have hly:y/2<y:=ab;by_cases bD:x%2=1/\y%2=1
   ·have lZ:ag (qD a b):=hm.o.2 (aV.o.2 (.inl bD));rw[bD.1]at tn;rw[bD.2]at xw;have xx:((x:Nat):Int).tmod 2=1:=tn;have hy4:((y:Nat):Int).tmod 2=1:=xw;clear tn xw lV k';go_wp2;go_ret;exact JS rfl lZ.o kr
   ·have dV:ag (qD a b↔qD (x/2) (y/2)):=hm.o.trans (aV.o.trans (or_iff_right bD));generalize x/2=x2 at*;generalize y/2=y2 at*;rcases Nat.mod_two_eq_zero_or_one x with h1|h1
    ·rw[h1]at tn;have xx:((x:Nat):Int).tmod 2=0:=tn;clear tn xw;go_wp2;go_roundw
     case rel=>first|exact⟨x2,y2,ab,ab,rfl,rfl,dV,kr⟩|((repeat apply R7);exact⟨⟨x2,y2,ab,ab,rfl,rfl,dV,kr⟩,rfl⟩)
     case measure=>first|(simp[intOf];done)|(simp[intOf];omega)
    ·have h2:y%2=0:=by
      rcases Nat.mod_two_eq_zero_or_one y with h2|h2
      ·exact h2
      ·exact absurd ⟨h1,h2⟩ bD
     rw[h1]at tn;rw[h2]at xw;have xx:((x:Nat):Int).tmod 2=1:=tn;have hy4:((y:Nat):Int).tmod 2=0:=xw;clear tn xw;go_wp2;go_roundw
     case rel=>first|exact⟨x2,y2,ab,ab,rfl,rfl,dV,kr⟩|((repeat apply R7);exact⟨⟨x2,y2,ab,ab,rfl,rfl,dV,kr⟩,rfl⟩)
     case measure=>first|(simp[intOf];done)|(simp[intOf];omega)
  ·have bW:ag (¬qD a b):=λh=>Cg.o ab (hm.o.1 h);by_cases iu:0<x
   ·have d1:decide ((0:Int)<(x:Int))=true:=by simp;omega
    have d2:decide ((0:Int)<(y:Int))=false:=by simp;omega
    go_wp2;go_ret;exact jw rfl bW.o kr
   ·have d1:decide ((0:Int)<(x:Int))=false:=by simp;omega
    go_wp2;go_ret;exact jw rfl bW.o kr
theorem KZ (A B C:Option Addr) (n1 c1 n2 c2 n3 c3:Nat) (es:List Nat) (os ps:List Int) (w:World) (hr:fY w A n1 c1 B n2 c2 C n3 c3 (bw es) os ps) (hf:Fit es os n3):
  Calls Tryz.prog 41 #[.agg #[.slice A n1 c1,.slice B n2 c2,.slice C n3 c3]] w λe w'=>e= .returned (.bool true)/\ad w w':=by
 have HR:=aa hr;have HF:=aa hf;have h1:n1=es.length+1:=by have:=hr.rs.1;rw[ju]at this;omega
 have h2:n2=n1:=by have:=hr.os.1;have:=hf.len;omega
 subst h2;have h6:=hf.up.cV;have ho:=hf.one;have hs:=hf.cV;have hb:=hr.nX;have cz:n2<=c2/\c2<=9223372036854775807:=by have h1:=hr.os.2.1;have h2:=hr.os.2.2.1;unfold maxLen at h2;omega
 obtain⟨ob,oo,rfl,gP⟩:=hr.os.2.2.2.2 ab;have jx:ag (∀ i,i<n2->w.cell? ⟨ob,oo+i,none⟩=some (.int .i64 (oa os i))/\1<=oa os i/\oa os i<((2 ^ n3:Nat):Int)):=λi hi=>⟨gP i hi,hf.own i ab⟩;have h8:1<=n2/\n2<=7:=ab;have HT:=aa (λw=>Sa n3 w hs);have h2l:=tb hs;clear hr hf gP h1 h6;generalize 2 ^ n3=T at*;go_in;go_wp2_with fail
 refine(qcs A n2 c1 es _ (HR.o.rs.keep al) HF.o.up).mono ?_;rintro e w1 ⟨rfl,k1⟩;have K1:ad w w1:=ad.call al k1;have e0:w1.cell? ⟨w.heap.size,0,none⟩=some (.slice A n2 c1):=k1.af (by go_simp);have e1:w1.cell? ⟨w.heap.size,1,none⟩=some (.slice (some ⟨ob,oo,none⟩) n2 c2):=k1.af (by go_simp);have d1:decide ((8:Int)<(n2:Int))=false:=by simp;omega
 have d2:decide ((n3:Int)<1)=false:=by simp;omega
 have d3:decide ((6:Int)<(n3:Int))=false:=by simp;omega
 go_wp2;go_loopw [5] (λiv wr=>∃ i:Nat,i<=n2/\iv= .int .i64 i/\ad w1 wr) (λiv _=>n2-(intOf iv).toNat)
 case atStart=>exact⟨0,ab,rfl,ad.refl _⟩
 case round=>
  obtain⟨i,hi,rfl,kr⟩:=hrel;have e1:=kr.af e1;by_cases an:i<n2
  ·obtain⟨co,fN,ez⟩:=jx.o i an;have co:=kr.af (K1.af co);generalize oa os i=o at*;have d4:decide (o<1)=false:=by simp;omega
   have d5:decide ((T:Int)<=o)=false:=by simp;omega
   go_wp2;refine bz (λwB=>ad w1 wB/\wB.cell? ⟨w.heap.size,1,none⟩=some (.slice (some ⟨ob,oo,none⟩) n2 c2)/\wB.cell? ⟨ob,oo+i,none⟩=some (.int .i64 o)) λwB SS=> ?_;obtain⟨au,aB,aC⟩:=SS.o _ (ad.refl _);repeat(first|(apply DW.ct;(focus (intro wd hI;obtain⟨ae,ai,aj⟩:=SS.o wd hI;go_wp2_with (first|(go_at_call 77;refine(HT.o _).mono ?_;rintro e w6 ⟨rfl,cL⟩));exact aP));refine DW.np ?_)|(refine DW.bt av ?_;intro wd hI;obtain⟨ae,ai,aj⟩:=SS.o wd hI;go_wp2_with (first|(go_at_call 77;refine(HT.o _).mono ?_;rintro e w6 ⟨rfl,cL⟩));refine cu hI SS (λbf SS=> ?_) rfl;obtain⟨au,aB,aC⟩:=SS.o _ (ad.refl _)))
   refine DW.nl SS ?_;rintro wd hI ⟨ae,ai,aj⟩;go_wp2;go_roundw
   case rel=>first|exact⟨i+1,ab,aA,ae⟩|((repeat apply R7);exact⟨⟨i+1,ab,aA,ae⟩,rfl⟩)
   case measure=>first|(simp[intOf];done)|(simp[intOf];omega)
  ·obtain rfl:i=n2:=ab;go_wp2;go_ret;exact⟨rfl,K1.call kr⟩
theorem qcw (A B C:Option Addr) (n1 c1 n2 c2 n3 c3:Nat) (es:List Nat) (os ps:List Int) (k:ByteArray) (w:World) (hr:fY w A n1 c1 B n2 c2 C n3 c3 (bw es) os ps) (hf:Fit es os n3):
  Calls Tryz.prog 78 #[.agg #[.slice A n1 c1,.slice B n2 c2,.slice C n3 c3],.string k] w λe w'=>e= .returned (.int .i64 (oa os (bV es (hv k))))/\ad w w':=by
 have HR:=aa hr;have HF:=aa hf;have hle:=nV es (hv k);have h2:n2=es.length+1:=by have:=hr.os.1;have:=hf.len;omega
 obtain⟨ob,oo,rfl,gP⟩:=hr.os.2.2.2.2 ab;have jx:=aa (gP (bV es (hv k)) ab);have hb:=hr.nX;clear hr hf gP;obtain⟨r0,wK⟩:∃ r0,bV es (hv k)=r0:=⟨_,rfl⟩;have o0:=aa wK;rw[wK]at hle jx⊢;obtain⟨o,ho⟩:∃ o,oa os r0=o:=⟨_,rfl⟩;have jx:ag (w.cell? ⟨ob,oo+r0,none⟩=some (.int .i64 o)):=by have:=jx.o;unfold oa at ho;rwa [ho]at this
 rw[ho];have an:r0<n2:=ab;have cz:n2<=c2:=HR.o.os.2.1;clear wK ho h2 hle;go_in;go_wp2_with fail
 refine(KZ A _ C n1 c1 n2 c2 n3 c3 es os ps _ (HR.o.keep al) HF.o).mono ?_;rintro e w1 ⟨rfl,k1⟩;have K1:ad w w1:=ad.call al k1;have e0:w1.cell? ⟨w.heap.size,0,none⟩=some (.slice A n1 c1):=k1.af (by go_simp);have e1:w1.cell? ⟨w.heap.size,1,none⟩=some (.slice (some ⟨ob,oo,none⟩) n2 c2):=k1.af (by go_simp);go_wp2_with fail
 refine(Qt A n1 c1 (bw es) k _ (HR.o.rs.keep K1)).mono ?_;rintro e w2 ⟨r,rfl,fH,k2⟩;have tc:r=(r0:Int):=by rw[Ql HF.o.up fH,o0.o]
 clear fH;subst tc;have K2:=K1.call k2;have e1:=k2.af e1;have c1:w2.cell? ⟨ob,oo+r0,none⟩=some (.int .i64 o):=K2.af jx.o;have d9:decide ((r0:Int)<0)=false:=by first|(simp;done)|(simp;omega)
 go_wp2;go_ret;exact⟨rfl,K2⟩
def pre (es:List Nat):List Rg:=(List.range es.length).map λi=>(fr es i,to es i)
theorem Sb (es:List Nat):(pre es).length=es.length:=by simp[pre]
theorem zY (es:List Nat) (e:Nat) {i:Nat} (hi:i<es.length):g (es++[e]) i=g es i:=by unfold g;rw[qlZ hi]
theorem Gt (es:List Nat) (e:Nat):g (es++[e]) es.length=e:=by simp[g]
theorem Sc (es:List Nat) (e:Nat) {i:Nat} (hi:i<=es.length):fr (es++[e]) i=fr es i:=by
 unfold fr;split
 ·rfl
 ·rw[zY es e ab]
theorem qcx (es:List Nat) (e:Nat):pre (es++[e])=pre es++[(fr es es.length,ch e)]:=by
 unfold pre;rw[qC,List.length_singleton,List.range_succ,List.map_append];congr 1
 ·refine List.map_congr_left λi hi=> ?_;have hi:=List.mem_range.1 hi;unfold to;rw[Sc es e ab,qC,if_pos hi,if_pos (by simp;omega),zY es e hi]
 ·unfold to;simp[Sc,Gt]
theorem qcy (es:List Nat):bw es=pre es++[(fr es es.length,nil)]:=by
 unfold bw pre;rw[List.range_succ,List.map_append];simp[JR]
theorem qcz (es:List Nat) (e:Nat):fr (es++[e]) (es++[e]).length=ch e:=by
 unfold fr;rw[if_neg ao,qC,List.length_singleton,Nat.add_sub_cancel,Gt]
theorem Up.snoc {es:List Nat} (h:Up es) {e:Nat} (h6:es.length<6) (h1:97<=e) (h2:e<=122) (hl:hv (fr es es.length)<e):Up (es++[e]):=by
 refine⟨by simp;omega,λi hi=> ?_,λi U fV hj=> ?_⟩
 ·rcases R6 i es.length with g1|g1
  ·rw[zY es e g1];exact h.gN i g1
  ·obtain rfl:i=es.length:=by simp at hi;omega
   rw[Gt];omega
 ·rcases R6 U es.length with g1|g1
  ·rw[zY es e g1,zY es e ab];exact h.up i U fV g1
  ·obtain rfl:U=es.length:=by simp at hj;omega
   rw[Gt,zY es e fV];have hr:=h.gN (es.length-1) ab;unfold fr at hl;rw[if_neg ab,kg ab]at hl;rcases R6 i (es.length-1)with g2|g2
   ·have:=h.up i (es.length-1) g2 ab;omega
   ·rw[show i=es.length-1 by omega];omega
theorem qcA {es:List Nat} (hu:Up es) {c:Nat} (hc:c<128) (h:hv (fr es es.length)<c):Op.bytesLess (ch c).toList (fr es es.length).toList=false/\((ch c).toList==(fr es es.length).toList)=false:=by
 unfold fr at h⊢;split
 ·rw[JB,oR,nU];exact⟨rfl,rfl⟩
 ·rename_i h0
  rw[if_neg h0]at h;have hr:=hu.gN (es.length-1) ab;rw[kg ab]at h;rw[uB _ ab,kg ab,oR,oR];refine⟨by simp;omega,?_⟩;rw[Bool.eq_false_iff];intro e;have e2:UInt8.ofNat c=UInt8.ofNat (g es (es.length-1)):=by simpa using e
  have:=congrArg UInt8.toNat e2;simp at this;omega
theorem qcB {es:List Nat} (hu:Up es) {c:Nat} (h1:97<=c) (hc:c<128) (h:(c:Int)<=hv (fr es es.length)):Op.bytesLess (ch c).toList (fr es es.length).toList=true∨(Op.bytesLess (ch c).toList (fr es es.length).toList=false/\((ch c).toList==(fr es es.length).toList)=true):=by
 unfold fr at h⊢;split
 ·rename_i h0
  rw[if_pos h0,Fm]at h;omega
 ·rename_i h0
  rw[if_neg h0]at h;have hr:=hu.gN (es.length-1) ab;rw[kg ab]at h;rw[uB _ ab,kg ab,oR,oR];by_cases e:c=g es (es.length-1)
  ·right
   rw[<- e];simp
  ·left
   simp;omega
theorem Gu:Up []:=⟨ao,λi hi=>by simp at hi,λi U _ hj=>by simp at hj⟩
theorem Sd (w:World) (r:Nat):
  (convert 105 9 (.slice (some ⟨w.heap.size,0,none⟩) 1 1)).run Tryz.prog (w.alloc (.cells #[.int .u8 (97+(r:Int))] 5))= .ok (.string (ch (97+r))) (w.alloc (.cells #[.int .u8 (97+(r:Int))] 5)):=by
 have h:=run_convert_bytes_arg (w.alloc (.cells #[.int .u8 (97+(r:Int))] 5)) 105 5 Tryz.underlying105 av w.heap.size 0 1 1 [97+(r:Int)] rfl (λi hi=>by
  obtain rfl:i=0:=ab;have hg:(w.alloc (.cells #[.int .u8 (97+(r:Int))] 5)).heap[w.heap.size]? =some (.cells #[.int .u8 (97+(r:Int))] 5):=l5 _ _;rw[cell_of_row _ _ 0 _ _ (0,0) hg];rfl) 9 av
 have e:ch (97+r)=⟨#[UInt8.ofNat (97+(r:Int)).toNat]⟩:=by unfold ch;rw[show(97+(r:Int)).toNat=97+r by omega]
 rw[e];exact h
theorem bo.but {S:List Nat} {w w2:World} {b off n c:Nat} {xs:List Int} (h:bo w (some ⟨b,off,none⟩) n c xs) (hb:ah S w w2) (hn:b∉S):bo w2 (some ⟨b,off,none⟩) n c xs:=by
 obtain⟨h1,h2,h3,h4,h5⟩:=h;refine⟨h1,h2,h3,h4,λh0=> ?_⟩;obtain⟨b2,gA,e,hc⟩:=h5 h0
 cases e
 exact⟨_,_,rfl,λi hi=>hb.af (hc i hi) hn⟩
theorem dL.but {S:List Nat} {w w2:World} {b off n c:Nat} {rs:List Rg} (h:dL w (some ⟨b,off,none⟩) n c rs) (hb:ah S w w2) (hn:b∉S):dL w2 (some ⟨b,off,none⟩) n c rs:=by
 obtain⟨h1,h2,h3,h4,h5⟩:=h;refine⟨h1,h2,h3,h4,λh0=> ?_⟩;obtain⟨b2,gA,e,hc⟩:=h5 h0
 cases e
 exact⟨_,_,rfl,λi hi=>⟨hb.af (hc i hi).1 hn,hb.af (hc i hi).2 hn⟩⟩
structure Made (p:List Int) (n t:Nat) (f:Nat->Nat):Prop where
 len:p.length=n
 one:1<=n
 cV:n<=6
 qcC:∀ i,0<i->i<n->f i<i
 af:∀ i,i<n->pa p ((i+t)%n)=if i=0 then -1 else(((f i+t)%n:Nat):Int)
theorem Se {n t i U:Nat} (hi:i<n) (hj:U<n) (h:(i+t)%n=(U+t)%n):i=U:=by
 have h1:(i+t)%n=((i+t%n)%n):=by rw[Nat.add_mod,Nat.mod_eq_of_lt hi]
 have h2:(U+t)%n=((U+t%n)%n):=by rw[Nat.add_mod,Nat.mod_eq_of_lt hj]
 have ht:t%n<n:=Nat.mod_lt _ ab;rw[h1,h2]at h;generalize t%n=s at*
 have e1:(i+s)%n=if i+s<n then i+s else i+s-n:=by
  split
  ·exact Nat.mod_eq_of_lt bk
  ·rw[Nat.mod_eq_sub_mod ab,Nat.mod_eq_of_lt ab]
 have e2:(U+s)%n=if U+s<n then U+s else U+s-n:=by
  split
  ·exact Nat.mod_eq_of_lt bk
  ·rw[Nat.mod_eq_sub_mod ab,Nat.mod_eq_of_lt ab]
 rw[e1,e2]at h;split at h <;>split at h <;>omega
theorem qcD {n t y:Nat} (hy:y<n):∃ i,i<n/\(i+t)%n=y:=by
 have ht:t%n<n:=Nat.mod_lt _ ab;have key:∀ i,(i+t)%n=(i+t%n)%n:=λi=>ao;rcases R6 y (t%n)with g|g
 ·refine⟨y+n-t%n,ab,?_⟩;rw[key,show y+n-t%n+t%n=y+n by omega,Nat.add_mod_right,Nat.mod_eq_of_lt hy]
 ·refine⟨y-t%n,ab,?_⟩;rw[key,show y-t%n+t%n=y by omega,Nat.mod_eq_of_lt hy]
theorem Made.tree {p:List Int} {n t:Nat} {f:Nat->Nat} (h:Made p n t f):cH p:=by
 have h1:=h.one
 have ex:∀ y,∃ i,y<n->i<n/\(i+t)%n=y:=λy=>by
  by_cases hy:y<n
  ·obtain⟨i,hi⟩:=qcD (t:=t) hy;exact⟨i,λ_=>hi⟩
  ·exact⟨0,λh=>absurd h hy⟩
 let R:Nat->Nat:=λy=>(ex y).choose
 have hR:∀ y,y<n->R y<n/\(R y+t)%n=y:=λy hy=>(ex y).choose_spec hy
 have zZ:∀ y,y<n->pa p y=if R y=0 then -1 else(((f (R y)+t)%n:Nat):Int):=λy hy=>by
  have:=h.af (R y) (hR y hy).1;rwa [(hR y hy).2]at this
 have K9:∀ x,x%n<n:=λx=>Nat.mod_lt _ ab;refine⟨R,by rw[h.len];exact h.one,by rw[h.len];exact h.cV,λx hx=> ?_,⟨t%n,by rw[h.len];exact K9 _,λx hx=> ?_⟩,λx hx y hy=> ?_,λx hx=> ?_⟩
 ·rw[h.len]at hx⊢;have:=K9 (f (R x)+t);rw[zZ x hx];split <;>omega
 ·rw[h.len]at hx;rw[zZ x hx];constructor
  ·intro e;split at e
   ·rename_i e0
    have:=(hR x hx).2;rw[e0,Nat.zero_add]at this;exact this.symm
   ·omega
  ·intro e;have:=(hR x hx).2;have e0:R x=0:=Se (t:=t) (hR x hx).1 ab (by rw[this,e,Nat.zero_add]);rw[if_pos e0]
 ·rw[h.len]at hx;rw[zZ x hx]at hy;split at hy
  ·omega
  ·rename_i e0
   have hf:=h.qcC (R x) ab (hR x hx).1;have kW:y<n:=by have:=K9 (f (R x)+t);omega
   have:=(hR y kW).2;have e:R y=f (R x):=Se (t:=t) (hR y kW).1 (by have:=(hR x hx).1;omega) (by rw[this];omega);omega
 ·rw[h.len]at hx;have:=(hR x hx).1;have:=h.cV;omega
end Go.Proofs.YtehaoggjlciobaaGreat

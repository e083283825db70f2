/- Part 5 of 53. -/
import Derived.Test.YtehaoggjlciobaaGreatPad
set_option linter.all false
set_option maxRecDepth 20000
set_option maxHeartbeats 16000000
namespace Go.Proofs.YtehaoggjlciobaaGreat
open Go.RowKit
structure aD where
 key:ByteArray
 n:Int
 s:Int
def aS (d:aD):List Value:=[.string d.key,.int .i64 d.n,.int .i64 d.s]
structure ax where
 key:ByteArray
 val:ByteArray
 gone:Bool
 n:Int
 s:Int
 pa:Option Addr
 pn:Nat
 pc:Nat
 ds:List aD
def a8 (v:ax):List Value:=[.string v.key,.string v.val,.bool v.gone,.int .i64 v.n,.int .i64 v.s,.slice v.pa v.pn v.pc]
def cd (s:ByteArray):List Value:=[.string s]
def qk (p:Nat):List Value:=[.pointer (some ⟨p,0,none⟩)]
structure cf where
 id:Int
 uN:Option Addr
 gR:Nat
 dz:Nat
 ds:List aD
def gS (p:cf):List Value:=[.int .i64 p.id,.slice p.uN p.gR p.dz]
def bZ (r:Rg):List Value:=[.string r.1,.string r.2]
def cJ (x:Int):List Value:=[.int .i64 x]
theorem gT:∀ a,(aS a).length=3:=λ_=>rfl
theorem J1:∀ (l:List aD),∀ u∈l.flatMap aS,u.oneCell'=true:=λl u hu=>by
 obtain⟨a,_,ha⟩:=List.mem_flatMap.1 hu;simp only[aS,KX,List.not_mem_nil,or_false]at ha;rcases ha with rfl|rfl|rfl|rfl|rfl|rfl <;>rfl
theorem gp:∀ a,(a8 a).length=6:=λ_=>rfl
theorem uO:∀ (l:List ax),∀ u∈l.flatMap a8,u.oneCell'=true:=λl u hu=>by
 obtain⟨a,_,ha⟩:=List.mem_flatMap.1 hu;simp only[a8,KX,List.not_mem_nil,or_false]at ha;rcases ha with rfl|rfl|rfl|rfl|rfl|rfl <;>rfl
theorem jU:∀ a,(cd a).length=1:=λ_=>rfl
theorem qaR:∀ (l:List ByteArray),∀ u∈l.flatMap cd,u.oneCell'=true:=λl u hu=>by
 obtain⟨a,_,ha⟩:=List.mem_flatMap.1 hu;simp only[cd,KX,List.not_mem_nil,or_false]at ha;rcases ha with rfl|rfl|rfl|rfl|rfl|rfl <;>rfl
theorem FJ:∀ a,(gS a).length=2:=λ_=>rfl
theorem QE:∀ (l:List cf),∀ u∈l.flatMap gS,u.oneCell'=true:=λl u hu=>by
 obtain⟨a,_,ha⟩:=List.mem_flatMap.1 hu;simp only[gS,KX,List.not_mem_nil,or_false]at ha;rcases ha with rfl|rfl|rfl|rfl|rfl|rfl <;>rfl
theorem nZ:∀ a,(bZ a).length=2:=λ_=>rfl
theorem J2:∀ (l:List Rg),∀ u∈l.flatMap bZ,u.oneCell'=true:=λl u hu=>by
 obtain⟨a,_,ha⟩:=List.mem_flatMap.1 hu;simp only[bZ,KX,List.not_mem_nil,or_false]at ha;rcases ha with rfl|rfl|rfl|rfl|rfl|rfl <;>rfl
theorem J3:∀ a,(cJ a).length=1:=λ_=>rfl
theorem QF:∀ (l:List Int),∀ u∈l.flatMap cJ,u.oneCell'=true:=λl u hu=>by
 obtain⟨a,_,ha⟩:=List.mem_flatMap.1 hu;simp only[cJ,KX,List.not_mem_nil,or_false]at ha;rcases ha with rfl|rfl|rfl|rfl|rfl|rfl <;>rfl
theorem kQ {w:World} {b p:Nat} {x y z:Value} (h:∀ U u,[x,y,z][U]? =some u->w.cell? ⟨b,p+U,none⟩=some u):
  w.cell? ⟨b,p,none⟩=some x/\w.cell? ⟨b,p+1,none⟩=some y/\w.cell? ⟨b,p+2,none⟩=some z:=⟨h 0 _ rfl,h 1 _ rfl,h 2 _ rfl⟩
theorem o5 {w:World} {b p:Nat} {x y z x2 y2 z2:Value} (h:∀ U u,[x,y,z,x2,y2,z2][U]? =some u->w.cell? ⟨b,p+U,none⟩=some u):
  w.cell? ⟨b,p,none⟩=some x/\w.cell? ⟨b,p+1,none⟩=some y/\w.cell? ⟨b,p+2,none⟩=some z/\w.cell? ⟨b,p+3,none⟩=some x2/\w.cell? ⟨b,p+4,none⟩=some y2/\w.cell? ⟨b,p+5,none⟩=some z2:=⟨h 0 _ rfl,h 1 _ rfl,h 2 _ rfl,h 3 _ rfl,h 4 _ rfl,h 5 _ rfl⟩
theorem iU {w:World} {b p:Nat} {x:Value} (h:∀ U u,[x][U]? =some u->w.cell? ⟨b,p+U,none⟩=some u):w.cell? ⟨b,p,none⟩=some x:=h 0 _ rfl
def fI (S:List Nat) {α:Type} (w:World) (g:Nat) (cb:Array Value) (arg:α->Value) (l:List α) (Q:α->Bool->Prop):Prop:=
 (∀ args w,(callFunc g args).run Tryz.prog w= .ok (.enter g args) w)/\∀ W,ah S w W->∀ a∈l,Calls Tryz.prog g (#[arg a]++cb) W λe W'=>∃ b,e= .returned (.bool b)/\Q a b/\ad W W'
def wP {α:Type} (l:List α) (Q:α->Bool->Prop) (r:Int):Prop:=(r= -1/\∀ a∈l,Q a false)∨∃ (i:Nat) (a:α),r=i/\l[i]? =some a/\Q a true/\∀ U a,U<i->l[U]? =some a->Q a false
theorem FK {p:Prop} (h:p:=by
  obtain⟨A,c,rfl,bl,bQ⟩:=hv.form;obtain⟨n,hn⟩:∃ n,l.length=n:=⟨_,rfl⟩;rw[hn]at hv bl⊢;have HV:=aa hv;obtain⟨lO,hq⟩:=hq;have HQ:=aa hq;have HN:=aa hn;clear hv hq hn;go_wp2;go_loopw [8] (λiv wr=>∃ U:Nat,U<=n/\iv= .int .i64 U/\ad w wr/\ag (∀ i a,i<U->l[i]? =some a->Q a false)) (λiv _=>n-(intOf iv).toNat)
  case atStart=>exact⟨0,ab,rfl,al,λi a hi=>ab⟩
  case round=>
   obtain⟨U,hj,rfl,kr,b8⟩:=hrel;by_cases an:U<n
   ·obtain⟨a,ha⟩:∃ a,l[U]? =some a:=⟨_,jc (by rw[HN.o];exact an)⟩;have HA:=aa ha;obtain⟨b,off,rfl,hb,hc⟩:=HV.o.af ha;have HT:=aa (HQ.o wr (.ar kr) a (zV ha))
    have HX:ag (∀ x,x=a->Q x false->∀ i a,i<U+1->l[i]? =some a->Q a false):=λx hx h i bI hi kR=>by
     rcases R6 i U with g|g
     ·exact b8.o i bI g kR
     ·obtain rfl:i=U:=ab;rw[HA.o]at kR;injection kR with kR;rw[<- kR,<- hx];exact h
    have HY:ag (Q a true->wP l Q U):=λh=> .inr ⟨U,a,rfl,HA.o,h,b8.o⟩;first|(obtain⟨x0,x1,x2⟩:=a;obtain⟨c0,c1,c2⟩:=kQ λU u hu=>kr.af (hc U u hu))|(obtain⟨x0,x1,x2,x3,x4,x5,x6,x7,x8⟩:=a;obtain⟨c0,c1,c2,c3,c4,c5⟩:=o5 λU u hu=>kr.af (hc U u hu))|(skip;obtain c0:=iU λU u hu=>kr.af (hc U u hu))|(skip;obtain c0:=iU λU u hu=>kr.af (hc U u hu))
    (try simp only[Nat.mul_one]at c0)
    clear hc ha HA b8;go_wp2_with fail
    refine HT.o.mono ?_;rintro e w2 ⟨b,rfl,mN,k2⟩;have mO:=aa mN;clear mN;have K2:=kr.call k2
    cases b
    ·go_wp2;go_roundw
     case rel=>first|exact⟨U+1,ab,aA,K2,HX.o _ rfl mO.o⟩|((repeat apply R7);exact⟨⟨U+1,ab,aA,K2,HX.o _ rfl mO.o⟩,rfl⟩)
     case measure=>simp[intOf];omega
    ·go_wp2;go_ret;exact⟨U,rfl,HY.o mO.o,K2⟩
   ·obtain rfl:U=n:=ab;go_wp2;go_ret
    exact⟨-1,rfl,.inl ⟨rfl,λa ha=>by
     obtain⟨i,hi⟩:=qcl.1 ha;exact b8.o i a (by have:=(bg hi);rw[HN.o]at this;exact this) hi⟩,kr⟩):p:=h
theorem J4 (v:Value) (l:List aD) (g:Nat) (cb:Array Value) (Q:aD->Bool->Prop) (w:World) (hv:Rw w 60 3 aS v l) (S:List Nat) (hq:fI S w g cb (λd=> .agg #[.string d.key,.int .i64 d.n,.int .i64 d.s]) l Q):
  Calls Tryz.prog 165 #[v,.func (.func g) #[] cb] w λe w'=>∃ r:Int,e= .returned (.int .i64 r)/\wP l Q r/\ad w w':=FK
theorem FL (v:Value) (l:List ax) (g:Nat) (cb:Array Value) (Q:ax->Bool->Prop) (w:World) (hv:Rw w 48 6 a8 v l) (S:List Nat) (hq:fI S w g cb (λv=> .agg #[.string v.key,.string v.val,.bool v.gone,.int .i64 v.n,.int .i64 v.s,.slice v.pa v.pn v.pc]) l Q):
  Calls Tryz.prog 167 #[v,.func (.func g) #[] cb] w λe w'=>∃ r:Int,e= .returned (.int .i64 r)/\wP l Q r/\ad w w':=FK
theorem QG (v:Value) (l:List ByteArray) (g:Nat) (cb:Array Value) (Q:ByteArray->Bool->Prop) (w:World) (hv:Rw w 9 1 cd v l) (S:List Nat) (hq:fI S w g cb (λs=> .string s) l Q):
  Calls Tryz.prog 218 #[v,.func (.func g) #[] cb] w λe w'=>∃ r:Int,e= .returned (.int .i64 r)/\wP l Q r/\ad w w':=FK
theorem qaS (v:Value) (l:List Nat) (g:Nat) (cb:Array Value) (Q:Nat->Bool->Prop) (w:World) (hv:Rw w 83 1 qk v l) (S:List Nat) (hq:fI S w g cb (λp=> .pointer (some ⟨p,0,none⟩)) l Q):
  Calls Tryz.prog 190 #[v,.func (.func g) #[] cb] w λe w'=>∃ r:Int,e= .returned (.int .i64 r)/\wP l Q r/\ad w w':=FK
theorem FM {p:Prop} (h:p:=by
  have HV:=aa hv;have HQ:=aa hq;clear hv hq;go_in;go_wp2_with fail
  (first|refine(J4 v l g cb Q _ HV.o S HQ.o).mono ?_|refine(FL v l g cb Q _ HV.o S HQ.o).mono ?_|refine(QG v l g cb Q _ HV.o S HQ.o).mono ?_|refine(qaS v l g cb Q _ HV.o S HQ.o).mono ?_)
  rintro e w2 ⟨r,rfl,hr,k2⟩;have HR:=aa hr;clear hr;have hb:∃ b:Bool,decide (0<=r)=b:=⟨_,rfl⟩;go_wp2;go_ret;refine⟨decide (0<=r),rfl,λh=> ?_,λh=> ?_,k2⟩
  ·rcases HR.o with ⟨rfl,_⟩|⟨i,a,rfl,hi,ha,_⟩
   ·simp at h
   ·exact⟨a,zV hi,ha⟩
  ·rcases HR.o with ⟨rfl,h2⟩|⟨i,a,rfl,hi,ha,_⟩
   ·exact h2
   ·simp at h):p:=h
theorem qaT (v:Value) (l:List aD) (g:Nat) (cb:Array Value) (Q:aD->Bool->Prop) (w:World) (hv:Rw w 60 3 aS v l) (S:List Nat) (hq:fI S w g cb (λd=> .agg #[.string d.key,.int .i64 d.n,.int .i64 d.s]) l Q):
  Calls Tryz.prog 233 #[v,.func (.func g) #[] cb] w λe w'=>∃ b:Bool,e= .returned (.bool b)/\(b=true->∃ a∈l,Q a true)/\(b=false->∀ a∈l,Q a false)/\ad w w':=FM
theorem qaU (v:Value) (l:List ax) (g:Nat) (cb:Array Value) (Q:ax->Bool->Prop) (w:World) (hv:Rw w 48 6 a8 v l) (S:List Nat) (hq:fI S w g cb (λv=> .agg #[.string v.key,.string v.val,.bool v.gone,.int .i64 v.n,.int .i64 v.s,.slice v.pa v.pn v.pc]) l Q):
  Calls Tryz.prog 241 #[v,.func (.func g) #[] cb] w λe w'=>∃ b:Bool,e= .returned (.bool b)/\(b=true->∃ a∈l,Q a true)/\(b=false->∀ a∈l,Q a false)/\ad w w':=FM
theorem qaV (v:Value) (l:List ByteArray) (g:Nat) (cb:Array Value) (Q:ByteArray->Bool->Prop) (w:World) (hv:Rw w 9 1 cd v l) (S:List Nat) (hq:fI S w g cb (λs=> .string s) l Q):
  Calls Tryz.prog 155 #[v,.func (.func g) #[] cb] w λe w'=>∃ b:Bool,e= .returned (.bool b)/\(b=true->∃ a∈l,Q a true)/\(b=false->∀ a∈l,Q a false)/\ad w w':=FM
theorem qaW (v:Value) (l:List Nat) (g:Nat) (cb:Array Value) (Q:Nat->Bool->Prop) (w:World) (hv:Rw w 83 1 qk v l) (S:List Nat) (hq:fI S w g cb (λp=> .pointer (some ⟨p,0,none⟩)) l Q):
  Calls Tryz.prog 118 #[v,.func (.func g) #[] cb] w λe w'=>∃ b:Bool,e= .returned (.bool b)/\(b=true->∃ a∈l,Q a true)/\(b=false->∀ a∈l,Q a false)/\ad w w':=FM
theorem Rw.flat {α:Type} {w:World} {e:TypeId} {k n c:Nat} {f:α->List Value} {b off:Nat} {l:List α} (h:Rw w e k f (.slice (some ⟨b,off,none⟩) n c) l) (hf:∀ a,(f a).length=k) (hk:0<k):
  n=l.length/\∀ U u,(l.flatMap f)[U]? =some u->w.cell? ((⟨b,off,none⟩:Addr).add U)=some u:=by
 have hn:n=l.length:=by obtain⟨A,c',hv,_⟩:=h;injection hv
 refine⟨hn,λU u hu=> ?_⟩;have hj:U<l.length*k:=by have:=(bg hu);rwa [eF hf]at this
 have hi:U/k<l.length:=(Nat.div_lt_iff_lt_mul hk).2 hj;obtain⟨nY,qj,hA,_,hc⟩:=h.af (jc hi);injection hA with hA;injection hA with h1 h2 _;subst h1 h2;have hm:U%k<(f l[U/k]).length:=by rw[hf];exact Nat.mod_lt _ hk
 have h3:=rV hf l (U/k) _ (jc hi) (U%k) _ (jc hm);have h4:=hc (U%k) _ (jc hm);have h5:U/k*k+U%k=U:=by rw[Nat.mul_comm];exact Nat.div_add_mod U k
 rw[h5,hu]at h3;injection h3 with h3;rw[show off+U/k*k+U%k=off+U by omega,<- h3]at h4;have e:((⟨b,off,none⟩:Addr).add U)=⟨b,off+U,none⟩:=by simp[Addr.add]
 rw[e];exact h4
theorem uP:(Tryz.prog.info? 60).map (λi=>(i.zero,i.size,i.bytes))=some (some (.agg #[.string ⟨#[]⟩,.int .i64 0,.int .i64 0]),3,32):=av
theorem ql:(Tryz.prog.info? 48).map (λi=>(i.zero,i.size,i.bytes))=some (some (.agg #[.string ⟨#[]⟩,.string ⟨#[]⟩,.bool false,.int .i64 0,.int .i64 0,.slice none 0 0]),6,80):=av
theorem FN:(Tryz.prog.info? 166).map (λi=>(i.zero,i.size,i.bytes))=some (some (.agg #[.int .i64 0,.slice none 0 0]),2,32):=av
theorem B4:(Tryz.prog.info? 9).map (λi=>(i.zero,i.size,i.bytes))=some (some (.string ⟨#[]⟩),1,16):=av
theorem J5:(Tryz.prog.info? 3).map (λi=>(i.zero,i.size,i.bytes))=some (some (.int .i64 0),1,8):=av
structure El {α:Type} (CF:α->List Value) (K TE SL B:Nat) (Z:Value):Prop where
 len:∀ a,(CF a).length=K
 one:∀ l:List α,∀ u∈l.flatMap CF,u.oneCell'=true
 pos:0<K
 zj:Tryz.prog.underlying SL=some (.slice TE)
 inf:(Tryz.prog.info? TE).map (λi=>(i.zero,i.size,i.bytes))=some (some Z,K,B)
 zer:(Value.cells Z).size=K
 bx:B<=80
def zk {α:Type} (F K TE:Nat) (CF:α->List Value):Prop:=∀ (v:Value) (l:List α) (w:World),Rw w TE K CF v l->l.length<=1000000000000->
  Calls Tryz.prog F #[v] w λe w'=>∃ v',e= .returned v'/\w'.ownsRow w.heap.size TE K v' l.length (l.flatMap CF)/\ad w w'
theorem zm {α:Type} {CF:α->List Value} {K TE SL B:Nat} {Z v:Value} {l:List α} {w:World} (E:El CF K TE SL B Z) (hv:Rw w TE K CF v l):
  (v= .slice none 0 0/\l=[])∨∃ b off n c xs,v= .slice (some ⟨b,off,none⟩) n c/\l.length=n/\n<=c/\c<=9223372036854775807/\l.flatMap CF=xs/\xs.length=n*K/\(∀ u∈xs,u.oneCell'=true)/\
   (w.alloc (.cells #[] TE)).ownsRow w.heap.size TE K (.slice (some ⟨w.heap.size,0,none⟩) 0 0) 0 []/\ag (∀ U u,xs[U]? =some u->(w.alloc (.cells #[] TE)).cell? ((⟨b,off,none⟩:Addr).add U)=some u):=by
 obtain⟨A,c,rfl,bl,bQ⟩:=hv.form
 cases A with
 |none=>
  obtain⟨A,c',lP,_,_,h3,_⟩:=hv;injection lP with h1 h2 h4;subst h1;obtain⟨rfl,h5⟩:=h3 rfl;subst h4 h5;exact .inl ⟨rfl,rfl⟩
 |some p=>
  obtain⟨b,off,rfl⟩:∃ b off,p=⟨b,off,none⟩:=by
   obtain⟨A,c',lP,_,_,_,h4⟩:=hv;injection lP with h1 h2 h3;obtain⟨b,off,cur,hA,_⟩:=h4 p h1.symm;exact⟨b,off,hA⟩
  exact .inr ⟨b,off,_,c,_,rfl,rfl,bl,bQ,rfl,eF E.len l,E.one l,BK w TE [] 0 K ao ak,λU u hu=>((ad.refl w).alloc _).af ((hv.flat E.len E.pos).2 U u hu)⟩
theorem B8:El aS 3 60 46 32 (.agg #[.string ⟨#[]⟩,.int .i64 0,.int .i64 0]):=⟨gT,J1,ak,Tryz.underlying46,uP,rfl,ak⟩
theorem FO:zk 148 3 60 aS:=by
 intro v l w hv hb;rcases zm B8 hv with ⟨rfl,rfl⟩|⟨b,off,n,c,xs,rfl,hn,bl,bQ,bP,hl,h1,bA,H2⟩
 ·have hq:=λW=>Lib.run_eql_slice_nil (P:=Tryz.prog) W 46 60 none 0 0 0 0 Tryz.underlying46;go_wp2;go_ret;exact⟨_,rfl,qcb _ _ _ _,al⟩
 ·rw[hn]at hb⊢;rw[bP];clear hv hn bP;obtain⟨i0,hi,a7,aY,aW⟩:=ql0 uP;have hq:=λW=>Lib.run_eql_slice_nil (P:=Tryz.prog) W 46 60 (some ⟨b,off,none⟩) n c 0 0 Tryz.underlying46;go_in;go_wp2_with (at_builtin;refine wpList_append_own _ rfl _ _ 46 rfl w.heap.size 60 i0 (.agg #[.string ⟨#[]⟩,.int .i64 0,.int .i64 0]) 3 32 Tryz.underlying46 hi a7 aY aW rfl ak _ 0 [] rfl bA ⟨b,off,none⟩ n c xs rfl hl H2.o h1 (by unfold maxLen;omega) ab ao ?_;intro v3 w3 bE cD _)
  simp only[Nat.zero_add,List.nil_append]at bE;go_ret;exact⟨v3,rfl,bE,((ad.refl w).alloc _).grown cD (by intro g hg;have h9:some w.heap.size=some g:=hg;injection h9 with h9;exact Nat.le_of_eq h9)⟩
theorem B9:El a8 6 48 33 80 (.agg #[.string ⟨#[]⟩,.string ⟨#[]⟩,.bool false,.int .i64 0,.int .i64 0,.slice none 0 0]):=⟨gp,uO,ak,Tryz.underlying33,ql,rfl,ak⟩
theorem FP:zk 251 6 48 a8:=by
 intro v l w hv hb;rcases zm B9 hv with ⟨rfl,rfl⟩|⟨b,off,n,c,xs,rfl,hn,bl,bQ,bP,hl,h1,bA,H2⟩
 ·have hq:=λW=>Lib.run_eql_slice_nil (P:=Tryz.prog) W 33 48 none 0 0 0 0 Tryz.underlying33;go_wp2;go_ret;exact⟨_,rfl,qcb _ _ _ _,al⟩
 ·rw[hn]at hb⊢;rw[bP];clear hv hn bP;obtain⟨i0,hi,a7,aY,aW⟩:=ql0 ql;have hq:=λW=>Lib.run_eql_slice_nil (P:=Tryz.prog) W 33 48 (some ⟨b,off,none⟩) n c 0 0 Tryz.underlying33;go_in;go_wp2_with (at_builtin;refine wpList_append_own _ rfl _ _ 33 rfl w.heap.size 48 i0 (.agg #[.string ⟨#[]⟩,.string ⟨#[]⟩,.bool false,.int .i64 0,.int .i64 0,.slice none 0 0]) 6 80 Tryz.underlying33 hi a7 aY aW rfl ak _ 0 [] rfl bA ⟨b,off,none⟩ n c xs rfl hl H2.o h1 (by unfold maxLen;omega) ab ao ?_;intro v3 w3 bE cD _)
  simp only[Nat.zero_add,List.nil_append]at bE;go_ret;exact⟨v3,rfl,bE,((ad.refl w).alloc _).grown cD (by intro g hg;have h9:some w.heap.size=some g:=hg;injection h9 with h9;exact Nat.le_of_eq h9)⟩
theorem qaX:El bZ 2 63 27 32 (.agg #[.string ⟨#[]⟩,.string ⟨#[]⟩]):=⟨nZ,J2,ak,Tryz.underlying27,rU,rfl,ak⟩
theorem FQ:zk 49 2 63 bZ:=by
 intro v l w hv hb;rcases zm qaX hv with ⟨rfl,rfl⟩|⟨b,off,n,c,xs,rfl,hn,bl,bQ,bP,hl,h1,bA,H2⟩
 ·have hq:=λW=>Lib.run_eql_slice_nil (P:=Tryz.prog) W 27 63 none 0 0 0 0 Tryz.underlying27;go_wp2;go_ret;exact⟨_,rfl,qcb _ _ _ _,al⟩
 ·rw[hn]at hb⊢;rw[bP];clear hv hn bP;obtain⟨i0,hi,a7,aY,aW⟩:=ql0 rU;have hq:=λW=>Lib.run_eql_slice_nil (P:=Tryz.prog) W 27 63 (some ⟨b,off,none⟩) n c 0 0 Tryz.underlying27;go_in;go_wp2_with (at_builtin;refine wpList_append_own _ rfl _ _ 27 rfl w.heap.size 63 i0 (.agg #[.string ⟨#[]⟩,.string ⟨#[]⟩]) 2 32 Tryz.underlying27 hi a7 aY aW rfl ak _ 0 [] rfl bA ⟨b,off,none⟩ n c xs rfl hl H2.o h1 (by unfold maxLen;omega) ab ao ?_;intro v3 w3 bE cD _)
  simp only[Nat.zero_add,List.nil_append]at bE;go_ret;exact⟨v3,rfl,bE,((ad.refl w).alloc _).grown cD (by intro g hg;have h9:some w.heap.size=some g:=hg;injection h9 with h9;exact Nat.le_of_eq h9)⟩
theorem Ca:El gS 2 166 80 32 (.agg #[.int .i64 0,.slice none 0 0]):=⟨FJ,QE,ak,Tryz.underlying80,FN,rfl,ak⟩
theorem QH:zk 163 2 166 gS:=by
 intro v l w hv hb;rcases zm Ca hv with ⟨rfl,rfl⟩|⟨b,off,n,c,xs,rfl,hn,bl,bQ,bP,hl,h1,bA,H2⟩
 ·have hq:=λW=>Lib.run_eql_slice_nil (P:=Tryz.prog) W 80 166 none 0 0 0 0 Tryz.underlying80;go_wp2;go_ret;exact⟨_,rfl,qcb _ _ _ _,al⟩
 ·rw[hn]at hb⊢;rw[bP];clear hv hn bP;obtain⟨i0,hi,a7,aY,aW⟩:=ql0 FN;have hq:=λW=>Lib.run_eql_slice_nil (P:=Tryz.prog) W 80 166 (some ⟨b,off,none⟩) n c 0 0 Tryz.underlying80;go_in;go_wp2_with (at_builtin;refine wpList_append_own _ rfl _ _ 80 rfl w.heap.size 166 i0 (.agg #[.int .i64 0,.slice none 0 0]) 2 32 Tryz.underlying80 hi a7 aY aW rfl ak _ 0 [] rfl bA ⟨b,off,none⟩ n c xs rfl hl H2.o h1 (by unfold maxLen;omega) ab ao ?_;intro v3 w3 bE cD _)
  simp only[Nat.zero_add,List.nil_append]at bE;go_ret;exact⟨v3,rfl,bE,((ad.refl w).alloc _).grown cD (by intro g hg;have h9:some w.heap.size=some g:=hg;injection h9 with h9;exact Nat.le_of_eq h9)⟩
theorem qaY:El cd 1 9 34 16 (.string ⟨#[]⟩):=⟨jU,qaR,ak,Tryz.underlying34,B4,rfl,ak⟩
theorem QJ:zk 97 1 9 cd:=by
 intro v l w hv hb;rcases zm qaY hv with ⟨rfl,rfl⟩|⟨b,off,n,c,xs,rfl,hn,bl,bQ,bP,hl,h1,bA,H2⟩
 ·have hq:=λW=>Lib.run_eql_slice_nil (P:=Tryz.prog) W 34 9 none 0 0 0 0 Tryz.underlying34;go_wp2;go_ret;exact⟨_,rfl,qcb _ _ _ _,al⟩
 ·rw[hn]at hb⊢;rw[bP];clear hv hn bP;obtain⟨i0,hi,a7,aY,aW⟩:=ql0 B4;have hq:=λW=>Lib.run_eql_slice_nil (P:=Tryz.prog) W 34 9 (some ⟨b,off,none⟩) n c 0 0 Tryz.underlying34;go_in;go_wp2_with (at_builtin;refine wpList_append_own _ rfl _ _ 34 rfl w.heap.size 9 i0 (.string ⟨#[]⟩) 1 16 Tryz.underlying34 hi a7 aY aW rfl ak _ 0 [] rfl bA ⟨b,off,none⟩ n c xs rfl hl H2.o h1 (by unfold maxLen;omega) ab ao ?_;intro v3 w3 bE cD _)
  simp only[Nat.zero_add,List.nil_append]at bE;go_ret;exact⟨v3,rfl,bE,((ad.refl w).alloc _).grown cD (by intro g hg;have h9:some w.heap.size=some g:=hg;injection h9 with h9;exact Nat.le_of_eq h9)⟩
theorem qaZ:El cJ 1 3 22 8 (.int .i64 0):=⟨J3,QF,ak,Tryz.underlying22,J5,rfl,ak⟩
theorem QK:zk 50 1 3 cJ:=by
 intro v l w hv hb;rcases zm qaZ hv with ⟨rfl,rfl⟩|⟨b,off,n,c,xs,rfl,hn,bl,bQ,bP,hl,h1,bA,H2⟩
 ·have hq:=λW=>Lib.run_eql_slice_nil (P:=Tryz.prog) W 22 3 none 0 0 0 0 Tryz.underlying22;go_wp2;go_ret;exact⟨_,rfl,qcb _ _ _ _,al⟩
 ·rw[hn]at hb⊢;rw[bP];clear hv hn bP;obtain⟨i0,hi,a7,aY,aW⟩:=ql0 J5;have hq:=λW=>Lib.run_eql_slice_nil (P:=Tryz.prog) W 22 3 (some ⟨b,off,none⟩) n c 0 0 Tryz.underlying22;go_in;go_wp2_with (at_builtin;refine wpList_append_own _ rfl _ _ 22 rfl w.heap.size 3 i0 (.int .i64 0) 1 8 Tryz.underlying22 hi a7 aY aW rfl ak _ 0 [] rfl bA ⟨b,off,none⟩ n c xs rfl hl H2.o h1 (by unfold maxLen;omega) ab ao ?_;intro v3 w3 bE cD _)
  simp only[Nat.zero_add,List.nil_append]at bE;go_ret;exact⟨v3,rfl,bE,((ad.refl w).alloc _).grown cD (by intro g hg;have h9:some w.heap.size=some g:=hg;injection h9 with h9;exact Nat.le_of_eq h9)⟩
end Go.Proofs.YtehaoggjlciobaaGreat

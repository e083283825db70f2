/- The statement Rows.TopCausalSaid: for every input the law TopCausal returns true, and each argument reads afterwards as it read before. No condition. -/
import Derived.Test.YtehaoggjlciobaaGreatRows
import Derived.Test.YtehaoggjlciobaaGreatTopCausalFacts
import Derived.Test.YtehaoggjlciobaaGreatQby
import Derived.WalkKit
import Derived.ProofKit
import Derived.OpenShut
import Derived.ShutString
import Derived.ChangeOld
import Derived.Below
import Derived.Lib.SmallJoins
set_option linter.all false
namespace Go.Proofs.YtehaoggjlciobaaGreat.topCausalDone
open Go.ChangeShapes Go.WideShapes Go.ChangeAt Go.RowKit Go.Joins Go.Proofs.Tryz
open Go.Proofs.YtehaoggjlciobaaGreat.Rows (topCausalSpec topCausalRow)
open Go.ChangeMaps (open_string shut_string)
theorem own:ownKnob prog.godebug=none:=by kernel_rfl
theorem laidOut:laidOutB prog=true:=by kernel_rfl
theorem qj6:prog.cellsOf 24=3:=by kernel_rfl
set_option maxRecDepth 100000 in
theorem lifted (os:Os) (started:os.Started) (H:Type) (enc:TypeId×Value→H):
  ReturnsInHanded {} checked os 3 .any (topCausalSpec.pre6 enc prog f3 topCausalRow.domain false) (topCausalSpec.post enc prog f3 false true false false):=by
 refine returnsInHanded_of_change (C:=checked) own started (by kernel_rfl) func3
  (ChangeSpec.witness6 (enc:=enc) (C:=checked) false ⟨#[],#[.agg #[.slice none 0 0,.slice none 0 0,.slice none 0 0],.slice none 0 0],[]⟩ 8 (by kernel_rfl) (by kernel_rfl) (by kernel_rfl) (by kernel_rfl)) ?_
 intro W base args ds gs before qae hW Xr _
 have Jy:∀ (U:Nat) t v,f3.params[U]? =some t→args[U]? =some v→Value.okWide prog W .any base t v:=qae
 have hW':=hW
 obtain⟨p,q,hA0,mE,rfl,uV,ek⟩:=hW
 have hA:DataW.TrodAll enc prog W 0 (fun _=>true) true f3.params.toList args.toList ds p:=hA0
 rw[params3]at hA Jy
 obtain⟨v0,vs0,d0,ds0,p0,q0,qlX,rfl,rfl,h0,r_0⟩:=trodAll_cons hA
 obtain⟨v1,vs1,d1,ds1,p1,q1,rfl,rfl,rfl,h1,r_1⟩:=trodAll_cons r_0
 obtain⟨rfl,rfl,rfl⟩:=trodAll_nil r_1
 obtain rfl:args= #[v0,v1]:=by cases args;simp_all
 obtain⟨rfl,rfl⟩:=trodVars_none mE
 have pq:=h0
 have lt0:∀ x∈p0,x.block<W.heap.size:=by obtain⟨m,hm⟩:=pq;exact DataW.trod_lt m _ _ _ hm
 obtain⟨c0a,c0b,c0c,y0a,y0b,y0c,m0,rfl,_,_,qj7,qj8,qj9⟩:=open_agg3 underlying24 (by kernel_rfl) qj6 (Jy 0 24 v0 rfl rfl) h0
 obtain⟨qj',qka,qkb,qkc,qaf,qkd,qke⟩:=Gv underlying22 underlying3 (by kernel_rfl) qj7
 obtain⟨qkf,qkg,qkh,qki,qag,qkj,qkk⟩:=Gv underlying22 underlying3 (by kernel_rfl) qj8
 obtain⟨qkl,qkm,qkn,qko,qah,qkp,qkq⟩:=Gv underlying22 underlying3 (by kernel_rfl) qj9
 simp only[List.cons.injEq,and_true]at qaf qag qah
 subst qaf qag qah
 have k1:=h1
 have lt1:∀ x∈p1,x.block<W.heap.size:=by obtain⟨m,hm⟩:=k1;exact DataW.trod_lt m _ _ _ hm
 obtain⟨ad1,n1,c1,rfl⟩:=okWide_slice underlying25 (Jy 1 25 v1 rfl rfl)
 obtain⟨xs1,r1a,r1b⟩:=qjf k1
 clear hA0 qae
 refine(topCausal_walk qj' qka qkb qkc qkf qkg qkh qki qkl qkm qkn qko ad1 n1 c1 xs1 W qkd qke qkj qkk qkp qkq r1a r1b).mono fun e W' ⟨he,qkr⟩=> ?_
 have Jz:Below W.heap.size W W':=qkr
 subst he
 exact⟨_,rfl,_,_,_,[],_,[],hW',trodAll_mk1 (shut_bool underlying4 _),(trodAll_cons_mk (Below.trod laidOut (by kernel_rfl) (of_decide_eq_true (by kernel_rfl)) pq Jz lt0) (trodAll_cons_mk (Below.trod laidOut (by kernel_rfl) (of_decide_eq_true (by kernel_rfl)) k1 Jz lt1) trodAll_mk0)),rfl,Jz.frame _,fun h=>by cases h⟩
theorem eV {a b:Bool} (h:a=true) (k:b=true):(a&&b)=true:=by rw[h,k];rfl
set_option maxRecDepth 100000 in
theorem closed:joinedFacts prog 3 f3 topCausalSpec topCausalRow=true:=(eV (eV (eV (eV (eV (eV (eV (eV (eV (eV (eV (eV (eV (eV (eV (eV (eV (eV (eV (eV (eV (eV (eV (eV (eV (eV (eV (eV (eV (eV (eV qjZ J6) j2) FT) qj0) qj1) qj2) qj3) qj4) qj5) j10) j11) j12) j13) j14) j15) j16) j17) j18) j19) j20) j21) j22) j23) j24) j25) j26) j27) j28) j29) j30) j31)
theorem Lj:topCausalRow.holds Tryz.pinned (OpenSpec.ofChange topCausalSpec):=
 OpenClaim.holds_of_wide 3 f3 rfl rfl rfl rfl rfl rfl rfl ⟨rfl,rfl,rfl,rfl,rfl⟩ rfl rfl rfl rfl rfl (by kernel_rfl) func3 closed
  (of_decide_eq_true (by kernel_rfl)) (by unfold Func.isWrapper;first|(rw[if_pos (by decide+kernel)];kernel_rfl)|(rw[if_neg (by decide+kernel)];exact⟨rfl,rfl⟩))
  (fun os started H enc _=>lifted os started H enc)
theorem proved:Rows.TopCausalSaid:=Lj
end Go.Proofs.YtehaoggjlciobaaGreat.topCausalDone

/- The net's map of sessions. -/
import Derived.Test.YtbofoafcglmboaaLinkX
import Derived.Test.YtbofoafcglmboaaDet
import Derived.Maps.Views
import Derived.Maps.Own
import Derived.Maps.RangeWalk
import Derived.DeepKeys4
set_option linter.unusedSimpArgs false
set_option linter.unusedVariables false
namespace Go.Proofs.Ytbofoafcglmboaa
open Go.RowKit Go.Maps

theorem laidN : laidOutB Try.prog = true := by kernel_rfl
theorem rowPair : (57 : TypeId) < Try.prog.types.size := of_decide_eq_true (by kernel_rfl)
theorem widePair : (match Try.prog.underlying 57 with | some (.array _ _) | some (.struct _) => true | _ => false) = true := by rw [Try.underlying57]
theorem keyPair : Keyed Try.prog 57 := Keyed.of_law (deep_law_laid laidN (m := 2) (by omega) rowPair (by kernel_rfl) widePair)
def pr2 (a c : Nat) : Value := .agg #[.int .i64 (a : Int), .int .i64 (c : Int)]
theorem key_all : ∀ a c : Fin 6, (keyOf Try.prog 57 (pr2 a c)).isSome = true := of_decide_eq_true (by kernel_rfl)
noncomputable def kl (a c : Nat) : Lit := (keyOf Try.prog 57 (pr2 a c)).getD (.bool false)
theorem kl_key {a c : Nat} (ha : a < 6) (hc : c < 6) : keyOf Try.prog 57 (pr2 a c) = some (kl a c) := by
  have h := key_all ⟨a, ha⟩ ⟨c, hc⟩
  unfold kl
  obtain ⟨x, hx⟩ := Option.isSome_iff_exists.1 h
  simp only at hx
  rw [hx]; rfl
theorem kl_is {a c : Nat} (ha : a < 6) (hc : c < 6) : WideAt.IsKeyLit (kl a c) := keyPair.key (kl_key ha hc)
theorem kl_inj {a c b d : Nat} (ha : a < 6) (hc : c < 6) (hb : b < 6) (hd : d < 6) (h : kl a c = kl b d) : a = b ∧ c = d := by
  have h1 := kl_key ha hc
  have h2 := kl_key hb hd
  rw [← h] at h2
  have h3 := keyPair.inj h1 h2
  unfold pr2 at h3
  simp at h3
  omega
/-- How a session's pointer reads. -/
def Rp (v : Value) : Option (DataW Unit × List MemPlace) :=
  match v with
  | .pointer none => some (.nil, [])
  | .pointer (some ⟨b, 0, none⟩) => some (.lit (.int .i64 (b : Int)), [])
  | _ => none
theorem Rp_some (s : Nat) : Rp (.pointer (some ⟨s, 0, none⟩)) = some (.lit (.int .i64 (s : Int)), []) := by simp [Rp]
theorem Rp_none : Rp (.pointer none) = some (.nil, []) := rfl
theorem Rp_inv {v : Value} {s : Nat} {ps : List MemPlace} (h : Rp v = some (.lit (.int .i64 (s : Int)), ps)) : v = .pointer (some ⟨s, 0, none⟩) := by
  unfold Rp at h
  split at h
  · simp at h
  · rename_i b
    simp at h
    have : b = s := by omega
    rw [this]
  · cases h
theorem Rp_inv_nil {v : Value} {ps : List MemPlace} (h : Rp v = some (.nil, ps)) : v = .pointer none := by
  unfold Rp at h
  split at h
  · rfl
  · simp at h
  · cases h
abbrev Who := Nat → Nat → Option Nat
/-- Block b is the map of the sessions S, of n entries at most. -/
def PM (w : World) (b n : Nat) (S : Who) : Prop := ∃ D, w.ownsMap Try.prog 57 Rp b n D ∧
  (∀ a c, a < 6 → c < 6 → ∀ z, D.atKey (kl a c) z = match S a c with | some s => .lit (.int .i64 (s : Int)) | none => z) ∧
  (∀ k, Maps.has D k = true → ∃ a c s, a < 6 ∧ c < 6 ∧ S a c = some s ∧ k = kl a c)
theorem PM.new (w : World) : PM (w.alloc (.map #[] 0)) w.heap.size 0 (fun _ _ => none) :=
  ⟨_, World.ownsMap_made w _ _ _, fun a c _ _ z => rfl, fun k h => by simp [Maps.has] at h⟩
theorem PM.lt {w : World} {b n : Nat} {S : Who} (h : PM w b n S) : b < w.heap.size := by
  obtain ⟨D, h1, _⟩ := h; exact h1.lt
theorem PM.but {w w2 : World} {b n : Nat} {S : Who} {X : List Nat} (h : PM w b n S) (hb : But X w w2) (hn : b ∉ X) : PM w2 b n S := by
  obtain ⟨D, ⟨es, clock, h1, h2⟩, h3⟩ := h
  exact ⟨D, ⟨es, clock, hb.heap h1 hn, h2⟩, h3⟩
theorem PM.keep {w w2 : World} {b n : Nat} {S : Who} (h : PM w b n S) (hk : Kept w w2) : PM w2 b n S := h.but (.of_kept (S := []) hk) (by simp)
theorem zeroSess (w : World) : (zeroValue 49).run Try.prog w = .ok (.pointer none) w := by kernel_rfl
def ptr (o : Option Nat) : Value := match o with | some s => .pointer (some ⟨s, 0, none⟩) | none => .pointer none
theorem PM.look {w : World} {b n : Nat} {S : Who} (h : PM w b n S) {a c : Nat} (ha : a < 6) (hc : c < 6) :
    (Instr.lookup 46 (.map (some b)) (.agg #[.int .i64 (a : Int), .int .i64 (c : Int)]) false).run Try.prog w = .ok (ptr (S a c)) w := by
  obtain ⟨D, h1, h2, _⟩ := h
  obtain ⟨v, ps, hrun, hv⟩ := h1.lookup keyPair Try.underlying46 (zeroSess w) Rp_none (kl_key ha hc)
  rw [show (Value.agg #[.int .i64 (a : Int), .int .i64 (c : Int)]) = pr2 a c from rfl, hrun]
  rw [h2 a c ha hc] at hv
  unfold ptr
  cases hs : S a c with
  | none => rw [hs] at hv; rw [Rp_inv_nil hv]
  | some s => rw [hs] at hv; rw [Rp_inv hv]
def upd (S : Who) (a c s : Nat) : Who := fun x y => if x = a ∧ y = c then some s else S x y
theorem PM.put {w : World} {b n : Nat} {S : Who} (h : PM w b n S) {a c : Nat} (ha : a < 6) (hc : c < 6) (s : Nat) (hn : n < maxLen) :
    ∃ w', (Instr.mapUpdate 46 (.map (some b)) (.agg #[.int .i64 (a : Int), .int .i64 (c : Int)]) (.pointer (some ⟨s, 0, none⟩))).run Try.prog w = .ok () w' ∧ PM w' b (n + 1) (upd S a c s) ∧ w.grownBy w' (some b) := by
  obtain ⟨D, h1, h2, h3⟩ := h
  obtain ⟨w', hrun, ho, hg⟩ := h1.update keyPair Try.underlying46 hn (kl_key ha hc) (Rp_some s)
  have hm : IsMap D := by
    obtain ⟨es, clock, _, _, _, hD⟩ := h1
    exact ⟨_, hD⟩
  refine ⟨w', hrun, ⟨_, ho, fun x y hx hy z => ?_, fun k hk => ?_⟩, hg⟩
  · unfold upd
    by_cases e : x = a ∧ y = c
    · obtain ⟨rfl, rfl⟩ := e
      rw [if_pos ⟨rfl, rfl⟩, atKey_put_same hm (kl_is hx hy)]
    · rw [if_neg e, atKey_put_other (fun g => e (kl_inj hx hy ha hc g)), h2 x y hx hy]
  · by_cases e : k = kl a c
    · exact ⟨a, c, s, ha, hc, by simp [upd], e⟩
    · rw [has_put_other e] at hk
      obtain ⟨x, y, t, hx, hy, hs, rfl⟩ := h3 k hk
      exact ⟨x, y, t, hx, hy, by unfold upd; rw [if_neg]; exact hs; rintro ⟨rfl, rfl⟩; exact e rfl, rfl⟩
end Go.Proofs.Ytbofoafcglmboaa

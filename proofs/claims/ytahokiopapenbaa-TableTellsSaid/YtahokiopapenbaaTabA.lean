/- Keys and ranges whose ends are letters, in plain Lean. -/
import Derived.Test.YtahokiopapenbaaKit
import Derived.Laws.Strings
set_option linter.unusedSimpArgs false
set_option linter.unusedVariables false
namespace Go.Proofs.Ytahokiopapenbaa

/-- A text of one byte. -/
def ch (c : Nat) : ByteArray := ⟨#[UInt8.ofNat c]⟩
def nil : ByteArray := ⟨#[]⟩
/-- A text's first byte; -1: it has none. -/
def hv (s : ByteArray) : Int := match s.toList with
  | [] => -1
  | x :: _ => (x.toNat : Int)
theorem ba_toList (a : Array UInt8) : (⟨a⟩ : ByteArray).toList = a.toList := by
  have : ∀ (s : ByteArray), s.toList = s.data.toList := fun s => ByteArray.toList_eq s
  rw [this]
theorem ch_toList (c : Nat) : (ch c).toList = [UInt8.ofNat c] := by unfold ch; rw [ba_toList]
theorem nil_toList : nil.toList = [] := by unfold nil; rw [ba_toList]
theorem hv_ge (s : ByteArray) : -1 ≤ hv s := by
  unfold hv
  split <;> omega
theorem less_nil (s : ByteArray) : Op.bytesLess s.toList nil.toList = false := by
  rw [nil_toList]
  cases s.toList <;> rfl
theorem less_ch (s : ByteArray) {c : Nat} (hc : c < 256) : Op.bytesLess s.toList (ch c).toList = decide (hv s < c) := by
  rw [ch_toList]
  unfold hv
  cases h : s.toList with
  | nil => simp [Op.bytesLess]; omega
  | cons x t =>
    have e : Op.bytesLess t [] = false := by cases t <;> rfl
    simp only [Op.bytesLess, e, Bool.and_false, Bool.or_false]
    have : (UInt8.ofNat c).toNat = c := by simp; omega
    rw [Bool.eq_iff_iff, decide_eq_true_iff, decide_eq_true_iff, UInt8.lt_iff_toNat_lt, this]
    omega
theorem hv_ch {c : Nat} (hc : c < 256) : hv (ch c) = c := by
  unfold hv
  rw [ch_toList]
  simp
  omega
theorem hv_nil : hv nil = -1 := by unfold hv; rw [nil_toList]

/-- Which letter ends range i. -/
def g (es : List Nat) (i : Nat) : Nat := es[i]?.getD 0
/-- Where range i begins, where it ends. -/
def fr (es : List Nat) (i : Nat) : ByteArray := if i = 0 then nil else ch (g es (i - 1))
def to (es : List Nat) (i : Nat) : ByteArray := if i < es.length then ch (g es i) else nil
structure Up (es : List Nat) : Prop where
  six : es.length ≤ 6
  rng : ∀ i, i < es.length → 97 ≤ g es i ∧ g es i ≤ 122
  up : ∀ i j, i < j → j < es.length → g es i < g es j
def hasB (f t k : ByteArray) : Bool := !Op.bytesLess k.toList f.toList && (t.toList.isEmpty || Op.bytesLess k.toList t.toList)
/-- The range that has a key. -/
def findI : List Nat → Int → Nat
  | [], _ => 0
  | e :: t, h => if h < e then 0 else findI t h + 1
theorem find_le : ∀ (es : List Nat) (h : Int), findI es h ≤ es.length
  | [], _ => Nat.le_refl _
  | e :: t, h => by
    unfold findI
    split
    · omega
    · have := find_le t h
      simp
      omega
theorem g_cons (e : Nat) (t : List Nat) (i : Nat) : g (e :: t) (i + 1) = g t i := by simp [g]
theorem find_low : ∀ (es : List Nat) (h : Int) (i : Nat), i < findI es h → (g es i : Int) ≤ h
  | [], _, _, hi => by simp [findI] at hi
  | e :: t, h, i, hi => by
    unfold findI at hi
    split at hi
    · omega
    · rename_i hn
      cases i with
      | zero => simp [g]; omega
      | succ i => rw [g_cons]; exact find_low t h i (by omega)
theorem find_high : ∀ (es : List Nat) (h : Int), findI es h < es.length → h < g es (findI es h)
  | [], _, hi => by simp at hi
  | e :: t, h, hi => by
    unfold findI at hi ⊢
    split
    · simp [g]; assumption
    · rename_i hn
      rw [if_neg hn] at hi
      rw [g_cons]
      exact find_high t h (by simpa using hi)
theorem has_iff {es : List Nat} (hu : Up es) {i : Nat} (hi : i ≤ es.length) (k : ByteArray) : hasB (fr es i) (to es i) k = decide (i = findI es (hv k)) := by
  have hk := hv_ge k
  have h1 := find_le es (hv k)
  have h2 := find_low es (hv k)
  have h3 := find_high es (hv k)
  have eF : (!Op.bytesLess k.toList (fr es i).toList) = true ↔ (i = 0 ∨ (g es (i - 1) : Int) ≤ hv k) := by
    unfold fr
    split
    · rw [less_nil]; simp; left; assumption
    · rename_i h0
      rw [less_ch k (by have := hu.rng (i - 1) (by omega); omega)]
      simp
      omega
  have eT : ((to es i).toList.isEmpty || Op.bytesLess k.toList (to es i).toList) = true ↔ (i = es.length ∨ hv k < g es i) := by
    unfold to
    split
    · rename_i h0
      rw [less_ch k (by have := hu.rng i h0; omega), ch_toList]
      simp
      omega
    · rename_i h0
      rw [nil_toList]
      simp
      left; omega
  rw [Bool.eq_iff_iff, decide_eq_true_iff]
  unfold hasB
  rw [Bool.and_eq_true, eF, eT]
  generalize findI es (hv k) = r at *
  constructor
  · rintro ⟨a, b⟩
    rcases Nat.lt_trichotomy i r with g1 | g1 | g1
    · have := h2 i g1
      omega
    · exact g1
    · have h4 := h3 (by omega)
      rcases a with a | a
      · omega
      · have : g es r ≤ g es (i - 1) := by
          rcases Nat.eq_or_lt_of_le (show r ≤ i - 1 by omega) with e | e
          · rw [e]; exact Nat.le_refl _
          · exact Nat.le_of_lt (hu.up r (i - 1) e (by omega))
        omega
  · rintro rfl
    constructor
    · rcases Nat.eq_zero_or_pos i with e | e
      · exact .inl e
      · exact .inr (h2 (i - 1) (by omega))
    · rcases Nat.lt_or_ge i es.length with e | e
      · exact .inr (h3 e)
      · exact .inl (by omega)
end Go.Proofs.Ytahokiopapenbaa

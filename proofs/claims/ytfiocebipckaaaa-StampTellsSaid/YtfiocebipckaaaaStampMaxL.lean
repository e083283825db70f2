/- The plain law of the greatest stamp of a row. No program in sight. -/
import Derived.Test.YtfiocebipckaaaaStampMaxF
set_option linter.unusedSimpArgs false
set_option linter.unusedVariables false
namespace Go.Proofs.Ytfiocebipckaaaa

theorem less_iff (a b : Int × Int) : lessB a.1 a.2 b.1 b.2 = true ↔ (a.1 < b.1 ∨ (a.1 = b.1 ∧ a.2 < b.2)) := by simp [lessB]
theorem less_iff' (a b : Int × Int) : lessB a.1 a.2 b.1 b.2 = false ↔ ¬ (a.1 < b.1 ∨ (a.1 = b.1 ∧ a.2 < b.2)) := by simp [lessB]

/-- From wherever one starts: the end is the start or one of the row; nothing of the row, nor the start, is above it. -/
theorem fold_max : ∀ (l : List (Int × Int)) (m : Int × Int), (l.foldl maxStep m = m ∨ l.foldl maxStep m ∈ l) ∧ lessB (l.foldl maxStep m).1 (l.foldl maxStep m).2 m.1 m.2 = false ∧
    ∀ x ∈ l, lessB (l.foldl maxStep m).1 (l.foldl maxStep m).2 x.1 x.2 = false := by
  intro l
  induction l with
  | nil => intro m; simp [lessB]
  | cons a r ih =>
    intro m
    obtain ⟨h1, h2, h3⟩ := ih (maxStep m a)
    simp only [List.foldl_cons]
    generalize List.foldl maxStep (maxStep m a) r = e at *
    refine ⟨?_, ?_, ?_⟩
    · rcases h1 with h1 | h1
      · rcases maxStep_or m a with h | h
        · left; rw [h1, h]
        · right; rw [h1, h]; simp
      · right; simp [h1]
    · rw [less_iff'] at h2 ⊢
      unfold maxStep at h2
      split at h2
      · rename_i h; rw [less_iff] at h; omega
      · exact h2
    · intro x hx
      rcases List.mem_cons.1 hx with rfl | hx
      · rw [less_iff'] at h2 ⊢
        unfold maxStep at h2
        split at h2
        · exact h2
        · rename_i h; rw [less_iff] at h; omega
      · exact h3 x hx
where
  maxStep_or (m x : Int × Int) : maxStep m x = m ∨ maxStep m x = x := by unfold maxStep; split <;> simp

theorem maxOf_mem (l : List (Int × Int)) : maxOf l = (0, 0) ∨ maxOf l ∈ l := (fold_max l (0, 0)).1
theorem maxOf_ge (l : List (Int × Int)) : ∀ x ∈ l, lessB (maxOf l).1 (maxOf l).2 x.1 x.2 = false := (fold_max l (0, 0)).2.2
theorem fold_stay : ∀ (l : List (Int × Int)) (m : Int × Int), (∀ x ∈ l, lessB m.1 m.2 x.1 x.2 = false) → l.foldl maxStep m = m := by
  intro l
  induction l with
  | nil => intro m _; rfl
  | cons a r ih =>
    intro m h
    simp only [List.foldl_cons]
    have : maxStep m a = m := by unfold maxStep; rw [h a (by simp)]; simp
    rw [this]
    exact ih m fun x hx => h x (by simp [hx])
theorem maxOf_again (l : List (Int × Int)) : maxOf (maxOf l :: l) = maxOf l := by
  have h1 := (fold_max l (0, 0)).2.1
  have h2 : maxStep (0, 0) (maxOf l) = maxOf l := by
    unfold maxStep
    split
    · rfl
    · rename_i h
      change lessB (maxOf l).1 (maxOf l).2 _ _ = false at h1
      rw [less_iff] at h; rw [less_iff'] at h1
      apply Prod.ext
      · simp at h h1 ⊢; omega
      · simp at h h1 ⊢; omega
  show List.foldl maxStep (maxStep (0, 0) (maxOf l)) l = maxOf l
  rw [h2]
  exact fold_stay l _ (maxOf_ge l)
end Go.Proofs.Ytfiocebipckaaaa

/- The walks of the link's sender: Send, Answer, Open, Next. -/
import Derived.Test.YtbofoafcglmboaaLink
set_option linter.unusedSimpArgs false
set_option linter.unusedVariables false
namespace Go.Proofs.Ytbofoafcglmboaa
open Go.RowKit

theorem infoPk : (Try.prog.info? 60).map (fun i => (i.zero, i.size, i.bytes)) = some (some (.agg #[.int .i64 0, .string ⟨#[]⟩]), 2, 24) := by kernel_rfl

/-- The cells of packets: numbers from lo on, with their texts. -/
def pk : Nat → List ByteArray → List Value
  | _, [] => []
  | lo, d :: r => .int .i64 lo :: .string d :: pk (lo + 1) r
theorem pk_len : ∀ (lo : Nat) (ds : List ByteArray), (pk lo ds).length = ds.length * 2
  | _, [] => rfl
  | lo, d :: r => by simp only [pk, List.length_cons, pk_len (lo + 1) r]; omega
theorem pk_snoc : ∀ (lo : Nat) (ds : List ByteArray) (d : ByteArray), pk lo (ds ++ [d]) = pk lo ds ++ [.int .i64 ((lo + ds.length : Nat) : Int), .string d]
  | lo, [], d => by simp [pk]
  | lo, a :: r, d => by simp only [List.cons_append, pk, pk_snoc (lo + 1) r d, List.length_cons]; rw [show lo + 1 + r.length = lo + (r.length + 1) by omega]
theorem pk_at : ∀ (lo : Nat) (ds : List ByteArray) (i : Nat), i < ds.length → (pk lo ds)[i * 2]? = some (.int .i64 ((lo + i : Nat) : Int)) ∧ (pk lo ds)[i * 2 + 1]? = some (.string (ds[i]?.getD ⟨#[]⟩))
  | lo, [], i, h => by simp at h
  | lo, a :: r, 0, _ => by simp [pk]
  | lo, a :: r, i + 1, h => by
    have := pk_at (lo + 1) r i (by simpa using h)
    rw [show (i + 1) * 2 = i * 2 + 1 + 1 by omega]
    simp only [pk, List.getElem?_cons_succ]
    rw [show lo + (i + 1) = lo + 1 + i by omega]
    exact this
theorem pk_drop : ∀ (k lo : Nat) (ds : List ByteArray), k ≤ ds.length → (pk lo ds).drop (k * 2) = pk (lo + k) (ds.drop k)
  | 0, lo, ds, _ => by simp
  | k + 1, lo, [], h => by simp at h
  | k + 1, lo, a :: r, h => by
    rw [show (k + 1) * 2 = k * 2 + 1 + 1 by omega]
    simp only [pk, List.drop_succ_cons]
    rw [pk_drop k (lo + 1) r (by simpa using h), show lo + 1 + k = lo + (k + 1) by omega]
theorem pk_one (lo : Nat) (ds : List ByteArray) : ∀ u ∈ pk lo ds, u.oneCell' = true := by
  induction ds generalizing lo with
  | nil => intro u hu; cases hu
  | cons a r ih =>
    intro u hu
    simp only [pk, List.mem_cons] at hu
    rcases hu with rfl | rfl | hu
    · rfl
    · rfl
    · exact ih _ u hu

/-- A slice with what lies in it; its block, whose spare places are its own. -/
def OpenAt (w : World) (G : Option Nat) (v : Value) (n : Nat) (xs : List Value) : Prop :=
  (v = .slice none 0 0 ∧ n = 0) ∨ ∃ b off cap, v = .slice (some ⟨b, off, none⟩) n cap ∧ G = some b ∧ n ≤ cap ∧ cap ≤ maxLen ∧ xs.length = n * 2 ∧
    (∀ j, j < cap * 2 → (w.cell? ⟨b, off + j, none⟩).isSome = true ∧ w.frozen? ⟨b, off + j, none⟩ = false) ∧ ∀ j u, xs[j]? = some u → w.cell? ⟨b, off + j, none⟩ = some u
theorem OpenAt.but {S : List Nat} {w w2 : World} {G : Option Nat} {v : Value} {n : Nat} {xs : List Value} (h : OpenAt w G v n xs) (hb : But S w w2) (hn : ∀ g, G = some g → g ∉ S) : OpenAt w2 G v n xs := by
  rcases h with h | ⟨b, off, cap, hv, hG, h1, h2, h3, h4, h5⟩
  · exact .inl h
  · refine .inr ⟨b, off, cap, hv, hG, h1, h2, h3, fun j hj => ?_, fun j u hu => hb.at_ (h5 j u hu) (hn b hG)⟩
    obtain ⟨e1, e2⟩ := h4 j hj
    obtain ⟨u, hu⟩ := Option.isSome_iff_exists.1 e1
    exact ⟨by rw [hb.at_ hu (hn b hG)]; rfl, by rw [hb.frozen (World.block_lt_of_cell? w _ hu) (hn b hG)]; exact e2⟩

/-- The sender in block s: numbers below lo are answered, the texts ds are open. -/
def Snd (w : World) (s : Nat) (G : Option Nat) (lo : Nat) (ds : List ByteArray) : Prop :=
  ∃ v, w.heap[s]? = some (.cells #[.int .i64 ((lo + ds.length : Nat) : Int), v] 71 (0, 0)) ∧ OpenAt w G v ds.length (pk lo ds) ∧ G ≠ some s ∧ (∀ g, G = some g → g < w.heap.size)
theorem Snd.but {S : List Nat} {w w2 : World} {s : Nat} {G : Option Nat} {lo : Nat} {ds : List ByteArray} (h : Snd w s G lo ds) (hb : But S w w2) (h1 : s ∉ S) (hn : ∀ g, G = some g → g ∉ S) : Snd w2 s G lo ds := by
  obtain ⟨v, h2, h3, h4, h5⟩ := h
  exact ⟨v, hb.heap h2 h1, h3.but hb hn, h4, fun g hg => Nat.lt_of_lt_of_le (h5 g hg) hb.size⟩
theorem Snd.kept {w w2 : World} {s : Nat} {G : Option Nat} {lo : Nat} {ds : List ByteArray} (h : Snd w s G lo ds) (hb : Kept w w2) : Snd w2 s G lo ds := h.but (.of_kept (S := []) hb) (by simp) (by simp)
theorem Snd.lt {w : World} {s : Nat} {G : Option Nat} {lo : Nat} {ds : List ByteArray} (h : Snd w s G lo ds) : s < w.heap.size := by
  obtain ⟨v, h2, _⟩ := h
  exact (Array.getElem?_eq_some_iff.1 h2).1

set_option maxHeartbeats 400000 in
theorem newSender_any (w : World) :
    Calls Try.prog 19 #[] w fun e w' => e = .returned (.pointer (some ⟨w.heap.size, 0, none⟩)) ∧ Kept w w' ∧ Snd w' w.heap.size none 0 [] := by
  go_enter Try.func19, Try.ntmps19
  go_wp2
  go_ret
  exact ⟨rfl, by repeat (first | exact Kept.refl _ | assumption | (refine Kept.alloc ?_ _) | (refine Kept.setCell ?_ (by first | omega | (simp; omega) | simp) _) | refine Kept.drew ?_ | refine Kept.drewN ?_ _ | (apply Kept.call; rotate_left; assumption)), _, heap_alloc_new w _, .inl ⟨rfl, rfl⟩, by simp, by simp⟩

set_option maxHeartbeats 400000 in
theorem send_nil (d : ByteArray) (w : World) :
    Calls Try.prog 22 #[.pointer none, .string d] w fun e w' => e = .returned (.tuple #[.agg #[.int .i64 0, .string ⟨#[]⟩], .int .i64 1]) ∧ Kept w w' := by
  go_enter Try.func22, Try.ntmps22
  go_wp2
  refine bodyPost_ret (v := .tuple #[.agg #[.int .i64 0, .string ⟨#[]⟩], .int .i64 1]) (by simp [results, Try.results22, go_sem]) rfl ⟨rfl, ?_⟩
  repeat (first | exact Kept.refl _ | assumption | (refine Kept.alloc ?_ _) | (refine Kept.setCell ?_ (by first | omega | (simp; omega) | simp) _) | refine Kept.drew ?_ | refine Kept.drewN ?_ _ | (apply Kept.call; rotate_left; assumption))

theorem Snd.form {w : World} {s : Nat} {G : Option Nat} {lo : Nat} {ds : List ByteArray} (h : Snd w s G lo ds) : ∃ a c, w.cell? ⟨s, 1, none⟩ = some (.slice a ds.length c) := by
  obtain ⟨v, h2, h3, _⟩ := h
  have hc := cellOf h2 1
  rcases h3 with ⟨rfl, h4⟩ | ⟨b, off, cap, rfl, _⟩
  · exact ⟨none, 0, by rw [h4]; exact hc⟩
  · exact ⟨_, _, hc⟩

set_option maxHeartbeats 400000 in
theorem send_full (s : Nat) (G : Option Nat) (lo : Nat) (ds : List ByteArray) (d : ByteArray) (w : World) (h : Snd w s G lo ds) (hf : 8 ≤ ds.length) :
    Calls Try.prog 22 #[.pointer (some ⟨s, 0, none⟩), .string d] w fun e w' => e = .returned (.tuple #[.agg #[.int .i64 0, .string ⟨#[]⟩], .int .i64 15]) ∧ Kept w w' := by
  obtain ⟨a, c, hc⟩ := h.form
  have hs := h.lt
  have HH := Lib.hid h
  clear h
  generalize ds.length = n at hf hc
  go_enter Try.func22, Try.ntmps22
  go_wp2
  refine bodyPost_ret (v := .tuple #[.agg #[.int .i64 0, .string ⟨#[]⟩], .int .i64 15]) (by simp [results, Try.results22, go_sem]) rfl ⟨rfl, ?_⟩
  repeat (first | exact Kept.refl _ | assumption | (refine Kept.alloc ?_ _) | (refine Kept.setCell ?_ (by first | omega | (simp; omega) | simp) _) | refine Kept.drew ?_ | refine Kept.drewN ?_ _ | (apply Kept.call; rotate_left; assumption))
end Go.Proofs.Ytbofoafcglmboaa

/- A sender, a receiver, and a row of what was sent, each apart from the others; texts joined. -/
import Derived.Test.YtgcbadlajmbdhaaLinkY
import Derived.Laws.BytesArg
set_option linter.unusedSimpArgs false
set_option linter.unusedVariables false
namespace Go.Proofs.Ytgcbadlajmbdhaa
open Go.RowKit

theorem OpenAt.same {w w2 : World} {G : Option Nat} {v : Value} {n : Nat} {xs : List Value} (h : OpenAt w G v n xs) (hs : ∀ g, G = some g → w2.heap[g]? = w.heap[g]?) : OpenAt w2 G v n xs := by
  rcases h with h | ⟨b, off, cap, hv, hG, h1, h2, h3, h4, h5⟩
  · exact .inl h
  · have e : ∀ o, w2.cell? ⟨b, o, none⟩ = w.cell? ⟨b, o, none⟩ := fun o => World.cell?_of_block (hs b hG)
    have f : ∀ o, w2.frozen? ⟨b, o, none⟩ = w.frozen? ⟨b, o, none⟩ := fun o => by unfold World.frozen?; rw [hs b hG]
    refine .inr ⟨b, off, cap, hv, hG, h1, h2, h3, fun j hj => ?_, fun j u hu => ?_⟩
    · rw [e, f]; exact h4 j hj
    · rw [e]; exact h5 j u hu
theorem OpenAt.keptO {w w2 : World} {G : Option Nat} {v : Value} {n : Nat} {xs : List Value} (h : OpenAt w G v n xs) (hk : Kept w w2) : OpenAt w2 G v n xs := h.but (.of_kept (S := []) hk) (by simp)

/-- The sender s (T answered, ds open), the receiver r (it waits for R), the row v of what was sent. -/
def On (w0 w : World) (s r T R : Nat) (ds : List ByteArray) (v : Value) (k : Nat) (ss : List ByteArray) : Prop :=
  ∃ H : Option Nat, SndX w0 (r :: H.toList) w s T ds ∧ OpenAt w H v k (pk 0 ss) ∧ Recv w r R ∧ r ∉ H.toList ∧ (∀ h ∈ H.toList, w0.heap.size ≤ h ∧ h < w.heap.size) ∧ w0.heap.size ≤ r ∧ k = ss.length
theorem On.kept {w0 w w2 : World} {s r T R k : Nat} {ds ss : List ByteArray} {v : Value} (h : On w0 w s r T R ds v k ss) (hk : Kept w w2) : On w0 w2 s r T R ds v k ss := by
  obtain ⟨H, h1, h2, h3, h4, h5, h6, h7⟩ := h
  exact ⟨H, h1.kept hk, h2.keptO hk, h3.kept hk, h4, fun x hx => ⟨(h5 x hx).1, Nat.lt_of_lt_of_le (h5 x hx).2 hk.size⟩, h6, h7⟩

section
variable {w0 w : World} {s r T R k : Nat} {ds ss : List ByteArray} {v : Value}
theorem onSend (d : ByteArray) (N : Int) (h : On w0 w s r T R ds v k ss) (hk : Kept w0 w) (h8 : ds.length < 8) (hlo : T + ds.length < 4611686018427387904) (hN : N = ((T + ds.length : Nat) : Int)) :
    Calls Try.prog 15 #[.pointer (some ⟨s, 0, none⟩), .string d] w fun e w' => e = .returned (.tuple #[.agg #[.int .i64 N, .string d], .int .i64 0]) ∧ On w0 w' s r T R (ds ++ [d]) v k ss ∧ Kept w0 w' := by
  obtain ⟨H, h1, h2, h3, h4, h5, h6, h7⟩ := h
  refine (sendX w0 _ s T ds d N w h1 hk h8 hlo hN).mono fun e w' ⟨he, hs, hk2, hz, hx⟩ => ⟨he, ⟨H, hs, ?_, ?_, h4, fun x hx => ⟨(h5 x hx).1, Nat.lt_of_lt_of_le (h5 x hx).2 hz⟩, h6, h7⟩, hk2⟩
  · exact h2.same fun g hg => hx g (by simp [hg])
  · exact (hx r (by simp)).trans h3
theorem onSend_full (d : ByteArray) (h : On w0 w s r T R ds v k ss) (h8 : 8 ≤ ds.length) :
    Calls Try.prog 15 #[.pointer (some ⟨s, 0, none⟩), .string d] w fun e w' => e = .returned (.tuple #[.agg #[.int .i64 0, .string ⟨#[]⟩], .int .i64 15]) ∧ Kept w w' := by
  obtain ⟨H, h1, _⟩ := h
  exact sendX_full w0 _ s T ds d w h1 h8
theorem onTake_yes (q : Int) (d : ByteArray) (h : On w0 w s r T R ds v k ss) (hk : Kept w0 w) (hn : q = (R : Int)) (hb : R < 4611686018427387904) :
    Calls Try.prog 12 #[.pointer (some ⟨r, 0, none⟩), .agg #[.int .i64 q, .string d]] w fun e w' => e = .returned (.tuple #[.string d, .bool true]) ∧ On w0 w' s r T (R + 1) ds v k ss ∧ Kept w0 w' := by
  subst hn
  obtain ⟨H, h1, h2, h3, h4, h5, h6, h7⟩ := h
  refine (take_yes r R d w h3 hb).mono fun e w' ⟨he, hb, hs⟩ => ⟨he, ⟨H, h1.but hb (by simp), ?_, hs, h4, fun x hx => ⟨(h5 x hx).1, Nat.lt_of_lt_of_le (h5 x hx).2 hb.size⟩, h6, h7⟩, hk.but hb (by simpa using h6)⟩
  exact h2.but hb (fun g hg => by simp; rintro rfl; exact h4 (by simp [hg]))
theorem onTake_no (q : Int) (d : ByteArray) (h : On w0 w s r T R ds v k ss) (hn : ¬ q = (R : Int)) :
    Calls Try.prog 12 #[.pointer (some ⟨r, 0, none⟩), .agg #[.int .i64 q, .string d]] w fun e w' => e = .returned (.tuple #[.string ⟨#[]⟩, .bool false]) ∧ Kept w w' := by
  obtain ⟨H, h1, h2, h3, _⟩ := h
  exact take_no r R q d w h3 hn
theorem onWaits (h : On w0 w s r T R ds v k ss) :
    Calls Try.prog 13 #[.pointer (some ⟨r, 0, none⟩)] w fun e w' => e = .returned (.int .i64 R) ∧ Kept w w' := by
  obtain ⟨H, h1, h2, h3, _⟩ := h
  exact waits_any r R w h3
theorem onAnswer (q : Int) (j : Nat) (A : Int) (h : On w0 w s r T R ds v k ss) (hk : Kept w0 w) (hlo : T + ds.length < 4611686018427387904) (hkl : j ≤ ds.length)
    (hq : q = (T : Int) + j) (hR : A = (j : Int)) :
    Calls Try.prog 16 #[.pointer (some ⟨s, 0, none⟩), .int .i64 q] w fun e w' => e = .returned (.int .i64 A) ∧ On w0 w' s r (T + j) R (ds.drop j) v k ss ∧ Kept w0 w' := by
  obtain ⟨H, h1, h2, h3, h4, h5, h6, h7⟩ := h
  refine (answerX w0 _ s T ds q j A w h1 hk hlo hkl (by omega) (by omega) hR).mono fun e w' ⟨he, hs, hk2, hz, hx⟩ => ⟨he, ⟨H, hs, ?_, ?_, h4, fun x hx => ⟨(h5 x hx).1, Nat.lt_of_lt_of_le (h5 x hx).2 hz⟩, h6, h7⟩, hk2⟩
  · exact h2.same fun g hg => hx g (by simp [hg])
  · exact (hx r (by simp)).trans h3
theorem onOpen (n : Nat) (h : On w0 w s r T R ds v k ss) (hn : n = ds.length) (hb : n ≤ 4294967296) :
    Calls Try.prog 17 #[.pointer (some ⟨s, 0, none⟩)] w fun e w' => ∃ A c, e = .returned (.slice A n c) ∧ Kept w w' := by
  obtain ⟨H, h1, _⟩ := h
  exact (openX w0 _ s T n ds w h1 hn hb).mono fun e w' ⟨A, c, he, _, hk⟩ => ⟨A, c, he, hk⟩
/-- The row of what was sent grows. -/
theorem On.push {w2 : World} {H2 : Option Nat} {v2 : Value} {d : ByteArray} {H : Option Nat} (h1 : SndX w0 (r :: H.toList) w s T ds) (h3 : Recv w r R) (h4 : r ∉ H.toList) (h5 : ∀ h ∈ H.toList, w0.heap.size ≤ h ∧ h < w.heap.size) (h6 : w0.heap.size ≤ r) (h7 : k = ss.length) (hk : Kept w0 w)
    (hb : But H.toList w w2) (ho : OpenAt w2 H2 v2 (k + 1) (pk 0 (ss ++ [d]))) (hH : H2 = H ∨ ∃ g, H2 = some g ∧ w.heap.size ≤ g ∧ g < w2.heap.size) : On w0 w2 s r T R ds v2 (k + 1) (ss ++ [d]) ∧ Kept w0 w2 := by
  have hr : r < w.heap.size := h3.lt
  have hk2 : Kept w0 w2 := hk.but hb fun x hx => (h5 x hx).1
  obtain ⟨G, a1, a2, a3, a4⟩ := h1
  have hG : ∀ g ∈ G.toList, g < w.heap.size := by obtain ⟨_, _, _, _, q⟩ := a1; exact fun g hg => q g (by simpa using hg)
  have hs : s < w.heap.size := a1.lt
  have b1 : Snd w2 s G T ds := a1.but hb (fun hm => ((a4 s (by simp [hm])).2.1 rfl)) (fun g hg hm => (a4 g (by simp [hm])).2.2 (by simp [hg]))
  have b3 : Recv w2 r R := h3.but hb h4
  refine ⟨⟨H2, ⟨G, b1, a2, a3, fun x hx => ?_⟩, ho, b3, ?_, ?_, h6, by simp [h7]⟩, hk2⟩
  · rcases List.mem_cons.1 hx with rfl | hx
    · exact ⟨Nat.lt_of_lt_of_le hr hb.size, (a4 x (by simp)).2⟩
    · rcases hH with rfl | ⟨g, rfl, e1, e2⟩
      · exact ⟨Nat.lt_of_lt_of_le (a4 x (by simp [hx])).1 hb.size, (a4 x (by simp [hx])).2⟩
      · simp at hx; subst hx
        exact ⟨e2, by omega, fun hm => by have := hG _ hm; omega⟩
  · rcases hH with rfl | ⟨g, rfl, e1, e2⟩
    · exact h4
    · simp; omega
  · rcases hH with rfl | ⟨g, rfl, e1, e2⟩
    · exact fun x hx => ⟨(h5 x hx).1, Nat.lt_of_lt_of_le (h5 x hx).2 hb.size⟩
    · intro x hx; simp at hx; subst hx
      exact ⟨by have := hk.size; omega, e2⟩
theorem On.cells {A : Option Addr} {c n : Nat} (h : On w0 w s r T R ds (.slice A n c) k ss) (h0 : 0 < k) : ∃ b off, A = some ⟨b, off, none⟩ ∧ n = k ∧ k ≤ c ∧ c ≤ maxLen ∧ b < w.heap.size ∧ ∀ i, i < k → w.cell? ⟨b, off + i * 2, none⟩ = some (.int .i64 i) ∧ w.cell? ⟨b, off + i * 2 + 1, none⟩ = some (.string (ss[i]?.getD ⟨#[]⟩)) := by
  obtain ⟨H, h1, h2, h3, h4, h5, h6, h7⟩ := h
  rcases h2 with ⟨_, h8⟩ | ⟨b, off, cap, hv, hG, g1, g2, g3, g4, g5⟩
  · omega
  · injection hv with e1 e2 e3
    subst e3
    refine ⟨b, off, e1, e2, g1, g2, (h5 b (by simp [hG])).2, fun i hi => ?_⟩
    have := pk_at 0 ss i (by omega)
    rw [Nat.zero_add] at this
    exact ⟨g5 _ _ this.1, by rw [Nat.add_assoc]; exact g5 _ _ this.2⟩
theorem On.form (h : On w0 w s r T R ds v k ss) : ∃ A c, v = .slice A k c := by
  obtain ⟨H, h1, h2, h3, h4, h5, h6, h7⟩ := h
  rcases h2 with ⟨rfl, h8⟩ | ⟨b, off, cap, rfl, _⟩
  · exact ⟨none, 0, by rw [h8]⟩
  · exact ⟨_, _, rfl⟩
end

/-- A text of one letter. -/
def chr (c : Int) : ByteArray := ⟨#[UInt8.ofNat c.toNat]⟩
theorem chr_size (c : Int) : (chr c).size = 1 := rfl
theorem conv_chr (w : World) (g : Nat) (c : Int) (hg : g = w.heap.size) :
    (convert 31 9 (.slice (some ⟨g, 0, none⟩) 1 1)).run Try.prog (w.alloc (.cells #[.int .u8 c] 5)) = .ok (.string (chr c)) (w.alloc (.cells #[.int .u8 c] 5)) := by
  subst hg
  exact run_convert_bytes_arg _ 31 5 Try.underlying31 (by kernel_rfl) w.heap.size 0 1 1 [c] rfl (fun i hi => by
    obtain rfl : i = 0 := by omega
    exact cellOf (heap_alloc_new w _) 0) 9 (by kernel_rfl)

/-- Texts, one behind the other. -/
def cat (l : List ByteArray) : ByteArray := l.foldl (· ++ ·) ⟨#[]⟩
theorem cat_snoc (l : List ByteArray) (d : ByteArray) : cat (l ++ [d]) = cat l ++ d := by simp [cat]
theorem cat_nil : cat [] = ⟨#[]⟩ := rfl
theorem snoc_ind {α : Type} {p : List α → Prop} (h0 : p []) (h1 : ∀ l d, p l → p (l ++ [d])) (l : List α) : p l := by
  have h : ∀ m : List α, p m.reverse := by
    intro m
    induction m with
    | nil => exact h0
    | cons a m ih => rw [List.reverse_cons]; exact h1 _ _ ih
  have := h l.reverse
  rwa [List.reverse_reverse] at this
theorem cat_size (l : List ByteArray) (h : ∀ d ∈ l, d.size = 1) : (cat l).size = l.length := by
  revert h
  refine snoc_ind (p := fun l => (∀ d ∈ l, d.size = 1) → (cat l).size = l.length) (fun _ => rfl) ?_ l
  · intro l d ih h
    rw [cat_snoc, ByteArray.size_append, ih fun x hx => h x (by simp [hx]), h d (by simp), List.length_append, List.length_singleton]
theorem cat_take (l : List ByteArray) (h : ∀ d ∈ l, d.size = 1) (T : Nat) (hT : T ≤ l.length) : (cat l).extract 0 T = cat (l.take T) := by
  revert h hT
  refine snoc_ind (p := fun l => (∀ d ∈ l, d.size = 1) → T ≤ l.length → (cat l).extract 0 T = cat (l.take T)) (fun _ hT => ?_) ?_ l
  · simp at hT; subst hT; rfl
  · intro l d ih h hT
    have hl := cat_size l fun x hx => h x (by simp [hx])
    rw [List.length_append, List.length_singleton] at hT
    rcases Nat.lt_or_ge l.length T with h1 | h1
    · obtain rfl : T = l.length + 1 := by omega
      rw [List.take_of_length_le (by simp)]
      have : (cat (l ++ [d])).size = l.length + 1 := by rw [cat_snoc, ByteArray.size_append, hl, h d (by simp)]
      rw [← this, ByteArray.extract_zero_size]
    · rw [cat_snoc, List.take_append_of_le_length h1, ← ih (fun x hx => h x (by simp [hx])) h1]
      ext1
      simp [ByteArray.data_extract, ByteArray.data_append, Array.extract_append]
      have : (cat l).data.size = l.length := hl
      omega
end Go.Proofs.Ytgcbadlajmbdhaa

/- The walks of stamp.Bytes and stamp.Read. -/
import Derived.Test.YtfiocebipckaaaaVaryN
import Derived.Test.YtfiocebipckaaaaStamp
set_option linter.unusedSimpArgs false
set_option linter.unusedVariables false
namespace Go.Proofs.Ytfiocebipckaaaa
open Go.RowKit

/-- A stamp's bytes. -/
def pairB (n s : Nat) : List UInt8 := enc n ++ enc s
theorem pair_len (n s : Nat) : (pairB n s).length = (enc n).length + (enc s).length := by simp [pairB]
theorem pair_pre (n s : Nat) (X : List UInt8) : pairB n s <+: X ↔ enc n <+: X ∧ enc s <+: X.drop (enc n).length := by
  unfold pairB
  constructor
  · rintro ⟨r, rfl⟩
    refine ⟨by rw [List.append_assoc]; exact List.prefix_append _ _, ?_⟩
    rw [List.append_assoc, List.drop_left]
    exact List.prefix_append _ _
  · rintro ⟨⟨r, rfl⟩, h2⟩
    rw [List.drop_left] at h2
    obtain ⟨q, rfl⟩ := h2
    exact ⟨q, by rw [List.append_assoc]⟩
/-- What stamp.Read hands back. -/
def SRd (L : List UInt8) (a : Int) (n s : Nat) (e : Int) (ok : Bool) : Prop :=
  (ok = true ∧ 1 ≤ n ∧ n ≤ 1099511627776 ∧ s < 6 ∧ 0 ≤ a ∧ pairB n s <+: L.drop a.toNat ∧ e = a + ((pairB n s).length : Nat)) ∨
  (ok = false ∧ n = 0 ∧ s = 0 ∧ e = 0 ∧ (0 ≤ a → ∀ m t, 1 ≤ m → m ≤ 1099511627776 → t < 6 → ¬ pairB m t <+: L.drop a.toNat))
theorem pair_inj {n s m t : Nat} {X : List UInt8} (h : pairB n s <+: X) (g : pairB m t <+: X) : n = m ∧ s = t := by
  rw [pair_pre] at h g
  have := enc_prefix n m X h.1 g.1
  subst this
  exact ⟨rfl, enc_prefix s t _ h.2 g.2⟩
theorem SRd.same {L : List UInt8} {a : Int} {n s m t : Nat} {e f : Int} {ok is : Bool} (h : SRd L a n s e ok) (g : SRd L a m t f is) : n = m ∧ s = t ∧ e = f ∧ ok = is := by
  rcases h with ⟨rfl, h1, h2, h3, h4, h5, rfl⟩ | ⟨rfl, rfl, rfl, rfl, h1⟩
  · rcases g with ⟨rfl, g1, g2, g3, g4, g5, rfl⟩ | ⟨rfl, rfl, rfl, rfl, g1⟩
    · obtain ⟨rfl, rfl⟩ := pair_inj h5 g5
      exact ⟨rfl, rfl, rfl, rfl⟩
    · exact absurd h5 (g1 h4 n s h1 h2 h3)
  · rcases g with ⟨rfl, g1, g2, g3, g4, g5, rfl⟩ | ⟨rfl, rfl, rfl, rfl, g1⟩
    · exact absurd g5 (h1 g4 m t g1 g2 g3)
    · exact ⟨rfl, rfl, rfl, rfl⟩
theorem drop_mid (L : List UInt8) (a : Int) (n : Nat) (h0 : 0 ≤ a) : L.drop (a + ((enc n).length : Nat)).toNat = (L.drop a.toNat).drop (enc n).length := by
  rw [List.drop_drop, show (a + ((enc n).length : Nat)).toNat = a.toNat + (enc n).length by omega]
/-- Out of two numbers that were read. -/
theorem srd_yes {L : List UInt8} {a mid en : Int} {n m : Nat} (h : Rd L a n mid true) (g : Rd L mid m en true) (h1 : 1 ≤ n) (h2 : n ≤ 1099511627776) (h3 : m < 6) : SRd L a n m en true := by
  rcases h with ⟨_, _, h4, h5, rfl⟩ | ⟨h, _⟩
  · rcases g with ⟨_, _, g4, g5, rfl⟩ | ⟨g, _⟩
    · refine .inl ⟨rfl, h1, h2, h3, h4, (pair_pre n m _).2 ⟨h5, ?_⟩, by rw [pair_len]; omega⟩
      rw [drop_mid L a n h4] at g5
      exact g5
    · cases g
  · cases h
theorem srd_no1 {L : List UInt8} {a mid : Int} {n : Nat} (h : Rd L a n mid false) : SRd L a 0 0 0 false := by
  rcases h with ⟨h, _⟩ | ⟨_, _, _, h1⟩
  · cases h
  · exact .inr ⟨rfl, rfl, rfl, rfl, fun h0 m t _ h2 _ hp => h1 h0 m (by omega) ((pair_pre m t _).1 hp).1⟩
theorem srd_no2 {L : List UInt8} {a mid en : Int} {n m : Nat} (h : Rd L a n mid true) (g : Rd L mid m en false) : SRd L a 0 0 0 false := by
  rcases h with ⟨_, h3, h4, h5, rfl⟩ | ⟨h, _⟩
  · rcases g with ⟨g, _⟩ | ⟨_, _, _, g1⟩
    · cases g
    · refine .inr ⟨rfl, rfl, rfl, rfl, fun h0 k t _ h2 ht hp => ?_⟩
      rw [pair_pre] at hp
      have := enc_prefix n k _ h5 hp.1
      subst this
      refine g1 (by omega) t (by omega) ?_
      rw [drop_mid L a n h4]; exact hp.2
  · cases h
theorem srd_no3 {L : List UInt8} {a mid en : Int} {n m : Nat} (h : Rd L a n mid true) (g : Rd L mid m en true) (hb : 1099511627776 < n ∨ n < 1 ∨ 6 ≤ m) : SRd L a 0 0 0 false := by
  rcases h with ⟨_, h3, h4, h5, rfl⟩ | ⟨h, _⟩
  · rcases g with ⟨_, g3, g4, g5, rfl⟩ | ⟨g, _⟩
    · refine .inr ⟨rfl, rfl, rfl, rfl, fun h0 k t hk1 hk2 ht hp => ?_⟩
      rw [pair_pre] at hp
      have := enc_prefix n k _ h5 hp.1
      subst this
      rw [drop_mid L a n h4] at g5
      have := enc_prefix m t _ g5 hp.2
      omega
    · cases g
  · cases h

/-- A stamp's bytes as a text. -/
def stB (n s : Nat) : ByteArray := ⟨(pairB n s).toArray⟩
theorem stB_size (n s : Nat) : (stB n s).size = (pairB n s).length := rfl

set_option maxHeartbeats 2000000 in
theorem bytes_no (n s : Int) (w : World) (h : ¬ (1 ≤ n ∧ n ≤ 1099511627776 ∧ 0 ≤ s ∧ s < 6)) :
    Calls Try.prog 15 #[.agg #[.int .i64 n, .int .i64 s]] w fun e w' => e = .returned (.string ⟨#[]⟩) ∧ Kept w w' := by
  have HH := Lib.hid h
  clear h
  go_enter Try.func15, Try.ntmps15
  go_wp2_with fail
  refine (check_no n s _ HH.out).mono ?_
  rintro e w1 ⟨rfl, k1⟩
  have K1 : Kept w w1 := Kept.call (by repeat (first | exact Kept.refl _ | assumption | (refine Kept.alloc ?_ _) | (refine Kept.setCell ?_ (by first | omega | (simp; omega) | simp) _) | refine Kept.drew ?_ | refine Kept.drewN ?_ _ | (apply Kept.call; rotate_left; assumption))) k1
  go_wp2_with fail
  go_ret
  exact ⟨rfl, K1⟩
set_option maxHeartbeats 2000000 in
theorem bytes_yes (n s : Nat) (w : World) (h1 : 1 ≤ n) (h2 : n ≤ 1099511627776) (h3 : s < 6) :
    Calls Try.prog 15 #[.agg #[.int .i64 n, .int .i64 s]] w fun e w' => e = .returned (.string (stB n s)) ∧ Kept w w' := by
  have C0 := heap_alloc_new w (.cells #[.int .i64 n, .int .i64 s] 24)
  have HC0 := Lib.hid C0
  clear C0
  go_enter Try.func15, Try.ntmps15
  go_wp2_with fail
  refine (check_yes n s _ (by omega)).mono ?_
  rintro e w1 ⟨rfl, k1⟩
  have K1 : Kept w w1 := Kept.call (by repeat (first | exact Kept.refl _ | assumption | (refine Kept.alloc ?_ _) | (refine Kept.setCell ?_ (by first | omega | (simp; omega) | simp) _) | refine Kept.drew ?_ | refine Kept.drewN ?_ _ | (apply Kept.call; rotate_left; assumption))) k1
  have C1 := k1.heap HC0.out
  have c0 : w1.cell? ⟨w.heap.size, 0, none⟩ = some (.int .i64 n) := by rw [Lib.cell_of_heap C1]; rfl
  have c1 : w1.cell? ⟨w.heap.size, 1, none⟩ = some (.int .i64 s) := by rw [Lib.cell_of_heap C1]; rfl
  clear C1
  have J1 := heap_alloc_new w1 (.cells #[.int .u64 n, .int .u64 s] 45)
  have HJ1 := Lib.hid J1
  clear J1
  go_wp2_with fail
  refine (join_any (some ⟨w1.heap.size, 0, none⟩) 2 2 [n, s] _ rfl (by omega) (by omega) (by intro x hx; simp at hx; omega) (fun _ => ⟨w1.heap.size, 0, rfl, by simp, fun i hi => ?_⟩)).mono ?_
  · rw [Lib.cell_of_heap HJ1.out]
    have : i = 0 ∨ i = 1 := by omega
    rcases this with rfl | rfl <;> rfl
  rintro e w2 ⟨rfl, k2⟩
  have K2 : Kept w w2 := K1.call (Kept.call (by repeat (first | exact Kept.refl _ | assumption | (refine Kept.alloc ?_ _) | (refine Kept.setCell ?_ (by first | omega | (simp; omega) | simp) _) | refine Kept.drew ?_ | refine Kept.drewN ?_ _ | (apply Kept.call; rotate_left; assumption))) k2)
  have e1 : encs [n, s] = pairB n s := by simp [encs, pairB]
  rw [e1]
  go_wp2_with fail
  go_ret
  exact ⟨rfl, K2⟩

def SRdPost (s : ByteArray) (a : Int) (w : World) (e : Ending) (w' : World) : Prop :=
  ∃ (n m : Nat) (en : Int) (ok : Bool), e = .returned (.tuple #[.agg #[.int .i64 n, .int .i64 m], .int .i64 en, .bool ok]) ∧ SRd s.data.toList a n m en ok ∧ Kept w w'
set_option maxHeartbeats 2000000 in
set_option maxRecDepth 100000 in
theorem sread_rel (s : ByteArray) (a : Int) (w : World) (hs : s.size ≤ 1099511627776) :
    Calls Try.prog 16 #[.string s, .int .i64 a] w (SRdPost s a w) := by
  have X0 := heap_alloc_new w (.cells #[.int .i64 0, .int .i64 0] 24)
  have HX0 := Lib.hid X0
  clear X0
  go_enter Try.func16, Try.ntmps16
  go_wp2_with fail
  refine (read_rel s a _ hs).mono ?_
  rintro e w1 ⟨n, mid, ok1, rfl, h1, k1⟩
  go_wp2_with fail
  refine (read_rel s mid _ hs).mono ?_
  rintro e w2 ⟨m, en, ok2, rfl, h2, k2⟩
  have X2 := (k1.call k2).heap HX0.out
  have x0 : w2.cell? ⟨w.heap.size, 0, none⟩ = some (.int .i64 0) := by rw [Lib.cell_of_heap X2]; rfl
  have x1 : w2.cell? ⟨w.heap.size, 1, none⟩ = some (.int .i64 0) := by rw [Lib.cell_of_heap X2]; rfl
  have f0 : w2.frozen? ⟨w.heap.size, 0, none⟩ = false := Lib.frozen_of_heap X2 0
  have f1 : w2.frozen? ⟨w.heap.size, 1, none⟩ = false := Lib.frozen_of_heap X2 1
  have K2 : Kept w w2 := Kept.call (by repeat (first | exact Kept.refl _ | assumption | (refine Kept.alloc ?_ _) | (refine Kept.setCell ?_ (by first | omega | (simp; omega) | simp) _) | refine Kept.drew ?_ | refine Kept.drewN ?_ _ | (apply Kept.call; rotate_left; assumption))) (k1.call k2)
  have hz2 : w.heap.size < w2.heap.size := by have := (k1.call k2).size; simp at this; omega
  have HX2 := Lib.hid X2
  have H1 := Lib.hid h1
  have H2 := Lib.hid h2
  clear h1 h2 X2
  cases ok1
  · go_wp2_with fail
    refine bodyPost_ret (v := .tuple #[.agg #[.int .i64 0, .int .i64 0], .int .i64 0, .bool false]) (by simp [results, Try.results16, go_sem, x0, x1]) rfl ⟨0, 0, 0, false, rfl, srd_no1 H1.out, ?_⟩
    repeat (first | exact Kept.refl _ | assumption | (refine Kept.alloc ?_ _) | (refine Kept.setCell ?_ (by first | omega | (simp; omega) | simp) _) | refine Kept.drew ?_ | refine Kept.drewN ?_ _ | (apply Kept.call; rotate_left; assumption))
  · cases ok2
    · go_wp2_with fail
      refine bodyPost_ret (v := .tuple #[.agg #[.int .i64 0, .int .i64 0], .int .i64 0, .bool false]) (by simp [results, Try.results16, go_sem, x0, x1]) rfl ⟨0, 0, 0, false, rfl, srd_no2 H1.out H2.out, ?_⟩
      repeat (first | exact Kept.refl _ | assumption | (refine Kept.alloc ?_ _) | (refine Kept.setCell ?_ (by first | omega | (simp; omega) | simp) _) | refine Kept.drew ?_ | refine Kept.drewN ?_ _ | (apply Kept.call; rotate_left; assumption))
    · by_cases hb : 1099511627776 < n ∨ 6 ≤ m
      · have hno : SRd s.data.toList a 0 0 0 false := srd_no3 H1.out H2.out (by omega)
        have HNO := Lib.hid hno
        clear hno
        rcases Nat.lt_or_ge 1099511627776 n with h1 | h1
        · go_wp2_with fail
          refine bodyPost_ret (v := .tuple #[.agg #[.int .i64 0, .int .i64 0], .int .i64 0, .bool false]) (by simp [results, Try.results16, go_sem, x0, x1]) rfl ⟨0, 0, 0, false, rfl, HNO.out, ?_⟩
          repeat (first | exact Kept.refl _ | assumption | (refine Kept.alloc ?_ _) | (refine Kept.setCell ?_ (by first | omega | (simp; omega) | simp) _) | refine Kept.drew ?_ | refine Kept.drewN ?_ _ | (apply Kept.call; rotate_left; assumption))
        · have h2 : 6 ≤ m := by omega
          clear hb
          go_wp2_with fail
          refine bodyPost_ret (v := .tuple #[.agg #[.int .i64 0, .int .i64 0], .int .i64 0, .bool false]) (by simp [results, Try.results16, go_sem, x0, x1]) rfl ⟨0, 0, 0, false, rfl, HNO.out, ?_⟩
          repeat (first | exact Kept.refl _ | assumption | (refine Kept.alloc ?_ _) | (refine Kept.setCell ?_ (by first | omega | (simp; omega) | simp) _) | refine Kept.drew ?_ | refine Kept.drewN ?_ _ | (apply Kept.call; rotate_left; assumption))
      · have hb1 : n ≤ 1099511627776 := by omega
        have hb2 : m < 6 := by omega
        clear hb
        have kS : Kept w ((w2.setCell ⟨w.heap.size, 0, none⟩ (.int .i64 n)).setCell ⟨w.heap.size, 1, none⟩ (.int .i64 m)) := (K2.setCell (by simp) _).setCell (by simp) _
        have XS : Hid (((w2.setCell ⟨w.heap.size, 0, none⟩ (.int .i64 n)).setCell ⟨w.heap.size, 1, none⟩ (.int .i64 m)).heap[w.heap.size]? = some (.cells #[.int .i64 n, .int .i64 m] 24 (0, 0))) := by
          unfold Hid
          have := HX2.out
          simp [World.setCell, Array.getElem?_modify, this]
        rcases Nat.eq_zero_or_pos n with hz | hz
        · subst hz
          have hno : SRd s.data.toList a 0 0 0 false := srd_no3 H1.out H2.out (by omega)
          have HNO := Lib.hid hno
          clear hno
          go_wp2_with fail
          refine (check_no 0 m _ (by omega)).mono ?_
          rintro e w3 ⟨rfl, k3⟩
          have X3 := k3.heap XS.out
          have x0 : w3.cell? ⟨w.heap.size, 0, none⟩ = some (.int .i64 0) := by rw [Lib.cell_of_heap X3]; rfl
          have x1 : w3.cell? ⟨w.heap.size, 1, none⟩ = some (.int .i64 m) := by rw [Lib.cell_of_heap X3]; rfl
          have f0 : w3.frozen? ⟨w.heap.size, 0, none⟩ = false := Lib.frozen_of_heap X3 0
          have f1 : w3.frozen? ⟨w.heap.size, 1, none⟩ = false := Lib.frozen_of_heap X3 1
          have K3 := kS.call k3
          clear X3
          go_wp2_with fail
          refine bodyPost_ret (v := .tuple #[.agg #[.int .i64 0, .int .i64 0], .int .i64 0, .bool false]) (by simp [results, Try.results16, go_sem, x0, x1]) rfl ⟨0, 0, 0, false, rfl, HNO.out, ?_⟩
          repeat (first | exact Kept.refl _ | assumption | (refine Kept.alloc ?_ _) | (refine Kept.setCell ?_ (by first | omega | (simp; omega) | simp) _) | refine Kept.drew ?_ | refine Kept.drewN ?_ _ | (apply Kept.call; rotate_left; assumption))
        · have hyes : SRd s.data.toList a n m en true := srd_yes H1.out H2.out hz hb1 hb2
          have HY := Lib.hid hyes
          clear hyes
          go_wp2_with fail
          refine (check_yes n m _ (by omega)).mono ?_
          rintro e w3 ⟨rfl, k3⟩
          have X3 := k3.heap XS.out
          have x0 : w3.cell? ⟨w.heap.size, 0, none⟩ = some (.int .i64 n) := by rw [Lib.cell_of_heap X3]; rfl
          have x1 : w3.cell? ⟨w.heap.size, 1, none⟩ = some (.int .i64 m) := by rw [Lib.cell_of_heap X3]; rfl
          have f0 : w3.frozen? ⟨w.heap.size, 0, none⟩ = false := Lib.frozen_of_heap X3 0
          have f1 : w3.frozen? ⟨w.heap.size, 1, none⟩ = false := Lib.frozen_of_heap X3 1
          have K3 := kS.call k3
          clear X3
          go_wp2_with fail
          refine bodyPost_ret (v := .tuple #[.agg #[.int .i64 n, .int .i64 m], .int .i64 en, .bool true]) (by simp [results, Try.results16, go_sem, x0, x1]) rfl ⟨n, m, en, true, rfl, HY.out, ?_⟩
          repeat (first | exact Kept.refl _ | assumption | (refine Kept.alloc ?_ _) | (refine Kept.setCell ?_ (by first | omega | (simp; omega) | simp) _) | refine Kept.drew ?_ | refine Kept.drewN ?_ _ | (apply Kept.call; rotate_left; assumption))
end Go.Proofs.Ytfiocebipckaaaa

/- The program and the document tell the same of where labels go, whatever the parents are. Arrays of four that come in. -/
import Derived.Test.YtjmfdacokdffiaaRouV
import Derived.Test.YtjmfdacokdffiaaRouT
import Derived.Test.YtjmfdacokdffiaaArr
set_option linter.unusedSimpArgs false
set_option linter.unusedVariables false
namespace Go.Proofs.Ytjmfdacokdffiaa
open Go.RowKit Go.ChangeShapes Go.WideShapes Go.Joins

theorem open_arr4 {H : Type} {enc : TypeId × Value → H} {P : Program} {w : World} {base : Nat} {spare : Nat → Bool} {held : Bool} {r : Reach} {b0 : Nat} {t e : TypeId} {v : Value} {d : DataW H} {p : List MemPlace} (ht : P.underlying t = some (.array 4 e)) (he : P.cellsOf e = 1) (hC : P.cellsOf t = 4)
    (hv : Value.okWide P w r b0 t v) (h : DataW.Trod enc P w base spare held t v d p) :
    ∃ (v0 v1 v2 v3 : Value) (y0 y1 y2 y3 : DataW H × List MemPlace) (n : Nat), v = .agg #[v0, v1, v2, v3] ∧ d = .agg [y0.1, y1.1, y2.1, y3.1] ∧ p = y0.2 ++ (y1.2 ++ (y2.2 ++ y3.2)) ∧
      DataW.trod enc P w base spare held n e [v0] = some y0 ∧ DataW.trod enc P w base spare held n e [v1] = some y1 ∧ DataW.trod enc P w base spare held n e [v2] = some y2 ∧ DataW.trod enc P w base spare held n e [v3] = some y3 := by
  obtain ⟨cs, rfl, hsz⟩ := okWide_array ht hv
  obtain ⟨c0, c1, c2, c3, rfl⟩ : ∃ a b c d, cs = #[a, b, c, d] := by
    have hs : cs.size = 4 := hsz.trans hC
    obtain ⟨l⟩ := cs
    match l, hs with
    | [a, b, c, d], _ => exact ⟨a, b, c, d, rfl⟩
  obtain ⟨fuel, hf⟩ := h
  obtain ⟨xs, m, _, hx, _, hl, hi⟩ := DataW.trod_array ht hf
  match xs, hl with
  | [y0, y1, y2, y3], _ =>
    have h0 := hi 0 (by omega)
    have h1 := hi 1 (by omega)
    have h2 := hi 2 (by omega)
    have h3 := hi 3 (by omega)
    rw [he] at h0 h1 h2 h3
    simp only [List.map_cons, List.map_nil, List.flatMap_cons, List.flatMap_nil, List.append_nil, Prod.mk.injEq] at hx
    exact ⟨c0, c1, c2, c3, y0, y1, y2, y3, m, rfl, hx.1, hx.2, by simpa [Value.cells] using h0, by simpa [Value.cells] using h1, by simpa [Value.cells] using h2, by simpa [Value.cells] using h3⟩
theorem RowNew.row {l : List Nat} {w w' : World} {e : Ending} (h : RowNew l w e w') : RowIs l w e w' := h.is
theorem rowis_nil {w w' : World} {e : Ending} (h : e = .returned (.slice none 0 0)) (k : Kept w w') : RowIs [] w e w' :=
  ⟨none, 0, h, ⟨rfl, Nat.le_refl _, by unfold maxLen; omega, fun _ => ⟨rfl, rfl⟩, fun h => by simp at h⟩, k⟩
section
variable (A B C : Option Addr) (n1 c1 n2 c2 n3 c3 : Nat) (es : List Nat) (os ps : List Int) (w : World)
/-- A row of ranges is told. -/
def RgsIs (l : List Rg) (w : World) (e : Ending) (w' : World) : Prop := ∃ D n c, e = .returned (.slice D n c) ∧ RowS w' D n c l ∧ Kept w w'
def PrsIs (l : List Pr) (w : World) (e : Ending) (w' : World) : Prop := ∃ D c n, e = .returned (.slice D n c) ∧ PrsAt w' D n c l ∧ Kept w w'
theorem rgsis_nil {w w' : World} {e : Ending} (h : e = .returned (.slice none 0 0)) (k : Kept w w') : RgsIs [] w e w' :=
  ⟨none, 0, 0, h, ⟨rfl, Nat.le_refl _, by unfold maxLen; omega, fun _ => ⟨rfl, rfl⟩, fun h => by omega⟩, k⟩
theorem both_next (a f : Int) (k : ByteArray) (hr : RowW w A n1 c1 B n2 c2 C n3 c3 (rgs es) os ps) (hf : Fit es os n3) : ∃ L,
    (∀ w9, Kept w w9 → Calls Try.prog 19 #[.agg #[.slice A n1 c1, .slice B n2 c2, .slice C n3 c3], .int .i64 a, .int .i64 f, .string k] w9 (RowIs L w9)) ∧
    (∀ w9, Kept w w9 → Calls Try.prog 21 #[.agg #[.slice A n1 c1, .slice B n2 c2, .slice C n3 c3], .int .i64 a, .int .i64 f, .string k] w9 (RowIs L w9)) := by
  by_cases ht : IsTree ps
  · exact ⟨_, fun w9 h9 => (next_any A B C n1 c1 n2 c2 n3 c3 es os ps a f k w9 (hr.keep h9) ⟨hf, ht⟩).mono fun e w' h => h.is, fun w9 h9 => (r9next_any A B C n1 c1 n2 c2 n3 c3 es os ps a f k w9 (hr.keep h9) ⟨hf, ht⟩).mono fun e w' h => h.is⟩
  · exact ⟨[], fun w9 h9 => (next_no A B C n1 c1 n2 c2 n3 c3 es os ps a f k w9 (hr.keep h9) hf ht).mono fun e w' h => rowis_nil h.1 h.2, fun w9 h9 => (r9next_no A B C n1 c1 n2 c2 n3 c3 es os ps a f k w9 (hr.keep h9) hf ht).mono fun e w' h => rowis_nil h.1 h.2⟩
theorem both_serves (a f : Int) (hr : RowW w A n1 c1 B n2 c2 C n3 c3 (rgs es) os ps) (hf : Fit es os n3) : ∃ L,
    (∀ w9, Kept w w9 → Calls Try.prog 23 #[.agg #[.slice A n1 c1, .slice B n2 c2, .slice C n3 c3], .int .i64 a, .int .i64 f] w9 (RgsIs L w9)) ∧
    (∀ w9, Kept w w9 → Calls Try.prog 24 #[.agg #[.slice A n1 c1, .slice B n2 c2, .slice C n3 c3], .int .i64 a, .int .i64 f] w9 (RgsIs L w9)) := by
  by_cases ht : IsTree ps
  · exact ⟨_, fun w9 h9 => serves_any A B C n1 c1 n2 c2 n3 c3 es os ps a f w9 (hr.keep h9) ⟨hf, ht⟩, fun w9 h9 => r9serves_any A B C n1 c1 n2 c2 n3 c3 es os ps a f w9 (hr.keep h9) ⟨hf, ht⟩⟩
  · exact ⟨[], fun w9 h9 => (serves_no A B C n1 c1 n2 c2 n3 c3 es os ps a f w9 (hr.keep h9) hf ht).mono fun e w' h => rgsis_nil h.1 h.2, fun w9 h9 => (r9serves_no A B C n1 c1 n2 c2 n3 c3 es os ps a f w9 (hr.keep h9) hf ht).mono fun e w' h => rgsis_nil h.1 h.2⟩
theorem both_ways (a : Int) (k : ByteArray) (hr : RowW w A n1 c1 B n2 c2 C n3 c3 (rgs es) os ps) (hf : Fit es os n3) (ht : IsTree ps) : ∃ L,
    (∀ w9, Kept w w9 → Calls Try.prog 12 #[.agg #[.slice A n1 c1, .slice B n2 c2, .slice C n3 c3], .int .i64 a, .string k] w9 (PrsIs L w9)) ∧
    (∀ w9, Kept w w9 → Calls Try.prog 27 #[.agg #[.slice A n1 c1, .slice B n2 c2, .slice C n3 c3], .int .i64 a, .string k] w9 (PrsIs L w9)) := by
  have ho := oa_bd hf (find_le es (hv k))
  have hG := nxt_goes ht ho.1 ho.2
  rw [show ps.length = n3 from hr.ps.1] at hG
  have hS := small_tree ht hG a
  exact ⟨_, fun w9 h9 => ways_any A B C n1 c1 n2 c2 n3 c3 es os ps a k w9 (hr.keep h9) ⟨hf, ht⟩ hS, fun w9 h9 => (r9ways_any A B C n1 c1 n2 c2 n3 c3 es os ps a k w9 (hr.keep h9) ⟨hf, ht⟩ hS).mono fun e w' ⟨D, c, n, h1, h2, h3, _⟩ => ⟨D, c, n, h1, h2, h3⟩⟩
theorem both_reach (a : Int) (k : ByteArray) (hr : RowW w A n1 c1 B n2 c2 C n3 c3 (rgs es) os ps) (hf : Fit es os n3) : ∃ r : Int,
    (∀ w9, Kept w w9 → Calls Try.prog 18 #[.agg #[.slice A n1 c1, .slice B n2 c2, .slice C n3 c3], .int .i64 a, .string k] w9 fun e w' => e = .returned (.int .i64 r) ∧ Kept w9 w') ∧
    (∀ w9, Kept w w9 → Calls Try.prog 28 #[.agg #[.slice A n1 c1, .slice B n2 c2, .slice C n3 c3], .int .i64 a, .string k] w9 fun e w' => e = .returned (.int .i64 r) ∧ Kept w9 w') := by
  by_cases ht : IsTree ps
  · by_cases ha : a < 0 ∨ (n3 : Int) ≤ a
    · exact ⟨0, fun w9 h9 => reach_out A B C n1 c1 n2 c2 n3 c3 es os ps a k w9 (hr.keep h9) ⟨hf, ht⟩ ha, fun w9 h9 => r9reach_out A B C n1 c1 n2 c2 n3 c3 es os ps a k w9 (hr.keep h9) ⟨hf, ht⟩ ha⟩
    · obtain ⟨f, rfl⟩ := Int.eq_ofNat_of_zero_le (show 0 ≤ a by omega)
      have hfn : f < n3 := by omega
      obtain ⟨r, h⟩ := maskIs_one (Came ps (oa os (findI es (hv k))) f)
      exact ⟨r, fun w9 h9 => (reach_any A B C n1 c1 n2 c2 n3 c3 es os ps f k w9 (hr.keep h9) ⟨hf, ht⟩ hfn).mono fun e w' ⟨m, h1, h2, h3⟩ => ⟨by rw [h1, h m h2], h3⟩, fun w9 h9 => (r9reach_any A B C n1 c1 n2 c2 n3 c3 es os ps f k w9 (hr.keep h9) ⟨hf, ht⟩ hfn).mono fun e w' ⟨m, h1, h2, h3⟩ => ⟨by rw [h1, h m h2], h3⟩⟩
  · exact ⟨0, fun w9 h9 => reach_no A B C n1 c1 n2 c2 n3 c3 es os ps a k w9 (hr.keep h9) hf ht, fun w9 h9 => r9reach_no A B C n1 c1 n2 c2 n3 c3 es os ps a k w9 (hr.keep h9) hf ht⟩
end
theorem same_yes (A B : Option Addr) (n m c d : Nat) (xs : List Int) (w : World) (hx : IntsAt w A n c xs) (hy : IntsAt w B m d xs) :
    Calls Try.prog 20 #[.slice A n c, .slice B m d] w fun e w' => e = .returned (.bool true) ∧ Kept w w' :=
  (same_any A B n m c d xs xs w hx hy).mono fun e w' h => ⟨by rw [h.1, decide_eq_true rfl], h.2⟩
theorem samerg_yes (A B : Option Addr) (n m c d : Nat) (xs : List Rg) (w : World) (hx : RowS w A n c xs) (hy : RowS w B m d xs) :
    Calls Try.prog 22 #[.slice A n c, .slice B m d] w fun e w' => e = .returned (.bool true) ∧ Kept w w' :=
  (samerg_any A B n m c d xs xs w hx hy).mono fun e w' h => ⟨by rw [h.1, decide_eq_true rfl], h.2⟩
theorem psame_yes (A B : Option Addr) (n m c d : Nat) (xs : List Pr) (w : World) (hx : PrsAt w A n c xs) (hy : PrsAt w B m d xs) :
    Calls Try.prog 26 #[.slice A n c, .slice B m d] w fun e w' => e = .returned (.bool true) ∧ Kept w w' :=
  (psame_any A B n m c d xs xs w hx hy).mono fun e w' h => ⟨by rw [h.1, decide_eq_true rfl], h.2⟩
theorem IntsAt.set {w : World} {b n c i : Nat} {xs : List Int} (h : IntsAt w (some ⟨b, 0, none⟩) n c xs) (hi : i < n) (v : Int) : IntsAt (w.setCell ⟨b, i, none⟩ (.int .i64 v)) (some ⟨b, 0, none⟩) n c (xs.set i v) := by
  obtain ⟨h1, h2, h3, h4, h5⟩ := h
  refine ⟨by simpa using h1, h2, h3, h4, fun h0 => ?_⟩
  obtain ⟨b', off, e, hc⟩ := h5 h0
  cases e
  refine ⟨b, 0, rfl, fun k hk => ?_⟩
  rw [Nat.zero_add] at *
  by_cases e : k = i
  · subst e
    rw [World.cell?_setCell_same _ _ _ (by have := hc k hk; rwa [Nat.zero_add] at this), List.getElem?_set_self (by omega)]
    rfl
  · rw [World.cell?_setCell_other _ _ _ _ (by intro g; cases g; exact e rfl), List.getElem?_set_ne (fun g => e g.symm)]
    have := hc k hk
    rwa [Nat.zero_add] at this
end Go.Proofs.Ytjmfdacokdffiaa

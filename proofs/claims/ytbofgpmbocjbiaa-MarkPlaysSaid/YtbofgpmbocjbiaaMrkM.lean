/- A map in memory, said by a function of its keys. -/
import Derived.Test.YtbofgpmbocjbiaaKit
import Derived.Maps.Own
import Derived.DeepKeys4
set_option linter.unusedSimpArgs false
set_option linter.unusedVariables false
namespace Go.Proofs.Ytbofgpmbocjbiaa
open Go.RowKit Go.Maps Go.MapKept
open Go.ChangeMaps (setBlock heap_setBlock_same heap_setBlock_other modify_eq_set)

section
variable {I : Type} {P : Program} {k : TypeId} {mk : I → Value}
/-- Block b is a map of type k's keys that holds f. -/
def MapF (P : Program) (k : TypeId) (mk : I → Value) (w : World) (b : Nat) (f : I → Option Value) : Prop :=
  ∃ es clock, w.heap[b]? = some (.map es clock) ∧ Stamped es clock ∧ (∀ x ∈ es.toList, ∃ l, keyOf P k x.key = some l) ∧
    (∀ x ∈ es.toList, ∃ i, x.key = mk i ∧ f i = some x.val) ∧ (∀ i v, f i = some v → ∃ x ∈ es.toList, x.key = mk i ∧ x.val = v)
/-- .. and st is the stamp of the entry at i. -/
def EntF (P : Program) (k : TypeId) (mk : I → Value) (w : World) (b : Nat) (f : I → Option Value) (i : I) (st : Nat) : Prop :=
  ∃ es clock, w.heap[b]? = some (.map es clock) ∧ Stamped es clock ∧ (∀ x ∈ es.toList, ∃ l, keyOf P k x.key = some l) ∧
    (∀ x ∈ es.toList, ∃ i, x.key = mk i ∧ f i = some x.val) ∧ (∀ i v, f i = some v → ∃ x ∈ es.toList, x.key = mk i ∧ x.val = v) ∧ ∃ x ∈ es.toList, x.key = mk i ∧ x.born = st
theorem MapF.new (w : World) : MapF P k mk (w.alloc (.map #[] 0)) w.heap.size (fun _ => none) :=
  ⟨#[], 0, heap_alloc_new w _, stamped_empty 0, by simp, by simp, by simp⟩
theorem MapF.lt {w : World} {b : Nat} {f : I → Option Value} (h : MapF P k mk w b f) : b < w.heap.size := by
  obtain ⟨es, clock, hb, _⟩ := h
  exact (Array.getElem?_eq_some_iff.1 hb).1
theorem MapF.but {w w2 : World} {b : Nat} {f : I → Option Value} {X : List Nat} (h : MapF P k mk w b f) (hb : But X w w2) (hn : b ∉ X) : MapF P k mk w2 b f := by
  obtain ⟨es, clock, h1, h2⟩ := h
  exact ⟨es, clock, hb.heap h1 hn, h2⟩
theorem MapF.keep {w w2 : World} {b : Nat} {f : I → Option Value} (h : MapF P k mk w b f) (hk : Kept w w2) : MapF P k mk w2 b f := h.but (.of_kept (S := []) hk) (by simp)
theorem EntF.but {w w2 : World} {b : Nat} {f : I → Option Value} {i : I} {st : Nat} {X : List Nat} (h : EntF P k mk w b f i st) (hb : But X w w2) (hn : b ∉ X) : EntF P k mk w2 b f i st := by
  obtain ⟨es, clock, h1, h2⟩ := h
  exact ⟨es, clock, hb.heap h1 hn, h2⟩
theorem EntF.keep {w w2 : World} {b : Nat} {f : I → Option Value} {i : I} {st : Nat} (h : EntF P k mk w b f i st) (hk : Kept w w2) : EntF P k mk w2 b f i st := h.but (.of_kept (S := []) hk) (by simp)
theorem but_setBlock {w : World} {b : Nat} {es : Array MapEntry} {clock : Nat} (hb : w.heap[b]? = some (.map es clock)) (o : Obj) : But [b] w (setBlock w b o) :=
  ⟨rfl, rfl, rfl, by simp [setBlock], fun k _ hn => heap_setBlock_other hb o (by simpa using hn)⟩
variable {w : World} {b : Nat} {f : I → Option Value} {t e : TypeId}
theorem MapF.look (h : MapF P k mk w b f) (hinj : ∀ i j, mk i = mk j → i = j) (K : Keyed P k) (ht : P.underlying t = some (.map k e)) {z : Value} (hz : (zeroValue e).run P w = .ok z w) {i : I} {kl : Lit} (hkey : keyOf P k (mk i) = some kl) :
    (Instr.lookup t (.map (some b)) (mk i) false).run P w = .ok ((f i).getD z) w := by
  obtain ⟨es, clock, hb, hst, hks, h1, h2⟩ := h
  rcases K.find w hkey es.toList hks with ⟨g1, g2⟩ | ⟨j, e0, g1, g2, g3⟩
  · have hf : f i = none := by
      cases hf : f i with
      | none => rfl
      | some v => obtain ⟨x, hx, hxk, _⟩ := h2 i v hf; exact absurd hxk (g2 x hx)
    rw [hf]
    simp [Instr.lookup, run_underlying ht, MapKept.run_getObj_map hb, K.check w es.isEmpty hkey, g1, hz, Result.andThen]
  · obtain ⟨i', hi', hv⟩ := h1 e0 (List.mem_of_getElem? g2)
    rw [g3] at hi'
    obtain rfl := hinj _ _ hi'
    rw [hv]
    simp [Instr.lookup, run_underlying ht, MapKept.run_getObj_map hb, K.check w es.isEmpty hkey, g1, Result.andThen]
theorem MapF.upd [DecidableEq I] (h : MapF P k mk w b f) (hinj : ∀ i j, mk i = mk j → i = j) (K : Keyed P k) (ht : P.underlying t = some (.map k e)) {i : I} {kl : Lit} (hkey : keyOf P k (mk i) = some kl) (v : Value) :
    ∃ w', (Instr.mapUpdate t (.map (some b)) (mk i) v).run P w = .ok () w' ∧ MapF P k mk w' b (fun x => if x = i then some v else f x) ∧ But [b] w w' := by
  obtain ⟨es, clock, hb, hst, hks, h1, h2⟩ := h
  rcases K.find w hkey es.toList hks with ⟨g1, g2⟩ | ⟨j, e0, g1, g2, g3⟩
  · refine ⟨setBlock w b (.map (es.push ⟨mk i, v, clock⟩) (clock + 1)), ?_, ⟨es.push ⟨mk i, v, clock⟩, clock + 1, heap_setBlock_same hb _, stamped_push hst g2, ?_, ?_, ?_⟩, but_setBlock hb _⟩
    · simp [Instr.mapUpdate, run_underlying ht, MapKept.run_getObj_map hb, K.check w false hkey, g1, MapKept.run_setObj_map _ hb, Result.andThen, setBlock]
    · intro x hx
      simp only [Array.toList_push, List.mem_append, List.mem_singleton] at hx
      rcases hx with hx | rfl
      · exact hks x hx
      · exact ⟨_, hkey⟩
    · intro x hx
      simp only [Array.toList_push, List.mem_append, List.mem_singleton] at hx
      rcases hx with hx | rfl
      · obtain ⟨i', hi', hv⟩ := h1 x hx
        have : i' ≠ i := by rintro rfl; exact g2 x hx hi'
        exact ⟨i', hi', by simp only [if_neg this]; exact hv⟩
      · exact ⟨i, rfl, by simp⟩
    · intro i' v' hf
      by_cases hi : i' = i
      · simp only [if_pos hi] at hf
        injection hf with hf
        exact ⟨⟨mk i, v, clock⟩, by simp, by rw [hi], hf⟩
      · simp only [if_neg hi] at hf
        obtain ⟨x, hx, hxk⟩ := h2 i' v' hf
        exact ⟨x, by simp [hx], hxk⟩
  · have hj : es[j]? = some e0 := by simpa using g2
    have hlist : (es.modify j (fun e' => { e' with key := mk i, val := v })).toList = es.toList.set j { e0 with key := mk i, val := v } := by rw [Array.toList_modify, modify_eq_set _ _ _ _ g2]
    have hjl : j < es.toList.length := (List.getElem?_eq_some_iff.1 g2).1
    have hkeyf : ∀ e' ∈ es.toList, es[j]? = some e' → ({ e' with key := mk i, val := v } : MapEntry).key = e'.key := fun e' _ he' => by rw [hj] at he'; cases he'; exact g3.symm
    have who : ∀ x ∈ es.toList.set j { e0 with key := mk i, val := v }, x = { e0 with key := mk i, val := v } ∨ (x ∈ es.toList ∧ x.key ≠ mk i) := by
      intro x hx
      obtain ⟨q, hq, ex⟩ := List.getElem_of_mem hx
      rw [List.getElem_set] at ex
      split at ex
      · exact .inl ex.symm
      · rename_i hne
        have hq' : q < es.toList.length := by simpa using hq
        refine .inr ⟨ex ▸ List.getElem_mem hq', fun hxk => hne ?_⟩
        have hnd := hst.2.2
        have e1 : (es.toList.map (·.key))[q]? = some x.key := by rw [List.getElem?_map, List.getElem?_eq_getElem hq', ex]; rfl
        have e2 : (es.toList.map (·.key))[j]? = some x.key := by rw [List.getElem?_map, g2, hxk, ← g3]; rfl
        have hql : q < (es.toList.map (·.key)).length := by simpa using hq'
        exact ((List.getElem?_inj hql hnd).1 (e1.trans e2.symm)).symm
    refine ⟨setBlock w b (.map (es.modify j (fun e' => { e' with key := mk i, val := v })) clock), ?_, ⟨_, clock, heap_setBlock_same hb _, stamped_modify hst _ _ (fun _ _ => rfl) hkeyf, ?_, ?_, ?_⟩, but_setBlock hb _⟩
    · simp [Instr.mapUpdate, run_underlying ht, MapKept.run_getObj_map hb, K.check w false hkey, g1, hj, g3, K.stays w hkey, MapKept.run_setObj_map _ hb, Result.andThen, setBlock]
    · intro x hx
      rw [hlist] at hx
      rcases who x hx with rfl | ⟨hx, _⟩
      · exact ⟨_, hkey⟩
      · exact hks x hx
    · intro x hx
      rw [hlist] at hx
      rcases who x hx with rfl | ⟨hx, hne⟩
      · exact ⟨i, rfl, by simp⟩
      · obtain ⟨i', hi', hv⟩ := h1 x hx
        have : i' ≠ i := by rintro rfl; exact hne hi'
        exact ⟨i', hi', by simp only [if_neg this]; exact hv⟩
    · intro i' v' hf
      rw [hlist]
      by_cases hi : i' = i
      · simp only [if_pos hi] at hf
        injection hf with hf
        exact ⟨{ e0 with key := mk i, val := v }, List.mem_set hjl _, by rw [hi], hf⟩
      · simp only [if_neg hi] at hf
        obtain ⟨x, hx, hxk, hxv⟩ := h2 i' v' hf
        obtain ⟨q, hq, ex⟩ := List.getElem_of_mem hx
        have hqj : j ≠ q := by
          rintro rfl
          have : e0 = x := by
            have := List.getElem?_eq_getElem hq
            rw [g2, ex] at this
            injection this
          rw [← this, g3] at hxk
          exact hi (hinj _ _ hxk).symm
        refine ⟨x, ?_, hxk, hxv⟩
        rw [← ex]
        have : (es.toList.set j { e0 with key := mk i, val := v })[q]'(by simpa using hq) = es.toList[q] := List.getElem_set_ne hqj _
        rw [← this]
        exact List.getElem_mem _
theorem MapF.ent [DecidableEq I] (h : MapF P k mk w b f) (hinj : ∀ i j, mk i = mk j → i = j) (K : Keyed P k) (ht : P.underlying t = some (.map k e)) {z : Value} (hz : (zeroValue e).run P w = .ok z w) {i : I} {kl : Lit} (hkey : keyOf P k (mk i) = some kl) :
    ∃ (st : Nat) (w' : World), (Instr.mapEntry t (.map (some b)) (mk i)).run P w = .ok (.tuple #[(f i).getD z, .int .i64 (st : Int)]) w' ∧ EntF P k mk w' b (fun x => if x = i then some ((f i).getD z) else f x) i st ∧ But [b] w w' := by
  obtain ⟨es, clock, hb, hst, hks, h1, h2⟩ := h
  rcases K.find w hkey es.toList hks with ⟨g1, g2⟩ | ⟨j, e0, g1, g2, g3⟩
  · have hf : f i = none := by
      cases hf : f i with
      | none => rfl
      | some v => obtain ⟨x, hx, hxk, _⟩ := h2 i v hf; exact absurd hxk (g2 x hx)
    rw [hf]
    refine ⟨clock, setBlock w b (.map (es.push ⟨mk i, z, clock⟩) (clock + 1)), ?_, ⟨es.push ⟨mk i, z, clock⟩, clock + 1, heap_setBlock_same hb _, stamped_push hst g2, ?_, ?_, ?_, ⟨mk i, z, clock⟩, by simp, rfl, rfl⟩, but_setBlock hb _⟩
    · simp [Instr.mapEntry, run_underlying ht, MapKept.run_getObj_map hb, K.check w false hkey, g1, hz, MapKept.run_setObj_map _ hb, Result.andThen, setBlock, goInt]
    · intro x hx
      simp only [Array.toList_push, List.mem_append, List.mem_singleton] at hx
      rcases hx with hx | rfl
      · exact hks x hx
      · exact ⟨_, hkey⟩
    · intro x hx
      simp only [Array.toList_push, List.mem_append, List.mem_singleton] at hx
      rcases hx with hx | rfl
      · obtain ⟨i', hi', hv⟩ := h1 x hx
        have : i' ≠ i := by rintro rfl; exact g2 x hx hi'
        exact ⟨i', hi', by simp only [if_neg this]; exact hv⟩
      · exact ⟨i, rfl, by simp⟩
    · intro i' v' hf'
      by_cases hi : i' = i
      · simp only [if_pos hi] at hf'
        injection hf' with hf'
        exact ⟨⟨mk i, z, clock⟩, by simp, by rw [hi], hf'⟩
      · simp only [if_neg hi] at hf'
        obtain ⟨x, hx, hxk⟩ := h2 i' v' hf'
        exact ⟨x, by simp [hx], hxk⟩
  · have hj : es[j]? = some e0 := by simpa using g2
    have he0 := List.mem_of_getElem? g2
    obtain ⟨i', hi', hv⟩ := h1 e0 he0
    rw [g3] at hi'
    obtain rfl := hinj _ _ hi'
    have hsame : es.modify j (fun e' => { e' with key := mk i }) = es := by
      apply Array.toList_inj.1
      rw [Array.toList_modify, modify_eq_set _ _ _ _ g2]
      have : ({ e0 with key := mk i } : MapEntry) = e0 := by cases e0; simp only at g3; rw [g3]
      rw [this]
      have hjl : j < es.toList.length := (List.getElem?_eq_some_iff.1 g2).1
      have : e0 = es.toList[j] := by rw [List.getElem?_eq_getElem hjl] at g2; injection g2 with g2; exact g2.symm
      rw [this, List.set_getElem_self]
    refine ⟨e0.born, setBlock w b (.map es clock), ?_, ⟨es, clock, heap_setBlock_same hb _, hst, hks, ?_, ?_, e0, he0, g3, rfl⟩, but_setBlock hb _⟩
    · rw [hv]
      simp [Instr.mapEntry, run_underlying ht, MapKept.run_getObj_map hb, K.check w false hkey, g1, hj, g3, K.stays w hkey, MapKept.run_setObj_map _ hb, Result.andThen, setBlock, goInt]
      rw [hsame]
    · intro x hx
      obtain ⟨q, hq, hqv⟩ := h1 x hx
      refine ⟨q, hq, ?_⟩
      by_cases hqi : q = i
      · simp only [if_pos hqi, hv]; rw [← hqv, hqi, hv]; rfl
      · simp only [if_neg hqi]; exact hqv
    · intro q v' hf
      by_cases hqi : q = i
      · simp only [if_pos hqi, hv] at hf
        injection hf with hf
        exact ⟨e0, he0, by rw [g3, hqi], hf⟩
      · simp only [if_neg hqi] at hf
        exact h2 q v' hf
theorem EntF.store [DecidableEq I] {i : I} {st : Nat} (h : EntF P k mk w b f i st) (hinj : ∀ i j, mk i = mk j → i = j) (v : Value) :
    ∃ w', (Instr.entryStore t (.map (some b)) (.int .i64 (st : Int)) v).run P w = .ok () w' ∧ MapF P k mk w' b (fun x => if x = i then some v else f x) ∧ But [b] w w' := by
  obtain ⟨es, clock, hb, hst, hks, h1, h2, x0, hx0, hxk, hxb⟩ := h
  cases hfi : es.findIdx? (fun e => (e.born : Int) == (st : Int)) with
  | none =>
    have := Array.findIdx?_eq_none_iff.1 hfi x0 (by simpa using hx0)
    rw [hxb] at this
    simp at this
  | some j =>
    obtain ⟨hj, hjb, _⟩ := Array.findIdx?_eq_some_iff_getElem.1 hfi
    have hjl : j < es.toList.length := by simpa using hj
    have hjb : (es.toList[j]).born = st := by simp at hjb; simp; omega
    obtain ⟨q, hq, hqx⟩ := List.getElem_of_mem hx0
    have hqj : q = j := by
      have e1 : (es.toList.map (·.born))[q]? = some st := by rw [List.getElem?_map, List.getElem?_eq_getElem hq, hqx, ← hxb]; rfl
      have e2 : (es.toList.map (·.born))[j]? = some st := by rw [List.getElem?_map, List.getElem?_eq_getElem hjl, ← hjb]; rfl
      exact (List.getElem?_inj (by simpa using hq) hst.2.1).1 (e1.trans e2.symm)
    subst hqj
    have g2 : es.toList[q]? = some x0 := by rw [List.getElem?_eq_getElem hq, hqx]
    have hlist : (es.modify q (fun e' => { e' with val := v })).toList = es.toList.set q { x0 with val := v } := by rw [Array.toList_modify, modify_eq_set _ _ _ _ g2]
    have who : ∀ x ∈ es.toList.set q { x0 with val := v }, x = { x0 with val := v } ∨ (x ∈ es.toList ∧ x.key ≠ mk i) := by
      intro x hx
      obtain ⟨p, hp, ex⟩ := List.getElem_of_mem hx
      rw [List.getElem_set] at ex
      split at ex
      · exact .inl ex.symm
      · rename_i hne
        have hp' : p < es.toList.length := by simpa using hp
        refine .inr ⟨ex ▸ List.getElem_mem hp', fun hxk' => hne ?_⟩
        have e1 : (es.toList.map (·.key))[p]? = some x.key := by rw [List.getElem?_map, List.getElem?_eq_getElem hp', ex]; rfl
        have e2 : (es.toList.map (·.key))[q]? = some x.key := by rw [List.getElem?_map, g2, hxk', ← hxk]; rfl
        exact ((List.getElem?_inj (by simpa using hp') hst.2.2).1 (e1.trans e2.symm)).symm
    refine ⟨setBlock w b (.map (es.modify q (fun e' => { e' with val := v })) clock), ?_, ⟨_, clock, heap_setBlock_same hb _, stamped_modify hst _ _ (fun _ _ => rfl) (fun _ _ _ => rfl), ?_, ?_, ?_⟩, but_setBlock hb _⟩
    · simp [Instr.entryStore, MapKept.run_getObj_map hb, asInt, asIntOf, hfi, MapKept.run_setObj_map _ hb, Result.andThen, setBlock]
    · intro x hx
      rw [hlist] at hx
      rcases who x hx with rfl | ⟨hx, _⟩
      · exact hks x0 hx0
      · exact hks x hx
    · intro x hx
      rw [hlist] at hx
      rcases who x hx with rfl | ⟨hx, hne⟩
      · exact ⟨i, hxk, by simp⟩
      · obtain ⟨i', hi', hv⟩ := h1 x hx
        have : i' ≠ i := by rintro rfl; exact hne hi'
        exact ⟨i', hi', by simp only [if_neg this]; exact hv⟩
    · intro i' v' hf
      rw [hlist]
      by_cases hi : i' = i
      · simp only [if_pos hi] at hf
        injection hf with hf
        exact ⟨{ x0 with val := v }, List.mem_set hjl _, by rw [hi]; exact hxk, hf⟩
      · simp only [if_neg hi] at hf
        obtain ⟨x, hx, hxk', hxv⟩ := h2 i' v' hf
        obtain ⟨p, hp, ex⟩ := List.getElem_of_mem hx
        have hpq : q ≠ p := by
          rintro rfl
          rw [hqx] at ex
          rw [← ex, hxk] at hxk'
          exact hi (hinj _ _ hxk').symm
        refine ⟨x, ?_, hxk', hxv⟩
        rw [← ex]
        have : (es.toList.set q { x0 with val := v })[p]'(by simpa using hp) = es.toList[p] := List.getElem_set_ne hpq _
        rw [← this]
        exact List.getElem_mem _
end
end Go.Proofs.Ytbofgpmbocjbiaa

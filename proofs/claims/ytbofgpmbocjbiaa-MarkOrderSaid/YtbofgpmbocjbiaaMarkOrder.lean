/- The walk of the law MarkOrder: it returns true for all labels and picks. -/
import Derived.Test.YtbofgpmbocjbiaaMrkK
import Derived.Test.YtbofgpmbocjbiaaRow
import Derived.Laws.BytesArg
import Derived.Outline
set_option linter.unusedSimpArgs false
set_option linter.unusedVariables false
namespace Go.Proofs.Ytbofgpmbocjbiaa
open Go.RowKit Go.ChangeShapes Go.WideShapes Go.Deep Go.Joins Go.Maps

def chr (c : Int) : ByteArray := ⟨#[UInt8.ofNat c.toNat]⟩
theorem conv_chr (w : World) (g : Nat) (c : Int) (hg : g = w.heap.size) :
    (convert 39 9 (.slice (some ⟨g, 0, none⟩) 1 1)).run Try.prog (w.alloc (.cells #[.int .u8 c] 5)) = .ok (.string (chr c)) (w.alloc (.cells #[.int .u8 c] 5)) := by
  subst hg
  exact run_convert_bytes_arg _ 39 5 Try.underlying39 (by kernel_rfl) w.heap.size 0 1 1 [c] rfl (fun i hi => by
    obtain rfl : i = 0 := by omega
    exact cellOf (heap_alloc_new w _) 0) 9 (by kernel_rfl)
def cat (l : List ByteArray) : ByteArray := l.foldl (· ++ ·) ⟨#[]⟩
theorem cat_snoc (l : List ByteArray) (d : ByteArray) : cat (l ++ [d]) = cat l ++ d := by simp [cat]
theorem cat_nil : cat [] = ⟨#[]⟩ := rfl
theorem snoc_ind {α : Type} {p : List α → Prop} (h0 : p []) (h1 : ∀ l d, p l → p (l ++ [d])) (l : List α) : p l := by
  have h : ∀ m : List α, p m.reverse := by
    intro m
    induction m with
    | nil => exact h0
    | cons a m ih => rw [List.reverse_cons]; exact h1 _ _ ih
  have := h l.reverse
  rwa [List.reverse_reverse] at this
theorem cat_size (l : List ByteArray) (h : ∀ d ∈ l, d.size = 1) : (cat l).size = l.length := by
  revert h
  refine snoc_ind (p := fun l => (∀ d ∈ l, d.size = 1) → (cat l).size = l.length) (fun _ => rfl) ?_ l
  · intro l d ih h
    rw [cat_snoc, ByteArray.size_append, ih fun x hx => h x (by simp [hx]), h d (by simp), List.length_append, List.length_singleton]
theorem cellsBool : Try.prog.cellsOf 4 = 1 := by kernel_rfl
theorem open_slice4 {H : Type} {enc : TypeId × Value → H} {w : World} {spare : Nat → Bool} {held : Bool} {a : Option Addr} {n c : Nat} {d : DataW H} {p : List MemPlace}
    (h : DataW.Trod enc Try.prog w 0 spare held 40 (.slice a n c) d p) : ∃ x : Nat → Bool, RowAt w a n c 1 (fun i => [.bool (x i)]) ∧ ∀ i, i < n → True :=
  row_open Try.underlying40 cellsBool (by omega) (fun x : Bool => [.bool x]) (fun _ => True) false (fun m cs y hl hy => by
    match cs, hl with
    | [v0], _ =>
      obtain ⟨a0, e0, _⟩ := DataW.trod_bool Try.underlying4 hy
      simp at e0
      exact ⟨a0, by simp [e0], trivial⟩) h
/-- Labels are on their way from 1 to 0, and no marker. -/
structure Lb (st : DSt) (ts : List ByteArray) : Prop where
  s : st.S 1 = false
  w : st.W (1, 0) = ts.map some
structure Mb (st : DSt) (ts : List ByteArray) : Prop where
  s : st.S 1 = true
  w : st.W (1, 0) = ts.map some ++ [none]
theorem Lb.send {st : DSt} {ts : List ByteArray} (h : Lb st ts) (hl : ts.length < 32) (t : ByteArray) : sendR p2 st 1 0 = 0 ∧ Lb (sendD p2 st 1 0 t) (ts ++ [t]) := by
  have hr : sendR p2 st 1 0 = 0 := by
    unfold sendR
    rw [nb10, h.s, h.w]
    simp
    omega
  refine ⟨hr, ?_, ?_⟩
  · unfold sendD; rw [if_pos hr]; exact h.s
  · unfold sendD; rw [if_pos hr]
    show (if ((1 : Int), (0 : Int)) = (1, 0) then st.W (1, 0) ++ [some t] else st.W (1, 0)) = (ts ++ [t]).map some
    rw [if_pos rfl, h.w]; simp
theorem Lb.pick {st : DSt} {t : ByteArray} {ts : List ByteArray} (h : Lb st (t :: ts)) : pickV st 1 0 = .tuple #[.string t, .bool false, .bool true] ∧ Lb (pickD p2 st 1 0) ts := by
  have hw : st.W (1, 0) = some t :: ts.map some := h.w
  have hd : pickD p2 st 1 0 = st.setW (1, 0) (ts.map some) := by unfold pickD; rw [hw]
  refine ⟨by unfold pickV; rw [hw], ?_, ?_⟩
  · rw [hd]; exact h.s
  · rw [hd]; rfl
theorem pickD_nil {ps : List Int} {st : DSt} {a b : Int} (h : st.W (a, b) = []) : pickD ps st a b = st := by unfold pickD; rw [h]
theorem in1 : inB p2.length 1 = true := rfl
theorem in0 : inB p2.length 0 = true := rfl
theorem Lb.stop {st : DSt} {ts : List ByteArray} (h : Lb st ts) : stopR p2 st 1 = 0 ∧ Mb (stopD p2 st 1) ts := by
  obtain ⟨e1, e2, _, _⟩ := stopD_yes in1 h.s
  refine ⟨by unfold stopR; rw [in1, h.s]; rfl, ?_, ?_⟩
  · rw [e2, if_pos rfl]
  · rw [e1, if_pos ⟨rfl, nb10⟩, h.w]
theorem Mb.late {st : DSt} {ts : List ByteArray} (h : Mb st ts) (t : ByteArray) : sendR p2 st 1 0 = 13 ∧ sendD p2 st 1 0 t = st ∧ stopR p2 st 1 = 13 ∧ stopD p2 st 1 = st := by
  have hr : sendR p2 st 1 0 = 13 := by unfold sendR; rw [nb10, h.s]; rfl
  refine ⟨hr, ?_, by unfold stopR; rw [in1, h.s]; rfl, stopD_no (.inr h.s)⟩
  unfold sendD
  rw [hr]; rfl
theorem Mb.pick {st : DSt} {t : ByteArray} {ts : List ByteArray} (h : Mb st (t :: ts)) : pickV st 1 0 = .tuple #[.string t, .bool false, .bool true] ∧ Mb (pickD p2 st 1 0) ts := by
  have hw : st.W (1, 0) = some t :: (ts.map some ++ [none]) := h.w
  have hd : pickD p2 st 1 0 = st.setW (1, 0) (ts.map some ++ [none]) := by unfold pickD; rw [hw]
  refine ⟨by unfold pickV; rw [hw], ?_, ?_⟩
  · rw [hd]; exact h.s
  · rw [hd]; rfl
theorem Mb.last {st : DSt} (h : Mb st []) : pickV st 1 0 = .tuple #[.string ⟨#[]⟩, .bool true, .bool true] ∧ pickV (pickD p2 st 1 0) 1 0 = .tuple #[.string ⟨#[]⟩, .bool false, .bool false] ∧ pickD p2 (pickD p2 st 1 0) 1 0 = pickD p2 st 1 0 ∧
    (inB p2.length 0 && (pickD p2 st 1 0).S 0) = true ∧ doneB p2 (pickD p2 st 1 0) 0 = true := by
  have hw : st.W (1, 0) = none :: [] := h.w
  have hd : pickD p2 st 1 0 = stopD p2 ((st.setW (1, 0) []).came (1, 0)) 0 := by unfold pickD; rw [hw]
  have hW : (pickD p2 st 1 0).W (1, 0) = [] := by
    rw [hd]
    cases hs : ((st.setW (1, 0) []).came (1, 0)).S 0 with
    | true => rw [stopD_no (.inr hs)]; rfl
    | false =>
      rw [(stopD_yes in0 hs).1, if_neg (by simp)]; rfl
  have hS : (pickD p2 st 1 0).S 0 = true := by rw [hd]; exact stopD_S in0
  have hC : (pickD p2 st 1 0).C (1, 0) = true := by rw [hd, stopD_C]; rfl
  refine ⟨by unfold pickV; rw [hw], by unfold pickV; rw [hW], ?_, by rw [in0, hS]; rfl, ?_⟩
  · exact pickD_nil hW
  · unfold doneB
    rw [in0, hS, near20]
    simpa using hC

set_option maxHeartbeats 4000000 in
set_option maxRecDepth 20000 in
theorem markOrder_walk (A : Option Addr) (n c : Nat) (x : Nat → Int) (A2 : Option Addr) (n2 c2 : Nat) (x2 : Nat → Bool) (w : World) (hr : RowAt w A n c 1 (fun i => [.int .u8 (x i)])) (hx : ∀ i, i < n → (Lit.int .u8 (x i)).wf = true)
    (hr2 : RowAt w A2 n2 c2 1 (fun i => [.bool (x2 i)])) (hx2 : ∀ i, i < n2 → True) :
    Calls Try.prog 4 #[.slice A n c, .slice A2 n2 c2] w fun e w' => e = .returned (.bool true) ∧ Kept w w' := by
  have kc := fun (w : World) (c : Int) => conv_chr w w.heap.size c rfl
  have hnn := hr2.2.1
  have hnc := hr2.1
  have hmm := hr.2.1
  have hmc := hr.1
  unfold maxLen at hnn hmm
  have HR := Lib.hid hr
  have HR2 := Lib.hid hr2
  clear hr hr2 hx hx2
  go_enter Try.func4, Try.ntmps4
  go_wp2_with (go_at_call 8; refine (awake_any _).mono ?_; rintro e w1 ⟨rfl, k1⟩)
  have hp := Lib.hid (ints_2 (w1.alloc (.cells #[.int .i64 (-1), .int .i64 0] 3)) (-1) 0 w1.heap.size (by go_simp) (by go_simp))
  refine (newM _ 2 2 p2 w _ hp.out t2 (k1.alloc _)).mono ?_
  rintro e w3 ⟨D, rfl, h3, _, _⟩
  have H3 := Lib.hid h3
  clear h3 hp k1
  go_wp2_with fail
  go_loopw [7, 8, 9] (fun sv cv iv wr => ∃ (i : Nat) (cs ts : List ByteArray) (sb cb : ByteArray) (st : DSt), i ≤ n ∧ i ≤ 20 ∧ iv = .int .i64 i ∧ sv = .string sb ∧ cv = .string cb ∧ sb.size ≤ 20 ∧ cb.size ≤ 20 ∧ Hid (sb = cat (cs ++ ts)) ∧ Hid (cb = cat cs) ∧ Hid (ts.length + cs.length = i) ∧ Hid (∀ d ∈ cs ++ ts, d.size = 1) ∧ Hid (Lb st ts) ∧ Hid (MK w [] wr D p2 st)) (fun _ _ iv _ => 20 - (intOf iv).toNat)
  case atStart => exact ⟨0, [], [], _, _, dst0, by omega, by omega, rfl, rfl, rfl, by decide, by decide, rfl, rfl, rfl, by intro d hd; simp at hd, ⟨rfl, rfl⟩, H3⟩
  case round =>
    clear H3
    obtain ⟨i, cs, ts, sb, cb, st, hi, hi20, rfl, rfl, rfl, hsz, hcz, HSB, HCB, HLN, HS1, HLB, HM⟩ := hrel
    by_cases hgo : i < n ∧ i < 20
    · have e1 : decide ((i : Int) < n) = true := by simp; omega
      have e2 : decide ((i : Int) < 20) = true := by simp; omega
      obtain ⟨b, off, rfl, hb, hc⟩ := HR.out.one (by omega)
      have ck := HM.out.kept.at_ (hc i hgo.1)
      obtain ⟨t, ht⟩ : ∃ t, chr (x i) = t := ⟨_, rfl⟩
      have HT := Lib.hid ht
      have HT1 : Hid (t.size = 1) := by unfold Hid; rw [← ht]; rfl
      have hsl : sb.size + 1 ≤ 20 := by
        have h1 := cat_size (cs ++ ts) HS1.out
        have h2 := HLN.out
        rw [HSB.out, h1, List.length_append]
        omega
      have hsn : (sb ++ t).size ≤ 20 := by rw [ByteArray.size_append, HT1.out]; omega
      have HTS : Hid ((ts ++ [t]).length + cs.length = i + 1) := by have := HLN.out; unfold Hid; simp; omega
      have HSB2 : Hid (sb ++ t = cat (cs ++ (ts ++ [t]))) := by unfold Hid; rw [← List.append_assoc, cat_snoc, HSB.out]
      have HS12 : Hid (∀ d ∈ cs ++ (ts ++ [t]), d.size = 1) := fun d hd => by
        rw [← List.append_assoc] at hd
        rcases List.mem_append.1 hd with hd | hd
        · exact HS1.out d hd
        · rw [List.mem_singleton.1 hd]; exact HT1.out
      obtain ⟨g1, g2⟩ := HLB.out.send (by have := HLN.out; omega) t
      have G1 := Lib.hid g1
      have G2 := Lib.hid g2
      have kc1 := kc wr (x i)
      rw [ht] at kc1
      clear hc ht g1 g2 kc
      have ht1 := HT1.out
      have hpk : i < n2 ∨ n2 ≤ i := Nat.lt_or_ge i n2
      rcases hpk with hpk | hpk
      · obtain ⟨b2, off2, rfl, hb2, hc2⟩ := HR2.out.one (by omega)
        have CKW := Lib.hid (hc2 i hpk)
        have e3 : decide ((i : Int) < n2) = true := by simp; omega
        clear hc2
        generalize x2 i = pb at *
        cases pb
        · go_wp2_with (go_at_call 15; refine (sendM (HM.out.keep ((Kept.refl wr).alloc _)) (a := 1) (b := 0) (by unfold gd; omega) (by unfold gd; omega) t).mono ?_; rintro e w4 ⟨rfl, h4, hf4⟩; rw [G1.out]; have H4 := Lib.hid h4; have cp := h4.kept.at_ CKW.out; clear h4 hf4 HM)
          go_roundw
          case rel => first | exact ⟨i + 1, cs, ts ++ [t], sb ++ t, cb, _, by omega, by omega, by go_num, rfl, rfl, hsn, hcz, HSB2, HCB, HTS, HS12, G2, H4⟩ | ((repeat apply Exists.intro); exact ⟨⟨i + 1, cs, ts ++ [t], sb ++ t, cb, _, by omega, by omega, by go_num, rfl, rfl, hsn, hcz, HSB2, HCB, HTS, HS12, G2, H4⟩, rfl⟩)
          case measure => simp [intOf]; omega
        · obtain ⟨u, us, hus⟩ : ∃ u us, ts ++ [t] = u :: us := by cases ts <;> exact ⟨_, _, rfl⟩
          have g2 := G2.out
          rw [hus] at g2 HTS HSB2 HS12
          obtain ⟨g3, g4⟩ := g2.pick
          have G3 := Lib.hid g3
          have G4 := Lib.hid g4
          have hu1 : u.size = 1 := HS12.out u (by simp)
          have HCB2 : Hid (cb ++ u = cat (cs ++ [u])) := by unfold Hid; rw [cat_snoc, HCB.out]
          have hcl : cb.size + 1 ≤ 20 := by
            have h1 := cat_size cs (fun d hd => HS12.out d (by simp [hd]))
            have h2 := HTS.out
            simp at h2
            rw [HCB.out, h1]
            omega
          have hcn : (cb ++ u).size ≤ 20 := by rw [ByteArray.size_append, hu1]; omega
          have HSB3 : Hid (sb ++ t = cat ((cs ++ [u]) ++ us)) := by unfold Hid; rw [List.append_assoc]; exact HSB2.out
          have HS13 : Hid (∀ d ∈ (cs ++ [u]) ++ us, d.size = 1) := fun d hd => HS12.out d (by rw [List.append_assoc] at hd; exact hd)
          have HTS3 : Hid (us.length + (cs ++ [u]).length = i + 1) := by have := HTS.out; unfold Hid; simp at this ⊢; omega
          clear hus g2 g3 g4
          go_wp2_with (first | (go_at_call 15; refine (sendM (HM.out.keep ((Kept.refl wr).alloc _)) (a := 1) (b := 0) (by unfold gd; omega) (by unfold gd; omega) t).mono ?_; rintro e w4 ⟨rfl, h4, hf4⟩; rw [G1.out]; have H4 := Lib.hid h4; have cp := h4.kept.at_ CKW.out; clear h4 hf4 HM) | (go_at_call 13; refine (pickM H4.out (a := 1) (b := 0) (by unfold gd; omega) (by unfold gd; omega)).mono ?_; rintro e w5 ⟨rfl, h5, _⟩; rw [G3.out]; have H5 := Lib.hid h5; clear h5 H4))
          go_roundw
          case rel => first | exact ⟨i + 1, cs ++ [u], us, sb ++ t, cb ++ u, _, by omega, by omega, by go_num, rfl, rfl, hsn, hcn, HSB3, HCB2, HTS3, HS13, G4, H5⟩ | ((repeat apply Exists.intro); exact ⟨⟨i + 1, cs ++ [u], us, sb ++ t, cb ++ u, _, by omega, by omega, by go_num, rfl, rfl, hsn, hcn, HSB3, HCB2, HTS3, HS13, G4, H5⟩, rfl⟩)
          case measure => simp [intOf]; omega
      · have e3 : decide ((i : Int) < n2) = false := by simp; omega
        go_wp2_with (go_at_call 15; refine (sendM (HM.out.keep ((Kept.refl wr).alloc _)) (a := 1) (b := 0) (by unfold gd; omega) (by unfold gd; omega) t).mono ?_; rintro e w4 ⟨rfl, h4, _⟩; rw [G1.out]; have H4 := Lib.hid h4; clear h4 HM)
        go_roundw
        case rel => first | exact ⟨i + 1, cs, ts ++ [t], sb ++ t, cb, _, by omega, by omega, by go_num, rfl, rfl, hsn, hcz, HSB2, HCB, HTS, HS12, G2, H4⟩ | ((repeat apply Exists.intro); exact ⟨⟨i + 1, cs, ts ++ [t], sb ++ t, cb, _, by omega, by omega, by go_num, rfl, rfl, hsn, hcz, HSB2, HCB, HTS, HS12, G2, H4⟩, rfl⟩)
        case measure => simp [intOf]; omega
    · have hcase : decide ((i : Int) < n) = false ∨ (decide ((i : Int) < n) = true ∧ decide ((i : Int) < 20) = false) := by
        by_cases h : i < n
        · exact .inr ⟨by simp; omega, by simp; omega⟩
        · exact .inl (by simp; omega)
      obtain ⟨g1, g2⟩ := HLB.out.stop
      obtain ⟨q1, q2, q3, q4⟩ := g2.late ⟨#[108, 97, 116, 101]⟩
      have G1 := Lib.hid g1
      have HMB := Lib.hid g2
      have Q1 := Lib.hid q1
      have Q2 := Lib.hid q2
      have Q3 := Lib.hid q3
      have Q4 := Lib.hid q4
      clear g1 g2 q1 q2 q3 q4
      obtain ⟨al, hal⟩ : ∃ al, cs ++ ts = al := ⟨_, rfl⟩
      have HAL := Lib.hid hal
      have HAL2 : Hid (al.length ≤ 20) := by have := HLN.out; unfold Hid; rw [← hal, List.length_append]; omega
      rw [hal] at HSB HS1
      have HRL : Hid (ts.length + 0 ≤ 20) := by have := HLN.out; unfold Hid; omega
      clear hal
      rcases hcase with e1 | ⟨e1, e2⟩
      all_goals
        (go_wp2_with (go_at_call 11; refine (stopM HM.out (a := 1) (by unfold gd; omega)).mono ?_; rintro e w4 ⟨rfl, h4, _⟩; rw [G1.out]; have H4 := Lib.hid h4; clear h4 HM)
         all_goals go_wp2_with (go_at_call 15; refine (sendM H4.out (a := 1) (b := 0) (by unfold gd; omega) (by unfold gd; omega) ⟨#[108, 97, 116, 101]⟩).mono ?_; rintro e w5 ⟨rfl, h5, _⟩; rw [Q1.out]; rw [Q2.out] at h5; have H5 := Lib.hid h5; clear h5 H4)
         all_goals (first | (go_at_call 11) | go_wp2_with fail)
         all_goals (refine (stopM H5.out (a := 1) (by unfold gd; omega)).mono ?_; rintro e w7 ⟨rfl, h7, _⟩; rw [Q3.out]; rw [Q4.out] at h7; have H7 := Lib.hid h7; clear h7 H5)
         all_goals go_wp2_with fail
         all_goals
          (skip
           go_loopw [8, 14] (fun cv kv wr => ∃ (k : Nat) (ds rs : List ByteArray) (cb : ByteArray) (st : DSt), k ≤ 20 ∧ kv = .int .i64 k ∧ cv = .string cb ∧ cb.size ≤ 20 ∧ Hid (cb = cat ds) ∧ Hid (ds ++ rs = al) ∧ Hid (rs.length + k ≤ 20) ∧ Hid (Mb st rs) ∧ Hid (MK w [] wr D p2 st)) (fun _ kv _ => 21 - (intOf kv).toNat)
           case atStart => exact ⟨0, cs, ts, cb, _, by omega, rfl, rfl, hcz, HCB, HAL, HRL, HMB, H7⟩
           case round =>
             clear HCB HMB H7 HRL
             obtain ⟨k, ds, rs, cb, st, hk, rfl, rfl, hcz, HCB, HDR, HRL, HMB, HM⟩ := hrel
             have d1 : decide ((k : Int) < 21) = true := by simp; omega
             rcases rs with _ | ⟨t, rs⟩
             · obtain ⟨g1, g2, g3, g4, g5⟩ := HMB.out.last
               have G1 := Lib.hid g1
               have G2 := Lib.hid g2
               have G3 := Lib.hid g3
               have G4 := Lib.hid g4
               have G5 := Lib.hid g5
               have hcs : cb = sb := by
                 have := HDR.out
                 rw [List.append_nil] at this
                 rw [HCB.out, HSB.out, this]
               subst hcs
               clear g1 g2 g3 g4 g5
               go_wp2_with (go_at_call 13; refine (pickM HM.out (a := 1) (b := 0) (by unfold gd; omega) (by unfold gd; omega)).mono ?_; rintro e w8 ⟨rfl, h8, _⟩; rw [G1.out]; have H8 := Lib.hid h8; clear h8 HM)
               refine (pickM H8.out (a := 1) (b := 0) (by unfold gd; omega) (by unfold gd; omega)).mono ?_
               rintro e w9 ⟨rfl, h9, _⟩
               rw [G2.out]
               rw [G3.out] at h9
               have H9 := Lib.hid h9
               clear h9 H8
               go_wp2_with (first | (go_at_call 14; refine (stopped_any w [] D p2 _ 0 _ H9.out.dr (by unfold gd; omega)).mono ?_; rintro e w10 ⟨rfl, k10⟩; rw [G4.out]; have H10 := Lib.hid (H9.out.keep k10)) | (go_at_call 12; refine (done_any w [] D p2 _ 0 _ H10.out.dr (by unfold gd; omega)).mono ?_; rintro e w11 ⟨rfl, k11⟩; rw [G5.out]; have H11 := Lib.hid (H10.out.keep k11)))
               go_ret
               exact ⟨rfl, H11.out.kept⟩
             · obtain ⟨g1, g2⟩ := HMB.out.pick
               have G1 := Lib.hid g1
               have G2 := Lib.hid g2
               have ht1 : t.size = 1 := HS1.out t (by rw [← HDR.out]; simp)
               have hk2 : k + 1 ≤ 20 := by have := HRL.out; simp at this; omega
               have hbz : cb.size + 1 ≤ 20 := by
                 have h1 := HDR.out
                 have h2 := cat_size ds (fun d hd => HS1.out d (by rw [← h1]; simp [hd]))
                 have h3 := congrArg List.length h1
                 have h4 := HAL2.out
                 rw [HCB.out, h2]
                 simp at h3
                 omega
               have HN1 : Hid (cb ++ t = cat (ds ++ [t])) := by unfold Hid; rw [cat_snoc, HCB.out]
               have HN2 : Hid ((ds ++ [t]) ++ rs = al) := by unfold Hid; rw [List.append_assoc]; exact HDR.out
               have HN3 : Hid (rs.length + (k + 1) ≤ 20) := by have := HRL.out; unfold Hid; simp at this; omega
               have hnz : (cb ++ t).size ≤ 20 := by rw [ByteArray.size_append]; omega
               clear g1 g2
               go_wp2_with (go_at_call 13; refine (pickM HM.out (a := 1) (b := 0) (by unfold gd; omega) (by unfold gd; omega)).mono ?_; rintro e w8 ⟨rfl, h8, _⟩; rw [G1.out]; have H8 := Lib.hid h8; clear h8 HM)
               go_roundw
               case rel => first | exact ⟨k + 1, ds ++ [t], rs, cb ++ t, _, hk2, by go_num, rfl, hnz, HN1, HN2, HN3, G2, H8⟩ | ((repeat apply Exists.intro); exact ⟨⟨k + 1, ds ++ [t], rs, cb ++ t, _, hk2, by go_num, rfl, hnz, HN1, HN2, HN3, G2, H8⟩, rfl⟩)
               case measure => simp [intOf]; omega
          ))
end Go.Proofs.Ytbofgpmbocjbiaa

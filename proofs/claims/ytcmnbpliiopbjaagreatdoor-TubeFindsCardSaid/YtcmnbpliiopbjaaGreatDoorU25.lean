/- Plain laws of the document's tubes. -/
import Derived.Test.YtcmnbpliiopbjaaGreatDoorU21
set_option linter.unusedSimpArgs false
set_option linter.unusedVariables false
set_option maxRecDepth 100000
namespace Go.V
open Go Go.RowKit Go.Proofs

theorem w_len0 {d : Dyadic} : (nuOf d).w.length = 0 ↔ d = 0 := by
  rw [nuOf_f]; simp only; rw [← fN_eq_zero]; exact Iff.of_eq (by rw [List.length_eq_zero_iff]; exact propext (digs_eq_nil (by decide)))
theorem Wl.w0 {k : Nat} {x : Nu} (h : Wl k x) (hr : rightB x = true) : x.w.length = 0 ↔ x.val = 0 := by
  obtain ⟨d, hd, rfl⟩ := right_is h.b hr
  rw [val_nuOf]; exact w_len0
/-- Does one piece go on where another one ends? -/
def behS (a b : Sg) : Bool := decide (b.fr = a.to + 1) && decide (a.t1.val = b.t0.val) && decide (a.box.length = b.box.length)
/-- The document's tube, piece by piece. -/
def rowT (l : List Sg) (i : Nat) : Prop := rightS (gS l i) = true ∧ (i = 0 → (gS l 0).fr = 1 ∧ (gS l 0).t0.w.length = 0) ∧ (0 < i → behS (gS l (i - 1)) (gS l i) = true)
theorem behS_f {a b : Sg} (h : behS a b = true) : b.fr = a.to + 1 ∧ a.t1.val = b.t0.val ∧ a.box.length = b.box.length := by
  unfold behS at h
  simp only [Bool.and_eq_true, decide_eq_true_eq] at h
  exact ⟨h.1.1, h.1.2, h.2⟩
theorem rowT_len {l : List Sg} (h : ∀ i, i < l.length → rowT l i) (i : Nat) (hi : i < l.length) : (gS l i).box.length = (gS l 0).box.length := by
  induction i with
  | zero => rfl
  | succ i ih =>
    have h1 := (behS_f ((h (i + 1) hi).2.2 (by omega))).2.2
    rw [show i + 1 - 1 = i by omega] at h1
    rw [← h1]; exact ih (by omega)
theorem tube_T {l : List Sg} (hg : ∀ s ∈ l, OkP s) : tubeB l = true ↔ ∀ i, i < l.length → rowT l i := by
  constructor
  · intro h i hi
    have h1 := tube_row h hi
    refine ⟨h1.1, fun h0 => ?_, fun h0 => ?_⟩
    · subst h0
      obtain ⟨h2, h3⟩ := tube_head h hi
      have o := hg _ (gS_mem hi)
      exact ⟨h2, (o.a.w0 o.ra).2 h3⟩
    · obtain ⟨e1, e2, e3⟩ := behB_f (h1.2 h0)
      have e4 : (gS l (i - 1)).box.length = (gS l 0).box.length := by
        rcases Nat.eq_zero_or_pos (i - 1) with h4 | h4
        · rw [h4]
        · exact (behB_f ((tube_row h (show i - 1 < l.length by omega)).2 h4)).2.2
      unfold behS
      rw [decide_eq_true e1, decide_eq_true e2.symm, decide_eq_true (by rw [e3, e4])]; rfl
  · intro h
    have hrow : ∀ i, i < l.length → rowAt l i := fun i hi => by
      have h1 := h i hi
      refine ⟨h1.1, fun h0 => ?_⟩
      obtain ⟨e1, e2, e3⟩ := behS_f (h1.2.2 h0)
      unfold behB
      rw [decide_eq_true e1, decide_eq_true e2.symm, decide_eq_true (rowT_len h i hi)]; rfl
    unfold tubeB rowB
    rw [decide_eq_true hrow, Bool.true_and]
    by_cases h0 : l.length = 0
    · rw [decide_eq_true h0]; rfl
    · have hl : 0 < l.length := by omega
      obtain ⟨h2, h3⟩ := (h 0 hl).2.1 rfl
      have o := hg _ (gS_mem hl)
      rw [decide_eq_true h2, decide_eq_true ((o.a.w0 o.ra).1 h3)]; simp
theorem tube_noT {l : List Sg} (hg : ∀ s ∈ l, OkP s) {i : Nat} (hi : i < l.length) (h : ¬ rowT l i) : tubeB l = false := by
  cases ht : tubeB l with
  | false => rfl
  | true => exact absurd ((tube_T hg).1 ht i hi) h
theorem tube_yesT {l : List Sg} (hg : ∀ s ∈ l, OkP s) (h : ∀ i, i < l.length → rowT l i) : tubeB l = true := (tube_T hg).2 h

theorem metL_len {lo hi : Nu} {l : List Sg} {n : Nat} : (metL lo hi l n).length ≤ n := by
  unfold metL
  have := List.length_filter_le (fun i => meetB lo hi (gS l i)) (List.range n)
  simpa using this
theorem metL_none {lo hi : Nu} {l : List Sg} {n : Nat} (h : ∀ j, j < n → meetB lo hi (gS l j) = false) : metL lo hi l n = [] := by
  unfold metL
  rw [List.filter_eq_nil_iff]
  intro j hj
  rw [h j (List.mem_range.1 hj)]; decide
theorem first_at {t : Nu} {l : List Sg} {i : Nat} (hi : i < l.length) (h : ∀ j, j < i → meetB t t (gS l j) = false) (hm : meetB t t (gS l i) = true) : firstS t l = some (gS l i) := by
  have h1 := metL_at hi hm
  rw [metL_none h] at h1
  rw [List.length_nil] at h1
  unfold firstS
  rw [List.head?_eq_getElem?, h1]
  rfl
theorem first_none {t : Nu} {l : List Sg} (h : ∀ j, j < l.length → meetB t t (gS l j) = false) : firstS t l = none := by
  unfold firstS
  rw [metL_none h]; rfl
theorem metL_yes {lo hi : Nu} {l : List Sg} {n : Nat} (h : meetB lo hi (gS l n) = true) : metL lo hi l (n + 1) = metL lo hi l n ++ [n] := by rw [metL_succ, if_pos h]
theorem metL_no {lo hi : Nu} {l : List Sg} {n : Nat} (h : meetB lo hi (gS l n) = false) : metL lo hi l (n + 1) = metL lo hi l n := by rw [metL_succ, if_neg (by rw [h]; decide), List.append_nil]
/-- Is a piece within one of the first so many? -/
def anyIn (a : List Sg) (s : Sg) (k : Nat) : Bool := (List.range k).any fun j => withinB s (gS a j)
theorem anyIn_0 {a : List Sg} {s : Sg} : anyIn a s 0 = false := rfl
theorem anyIn_s {a : List Sg} {s : Sg} {k : Nat} : anyIn a s (k + 1) = (anyIn a s k || withinB s (gS a k)) := by
  unfold anyIn
  rw [List.range_succ, List.any_append]
  simp
theorem anyIn_all {a : List Sg} {s : Sg} : anyIn a s a.length = inSome a s := rfl
end Go.V

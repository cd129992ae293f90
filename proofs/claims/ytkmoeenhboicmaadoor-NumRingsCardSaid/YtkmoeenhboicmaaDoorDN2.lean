/- Numbers as bits by a power of two: their parts, their sizes, right numbers. No program, no model. -/
import Derived.Test.YtkmoeenhboicmaaDoorDN
set_option linter.unusedVariables false
namespace Go.V
open Go

/-- Sign, odd part, exponent. -/
def fS (d : Dyadic) : Bool := (nuOf d).neg
def fE (d : Dyadic) : Int := (nuOf d).exp
def fN (d : Dyadic) : Nat := nval 18446744073709551616 (nuOf d).w
theorem fN_odd {neg : Bool} {n : Nat} {e : Int} (h : n % 2 = 1) : fN (dy neg n e) = n := by unfold fN; rw [nuOf_odd h]; exact nval_digs (by decide) n
theorem fS_odd {neg : Bool} {n : Nat} {e : Int} (h : n % 2 = 1) : fS (dy neg n e) = neg := by unfold fS; rw [nuOf_odd h]
theorem fE_odd {neg : Bool} {n : Nat} {e : Int} (h : n % 2 = 1) : fE (dy neg n e) = e := by unfold fE; rw [nuOf_odd h]
theorem fN_zero : fN 0 = 0 := rfl
theorem fS_zero : fS 0 = false := rfl
theorem fE_zero : fE 0 = 0 := rfl
theorem fN_eq_zero {d : Dyadic} : fN d = 0 ↔ d = 0 := by
  constructor
  · intro h
    by_cases h0 : d = 0
    · exact h0
    · obtain ⟨neg, n, e, rfl, hn⟩ := dy_form d h0
      rw [fN_odd hn] at h; omega
  · rintro rfl; rfl
theorem dy_f (d : Dyadic) : dy (fS d) (fN d) (fE d) = d := by
  by_cases h0 : d = 0
  · subst h0; rfl
  · obtain ⟨neg, n, e, rfl, hn⟩ := dy_form d h0
    rw [fN_odd hn, fS_odd hn, fE_odd hn]
theorem nuOf_f (d : Dyadic) : nuOf d = ⟨fS d, fE d, digs 18446744073709551616 (fN d)⟩ := by
  by_cases h0 : d = 0
  · subst h0; rw [fN_zero, digs_zero]; rfl
  · obtain ⟨neg, n, e, rfl, hn⟩ := dy_form d h0
    rw [nuOf_odd hn, fN_odd hn, fS_odd hn, fE_odd hn]
theorem fN_mod {d : Dyadic} (h : d ≠ 0) : fN d % 2 = 1 := by
  obtain ⟨neg, n, e, rfl, hn⟩ := dy_form d h
  rw [fN_odd hn]; exact hn
theorem f_of {neg : Bool} {n : Nat} {e : Int} (h : n ≠ 0) : fS (dy neg n e) = neg ∧ fN (dy neg n e) = n / 2 ^ tz n ∧ fE (dy neg n e) = e + tz n := by
  obtain ⟨h1, h2⟩ := dy_tz (neg := neg) (e := e) h
  rw [h1, fN_odd h2, fS_odd h2, fE_odd h2]; exact ⟨rfl, rfl, rfl⟩

/-- Few bits, near 1. -/
def Bd (k : Nat) (d : Dyadic) : Prop := fN d < 2 ^ k ∧ -(k : Int) ≤ fE d ∧ fE d ≤ k
theorem Bd.zero (k : Nat) : Bd k 0 := ⟨Nat.two_pow_pos k, by rw [fE_zero]; omega, by rw [fE_zero]; omega⟩
theorem Bd.mono {k m : Nat} {d : Dyadic} (h : Bd k d) (hm : k ≤ m) : Bd m d := ⟨Nat.lt_of_lt_of_le h.1 (Nat.pow_le_pow_right (by decide) hm), by have := h.2.1; omega, by have := h.2.2; omega⟩
theorem tz_lt {n k : Nat} (h : n < 2 ^ k) (h0 : n ≠ 0) : tz n < k := by
  obtain ⟨m, hm⟩ := tz_spec n h0
  have h1 : 2 ^ tz n ≤ n := by
    have := Nat.mul_le_mul_left (2 ^ tz n) (show 1 ≤ 2 * m + 1 by omega)
    omega
  exact (Nat.pow_lt_pow_iff_right (by decide : 1 < 2)).1 (Nat.lt_of_le_of_lt h1 h)
theorem Bd.dy {k : Nat} {neg : Bool} {n : Nat} {e : Int} (hn : n < 2 ^ k) (h1 : -(k : Int) ≤ e) (h2 : e + k ≤ k + k) : Bd (2 * k) (dy neg n e) := by
  by_cases h0 : n = 0
  · rw [dy_zero.2 h0]; exact Bd.zero _
  · obtain ⟨a, b, c⟩ := f_of (neg := neg) (e := e) h0
    have ht := tz_lt hn h0
    refine ⟨?_, ?_, ?_⟩
    · rw [b]
      exact Nat.lt_of_le_of_lt (Nat.div_le_self _ _) (Nat.lt_of_lt_of_le hn (Nat.pow_le_pow_right (by decide) (by omega)))
    · rw [c]; omega
    · rw [c]; omega

/-- The right numbers, by their fields, as the programs ask for them. -/
def rightB (x : Nu) : Bool := if x.w.length = 0 then (!x.neg && decide (x.exp = 0)) else (decide ((digs 18446744073709551616 (nval 18446744073709551616 x.w)).length = x.w.length) && decide (x.w.length ≤ 64) && decide (x.w.getD 0 0 % 2 = 1) && decide (-65536 ≤ x.exp) && decide (x.exp ≤ 65536))
theorem rightB_iff {x : Nu} (hb : ∀ y ∈ x.w, y < 18446744073709551616) : rightB x = true ↔ x = nuOf x.val ∧ x.Ok := by
  constructor
  · intro h
    refine right_form hb ?_
    unfold rightB at h
    obtain ⟨neg, exp, w⟩ := x
    simp only at h hb ⊢
    split at h
    · rename_i h0
      left
      obtain rfl : w = [] := List.eq_nil_of_length_eq_zero h0
      simp only [Bool.and_eq_true, Bool.not_eq_true', decide_eq_true_eq] at h
      obtain ⟨rfl, rfl⟩ := h; rfl
    · rename_i h0
      right
      simp only [Bool.and_eq_true, decide_eq_true_eq] at h
      obtain ⟨⟨⟨⟨h1, h2⟩, h3⟩, h4⟩, h5⟩ := h
      exact ⟨⟨h2, h4, h5⟩, fun h => h0 (by simp at h; rw [h]; rfl), (digs_len_eq (by decide) hb).1 h1, h3⟩
  · rintro ⟨h1, h2⟩
    rcases right_of h1 h2 with h | ⟨_, h3, h4, h5⟩
    · rw [h]; rfl
    · unfold rightB
      rw [if_neg (fun h => h3 (List.eq_nil_of_length_eq_zero h))]
      simp only [Bool.and_eq_true, decide_eq_true_eq]
      exact ⟨⟨⟨⟨(digs_len_eq (by decide) hb).2 h4, h2.len⟩, h5⟩, h2.lo⟩, h2.hi⟩
/-- The values that have right numbers. -/
def OkD (d : Dyadic) : Prop := (nuOf d).Ok
instance (d : Dyadic) : Decidable (OkD d) := inferInstanceAs (Decidable (nuOf d).Ok)
theorem rightB_nuOf {d : Dyadic} : rightB (nuOf d) = decide (OkD d) := by
  have hb : ∀ y ∈ (nuOf d).w, y < 18446744073709551616 := by rw [nuOf_f]; exact digs_lt (by decide) _
  by_cases h : OkD d
  · rw [decide_eq_true h]; exact (rightB_iff hb).2 ⟨by rw [val_nuOf], h⟩
  · rw [decide_eq_false h]
    cases hr : rightB (nuOf d)
    · rfl
    · exact absurd ((rightB_iff hb).1 hr).2 h
/-- A right number is that of its value. -/
theorem right_is {x : Nu} (hb : ∀ y ∈ x.w, y < 18446744073709551616) (h : rightB x = true) : ∃ d, OkD d ∧ x = nuOf d := by
  obtain ⟨h1, h2⟩ := (rightB_iff hb).1 h
  exact ⟨x.val, by unfold OkD; rw [← h1]; exact h2, h1⟩
theorem OkD.zero : OkD 0 := ⟨by decide, by decide, by decide⟩
theorem OkD.bdk {d : Dyadic} (h : OkD d) {k : Nat} (hk : 65536 ≤ k) : Bd k d := by
  refine ⟨?_, by have := h.lo; unfold fE; omega, by have := h.hi; unfold fE; omega⟩
  have h1 : fN d < 18446744073709551616 ^ (nuOf d).w.length := by
    unfold fN; exact nval_lt (by decide) _ (by rw [nuOf_f]; exact digs_lt (by decide) _)
  refine Nat.lt_of_lt_of_le h1 ?_
  rw [show (18446744073709551616 : Nat) = 2 ^ 64 from rfl, ← Nat.pow_mul]
  exact Nat.pow_le_pow_right (by decide) (by have := h.len; omega)
theorem OkD.bd {d : Dyadic} (h : OkD d) : Bd 65536 d := h.bdk (Nat.le_refl _)
theorem numR_ok {d : Dyadic} (h : OkD d) : numR d = (nuOf d, 0) := if_pos h
theorem numR_over {d : Dyadic} (h : ¬ OkD d) : numR d = (nu0, 2) := if_neg h

end Go.V

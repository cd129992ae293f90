/- Package iv over values as data: what lies in what, hull, meet, opposites, amounts. -/
import Derived.Test.YtcmnbpliiopbjaaGreatDoorI1
set_option linter.unusedSimpArgs false
set_option linter.unusedVariables false
set_option maxRecDepth 100000
namespace Go.V
open Go Go.RowKit Go.Proofs

def hasR (a : Iv) (x : Nu) : Bool := rightI a && rightB x && decide (a.lo.val ≤ x.val) && decide (x.val ≤ a.hi.val)
theorem rightI_lo {a : Iv} (h : rightI a = true) : rightB a.lo = true ∧ rightB a.hi = true ∧ a.lo.val ≤ a.hi.val := by
  unfold rightI at h
  rw [Bool.and_eq_true, Bool.and_eq_true, decide_eq_true_eq] at h
  exact ⟨h.1.1, h.1.2, h.2⟩

theorem cmpD_0le {a b : Dyadic} : (0 ≤ cmpD a b) = (b ≤ a) := by
  apply propext
  unfold cmpD
  by_cases h1 : a < b
  · rw [if_pos h1]; constructor
    · intro h; exact absurd h (by decide)
    · intro h; grind
  · rw [if_neg h1]; constructor
    · intro _; grind
    · intro _; split <;> decide
theorem cmpD_1le {a b : Dyadic} : (1 ≤ cmpD a b) = (b < a) := by
  apply propext
  unfold cmpD
  by_cases h1 : a < b
  · rw [if_pos h1]; constructor
    · intro h; exact absurd h (by decide)
    · intro h; grind
  · rw [if_neg h1]
    by_cases h2 : b < a
    · rw [if_pos h2]; exact ⟨fun _ => h2, fun _ => by decide⟩
    · rw [if_neg h2]; exact ⟨fun h => absurd h (by decide), fun h => absurd h h2⟩
def endsR (a b : Iv) (n : Int) : Bool := rightI a && rightI b && decide (n ≤ cmpD a.lo.val b.lo.val) && decide (n ≤ cmpD b.hi.val a.hi.val)
theorem p_ends {k : Nat} {a b : Iv} {n : Int} (ha : Wi k a) (hb : Wi k b) : PC Tryz.prog 103 [IV a, IV b, i64 n] fun d => d = bl (endsR a b n) := by
  have pA := p_iRight ha
  have pB := p_iRight hb
  have pC : rightI a = true → rightI b = true → (PC Tryz.prog 36 [NU a.lo, NU b.lo] fun d => d = i64 (cmpD a.lo.val b.lo.val)) ∧ (PC Tryz.prog 36 [NU b.hi, NU a.hi] fun d => d = i64 (cmpD b.hi.val a.hi.val)) := fun h1 h2 => by
    obtain ⟨r1, r2, _⟩ := rightI_lo h1
    obtain ⟨r3, r4, _⟩ := rightI_lo h2
    exact ⟨p_eCmp (right_sz ha.lo.b r1) (right_sz hb.lo.b r3) (by decide), p_eCmp (right_sz hb.hi.b r4) (right_sz ha.hi.b r2) (by decide)⟩
  unfold endsR
  generalize cmpD a.lo.val b.lo.val = c1 at *
  generalize cmpD b.hi.val a.hi.val = c2 at *
  generalize rightI a = r at *
  generalize rightI b = s at *
  obtain ⟨⟨n1, e1, w1⟩, ⟨n2, e2, w2⟩⟩ := a
  obtain ⟨⟨n3, e3, w3⟩, ⟨n4, e4, w4⟩⟩ := b
  cases r
  · refine PB (rs := [.tmp 6]) Tryz.func103 ?_
    exact Wk
  · cases s
    · refine PB (rs := [.tmp 6]) Tryz.func103 ?_
      exact Wk
    · obtain ⟨q1, q2⟩ := pC rfl rfl
      by_cases h1 : n ≤ c1
      · rw [decide_eq_true h1]
        refine PB (rs := [.tmp 6]) Tryz.func103 ?_
        have ft := (eq_true h1)
        exact Wk
      · rw [decide_eq_false h1]
        refine PB (rs := [.tmp 6]) Tryz.func103 ?_
        have ft := (eq_false h1)
        exact Wk
theorem p_InI {k : Nat} {a b : Iv} (ha : Wi k a) (hb : Wi k b) : PC Tryz.prog 94 [IV a, IV b] fun d => d = bl (endsR a b 0) := by
  have pE := p_ends (n := 0) ha hb
  generalize endsR a b 0 = r at *
  obtain ⟨⟨n1, e1, w1⟩, ⟨n2, e2, w2⟩⟩ := a
  obtain ⟨⟨n3, e3, w3⟩, ⟨n4, e4, w4⟩⟩ := b
  refine PB (rs := [.tmp 4]) Tryz.func94 ?_
  exact Wk

/-- The lesser, the greater one of two numbers. -/
def minN (x y : Nu) : Nu := if y.val < x.val then y else x
def maxN (x y : Nu) : Nu := if x.val < y.val then y else x
theorem minN_val (x y : Nu) : (minN x y).val = loD x.val y.val := by unfold minN loD; split <;> rfl
theorem maxN_val (x y : Nu) : (maxN x y).val = hiD x.val y.val := by unfold maxN hiD; split <;> rfl
theorem minN_D (a b : Dyadic) : minN (nuOf a) (nuOf b) = nuOf (loD a b) := by unfold minN loD; rw [val_nuOf, val_nuOf]; split <;> rfl
theorem maxN_D (a b : Dyadic) : maxN (nuOf a) (nuOf b) = nuOf (hiD a b) := by unfold maxN hiD; rw [val_nuOf, val_nuOf]; split <;> rfl
theorem minN_sz {k : Nat} {x y : Nu} (hx : Sz k x) (hy : Sz k y) : Sz k (minN x y) := by unfold minN; split <;> assumption
theorem maxN_sz {k : Nat} {x y : Nu} (hx : Sz k x) (hy : Sz k y) : Sz k (maxN x y) := by unfold maxN; split <;> assumption
theorem loD_ok {a b : Dyadic} (ha : OkD a) (hb : OkD b) : OkD (loD a b) := by unfold loD; split <;> assumption
theorem hiD_ok {a b : Dyadic} (ha : OkD a) (hb : OkD b) : OkD (hiD a b) := by unfold hiD; split <;> assumption
theorem cmpD_lt0 {a b : Dyadic} : (cmpD a b < 0) = (a < b) := by
  have := cmpD_0le (a := a) (b := b)
  apply propext
  rw [← Int.not_le, this]
  constructor
  · intro h; grind
  · intro h; grind
theorem cmpD_0lt {a b : Dyadic} : (0 < cmpD a b) = (b < a) := by rw [← cmpD_1le]; rfl


theorem ok_len {a : Dyadic} (h : OkD a) : (nuOf a).w.length ≤ 1099511627776 := by have := (h.sz).len; omega
def hullR (a b : Iv) : Iv × Int := if rightI a && rightI b then (ivD (loD a.lo.val b.lo.val) (hiD a.hi.val b.hi.val), 0) else (iv0, 1)
end Go.V

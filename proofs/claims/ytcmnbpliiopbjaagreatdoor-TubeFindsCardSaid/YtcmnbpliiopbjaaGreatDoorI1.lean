/- Package iv over values as data: which intervals are right, copies, sums and differences, products. -/
import Derived.Test.YtcmnbpliiopbjaaGreatDoorPZ
import Derived.Test.YtcmnbpliiopbjaaGreatDoorID
set_option linter.unusedSimpArgs false
set_option linter.unusedVariables false
set_option maxRecDepth 100000
namespace Go.V
open Go Go.RowKit Go.Proofs
def qI1_50_1 : List (Nat × Nat) := [(0, 1), (2, 2), (1, 4), (3, 3), (4, 0), (5, 3)]
attribute [go_sem] qI1_50_1

/-- An interval as data. -/
structure Iv where
  lo : Nu
  hi : Nu
def IV (a : Iv) : D := .agg [bl a.lo.neg, i64 a.lo.exp, W64 a.lo.w, bl a.hi.neg, i64 a.hi.exp, W64 a.hi.w]
def IE (p : Iv × Int) : D := .tup [IV p.1, i64 p.2]
attribute [go_sem] IV IE
def iv0 : Iv := ⟨nu0, nu0⟩
def rightI (a : Iv) : Bool := rightB a.lo && rightB a.hi && decide (a.lo.val ≤ a.hi.val)
structure Wi (k : Nat) (a : Iv) : Prop where
  lo : Wl k a.lo
  hi : Wl k a.hi
/-- The interval of two values. -/
def ivD (x y : Dyadic) : Iv := ⟨nuOf x, nuOf y⟩
theorem rightI_is {k : Nat} {a : Iv} (h : Wi k a) (hr : rightI a = true) : ∃ x y, OkD x ∧ OkD y ∧ x ≤ y ∧ a = ivD x y := by
  unfold rightI at hr
  rw [Bool.and_eq_true, Bool.and_eq_true, decide_eq_true_eq] at hr
  obtain ⟨lo, hi⟩ := a
  obtain ⟨x, hx, rfl⟩ := right_is h.lo.b hr.1.1
  obtain ⟨y, hy, rfl⟩ := right_is h.hi.b hr.1.2
  refine ⟨x, y, hx, hy, ?_, rfl⟩
  have := hr.2
  simp only [val_nuOf] at this
  exact this
theorem rightI_D {x y : Dyadic} (hx : OkD x) (hy : OkD y) : rightI (ivD x y) = decide (x ≤ y) := by
  unfold rightI ivD
  simp only [rightB_nuOf, val_nuOf, decide_eq_true hx, decide_eq_true hy, Bool.true_and]
theorem wi_D {x y : Dyadic} (hx : OkD x) (hy : OkD y) : Wi 65536 (ivD x y) := ⟨(hx.sz).wl, (hy.sz).wl⟩
theorem cmpD_le0' {a b : Dyadic} : (cmpD a b ≤ 0) = (a ≤ b) := by
  apply propext
  unfold cmpD
  by_cases h1 : a < b
  · rw [if_pos h1]; constructor
    · intro _; grind
    · intro _; decide
  · rw [if_neg h1]
    by_cases h2 : b < a
    · rw [if_pos h2]; constructor
      · intro h; exact absurd h (by decide)
      · intro h; grind
    · rw [if_neg h2]; constructor
      · intro _; grind
      · intro _; decide
theorem p_eCmpD {a b : Dyadic} (ha : OkD a) (hb : OkD b) : PC Tryz.prog 36 [NU (nuOf a), NU (nuOf b)] fun d => d = i64 (cmpD a b) := by
  have := p_eCmp ha.sz hb.sz (by decide)
  rw [val_nuOf, val_nuOf] at this
  exact this

theorem p_iRight {k : Nat} {a : Iv} (h : Wi k a) : PC Tryz.prog 102 [IV a] fun d => d = bl (rightI a) := by
  have pX := p_nRight h.lo.b
  have pY := p_nRight h.hi.b
  have pC : rightB a.lo = true → rightB a.hi = true → PC Tryz.prog 36 [NU a.lo, NU a.hi] fun d => d = i64 (cmpD a.lo.val a.hi.val) := fun h1 h2 => p_eCmp (right_sz h.lo.b h1) (right_sz h.hi.b h2) (by decide)
  unfold rightI
  have k3 : decide (cmpD a.lo.val a.hi.val ≤ 0) = decide (a.lo.val ≤ a.hi.val) := decide_eq_decide.2 (Iff.of_eq cmpD_le0')
  rw [← k3]
  clear k3
  generalize cmpD a.lo.val a.hi.val = c at *
  generalize rightB a.lo = r at *
  generalize rightB a.hi = s at *
  obtain ⟨⟨n1, e1, w1⟩, ⟨n2, e2, w2⟩⟩ := a
  cases r
  · refine PB (rs := [.tmp 2]) Tryz.func102 ?_
    exact Wk
  · cases s
    · refine PB (rs := [.tmp 2]) Tryz.func102 ?_
      exact Wk
    · have pC := pC rfl rfl
      refine PB (rs := [.tmp 2]) Tryz.func102 ?_
      exact Wk

theorem p_copied {x : Nu} (hl : x.w.length ≤ 1099511627776) : PC Tryz.prog 78 [NU x] fun d => d = NU x := by
  obtain ⟨neg, exp, w⟩ := x
  simp only at hl
  refine PB (rs := [.cell 2 30]) Tryz.func78 ?_
  repeat (first | with_reducible refine pv_seq fun K hK => ?_ | ((with_reducible first | refine hK _ _ ?_ | (clear hK; refine hK _ _ ?_) | (clear hK; clear hK; refine hK _ _ ?_)); clear hK; try clear K) | refine W0 ?_ | exact Z | with_reducible intro b)
  refine ⟨by rw [rS_len]; omega, by rw [rS_len]; omega, fun h0 => ?_, fun h0 b' cap' => ?_⟩
  · obtain rfl : w = [] := by have := congrArg List.length h0; simpa [rS_len] using this
    exact Wk
  · repeat (first | (with_reducible first | refine pv_seq fun K hK => ?_ | refine pv_reg ?_) | ((with_reducible first | refine hK _ _ ?_ | (clear hK; refine hK _ _ ?_) | (clear hK; clear hK; refine hK _ _ ?_)); clear hK; try clear K) | simp -implicitDefEqProofs only [List.drop_zero, List.take_length, optLL_rS, true_and, go_sem, seval] | with_reducible intro b | (with_reducible refine And.intro ?_ ?_; · first | assumption | omega | (unfold R64; omega)))
    try rfl
theorem p_ofI {x y : Nu} (hx : x.w.length ≤ 1099511627776) (hy : y.w.length ≤ 1099511627776) : PC Tryz.prog 50 [NU x, NU y] fun d => d = IV ⟨x, y⟩ := by
  have pX := p_copied hx
  have pY := p_copied hy
  obtain ⟨n1, e1, w1⟩ := x
  obtain ⟨n2, e2, w2⟩ := y
  have d1 := @dl 1 qI1_50_1
  refine PB (rs := [.cell 4 34]) Tryz.func50 ?_
  exact Wk
theorem p_OfI {x : Nu} (hx : x.w.length ≤ 1099511627776) : PC Tryz.prog 27 [NU x] fun d => d = IV ⟨x, x⟩ := by
  have pO := p_ofI hx hx
  obtain ⟨n1, e1, w1⟩ := x
  refine PB (rs := [.cell 2 34]) Tryz.func27 ?_
  exact Wk

def makeR (x y : Nu) : Iv × Int := if rightI ⟨x, y⟩ then (⟨x, y⟩, 0) else (iv0, 1)

theorem p_SameI {a b : Iv} (h1 : a.lo.w.length ≤ 1099511627776) (h2 : a.hi.w.length ≤ 1099511627776) : PC Tryz.prog 95 [IV a, IV b] fun d => d = bl (decide (a.lo = b.lo) && decide (a.hi = b.hi)) := by
  have pX := p_nSame (x := a.lo) (y := b.lo) h1
  have pY := p_nSame (x := a.hi) (y := b.hi) h2
  generalize decide (a.lo = b.lo) = r at *
  generalize decide (a.hi = b.hi) = s at *
  obtain ⟨⟨n1, e1, w1⟩, ⟨n2, e2, w2⟩⟩ := a
  obtain ⟨⟨n3, e3, w3⟩, ⟨n4, e4, w4⟩⟩ := b
  cases r
  · refine PB (rs := [.tmp 4]) Tryz.func95 ?_
    exact Wk
  · refine PB (rs := [.tmp 4]) Tryz.func95 ?_
    exact Wk
end Go.V

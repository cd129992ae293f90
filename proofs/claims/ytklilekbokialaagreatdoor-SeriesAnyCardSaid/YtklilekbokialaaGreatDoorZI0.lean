/- Intervals: plain laws. No program, no model. Intervals: parts of the operands, powers, quotients; plain laws. No program, no model. Package iv over values as data: which intervals are right, copies, sums and differences, products. Package iv over values as data: what lies in what, hull, meet, opposites, amounts. Package iv over values as data: meet, opposites, amounts; outward, sums, differences, products. Package iv over values as data: sums, differences, products. The document's intervals over values as data: which are right, what lies in what, hull, meet, opposites, amounts. The document's intervals over values as data: least, greatest product, powers, ends. The statements' own small functions of layer 5: light. Package iv over values as data: products, quotients. Package iv over values as data: quotients. Package iv over values as data: width. Package iv over values as data: middles. Package iv over values as data: radius. The document's intervals over values as data: quotients, the four operations. The document's intervals over values as data: sums, differences, products, quotients. Package iv over values as data: powers. The document's intervals over values as data: powers. The seat's deck: intervals, numbers and parts of intervals. The seat's deck: numbers in intervals, parts of intervals. The seat's deck: parts of intervals. The statements IvDrawn, IvFour of layer 5. Intervals of small numbers: what is reckoned of them fits; parts of the operands. Boxes and pieces over values as data: packages box and record. Series of intervals, plainly: coefficients of products, of polynomials, sums. Package series over values as data: coefficients of products; the document's. Monomials over values as data: which lists of them are polynomials. -/
import Derived.Test.YtklilekbokialaaGreatDoorZPX
import Derived.Test.YtklilekbokialaaGreatDoorZPZ
import Derived.Test.YtklilekbokialaaGreatDoorZPY
import Derived.Test.YtklilekbokialaaGreatDoorZPR
import Derived.Test.YtklilekbokialaaGreatDoorZPS
set_option linter.unusedVariables false
set_option linter.unusedSimpArgs false
set_option maxRecDepth 100000
namespace Go.V
open Go

theorem nn_mul {a b : Dyadic} (ha : 0 ≤ a) (hb : 0 ≤ b) : 0 ≤ a * b := by
  apply Dyadic.toRat_le_toRat_iff.1
  rw [Dyadic.toRat_mul]
  exact Rat.mul_nonneg (Dyadic.toRat_le_toRat_iff.2 ha) (Dyadic.toRat_le_toRat_iff.2 hb)
/-- The lesser, the greater one, as the program picks them. -/
def loD (a b : Dyadic) : Dyadic := if b < a then b else a
def hiD (a b : Dyadic) : Dyadic := if a < b then b else a
theorem loD_le (a b : Dyadic) : loD a b ≤ a ∧ loD a b ≤ b ∧ (loD a b = a ∨ loD a b = b) := by
  unfold loD; split
  · exact ⟨by grind, by grind, .inr rfl⟩
  · exact ⟨by grind, by grind, .inl rfl⟩
theorem hiD_ge (a b : Dyadic) : a ≤ hiD a b ∧ b ≤ hiD a b ∧ (hiD a b = a ∨ hiD a b = b) := by
  unfold hiD; split
  · exact ⟨by grind, by grind, .inr rfl⟩
  · exact ⟨by grind, by grind, .inl rfl⟩
def minP (x y u v : Dyadic) : Dyadic := loD (loD (loD (x * u) (x * v)) (y * u)) (y * v)
def maxP (x y u v : Dyadic) : Dyadic := hiD (hiD (hiD (x * u) (x * v)) (y * u)) (y * v)
/-- The least product, as the document has it. -/
def leastR (x y u v : Dyadic) : Dyadic :=
  if 0 ≤ x ∧ 0 ≤ u then x * u else if 0 ≤ x then y * u else if 0 ≤ u then x * v else if y ≤ 0 ∧ v ≤ 0 then y * v else if y * u < x * v then y * u else x * v
theorem minP_spec (x y u v : Dyadic) : (minP x y u v ≤ x * u ∧ minP x y u v ≤ x * v ∧ minP x y u v ≤ y * u ∧ minP x y u v ≤ y * v) ∧ (minP x y u v = x * u ∨ minP x y u v = x * v ∨ minP x y u v = y * u ∨ minP x y u v = y * v) := by
  unfold minP
  have h1 := loD_le (x * u) (x * v)
  generalize loD (x * u) (x * v) = m1 at *
  have h2 := loD_le m1 (y * u)
  generalize loD m1 (y * u) = m2 at *
  have h3 := loD_le m2 (y * v)
  generalize loD m2 (y * v) = m3 at *
  grind
theorem maxP_spec (x y u v : Dyadic) : (x * u ≤ maxP x y u v ∧ x * v ≤ maxP x y u v ∧ y * u ≤ maxP x y u v ∧ y * v ≤ maxP x y u v) ∧ (maxP x y u v = x * u ∨ maxP x y u v = x * v ∨ maxP x y u v = y * u ∨ maxP x y u v = y * v) := by
  unfold maxP
  have h1 := hiD_ge (x * u) (x * v)
  generalize hiD (x * u) (x * v) = m1 at *
  have h2 := hiD_ge m1 (y * u)
  generalize hiD m1 (y * u) = m2 at *
  have h3 := hiD_ge m2 (y * v)
  generalize hiD m2 (y * v) = m3 at *
  grind
theorem leastR_eq {x y u v : Dyadic} (hx : x ≤ y) (hu : u ≤ v) : leastR x y u v = minP x y u v := by
  have s := minP_spec x y u v
  generalize minP x y u v = m at *
  have p1 : 0 ≤ x → 0 ≤ x * (v - u) := fun h => nn_mul h (by grind)
  have p2 : 0 ≤ y → 0 ≤ y * (v - u) := fun h => nn_mul h (by grind)
  have p3 : 0 ≤ u → 0 ≤ (y - x) * u := fun h => nn_mul (by grind) h
  have p4 : 0 ≤ v → 0 ≤ (y - x) * v := fun h => nn_mul (by grind) h
  have n1 : x ≤ 0 → 0 ≤ (-x) * (v - u) := fun h => nn_mul (by grind) (by grind)
  have n2 : y ≤ 0 → 0 ≤ (-y) * (v - u) := fun h => nn_mul (by grind) (by grind)
  have n3 : u ≤ 0 → 0 ≤ (y - x) * (-u) := fun h => nn_mul (by grind) (by grind)
  have n4 : v ≤ 0 → 0 ≤ (y - x) * (-v) := fun h => nn_mul (by grind) (by grind)
  unfold leastR
  by_cases a1 : 0 ≤ x
  · by_cases a2 : 0 ≤ u
    · rw [if_pos ⟨a1, a2⟩]
      have q1 := p1 a1; have q2 := p3 a2; have q3 := p2 (by grind)
      grind
    · rw [if_neg (fun h => a2 h.2), if_pos a1]
      have q1 := n3 (by grind); have q2 := p2 (by grind); have q3 := p1 a1
      grind
  · rw [if_neg (fun h => a1 h.1), if_neg a1]
    by_cases a2 : 0 ≤ u
    · rw [if_pos a2]
      have q1 := n1 (by grind); have q2 := p4 (by grind); have q3 := p3 a2
      grind
    · rw [if_neg a2]
      by_cases a3 : y ≤ 0 ∧ v ≤ 0
      · rw [if_pos a3]
        have q1 := n2 a3.1; have q2 := n4 a3.2; have q3 := n1 (by grind); have q4 := n3 (by grind)
        grind
      · rw [if_neg a3]
        have r1 : 0 ≤ (-x) * (-u) := nn_mul (by grind) (by grind)
        by_cases a4 : y ≤ 0
        · have r2 : 0 ≤ (-x) * v := nn_mul (by grind) (by grind)
          have r3 : 0 ≤ (-y) * (-u) := nn_mul (by grind) (by grind)
          have r4 : 0 ≤ (y - x) * v := nn_mul (by grind) (by grind)
          have r5 := n2 a4
          split <;> grind
        · by_cases a5 : v ≤ 0
          · have r2 : 0 ≤ y * (-u) := nn_mul (by grind) (by grind)
            have r3 : 0 ≤ y * (v - u) := p2 (by grind)
            have r4 : 0 ≤ (-x) * (-v) := nn_mul (by grind) (by grind)
            split <;> grind
          · have r2 : 0 ≤ y * (-u) := nn_mul (by grind) (by grind)
            have r3 : 0 ≤ (-x) * v := nn_mul (by grind) (by grind)
            have r4 : 0 ≤ y * v := nn_mul (by grind) (by grind)
            split <;> grind
theorem greatR_eq {x y u v : Dyadic} (hx : x ≤ y) (hu : u ≤ v) : - leastR (-y) (-x) u v = maxP x y u v := by
  rw [leastR_eq (by grind) hu]
  have s := minP_spec (-y) (-x) u v
  have t := maxP_spec x y u v
  generalize minP (-y) (-x) u v = m at *
  generalize maxP x y u v = n at *
  have e1 : -y * u = -(y * u) := by grind
  have e2 : -y * v = -(y * v) := by grind
  have e3 : -x * u = -(x * u) := by grind
  have e4 : -x * v = -(x * v) := by grind
  rw [e1, e2, e3, e4] at s
  grind
end Go.V
namespace Go.V
open Go

/-! ### Powers -/
/-! ### Quotients; the divisor is above 0 -/
end Go.V
namespace Go.V
open Go Go.RowKit Go.Proofs
def qI1_67_1 : List (Nat × Nat) := [(0, 1), (2, 2), (1, 4), (3, 3), (4, 0), (5, 3)]
attribute [go_sem] qI1_67_1
/-- An interval as data. -/
structure Iv where
  lo : Nu
  hi : Nu
def IV (a : Iv) : D := .agg [bl a.lo.neg, i64 a.lo.exp, W64 a.lo.w, bl a.hi.neg, i64 a.hi.exp, W64 a.hi.w]
def IE (p : Iv × Int) : D := .tup [IV p.1, i64 p.2]
attribute [go_sem] IV IE
def iv0 : Iv := ⟨nu0, nu0⟩
def rightI (a : Iv) : Bool := rightB a.lo && rightB a.hi && decide (a.lo.val ≤ a.hi.val)
structure Wi (k : Nat) (a : Iv) : Prop where
  lo : Wl k a.lo
  hi : Wl k a.hi
/-- The interval of two values. -/
def ivD (x y : Dyadic) : Iv := ⟨nuOf x, nuOf y⟩
theorem rightI_is {k : Nat} {a : Iv} (h : Wi k a) (hr : rightI a = true) : ∃ x y, OkD x ∧ OkD y ∧ x ≤ y ∧ a = ivD x y := by
  unfold rightI at hr
  rw [Bool.and_eq_true, Bool.and_eq_true, decide_eq_true_eq] at hr
  obtain ⟨lo, hi⟩ := a
  obtain ⟨x, hx, rfl⟩ := right_is h.lo.b hr.1.1
  obtain ⟨y, hy, rfl⟩ := right_is h.hi.b hr.1.2
  refine ⟨x, y, hx, hy, ?_, rfl⟩
  have := hr.2
  simp only [val_nuOf] at this
  exact this
theorem rightI_D {x y : Dyadic} (hx : OkD x) (hy : OkD y) : rightI (ivD x y) = decide (x ≤ y) := by
  unfold rightI ivD
  simp only [rightB_nuOf, val_nuOf, decide_eq_true hx, decide_eq_true hy, Bool.true_and]
theorem wi_D {x y : Dyadic} (hx : OkD x) (hy : OkD y) : Wi 65536 (ivD x y) := ⟨(hx.sz).wl, (hy.sz).wl⟩
theorem cmpD_le0' {a b : Dyadic} : (cmpD a b ≤ 0) = (a ≤ b) := by
  apply propext
  unfold cmpD
  by_cases h1 : a < b
  · rw [if_pos h1]; constructor
    · intro _; grind
    · intro _; decide
  · rw [if_neg h1]
    by_cases h2 : b < a
    · rw [if_pos h2]; constructor
      · intro h; exact absurd h (by decide)
      · intro h; grind
    · rw [if_neg h2]; constructor
      · intro _; grind
      · intro _; decide
theorem p_iRight {k : Nat} {a : Iv} (h : Wi k a) : PC Tryz.prog 21 [IV a] fun d => d = bl (rightI a) := by
  have pX := p_nRight h.lo.b
  have pY := p_nRight h.hi.b
  have pC : rightB a.lo = true → rightB a.hi = true → PC Tryz.prog 54 [NU a.lo, NU a.hi] fun d => d = i64 (cmpD a.lo.val a.hi.val) := fun h1 h2 => p_eCmp (right_sz h.lo.b h1) (right_sz h.hi.b h2) (by decide)
  unfold rightI
  have k3 : decide (cmpD a.lo.val a.hi.val ≤ 0) = decide (a.lo.val ≤ a.hi.val) := decide_eq_decide.2 (Iff.of_eq cmpD_le0')
  rw [← k3]
  clear k3
  generalize cmpD a.lo.val a.hi.val = c at *
  generalize rightB a.lo = r at *
  generalize rightB a.hi = s at *
  obtain ⟨⟨n1, e1, w1⟩, ⟨n2, e2, w2⟩⟩ := a
  cases r
  · refine PB (rs := [.tmp 2]) Tryz.func21 ?_
    exact Wk
  · cases s
    · refine PB (rs := [.tmp 2]) Tryz.func21 ?_
      exact Wk
    · have pC := pC rfl rfl
      refine PB (rs := [.tmp 2]) Tryz.func21 ?_
      exact Wk

theorem p_copied {x : Nu} (hl : x.w.length ≤ 1099511627776) : PC Tryz.prog 101 [NU x] fun d => d = NU x := by
  obtain ⟨neg, exp, w⟩ := x
  simp only at hl
  refine PB (rs := [.cell 2 26]) Tryz.func101 ?_
  repeat (first | with_reducible refine pv_seq fun K hK => ?_ | ((with_reducible first | refine hK _ _ ?_ | (clear hK; refine hK _ _ ?_) | (clear hK; clear hK; refine hK _ _ ?_)); clear hK; try clear K) | refine W0 ?_ | exact Z | with_reducible intro b)
  refine ⟨by rw [rS_len]; omega, by rw [rS_len]; omega, fun h0 => ?_, fun h0 b' cap' => ?_⟩
  · obtain rfl : w = [] := by have := congrArg List.length h0; simpa [rS_len] using this
    exact Wk
  · repeat (first | (with_reducible first | refine pv_seq fun K hK => ?_ | refine pv_reg ?_) | ((with_reducible first | refine hK _ _ ?_ | (clear hK; refine hK _ _ ?_) | (clear hK; clear hK; refine hK _ _ ?_)); clear hK; try clear K) | simp -implicitDefEqProofs only [List.drop_zero, List.take_length, optLL_rS, true_and, go_sem, seval] | with_reducible intro b | (with_reducible refine And.intro ?_ ?_; · first | assumption | omega | (unfold R64; omega)))
    try rfl
theorem p_ofI {x y : Nu} (hx : x.w.length ≤ 1099511627776) (hy : y.w.length ≤ 1099511627776) : PC Tryz.prog 67 [NU x, NU y] fun d => d = IV ⟨x, y⟩ := by
  have pX := p_copied hx
  have pY := p_copied hy
  obtain ⟨n1, e1, w1⟩ := x
  obtain ⟨n2, e2, w2⟩ := y
  have d1 := @dl 1 qI1_67_1
  refine PB (rs := [.cell 4 28]) Tryz.func67 ?_
  exact Wk
theorem p_OfI {x : Nu} (hx : x.w.length ≤ 1099511627776) : PC Tryz.prog 31 [NU x] fun d => d = IV ⟨x, x⟩ := by
  have pO := p_ofI hx hx
  obtain ⟨n1, e1, w1⟩ := x
  refine PB (rs := [.cell 2 28]) Tryz.func31 ?_
  exact Wk

def makeR (x y : Nu) : Iv × Int := if rightI ⟨x, y⟩ then (⟨x, y⟩, 0) else (iv0, 1)
theorem p_MakeI {k : Nat} {x y : Nu} (h : Wi k ⟨x, y⟩) (hk : k ≤ 1099511627776) : PC Tryz.prog 52 [NU x, NU y] fun d => d = IE (makeR x y) := by
  have pR := p_iRight h
  have pO := p_ofI (x := x) (y := y) (Nat.le_trans h.lo.len hk) (Nat.le_trans h.hi.len hk)
  unfold makeR
  generalize rightI ⟨x, y⟩ = r at *
  obtain ⟨n1, e1, w1⟩ := x
  obtain ⟨n2, e2, w2⟩ := y
  cases r
  · refine PB (rs := [.cell 4 28, .tmp 5]) Tryz.func52 ?_
    exact Wk
  · refine PB (rs := [.cell 4 28, .tmp 5]) Tryz.func52 ?_
    exact Wk

end Go.V
namespace Go.V
open Go Go.RowKit Go.Proofs

theorem cmpD_0le {a b : Dyadic} : (0 ≤ cmpD a b) = (b ≤ a) := by
  apply propext
  unfold cmpD
  by_cases h1 : a < b
  · rw [if_pos h1]; constructor
    · intro h; exact absurd h (by decide)
    · intro h; grind
  · rw [if_neg h1]; constructor
    · intro _; grind
    · intro _; split <;> decide
theorem cmpD_1le {a b : Dyadic} : (1 ≤ cmpD a b) = (b < a) := by
  apply propext
  unfold cmpD
  by_cases h1 : a < b
  · rw [if_pos h1]; constructor
    · intro h; exact absurd h (by decide)
    · intro h; grind
  · rw [if_neg h1]
    by_cases h2 : b < a
    · rw [if_pos h2]; exact ⟨fun _ => h2, fun _ => by decide⟩
    · rw [if_neg h2]; exact ⟨fun h => absurd h (by decide), fun h => absurd h h2⟩
/-- The lesser, the greater one of two numbers. -/
def minN (x y : Nu) : Nu := if y.val < x.val then y else x
def maxN (x y : Nu) : Nu := if x.val < y.val then y else x
theorem minN_val (x y : Nu) : (minN x y).val = loD x.val y.val := by unfold minN loD; split <;> rfl
theorem maxN_val (x y : Nu) : (maxN x y).val = hiD x.val y.val := by unfold maxN hiD; split <;> rfl
theorem minN_sz {k : Nat} {x y : Nu} (hx : Sz k x) (hy : Sz k y) : Sz k (minN x y) := by unfold minN; split <;> assumption
theorem maxN_sz {k : Nat} {x y : Nu} (hx : Sz k x) (hy : Sz k y) : Sz k (maxN x y) := by unfold maxN; split <;> assumption
theorem cmpD_lt0 {a b : Dyadic} : (cmpD a b < 0) = (a < b) := by
  have := cmpD_0le (a := a) (b := b)
  apply propext
  rw [← Int.not_le, this]
  constructor
  · intro h; grind
  · intro h; grind
theorem cmpD_0lt {a b : Dyadic} : (0 < cmpD a b) = (b < a) := by rw [← cmpD_1le]; rfl
theorem p_least {k : Nat} {x y : Nu} (hx : Sz k x) (hy : Sz k y) (hk : k ≤ 67108864) : PC Tryz.prog 85 [NU x, NU y] fun d => d = NU (minN x y) := by
  have pC := p_eCmp hy hx hk
  have k1 : (cmpD y.val x.val < 0) = (y.val < x.val) := cmpD_lt0
  unfold minN
  by_cases h : y.val < x.val
  · rw [if_pos h]
    rw [eq_true h] at k1
    generalize cmpD y.val x.val = c at *
    obtain ⟨n1, e1, w1⟩ := x
    obtain ⟨n2, e2, w2⟩ := y
    refine PB (rs := [.cell 4 26]) Tryz.func85 ?_
    have ft := k1
    exact Wk
  · rw [if_neg h]
    rw [eq_false h] at k1
    generalize cmpD y.val x.val = c at *
    obtain ⟨n1, e1, w1⟩ := x
    obtain ⟨n2, e2, w2⟩ := y
    refine PB (rs := [.cell 4 26]) Tryz.func85 ?_
    have ft := k1
    exact Wk
theorem p_greatest {k : Nat} {x y : Nu} (hx : Sz k x) (hy : Sz k y) (hk : k ≤ 67108864) : PC Tryz.prog 86 [NU x, NU y] fun d => d = NU (maxN x y) := by
  have pC := p_eCmp hy hx hk
  have k1 : (0 < cmpD y.val x.val) = (x.val < y.val) := cmpD_0lt
  unfold maxN
  by_cases h : x.val < y.val
  · rw [if_pos h]
    rw [eq_true h] at k1
    generalize cmpD y.val x.val = c at *
    obtain ⟨n1, e1, w1⟩ := x
    obtain ⟨n2, e2, w2⟩ := y
    refine PB (rs := [.cell 4 26]) Tryz.func86 ?_
    have ft := k1
    exact Wk
  · rw [if_neg h]
    rw [eq_false h] at k1
    generalize cmpD y.val x.val = c at *
    obtain ⟨n1, e1, w1⟩ := x
    obtain ⟨n2, e2, w2⟩ := y
    refine PB (rs := [.cell 4 26]) Tryz.func86 ?_
    have ft := k1
    exact Wk


end Go.V
namespace Go.V
open Go Go.RowKit Go.Proofs

/-- An interval of two values, rounded outward, or that there is none. -/
def outR (p : Nat) (l h : Dyadic) : Iv × Int := if (numR (rd p false l)).2 = 0 then (if (numR (rd p true h)).2 = 0 then (⟨(numR (rd p false l)).1, (numR (rd p true h)).1⟩, 0) else (iv0, 2)) else (iv0, 2)
theorem numR_err {d : Dyadic} : (numR d).2 ≠ 0 → (numR d).2 = 2 := by
  unfold numR; split
  · intro h; exact absurd rfl h
  · intro _; rfl
theorem p_outward {k p : Nat} {x y : Nu} (hx : Sz k x) (hy : Sz k y) (hk : k ≤ 16000000) (hp : p ≤ 1024) : PC Tryz.prog 87 [NU x, NU y, i64 p] fun d => d = IE (outR p x.val y.val) := by
  have pL := p_roundV (p := p) (up := false) hx hk hp
  have pH := p_roundV (p := p) (up := true) hy hk hp
  unfold outR
  have e1 := numR_err (d := rd p false x.val)
  have e2 := numR_err (d := rd p true y.val)
  generalize numR (rd p false x.val) = q at *
  generalize numR (rd p true y.val) = r at *
  obtain ⟨⟨n1, x1, w1⟩, r1⟩ := q
  obtain ⟨⟨n2, x2, w2⟩, r2⟩ := r
  simp only at e1 e2
  obtain ⟨n3, x3, w3⟩ := x
  obtain ⟨n4, x4, w4⟩ := y
  by_cases h1 : r1 = 0
  · rw [if_pos h1]
    by_cases h2 : r2 = 0
    · rw [if_pos h2]
      refine PB (rs := [.cell 6 28, .tmp 7]) Tryz.func87 ?_
      have ft := And.intro (eq_true h1) (eq_true h2)
      exact Wk
    · rw [if_neg h2]
      have h3 := e2 h2
      refine PB (rs := [.cell 6 28, .tmp 7]) Tryz.func87 ?_
      have ft := And.intro (eq_true h1) (eq_false h2)
      repeat (first | with_reducible refine pv_seq fun K hK => ?_ | ((with_reducible first | refine hK _ _ ?_ | (clear hK; refine hK _ _ ?_) | (clear hK; clear hK; refine hK _ _ ?_)); clear hK; try clear K) | refine W ?_ | exact Z | with_reducible intro b)
      rw [h3]; rfl
  · rw [if_neg h1]
    have h3 := e1 h1
    refine PB (rs := [.cell 6 28, .tmp 7]) Tryz.func87 ?_
    have ft := (eq_false h1)
    repeat (first | with_reducible refine pv_seq fun K hK => ?_ | ((with_reducible first | refine hK _ _ ?_ | (clear hK; refine hK _ _ ?_) | (clear hK; clear hK; refine hK _ _ ?_)); clear hK; try clear K) | refine W ?_ | exact Z | with_reducible intro b)
    rw [h3]; rfl
end Go.V
namespace Go.V
open Go Go.RowKit Go.Proofs
def qI4_84_1 : List (Nat × Nat) := [(0, 1), (1, 1), (3, 2), (4, 2), (2, 4), (5, 3), (6, 3), (7, 3)]
def qI4_49_3 : List (Nat × Nat) := [(0, 0), (1, 1), (2, 0), (3, 1), (5, 0), (6, 2), (7, 0), (8, 2), (10, 0), (4, 4), (9, 3), (11, 3), (12, 0), (13, 0), (14, 3), (15, 0)]
attribute [go_sem] qI4_84_1 qI4_49_3
theorem p_validI {k : Nat} {a b : Iv} {p : Int} (ha : Wi k a) (hb : Wi k b) : PC Tryz.prog 82 [IV a, IV b, i64 p] fun d => d = bl (rightI a && rightI b && okP p) := by
  have pA := p_iRight ha
  have pB := p_iRight hb
  have pP := p_Valid (p := p)
  generalize rightI a = r at *
  generalize rightI b = s at *
  generalize okP p = t at *
  obtain ⟨⟨n1, e1, w1⟩, ⟨n2, e2, w2⟩⟩ := a
  obtain ⟨⟨n3, e3, w3⟩, ⟨n4, e4, w4⟩⟩ := b
  cases r
  · refine PB (rs := [.tmp 6]) Tryz.func82 ?_
    exact Wk
  · cases s
    · refine PB (rs := [.tmp 6]) Tryz.func82 ?_
      exact Wk
    · refine PB (rs := [.tmp 6]) Tryz.func82 ?_
      exact Wk
/-- What an operation of two intervals comes to: 1 is ErrForm. -/
def opI (a b : Iv) (p : Int) (l h : Dyadic) : Iv × Int := if rightI a && rightI b && okP p then outR p.toNat l h else (iv0, 1)

theorem p_iAdd {k : Nat} {a b : Iv} {p : Int} (ha : Wi k a) (hb : Wi k b) : PC Tryz.prog 49 [IV a, IV b, i64 p] fun d => d = IE (opI a b p (a.lo.val + b.lo.val) (a.hi.val + b.hi.val)) := by
  have pV := p_validI (p := p) ha hb
  unfold opI
  by_cases h : (rightI a && rightI b && okP p) = true
  · rw [if_pos h]
    rw [h] at pV
    rw [Bool.and_eq_true, Bool.and_eq_true] at h
    obtain ⟨m, rfl, h8, h256⟩ := okP_nat h.2
    obtain ⟨x, y, ox, oy, hxy, rfl⟩ := rightI_is ha h.1.1
    obtain ⟨u, v, ou, ov, huv, rfl⟩ := rightI_is hb h.1.2
    have pL := p_eAdd ox.sz ou.sz (by decide)
    have pH := p_eAdd oy.sz ov.sz (by decide)
    have pO := fun (z1 z2 : Nu) (h1 : Sz (4 * 65536 + 1) z1) (h2 : Sz (4 * 65536 + 1) z2) (v1 : z1.val = x + u) (v2 : z2.val = y + v) => show PC Tryz.prog 87 [NU z1, NU z2, i64 (m : Nat)] fun d => d = IE (outR m (x + u) (y + v)) from v1 ▸ v2 ▸ p_outward h1 h2 (by decide) (by omega)
    simp only [ivD, val_nuOf, Int.toNat_natCast] at *
    generalize outR m (x + u) (y + v) = q at *
    obtain ⟨⟨⟨n5, e5, w5⟩, ⟨n6, e6, w6⟩⟩, r⟩ := q
    generalize nuOf x = X at *
    generalize nuOf y = Y at *
    generalize nuOf u = U at *
    generalize nuOf v = V at *
    obtain ⟨n1, e1, w1⟩ := X
    obtain ⟨n2, e2, w2⟩ := Y
    obtain ⟨n3, e3, w3⟩ := U
    obtain ⟨n4, e4, w4⟩ := V
    have d1 := @dl 3 qI4_49_3
    refine PB (rs := [.cell 6 28, .tmp 7]) Tryz.func49 ?_
    repeat (first | with_reducible refine pv_seq fun K hK => ?_ | ((with_reducible first | refine hK _ _ ?_ | (clear hK; refine hK _ _ ?_) | (clear hK; clear hK; refine hK _ _ ?_)); clear hK; try clear K) | refine W ?_ | exact Z | with_reducible intro b)
    refine ExtC_is ?_
    try simp -implicitDefEqProofs only [ft, go_sem, seval]
    refine pL.mono ?_
    rintro d ⟨⟨s1, f1, z1⟩, rfl, hs1, hv1⟩
    repeat (first | with_reducible refine pv_seq fun K hK => ?_ | ((with_reducible first | refine hK _ _ ?_ | (clear hK; refine hK _ _ ?_) | (clear hK; clear hK; refine hK _ _ ?_)); clear hK; try clear K) | refine W0 ?_ | exact Z | with_reducible intro b)
    refine call_pc pH ?_
    rintro d ⟨⟨s2, f2, z2⟩, rfl, hs2, hv2⟩
    have pO := pO _ _ hs1 hs2 hv1 hv2
    exact Wk
  · rw [if_neg h]
    rw [Bool.not_eq_true] at h
    rw [h] at pV
    obtain ⟨⟨n1, e1, w1⟩, ⟨n2, e2, w2⟩⟩ := a
    obtain ⟨⟨n3, e3, w3⟩, ⟨n4, e4, w4⟩⟩ := b
    have d1 := @dl 3 qI4_49_3
    refine PB (rs := [.cell 6 28, .tmp 7]) Tryz.func49 ?_
    exact Wk


theorem p_Mul1 {k : Nat} {S : Store} {Q : D → Store → Prop} {k1 k2 : Nm} {b1 b2 : Nat} {l h x : Nu} (h1 : S k1 = some ⟨b1, 3, 0, [[bl l.neg, i64 l.exp, W64 l.w]]⟩) (h2 : S k2 = some ⟨b2, 3, 0, [[bl h.neg, i64 h.exp, W64 h.w]]⟩) (hne : (k1 = k2) = False)
    (sl : Sz k l) (sh : Sz k h) (sx : Sz k x) (hk : k ≤ 67108864) (hQ : Q (.tup []) (updS (updS S k1 (some ⟨b1, 3, 0, [[bl (minN l x).neg, i64 (minN l x).exp, W64 (minN l x).w]]⟩)) k2 (some ⟨b2, 3, 0, [[bl (maxN h x).neg, i64 (maxN h x).exp, W64 (maxN h x).w]]⟩))) :
    PFC Tryz.prog 84 [NU x, .ptr k1 b1 0 0 3, .ptr k2 b2 0 0 3] S Q := by
  have pL := p_least sl sx hk
  have pG := p_greatest sh sx hk
  have hne2 : (k2 = k1) = False := eq_false fun h => by rw [h] at hne; simp at hne
  generalize minN l x = a at *
  generalize maxN h x = b at *
  obtain ⟨n1, e1, w1⟩ := l
  obtain ⟨n2, e2, w2⟩ := h
  obtain ⟨n3, e3, w3⟩ := x
  obtain ⟨n4, e4, w4⟩ := a
  obtain ⟨n5, e5, w5⟩ := b
  simp only at h1 h2
  have d1 := @dl 1 qI4_84_1
  refine PFB (rs := []) Tryz.func84 ?_
  repeat (first | (with_reducible first | refine pv_seq fun K hK => ?_ | refine pv_reg ?_ | refine pv_draw (id := 1) qI4_84_1 (by kernel_rfl) ?_) | ((with_reducible first | refine hK _ _ ?_ | (clear hK; refine hK _ _ ?_) | (clear hK; clear hK; refine hK _ _ ?_)); clear hK; try clear K) | simp -implicitDefEqProofs only [h1, h2, hne, hne2, Nm.up.injEq, true_and, go_sem, seval] | with_reducible intro b | (with_reducible refine And.intro ?_ ?_; · first | assumption | omega | (unfold R64; omega)) | refine call_is (by first | exact pL | exact pG) ?_ | (refine ExtC_is ?_; simp -implicitDefEqProofs only [h1, h2, hne, hne2, Nm.up.injEq, true_and, go_sem, seval]; refine ext_is (by first | exact pL | exact pG) ?_) | (refine PFC.coe ?_; simp -implicitDefEqProofs only [h1, h2, hne, hne2, Nm.up.injEq, true_and, go_sem, seval]; refine call_is (by first | exact pL | exact pG) ?_))
  exact hQ
end Go.V
namespace Go.V
open Go Go.RowKit Go.Proofs

theorem p_rCmpR {x y : Nu} (hx : B64 x.w) (hy : B64 y.w) (rx : rightB x = true) (ry : rightB y = true) : PC Tryz.prog 76 [NU x, NU y] fun d => d = i64 (cmpD x.val y.val) := by
  have := p_rCmpNum hx hy
  rw [rx, ry] at this
  exact this
theorem p_rRightIv {k : Nat} {a : Iv} (h : Wi k a) : PC Tryz.prog 73 [IV a] fun d => d = bl (rightI a) := by
  have pX := p_rRight h.lo.b
  have pY := p_rRight h.hi.b
  have pC := p_rCmpR h.lo.b h.hi.b
  unfold rightI
  have k1 : (cmpD a.lo.val a.hi.val ≤ 0) = (a.lo.val ≤ a.hi.val) := cmpD_le0'
  have k3 : decide (cmpD a.lo.val a.hi.val ≤ 0) = decide (a.lo.val ≤ a.hi.val) := decide_eq_decide.2 (Iff.of_eq k1)
  rw [← k3]
  clear k1 k3
  generalize cmpD a.lo.val a.hi.val = c at *
  generalize rightB a.lo = r at *
  generalize rightB a.hi = s at *
  obtain ⟨⟨n1, e1, w1⟩, ⟨n2, e2, w2⟩⟩ := a
  cases r
  · refine PB (rs := [.tmp 2]) Tryz.func73 ?_
    exact Wk
  · cases s
    · refine PB (rs := [.tmp 2]) Tryz.func73 ?_
      exact Wk
    · have pC := pC rfl rfl
      refine PB (rs := [.tmp 2]) Tryz.func73 ?_
      exact Wk
theorem p_rPoint {x : Nu} : PC Tryz.prog 38 [NU x] fun d => d = IV ⟨x, x⟩ := by
  obtain ⟨n1, e1, w1⟩ := x
  refine PB (rs := [.cell 2 28]) Tryz.func38 ?_
  exact Wk
theorem p_rSameIv {a b : Iv} (h1 : a.lo.w.length ≤ 1099511627776) (h2 : a.hi.w.length ≤ 1099511627776) : PC Tryz.prog 36 [IV a, IV b] fun d => d = bl (decide (a.lo = b.lo) && decide (a.hi = b.hi)) := by
  have pX := p_rSame (x := a.lo) (y := b.lo) h1
  have pY := p_rSame (x := a.hi) (y := b.hi) h2
  generalize decide (a.lo = b.lo) = r at *
  generalize decide (a.hi = b.hi) = s at *
  obtain ⟨⟨n1, e1, w1⟩, ⟨n2, e2, w2⟩⟩ := a
  obtain ⟨⟨n3, e3, w3⟩, ⟨n4, e4, w4⟩⟩ := b
  cases r
  · refine PB (rs := [.tmp 4]) Tryz.func36 ?_
    exact Wk
  · cases s
    · refine PB (rs := [.tmp 4]) Tryz.func36 ?_
      exact Wk
    · refine PB (rs := [.tmp 4]) Tryz.func36 ?_
      exact Wk
theorem same_iv {a : Iv} (h1 : a.lo.w.length ≤ 1099511627776) (h2 : a.hi.w.length ≤ 1099511627776) : PC Tryz.prog 36 [IV a, IV a] fun d => d = bl true :=
  (p_rSameIv (a := a) (b := a) h1 h2).mono fun d hd => hd.trans (by rw [decide_eq_true rfl, decide_eq_true rfl]; rfl)

end Go.V
namespace Go.V
open Go Go.RowKit Go.Proofs
def qI6_107_9 : PT := (.lin [(0, 2), (1, 2), (3, 2), (4, 2)] (.mix [2, 5] [6, 7] (.lin [(8, 3), (9, 3)] .nil)))
def qI6_108_1 : List (Nat × Nat) := [(0, 1), (2, 2), (4, 2), (5, 2), (1, 4), (3, 4), (6, 3), (7, 3), (8, 3)]
attribute [go_sem] qI6_107_9 qI6_108_1
theorem p_precs {p : Int} : PC Tryz.prog 102 [i64 p] fun d => d = bl (okP p) := by
  refine PB (rs := [.tmp 2]) Tryz.func102 ?_
  by_cases h1 : (8 : Int) ≤ p
  · by_cases h2 : p ≤ (256 : Int)
    · rw [okP, decide_eq_true h1, decide_eq_true h2]
      have ft := And.intro (eq_true h1) (eq_true h2)
      exact Wk
    · rw [okP, decide_eq_true h1, decide_eq_false h2]
      have ft := And.intro (eq_true h1) (eq_false h2)
      exact Wk
  · rw [okP, decide_eq_false h1]
    have ft := (eq_false h1)
    exact Wk
def endI (l h : Dyadic) : Iv × Int := if (numR l).2 = 0 then (if (numR h).2 = 0 then (⟨(numR l).1, (numR h).1⟩, 0) else (iv0, 2)) else (iv0, 2)
theorem outR_end (p : Nat) (l h : Dyadic) : outR p l h = endI (rd p false l) (rd p true h) := rfl
theorem p_rEnds {k : Nat} {l h : Dyadic} (hl : Bd k l) (hh : Bd k h) (hk : k ≤ 1073741824) : PC Tryz.prog 104 [VA l, VA h] fun d => d = IE (endI l h) := by
  have pL := p_rNum hl hk
  have pH := p_rNum hh hk
  unfold endI
  generalize numR l = q at *
  generalize numR h = r at *
  obtain ⟨⟨n1, x1, w1⟩, r1⟩ := q
  obtain ⟨⟨n2, x2, w2⟩, r2⟩ := r
  unfold VA at *
  by_cases h1 : r1 = 0
  · rw [if_pos h1]
    by_cases h2 : r2 = 0
    · rw [if_pos h2]
      refine PB (rs := [.cell 4 28, .tmp 5]) Tryz.func104 ?_
      have ft := And.intro (eq_true h1) (eq_true h2)
      exact Wk
    · rw [if_neg h2]
      refine PB (rs := [.cell 4 28, .tmp 5]) Tryz.func104 ?_
      have ft := And.intro (eq_true h1) (eq_false h2)
      exact Wk
  · rw [if_neg h1]
    refine PB (rs := [.cell 4 28, .tmp 5]) Tryz.func104 ?_
    have ft := (eq_false h1)
    exact Wk

theorem sgnD_0le {a : Dyadic} : (0 ≤ sgnD a) = (0 ≤ a) := by
  apply propext
  unfold sgnD
  by_cases h1 : a < 0
  · rw [if_pos h1]; constructor
    · intro h; exact absurd h (by decide)
    · intro h; grind
  · rw [if_neg h1]; constructor
    · intro _; grind
    · intro _; split <;> decide
theorem sgnD_le0 {a : Dyadic} : (sgnD a ≤ 0) = (a ≤ 0) := by
  apply propext
  unfold sgnD
  by_cases h1 : a < 0
  · rw [if_pos h1]; exact ⟨fun _ => by grind, fun _ => by decide⟩
  · rw [if_neg h1]
    by_cases h2 : 0 < a
    · rw [if_pos h2]; constructor
      · intro h; exact absurd h (by decide)
      · intro h; grind
    · rw [if_neg h2]; exact ⟨fun _ => by grind, fun _ => by decide⟩
theorem p_rLeast {k : Nat} {x y u v : Dyadic} (hx : Bd k x) (hy : Bd k y) (hu : Bd k u) (hv : Bd k v) (hk : k ≤ 33000000) : PC Tryz.prog 107 [VA x, VA y, VA u, VA v] fun d => d = VA (leastR x y u v) := by
  have sx := p_rSign (d := x)
  have sy := p_rSign (d := y)
  have su := p_rSign (d := u)
  have sv := p_rSign (d := v)
  have kx : (0 ≤ sgnD x) = (0 ≤ x) := sgnD_0le
  have ku : (0 ≤ sgnD u) = (0 ≤ u) := sgnD_0le
  have ky : (sgnD y ≤ 0) = (y ≤ 0) := sgnD_le0
  have kv : (sgnD v ≤ 0) = (v ≤ 0) := sgnD_le0
  have p1 := p_rBy hx hu (by omega)
  have p2 := p_rBy hy hu (by omega)
  have p3 := p_rBy hx hv (by omega)
  have p4 := p_rBy hy hv (by omega)
  have pO := p_rOrder (hy.mul hu) (hx.mul hv) (by omega)
  have ko : (cmpD (y * u) (x * v) < 0) = (y * u < x * v) := cmpD_lt0
  unfold leastR
  generalize cmpD (y * u) (x * v) = c at *
  generalize sgnD x = gx at *
  generalize sgnD y = gy at *
  generalize sgnD u = gu at *
  generalize sgnD v = gv at *
  by_cases a1 : 0 ≤ x
  · rw [eq_true a1] at kx
    by_cases a2 : 0 ≤ u
    · rw [if_pos ⟨a1, a2⟩]
      rw [eq_true a2] at ku
      unfold VA at *
      have d1 := @dr 9 qI6_107_9
      refine PB (rs := [.cell 8 56]) Tryz.func107 ?_
      have ft := And.intro kx ku
      exact Wk
    · rw [if_neg (fun h => a2 h.2), if_pos a1]
      rw [eq_false a2] at ku
      unfold VA at *
      have d1 := @dr 9 qI6_107_9
      refine PB (rs := [.cell 8 56]) Tryz.func107 ?_
      have ft := And.intro kx ku
      exact Wk
  · rw [if_neg (fun h => a1 h.1), if_neg a1]
    rw [eq_false a1] at kx
    by_cases a2 : 0 ≤ u
    · rw [if_pos a2]
      rw [eq_true a2] at ku
      unfold VA at *
      have d1 := @dr 9 qI6_107_9
      refine PB (rs := [.cell 8 56]) Tryz.func107 ?_
      have ft := And.intro kx ku
      exact Wk
    · rw [if_neg a2]
      rw [eq_false a2] at ku
      by_cases a3 : y ≤ 0 ∧ v ≤ 0
      · rw [if_pos a3]
        rw [eq_true a3.1] at ky
        rw [eq_true a3.2] at kv
        unfold VA at *
        have d1 := @dr 9 qI6_107_9
        refine PB (rs := [.cell 8 56]) Tryz.func107 ?_
        have ft := And.intro kx (And.intro ku (And.intro ky kv))
        exact Wk
      · rw [if_neg a3]
        by_cases a5 : y * u < x * v
        · rw [if_pos a5]
          rw [eq_true a5] at ko
          by_cases a4 : y ≤ 0
          · rw [eq_true a4] at ky
            rw [eq_false (fun h => a3 ⟨a4, h⟩)] at kv
            unfold VA at *
            have d1 := @dr 9 qI6_107_9
            refine PB (rs := [.cell 8 56]) Tryz.func107 ?_
            have ft := And.intro kx (And.intro ku (And.intro ky (And.intro kv ko)))
            exact Wk
          · rw [eq_false a4] at ky
            unfold VA at *
            have d1 := @dr 9 qI6_107_9
            refine PB (rs := [.cell 8 56]) Tryz.func107 ?_
            have ft := And.intro kx (And.intro ku (And.intro ky ko))
            exact Wk
        · rw [if_neg a5]
          rw [eq_false a5] at ko
          by_cases a4 : y ≤ 0
          · rw [eq_true a4] at ky
            rw [eq_false (fun h => a3 ⟨a4, h⟩)] at kv
            unfold VA at *
            have d1 := @dr 9 qI6_107_9
            refine PB (rs := [.cell 8 56]) Tryz.func107 ?_
            have ft := And.intro kx (And.intro ku (And.intro ky (And.intro kv ko)))
            exact Wk
          · rw [eq_false a4] at ky
            unfold VA at *
            have d1 := @dr 9 qI6_107_9
            refine PB (rs := [.cell 8 56]) Tryz.func107 ?_
            have ft := And.intro kx (And.intro ku (And.intro ky ko))
            exact Wk
theorem leastR_bd {k : Nat} {x y u v : Dyadic} (hx : Bd k x) (hy : Bd k y) (hu : Bd k u) (hv : Bd k v) : Bd (k + k) (leastR x y u v) := by
  unfold leastR
  repeat' split
  all_goals first | exact hx.mul hu | exact hy.mul hu | exact hx.mul hv | exact hy.mul hv
theorem p_rGreatest {k : Nat} {x y u v : Dyadic} (hx : Bd k x) (hy : Bd k y) (hu : Bd k u) (hv : Bd k v) (hk : k ≤ 33000000) : PC Tryz.prog 108 [VA x, VA y, VA u, VA v] fun d => d = VA (- leastR (-y) (-x) u v) := by
  have tx := p_rTurned (d := x)
  have ty := p_rTurned (d := y)
  have pL := p_rLeast hy.neg hx.neg hu hv hk
  have tl := p_rTurned (d := leastR (-y) (-x) u v)
  unfold VA at *
  have d1 := @dl 1 qI6_108_1
  refine PB (rs := [.cell 8 56]) Tryz.func108 ?_
  exact Wk
end Go.V
namespace Go.V
open Go Go.RowKit Go.Proofs

/-- A list of intervals. -/
def eI (a : Iv) : List G := [.lit (.bool a.lo.neg), .lit (.int .i64 a.lo.exp), eS (eK .u64) a.lo.w, .lit (.bool a.hi.neg), .lit (.int .i64 a.hi.exp), eS (eK .u64) a.hi.w]
def II (xs : List Iv) : D := .g (eS eI xs)
theorem eI_0 {a : Iv} : (eI a) = [.lit (.bool a.lo.neg), .lit (.int .i64 a.lo.exp), eS (eK .u64) a.lo.w, .lit (.bool a.hi.neg), .lit (.int .i64 a.hi.exp), eS (eK .u64) a.hi.w] := rfl
def lightI (a : Iv) : Prop := a.lo.w.length ≤ 70 ∧ a.hi.w.length ≤ 70
instance (a : Iv) : Decidable (lightI a) := inferInstanceAs (Decidable (_ ∧ _))
end Go.V
namespace Go.V
open Go Go.RowKit Go.Proofs

theorem l_ne {i j : Nat} (h : i ≠ j) : (Nm.l i = Nm.l j) = False := eq_false (by intro h2; injection h2 with h2; exact h h2)
set_option maxHeartbeats 1000000 in
theorem p_iMul {k : Nat} {a b : Iv} {p : Int} (ha : Wi k a) (hb : Wi k b) : PC Tryz.prog 48 [IV a, IV b, i64 p] fun d => d = IE (opI a b p (minP a.lo.val a.hi.val b.lo.val b.hi.val) (maxP a.lo.val a.hi.val b.lo.val b.hi.val)) := by
  have pV := p_validI (p := p) ha hb
  unfold opI
  by_cases h : (rightI a && rightI b && okP p) = true
  · rw [if_pos h]
    rw [h] at pV
    rw [Bool.and_eq_true, Bool.and_eq_true] at h
    obtain ⟨m, rfl, h8, h256⟩ := okP_nat h.2
    obtain ⟨x, y, ox, oy, hxy, rfl⟩ := rightI_is ha h.1.1
    obtain ⟨u, v, ou, ov, huv, rfl⟩ := rightI_is hb h.1.2
    have m0 := p_eMul ox.sz ou.sz (by decide)
    have m1 := p_eMul ox.sz ov.sz (by decide)
    have m2 := p_eMul oy.sz ou.sz (by decide)
    have m3 := p_eMul oy.sz ov.sz (by decide)
    have pO := fun (z1 z2 : Nu) (h1 : Sz (2 * 65536) z1) (h2 : Sz (2 * 65536) z2) (v1 : z1.val = minP x y u v) (v2 : z2.val = maxP x y u v) => show PC Tryz.prog 87 [NU z1, NU z2, i64 (m : Nat)] fun d => d = IE (outR m (minP x y u v) (maxP x y u v)) from v1 ▸ v2 ▸ p_outward h1 h2 (by decide) (by omega)
    simp only [ivD, val_nuOf, Int.toNat_natCast] at *
    unfold minP maxP at *
    generalize x * u = d0 at *
    generalize x * v = d1 at *
    generalize y * u = d2 at *
    generalize y * v = d3 at *
    generalize outR m _ _ = q at *
    obtain ⟨⟨⟨n5, e5, w5⟩, ⟨n6, e6, w6⟩⟩, r⟩ := q
    generalize nuOf x = X at *
    generalize nuOf y = Y at *
    generalize nuOf u = U at *
    generalize nuOf v = V at *
    obtain ⟨n1, e1, w1⟩ := X
    obtain ⟨n2, e2, w2⟩ := Y
    obtain ⟨n3, e3, w3⟩ := U
    obtain ⟨n4, e4, w4⟩ := V
    refine PB (rs := [.cell 6 28, .tmp 7]) Tryz.func48 ?_
    repeat (first | with_reducible refine pv_seq fun K hK => ?_ | ((with_reducible first | refine hK _ _ ?_ | (clear hK; refine hK _ _ ?_) | (clear hK; clear hK; refine hK _ _ ?_)); clear hK; try clear K) | refine W ?_ | exact Z | with_reducible intro b)
    refine call_pc m0 ?_
    rintro d ⟨⟨s0, f0, z0⟩, rfl, t0, v0⟩
    repeat (first | with_reducible refine pv_seq fun K hK => ?_ | ((with_reducible first | refine hK _ _ ?_ | (clear hK; refine hK _ _ ?_) | (clear hK; clear hK; refine hK _ _ ?_)); clear hK; try clear K) | refine W0 ?_ | exact Z | with_reducible intro b)
    refine call_pc m1 ?_
    rintro d ⟨⟨s1, f1, z1⟩, rfl, t1, v1⟩
    repeat (first | with_reducible refine pv_seq fun K hK => ?_ | ((with_reducible first | refine hK _ _ ?_ | (clear hK; refine hK _ _ ?_) | (clear hK; clear hK; refine hK _ _ ?_)); clear hK; try clear K) | refine W0 ?_ | exact Z | with_reducible intro b)
    refine p_Mul1 (l := ⟨s0, f0, z0⟩) (h := ⟨s0, f0, z0⟩) (x := ⟨s1, f1, z1⟩) (by simp -implicitDefEqProofs only [ft, go_sem, seval] <;> rfl) (by simp -implicitDefEqProofs only [ft, go_sem, seval] <;> rfl) (l_ne (by decide)) t0 t0 t1 (by decide) ?_
    have a1 := minN_sz t0 t1; have a2 := minN_val ⟨s0, f0, z0⟩ ⟨s1, f1, z1⟩; rw [v0, v1] at a2
    have b1 := maxN_sz t0 t1; have b2 := maxN_val ⟨s0, f0, z0⟩ ⟨s1, f1, z1⟩; rw [v0, v1] at b2
    generalize minN ⟨s0, f0, z0⟩ ⟨s1, f1, z1⟩ = L1 at *
    generalize maxN ⟨s0, f0, z0⟩ ⟨s1, f1, z1⟩ = H1 at *
    obtain ⟨p1, p2, p3⟩ := L1
    obtain ⟨p4, p5, p6⟩ := H1
    repeat (first | with_reducible refine pv_seq fun K hK => ?_ | ((with_reducible first | refine hK _ _ ?_ | (clear hK; refine hK _ _ ?_) | (clear hK; clear hK; refine hK _ _ ?_)); clear hK; try clear K) | refine W0 ?_ | exact Z | with_reducible intro b)
    refine call_pc m2 ?_
    rintro d ⟨⟨s2, f2, z2⟩, rfl, t2, v2⟩
    repeat (first | with_reducible refine pv_seq fun K hK => ?_ | ((with_reducible first | refine hK _ _ ?_ | (clear hK; refine hK _ _ ?_) | (clear hK; clear hK; refine hK _ _ ?_)); clear hK; try clear K) | refine W0 ?_ | exact Z | with_reducible intro b)
    refine p_Mul1 (l := ⟨p1, p2, p3⟩) (h := ⟨p4, p5, p6⟩) (x := ⟨s2, f2, z2⟩) (by simp -implicitDefEqProofs only [ft, go_sem, seval] <;> rfl) (by simp -implicitDefEqProofs only [ft, go_sem, seval] <;> rfl) (l_ne (by decide)) a1 b1 t2 (by decide) ?_
    have c1 := minN_sz a1 t2; have c2 := minN_val ⟨p1, p2, p3⟩ ⟨s2, f2, z2⟩; rw [a2, v2] at c2
    have g1 := maxN_sz b1 t2; have g2 := maxN_val ⟨p4, p5, p6⟩ ⟨s2, f2, z2⟩; rw [b2, v2] at g2
    generalize minN ⟨p1, p2, p3⟩ ⟨s2, f2, z2⟩ = L2 at *
    generalize maxN ⟨p4, p5, p6⟩ ⟨s2, f2, z2⟩ = H2 at *
    obtain ⟨q1, q2, q3⟩ := L2
    obtain ⟨q4, q5, q6⟩ := H2
    repeat (first | with_reducible refine pv_seq fun K hK => ?_ | ((with_reducible first | refine hK _ _ ?_ | (clear hK; refine hK _ _ ?_) | (clear hK; clear hK; refine hK _ _ ?_)); clear hK; try clear K) | refine W0 ?_ | exact Z | with_reducible intro b)
    refine call_pc m3 ?_
    rintro d ⟨⟨s3, f3, z3⟩, rfl, t3, v3⟩
    repeat (first | with_reducible refine pv_seq fun K hK => ?_ | ((with_reducible first | refine hK _ _ ?_ | (clear hK; refine hK _ _ ?_) | (clear hK; clear hK; refine hK _ _ ?_)); clear hK; try clear K) | refine W0 ?_ | exact Z | with_reducible intro b)
    refine p_Mul1 (l := ⟨q1, q2, q3⟩) (h := ⟨q4, q5, q6⟩) (x := ⟨s3, f3, z3⟩) (by simp -implicitDefEqProofs only [ft, go_sem, seval] <;> rfl) (by simp -implicitDefEqProofs only [ft, go_sem, seval] <;> rfl) (l_ne (by decide)) c1 g1 t3 (by decide) ?_
    have k1 := minN_sz c1 t3; have k2 := minN_val ⟨q1, q2, q3⟩ ⟨s3, f3, z3⟩; rw [c2, v3] at k2
    have j1 := maxN_sz g1 t3; have j2 := maxN_val ⟨q4, q5, q6⟩ ⟨s3, f3, z3⟩; rw [g2, v3] at j2
    generalize minN ⟨q1, q2, q3⟩ ⟨s3, f3, z3⟩ = L3 at *
    generalize maxN ⟨q4, q5, q6⟩ ⟨s3, f3, z3⟩ = H3 at *
    have pO := pO _ _ k1 j1 k2 j2
    obtain ⟨r1, r2, r3⟩ := L3
    obtain ⟨r4, r5, r6⟩ := H3
    exact Wk
  · rw [if_neg h]
    rw [Bool.not_eq_true] at h
    rw [h] at pV
    obtain ⟨⟨n1, e1, w1⟩, ⟨n2, e2, w2⟩⟩ := a
    obtain ⟨⟨n3, e3, w3⟩, ⟨n4, e4, w4⟩⟩ := b
    refine PB (rs := [.cell 6 28, .tmp 7]) Tryz.func48 ?_
    exact Wk
end Go.V
namespace Go.V
open Go Go.RowKit Go.Proofs

end Go.V
namespace Go.V
open Go Go.RowKit Go.Proofs

end Go.V
namespace Go.V
open Go Go.RowKit Go.Proofs

end Go.V
namespace Go.V
open Go Go.RowKit Go.Proofs

end Go.V
namespace Go.V
open Go Go.RowKit Go.Proofs
end Go.V
namespace Go.V
open Go Go.RowKit Go.Proofs
def qI14_70_5 : PT := (.lin [(0, 0), (1, 2), (3, 0), (4, 2), (6, 0), (7, 2), (9, 0), (10, 2)] (.mix [2, 5, 8, 11] [12, 13, 14, 15] (.lin [(16, 3), (17, 3), (18, 3), (19, 3)] .nil)))
def qI14_70_8 : List (Nat × Nat) := [(0, 1), (1, 1), (3, 0), (5, 2), (6, 2), (8, 0), (2, 4), (4, 4), (7, 3), (9, 3), (10, 3), (11, 0), (12, 0), (13, 3), (14, 0)]
def qI14_70_10 : List (Nat × Nat) := [(0, 1), (1, 1), (3, 0), (5, 2), (6, 2), (8, 0), (2, 4), (4, 4), (7, 3), (9, 3), (10, 3), (11, 0), (12, 0), (13, 3), (14, 0)]
def qI14_70_13 : PT := (.lin [(0, 2), (1, 2), (2, 2), (3, 2), (5, 2), (6, 2), (7, 2), (8, 2)] (.mix [4, 9] [10, 11] (.lin [(12, 3), (13, 3)] .nil)))
def qI14_70_14 : List (Nat × Nat) := [(0, 1), (1, 0), (3, 2), (4, 0), (2, 4), (5, 3), (6, 3), (7, 0), (8, 0), (9, 3), (10, 0)]
attribute [go_sem] qI14_70_5 qI14_70_8 qI14_70_10 qI14_70_13 qI14_70_14
theorem p_rOpNo {k : Nat} {n : Int} {a b : Iv} {p : Int} (ha : Wi k a) (hb : Wi k b) (h : (rightI a && rightI b && okP p) = false) : PC Tryz.prog 70 [i64 n, IV a, IV b, i64 p] fun d => d = IE (iv0, 1) := by
  have pA := p_rRightIv ha
  have pB := p_rRightIv hb
  have pP := p_precs (p := p)
  generalize rightI a = r at *
  generalize rightI b = s at *
  generalize okP p = t at *
  obtain ⟨⟨n1, e1, w1⟩, ⟨n2, e2, w2⟩⟩ := a
  obtain ⟨⟨n3, e3, w3⟩, ⟨n4, e4, w4⟩⟩ := b
  cases r
  · have d1 := @dr 5 qI14_70_5
    have d2 := @dl 8 qI14_70_8
    have d3 := @dl 10 qI14_70_10
    have d4 := @dr 13 qI14_70_13
    have d5 := @dl 14 qI14_70_14
    refine PB (rs := [.cell 8 28, .tmp 9]) Tryz.func70 ?_
    exact Wk
  · cases s
    · have d1 := @dr 5 qI14_70_5
      have d2 := @dl 8 qI14_70_8
      have d3 := @dl 10 qI14_70_10
      have d4 := @dr 13 qI14_70_13
      have d5 := @dl 14 qI14_70_14
      refine PB (rs := [.cell 8 28, .tmp 9]) Tryz.func70 ?_
      exact Wk
    · cases t
      · have d1 := @dr 5 qI14_70_5
        have d2 := @dl 8 qI14_70_8
        have d3 := @dl 10 qI14_70_10
        have d4 := @dr 13 qI14_70_13
        have d5 := @dl 14 qI14_70_14
        refine PB (rs := [.cell 8 28, .tmp 9]) Tryz.func70 ?_
        exact Wk
      · cases h
set_option maxHeartbeats 2000000 in
theorem p_rOpS {k : Nat} {a b : Iv} {p : Int} (ha : Wi k a) (hb : Wi k b) : PC Tryz.prog 70 [i64 0, IV a, IV b, i64 p] fun d => d = IE (opI a b p (a.lo.val + b.lo.val) (a.hi.val + b.hi.val)) := by
  by_cases h : (rightI a && rightI b && okP p) = true
  · have pA := p_rRightIv ha
    have pB := p_rRightIv hb
    have pP := p_precs (p := p)
    unfold opI
    rw [if_pos h]
    rw [Bool.and_eq_true, Bool.and_eq_true] at h
    rw [h.1.1] at pA; rw [h.1.2] at pB; rw [h.2] at pP
    obtain ⟨m, rfl, h8, h256⟩ := okP_nat h.2
    obtain ⟨x, y, ox, oy, hxy, rfl⟩ := rightI_is ha h.1.1
    obtain ⟨u, v, ou, ov, huv, rfl⟩ := rightI_is hb h.1.2
    have o1 := p_rOf ox; have o2 := p_rOf oy; have o3 := p_rOf ou; have o4 := p_rOf ov
    have pl := p_rPlus ox.bd ou.bd (by decide)
    have ph := p_rPlus oy.bd ov.bd (by decide)
    have bl := ox.bd.add ou.bd
    have bh := oy.bd.add ov.bd
    have rl := p_rRound (p := m) (up := false) bl (by decide) (by omega)
    have rh := p_rRound (p := m) (up := true) bh (by decide) (by omega)
    have pE := p_rEnds (rd_bd (p := m) (up := false) bl (by omega)) (rd_bd (p := m) (up := true) bh (by omega)) (by omega)
    rw [← outR_end] at pE
    simp only [ivD, val_nuOf, Int.toNat_natCast] at *
    generalize outR m (x + u) (y + v) = q at *
    obtain ⟨⟨⟨n5, e5, w5⟩, ⟨n6, e6, w6⟩⟩, r⟩ := q
    generalize rd m false (x + u) = l at *
    generalize rd m true (y + v) = g at *
    generalize x + u = xu at *
    generalize y + v = yv at *
    unfold VA at *
    have d1 := @dr 5 qI14_70_5
    have d2 := @dl 8 qI14_70_8
    have d3 := @dl 10 qI14_70_10
    have d4 := @dr 13 qI14_70_13
    have d5 := @dl 14 qI14_70_14
    refine PB (rs := [.cell 8 28, .tmp 9]) Tryz.func70 ?_
    exact Wk
  · rw [Bool.not_eq_true] at h
    unfold opI
    rw [h]
    exact p_rOpNo ha hb h
set_option maxHeartbeats 2000000 in
theorem p_rOpP {k : Nat} {a b : Iv} {p : Int} (ha : Wi k a) (hb : Wi k b) : PC Tryz.prog 70 [i64 2, IV a, IV b, i64 p] fun d => d = IE (opI a b p (minP a.lo.val a.hi.val b.lo.val b.hi.val) (maxP a.lo.val a.hi.val b.lo.val b.hi.val)) := by
  by_cases h : (rightI a && rightI b && okP p) = true
  · have pA := p_rRightIv ha
    have pB := p_rRightIv hb
    have pP := p_precs (p := p)
    unfold opI
    rw [if_pos h]
    rw [Bool.and_eq_true, Bool.and_eq_true] at h
    rw [h.1.1] at pA; rw [h.1.2] at pB; rw [h.2] at pP
    obtain ⟨m, rfl, h8, h256⟩ := okP_nat h.2
    obtain ⟨x, y, ox, oy, hxy, rfl⟩ := rightI_is ha h.1.1
    obtain ⟨u, v, ou, ov, huv, rfl⟩ := rightI_is hb h.1.2
    have o1 := p_rOf ox; have o2 := p_rOf oy; have o3 := p_rOf ou; have o4 := p_rOf ov
    have pl := p_rLeast ox.bd oy.bd ou.bd ov.bd (by decide)
    have ph := p_rGreatest ox.bd oy.bd ou.bd ov.bd (by decide)
    have bl := leastR_bd ox.bd oy.bd ou.bd ov.bd
    have bh := (leastR_bd oy.bd.neg ox.bd.neg ou.bd ov.bd).neg
    rw [leastR_eq hxy huv] at pl bl
    rw [greatR_eq hxy huv] at ph bh
    have rl := p_rRound (p := m) (up := false) bl (by decide) (by omega)
    have rh := p_rRound (p := m) (up := true) bh (by decide) (by omega)
    have pE := p_rEnds (rd_bd (p := m) (up := false) bl (by omega)) (rd_bd (p := m) (up := true) bh (by omega)) (by omega)
    rw [← outR_end] at pE
    simp only [ivD, val_nuOf, Int.toNat_natCast] at *
    generalize outR m (minP x y u v) (maxP x y u v) = q at *
    obtain ⟨⟨⟨n5, e5, w5⟩, ⟨n6, e6, w6⟩⟩, r⟩ := q
    generalize rd m false (minP x y u v) = l at *
    generalize rd m true (maxP x y u v) = g at *
    generalize minP x y u v = xu at *
    generalize maxP x y u v = yv at *
    unfold VA at *
    have d1 := @dr 5 qI14_70_5
    have d2 := @dl 8 qI14_70_8
    have d3 := @dl 10 qI14_70_10
    have d4 := @dr 13 qI14_70_13
    have d5 := @dl 14 qI14_70_14
    refine PB (rs := [.cell 8 28, .tmp 9]) Tryz.func70 ?_
    exact Wk
  · rw [Bool.not_eq_true] at h
    unfold opI
    rw [h]
    exact p_rOpNo ha hb h
end Go.V
namespace Go.V
open Go Go.RowKit Go.Proofs

theorem dy_one : dy (decide ((1 : Int) < 0)) (1 : Int).natAbs 0 = 1 := by decide
theorem ok_one : OkD 1 := by rw [← dy_one]; exact OkD_word (by decide) (by decide) (by decide)
end Go.V
namespace Go.V
open Go Go.RowKit Go.Proofs

end Go.V
namespace Go.V
open Go Go.RowKit Go.Proofs

end Go.V
namespace Go.V
open Go Go.RowKit Go.Proofs
end Go.V
namespace Go.V
open Go Go.RowKit Go.Proofs
end Go.V
namespace Go.V
open Go Go.RowKit Go.Proofs

theorem Sm.zero {k p : Nat} : Sm k p 0 := ⟨0, by rw [show Dyadic.ofIntWithPrec 0 p = Go.V.dy false 0 (-(p : Int)) by unfold Go.V.dy; rw [Int.neg_neg]; rfl, dy0], Nat.two_pow_pos k⟩
theorem Sm.one : Sm 1 0 1 := ⟨1, by decide, by decide⟩
theorem outR_ok {p : Nat} {l h : Dyadic} (ol : OkD (rd p false l)) (oh : OkD (rd p true h)) : outR p l h = (ivD (rd p false l) (rd p true h), 0) := by
  unfold outR
  rw [numR_ok ol, numR_ok oh]; rfl
theorem rightI_yes {x y : Dyadic} (hx : OkD x) (hy : OkD y) (h : x ≤ y) : rightI (ivD x y) = true := by rw [rightI_D hx hy]; exact decide_eq_true h
theorem ivD_l {x y : Dyadic} : (ivD x y).lo.val = x := val_nuOf x
theorem ivD_h {x y : Dyadic} : (ivD x y).hi.val = y := val_nuOf y
theorem opI_ok {p : Nat} {x y u v l h : Dyadic} (ox : OkD x) (oy : OkD y) (ou : OkD u) (ov : OkD v) (hxy : x ≤ y) (huv : u ≤ v) (h8 : 8 ≤ p) (h256 : p ≤ 256) (ol : OkD (rd p false l)) (oh : OkD (rd p true h)) : opI (ivD x y) (ivD u v) p l h = (ivD (rd p false l) (rd p true h), 0) := by
  unfold opI
  rw [rightI_yes ox oy hxy, rightI_yes ou ov huv, okP_of h8 h256]
  exact outR_ok ol oh
end Go.V
namespace Go.V
open Go Go.RowKit Go.Proofs

attribute [go_sem] eI_0
def gI (l : List Iv) (i : Nat) : Iv := l.getD i iv0
theorem gI_at {l : List Iv} {i : Nat} (h : i < l.length) : l[i]? = some (gI l i) := by simp [gI, List.getD, List.getElem?_eq_getElem h]
theorem gI_mem {l : List Iv} {i : Nat} (h : i < l.length) : gI l i ∈ l := List.mem_of_getElem? (gI_at h)
end Go.V
namespace Go.V
open Go Go.RowKit Go.Proofs

/-- Hidden from simp (the second argument holds the first one fast). -/
inductive Box (p : Prop) : Type where
  | a
  | b
structure Hid (p : Prop) (x : Box p := .a) : Prop where
  out : p

/-- An invariant under a name. -/
theorem hide (I0 : DEnv → Store → Prop) : ∃ I : DEnv → Store → Prop, (∀ e S, I0 e S → I e S) ∧ ∀ e S, I e S → I0 e S := ⟨I0, fun _ _ h => h, fun _ _ h => h⟩

def addI (p : Int) (a b : Iv) : Iv × Int := opI a b p (a.lo.val + b.lo.val) (a.hi.val + b.hi.val)
def mulI (p : Int) (a b : Iv) : Iv × Int := opI a b p (minP a.lo.val a.hi.val b.lo.val b.hi.val) (maxP a.lo.val a.hi.val b.lo.val b.hi.val)
theorem opI_err {a b : Iv} {p : Int} {l h : Dyadic} (h1 : (opI a b p l h).2 ≠ 0) : (opI a b p l h).1 = iv0 := by
  revert h1
  unfold opI outR
  split
  · split
    · split
      · intro h; exact absurd rfl h
      · intro _; rfl
    · intro _; rfl
  · intro _; rfl
theorem wl0 : Wl 65536 nu0 := by rw [← nuOf_zero]; exact (OkD.zero.sz).wl
theorem wi0 : Wi 65536 iv0 := ⟨wl0, wl0⟩
theorem opI_wi {a b : Iv} {p : Int} {l h : Dyadic} : Wi 65536 (opI a b p l h).1 := by
  unfold opI outR numR
  by_cases h1 : (nuOf (rd p.toNat false l)).Ok <;> by_cases h2 : (nuOf (rd p.toNat true h)).Ok
  · have o1 : OkD (rd p.toNat false l) := h1
    have o2 : OkD (rd p.toNat true h) := h2
    rw [if_pos h1, if_pos h2]
    split
    · exact wi_D o1 o2
    · exact wi0
  · rw [if_pos h1, if_neg h2]; split <;> exact wi0
  · rw [if_neg h1]; split <;> exact wi0
  · rw [if_neg h1]; split <;> exact wi0

/-- The first i terms of coefficient k of a product. -/
def coefN (p : Int) (a b : List Iv) (k : Nat) : Nat → Iv × Int
  | 0 => (iv0, 0)
  | i + 1 => if (coefN p a b k i).2 = 0 then (if (mulI p (gI a i) (gI b (k - i))).2 = 0 then (if i = 0 then mulI p (gI a i) (gI b (k - i)) else addI p (coefN p a b k i).1 (mulI p (gI a i) (gI b (k - i))).1) else mulI p (gI a i) (gI b (k - i))) else coefN p a b k i
theorem coefN_wi {p : Int} {a b : List Iv} {k : Nat} : ∀ i, Wi 65536 (coefN p a b k i).1
  | 0 => wi0
  | i + 1 => by
    unfold coefN
    split
    · split
      · split
        · exact opI_wi
        · exact opI_wi
      · exact opI_wi
    · exact coefN_wi i
theorem coefN_stuck {p : Int} {a b : List Iv} {k i n : Nat} (h : (coefN p a b k i).2 ≠ 0) (hn : i ≤ n) : coefN p a b k n = coefN p a b k i := by
  induction n with
  | zero => obtain rfl : i = 0 := by omega
            rfl
  | succ n ih =>
    by_cases hi : i = n + 1
    · rw [hi]
    · have e := ih (by omega)
      show (if (coefN p a b k n).2 = 0 then _ else coefN p a b k n) = _
      rw [e, if_neg h]
theorem coefN_err {p : Int} {a b : List Iv} {k : Nat} : ∀ i, (coefN p a b k i).2 ≠ 0 → (coefN p a b k i).1 = iv0
  | 0 => fun _ => rfl
  | i + 1 => by
    unfold coefN
    split
    · split
      · split
        · exact opI_err
        · exact opI_err
      · exact opI_err
    · exact coefN_err i
def okK (k : Int) : Bool := decide (0 ≤ k) && decide (k ≤ 10)
def rightTo (a : List Iv) (k : Nat) : Bool := decide (k < a.length) && decide (∀ i, i < k + 1 → rightI (gI a i) = true)
def coefR (p : Int) (a b : List Iv) (k : Int) : Iv × Int := if okK k && rightTo a k.toNat && rightTo b k.toNat && okP p then coefN p a b k.toNat (k.toNat + 1) else (iv0, 1)
theorem coefR_wi {p : Int} {a b : List Iv} {k : Int} : Wi 65536 (coefR p a b k).1 := by
  unfold coefR; split
  · exact coefN_wi _
  · exact wi0
/-- The first j coefficients of a product. -/
def timesN (p : Int) (a b : List Iv) : Nat → List Iv × Int
  | 0 => ([], 0)
  | j + 1 => if (timesN p a b j).2 = 0 then (if (coefR p a b (j : Nat)).2 = 0 then ((timesN p a b j).1 ++ [(coefR p a b (j : Nat)).1], 0) else ([], (coefR p a b (j : Nat)).2)) else timesN p a b j
theorem timesN_wi {p : Int} {a b : List Iv} : ∀ j, ∀ x ∈ (timesN p a b j).1, Wi 65536 x
  | 0 => fun x hx => by cases hx
  | j + 1 => by
    unfold timesN
    split
    · split
      · intro x hx
        rcases List.mem_append.1 hx with h | h
        · exact timesN_wi j x h
        · rw [List.mem_singleton.1 h]; exact coefR_wi
      · intro x hx; cases hx
    · exact timesN_wi j
theorem timesN_len {p : Int} {a b : List Iv} : ∀ j, (timesN p a b j).2 = 0 → (timesN p a b j).1.length = j
  | 0 => fun _ => rfl
  | j + 1 => by
    unfold timesN
    split
    · rename_i h
      split
      · intro _; rw [List.length_append, timesN_len j h]; rfl
      · rename_i h2; intro h3; exact absurd h3 h2
    · rename_i h; intro h3; exact absurd h3 h
theorem timesN_le {p : Int} {a b : List Iv} : ∀ j, (timesN p a b j).1.length ≤ j
  | 0 => Nat.le_refl _
  | j + 1 => by
    have := timesN_le (p := p) (a := a) (b := b) j
    unfold timesN
    split
    · split
      · simp only [List.length_append, List.length_singleton]; omega
      · exact Nat.zero_le _
    · omega
theorem timesN_err {p : Int} {a b : List Iv} : ∀ j, (timesN p a b j).2 ≠ 0 → (timesN p a b j).1 = []
  | 0 => fun _ => rfl
  | j + 1 => by
    unfold timesN
    split
    · split
      · intro h; exact absurd rfl h
      · intro _; rfl
    · exact timesN_err j
theorem timesN_stuck {p : Int} {a b : List Iv} {i n : Nat} (h : (timesN p a b i).2 ≠ 0) (hn : i ≤ n) : timesN p a b n = timesN p a b i := by
  induction n with
  | zero => obtain rfl : i = 0 := by omega
            rfl
  | succ n ih =>
    by_cases hi : i = n + 1
    · rw [hi]
    · have e := ih (by omega)
      show (if (timesN p a b n).2 = 0 then _ else timesN p a b n) = _
      rw [e, if_neg h]

/-- A series by another one, n times. -/
def mulS (p : Int) (x : List Iv) (k : Nat) (s : List Iv × Int) : Nat → List Iv × Int
  | 0 => s
  | n + 1 => if (mulS p x k s n).2 = 0 then timesN p (mulS p x k s n).1 x (k + 1) else mulS p x k s n
/-- A monomial of series, of the first i of them. -/
def overN (p : Int) (xs : List (List Iv)) (k : Nat) (e : List Int) (s : List Iv × Int) : Nat → List Iv × Int
  | 0 => s
  | i + 1 => mulS p (xs.getD i []) k (overN p xs k e s i) (e.getD i 0).toNat
theorem mulS_stuck {p : Int} {x : List Iv} {k : Nat} {s : List Iv × Int} {i n : Nat} (h : (mulS p x k s i).2 ≠ 0) (hn : i ≤ n) : mulS p x k s n = mulS p x k s i := by
  induction n with
  | zero => obtain rfl : i = 0 := by omega
            rfl
  | succ n ih =>
    by_cases hi : i = n + 1
    · rw [hi]
    · have e := ih (by omega)
      show (if (mulS p x k s n).2 = 0 then _ else mulS p x k s n) = _
      rw [e, if_neg h]
theorem overN_stuck {p : Int} {xs : List (List Iv)} {k : Nat} {e : List Int} {s : List Iv × Int} {i n : Nat} (h : (overN p xs k e s i).2 ≠ 0) (hn : i ≤ n) : overN p xs k e s n = overN p xs k e s i := by
  induction n with
  | zero => obtain rfl : i = 0 := by omega
            rfl
  | succ n ih =>
    by_cases hi : i = n + 1
    · rw [hi]
    · have e1 := ih (by omega)
      show mulS p _ k (overN p xs k e s n) _ = _
      rw [e1]
      exact mulS_stuck (i := 0) h (Nat.zero_le _)
/-- A list of k + 1 right ones, or what there is of an error. -/
structure OkS (k : Nat) (s : List Iv × Int) : Prop where
  wi : ∀ x ∈ s.1, Wi 65536 x
  len : s.2 = 0 → s.1.length = k + 1
  le : s.1.length ≤ k + 1
  err : s.2 ≠ 0 → s.1 = []
theorem timesN_ok {p : Int} {a b : List Iv} {k : Nat} : OkS k (timesN p a b (k + 1)) := ⟨timesN_wi _, timesN_len _, timesN_le _, timesN_err _⟩
theorem mulS_ok {p : Int} {x : List Iv} {k : Nat} {s : List Iv × Int} (h : OkS k s) : ∀ n, OkS k (mulS p x k s n)
  | 0 => h
  | n + 1 => by
    unfold mulS; split
    · exact timesN_ok
    · exact mulS_ok h n
theorem overN_ok {p : Int} {xs : List (List Iv)} {k : Nat} {e : List Int} {s : List Iv × Int} (h : OkS k s) : ∀ i, OkS k (overN p xs k e s i)
  | 0 => h
  | i + 1 => mulS_ok (overN_ok h i) _
/-- A monomial's beginning: its number, then noughts. -/
def onS (c : Nu) (k : Nat) : List Iv × Int := (⟨c, c⟩ :: List.replicate k iv0, 0)
theorem onS_ok {c : Nu} {k : Nat} (h : Wl 65536 c) : OkS k (onS c k) := by
  refine ⟨fun x hx => ?_, fun _ => by simp [onS], by simp [onS], fun h => absurd rfl h⟩
  rcases List.mem_cons.1 hx with rfl | hx
  · exact ⟨h, h⟩
  · rw [(List.mem_replicate.1 hx).2]; exact wi0

/-- A monomial. -/
structure Mo where
  c : Nu
  e : List Int
def mo0 : Mo := ⟨nu0, []⟩
def gM (l : List Mo) (i : Nat) : Mo := l.getD i mo0
def overR (p : Int) (xs : List (List Iv)) (k : Nat) (m : Mo) : List Iv × Int := overN p xs k m.e (onS m.c k) m.e.length
/-- The first m monomials of series. -/
def ofN (p : Int) (q : List Mo) (xs : List (List Iv)) (k : Nat) : Nat → Iv × Int
  | 0 => (iv0, 0)
  | m + 1 => if (ofN p q xs k m).2 = 0 then (if (overR p xs k (gM q m)).2 = 0 then addI p (ofN p q xs k m).1 (gI (overR p xs k (gM q m)).1 k) else (iv0, (overR p xs k (gM q m)).2)) else ofN p q xs k m
theorem ofN_wi {p : Int} {q : List Mo} {xs : List (List Iv)} {k : Nat} : ∀ m, Wi 65536 (ofN p q xs k m).1
  | 0 => wi0
  | m + 1 => by
    unfold ofN
    split
    · split
      · exact opI_wi
      · exact wi0
    · exact ofN_wi m
theorem ofN_err {p : Int} {q : List Mo} {xs : List (List Iv)} {k : Nat} : ∀ m, (ofN p q xs k m).2 ≠ 0 → (ofN p q xs k m).1 = iv0
  | 0 => fun _ => rfl
  | m + 1 => by
    unfold ofN
    split
    · split
      · exact opI_err
      · intro _; rfl
    · exact ofN_err m
theorem ofN_stuck {p : Int} {q : List Mo} {xs : List (List Iv)} {k i n : Nat} (h : (ofN p q xs k i).2 ≠ 0) (hn : i ≤ n) : ofN p q xs k n = ofN p q xs k i := by
  induction n with
  | zero => obtain rfl : i = 0 := by omega
            rfl
  | succ n ih =>
    by_cases hi : i = n + 1
    · rw [hi]
    · have e := ih (by omega)
      show (if (ofN p q xs k n).2 = 0 then _ else ofN p q xs k n) = _
      rw [e, if_neg h]

/-- Monomials' powers against each other: the first that differ, then how many there are. -/
def cmpE : List Int → List Int → Int
  | [], [] => 0
  | [], _ :: _ => -1
  | _ :: _, [] => 1
  | x :: a, y :: b => if x < y then -1 else if y < x then 1 else cmpE a b
def monoB (m : Mo) (n : Int) : Bool := decide ((m.e.length : Int) = n) && decide (∀ x ∈ m.e, 0 ≤ x) && decide (m.e.sum ≤ 8) && rightB m.c
/-- Monomials of n variables, right, the greater powers first. -/
def monosB (q : List Mo) (n : Int) : Bool := decide (∀ i, i < q.length → monoB (gM q i) n = true ∧ (gM q i).c.w ≠ [] ∧ (0 < i → cmpE (gM q i).e (gM q (i - 1)).e < 0))
def polyB (q : List Mo) (n : Int) : Bool := decide (1 ≤ n) && decide (n ≤ 4) && decide (q.length ≤ 24) && monosB q n
/-- A coefficient of a polynomial of series. -/
def ofR (p : Int) (q : List Mo) (xs : List (List Iv)) (k : Int) : Iv × Int := if okK k && polyB q xs.length && okP p && decide (∀ x ∈ xs, rightTo x k.toNat = true) then ofN p q xs k.toNat q.length else (iv0, 1)

/-- A series at h, from its n-th coefficient from the end on. -/
def sumN (p : Int) (a : List Iv) (h : Iv) : Nat → Iv × Int
  | 0 => (gI a (a.length - 1), 0)
  | i + 1 => if (sumN p a h i).2 = 0 then (if (mulI p (sumN p a h i).1 h).2 = 0 then addI p (mulI p (sumN p a h i).1 h).1 (gI a (a.length - 2 - i)) else mulI p (sumN p a h i).1 h) else sumN p a h i
theorem sumN_stuck {p : Int} {a : List Iv} {h : Iv} {i n : Nat} (h1 : (sumN p a h i).2 ≠ 0) (hn : i ≤ n) : sumN p a h n = sumN p a h i := by
  induction n with
  | zero => obtain rfl : i = 0 := by omega
            rfl
  | succ n ih =>
    by_cases hi : i = n + 1
    · rw [hi]
    · have e := ih (by omega)
      show (if (sumN p a h n).2 = 0 then _ else sumN p a h n) = _
      rw [e, if_neg h1]
theorem sumN_wi {p : Int} {a : List Iv} {h : Iv} (ha : ∀ x ∈ a, Wi 65536 x) : ∀ i, Wi 65536 (sumN p a h i).1
  | 0 => by
    show Wi 65536 (gI a (a.length - 1))
    by_cases h0 : a.length - 1 < a.length
    · exact ha _ (gI_mem h0)
    · have : a = [] := by apply List.eq_nil_of_length_eq_zero; omega
      subst this; exact wi0
  | i + 1 => by
    unfold sumN
    split
    · split
      · exact opI_wi
      · exact opI_wi
    · exact sumN_wi ha i
theorem sumN_err {p : Int} {a : List Iv} {h : Iv} : ∀ i, (sumN p a h i).2 ≠ 0 → (sumN p a h i).1 = iv0
  | 0 => fun h => absurd rfl h
  | i + 1 => by
    unfold sumN
    split
    · split
      · exact opI_err
      · exact opI_err
    · exact sumN_err i
def sumR (p : Int) (a : List Iv) (h : Iv) : Iv × Int := if decide (1 ≤ a.length) && decide (a.length ≤ 11) && rightTo a (a.length - 1) && rightI h && okP p then sumN p a h (a.length - 1) else (iv0, 1)
end Go.V
namespace Go.V
open Go Go.RowKit Go.Proofs
def qT2_81_3 : List (Nat × Nat) := [(0, 0), (1, 1), (2, 0), (3, 0), (4, 1), (5, 1), (6, 1), (7, 0), (8, 0), (9, 0), (10, 1), (11, 3), (12, 0)]
attribute [go_sem] qT2_81_3
theorem len6 {α : Type} {z : List α} (h : z.length = 6) : ∃ a b c d e f, z = [a, b, c, d, e, f] := by
  match z, h with
  | [a, b, c, d, e, f], _ => exact ⟨a, b, c, d, e, f, rfl⟩
def cI (a : Iv) : List D := [bl a.lo.neg, i64 a.lo.exp, W64 a.lo.w, bl a.hi.neg, i64 a.hi.exp, W64 a.hi.w]
theorem slD_I6 {xs : List Iv} {lo hi mx : Option D} {K : D → Prop} : slD 6 (.g (eS eI xs)) lo hi mx K = bndD lo 0 fun l => bndD hi xs.length fun h => 0 ≤ l ∧ l ≤ h ∧ h ≤ xs.length ∧ (mx.isSome = true → mx = hi) ∧ K (.g (eS eI ((xs.take h.toNat).drop l.toNat))) := slD_eS fun _ _ => rfl
attribute [go_sem ↓] slD_I6
/-- A list of intervals of so many words, not too long. -/
structure WfL (a : List Iv) : Prop where
  n : a.length ≤ 100000
  w : ∀ x ∈ a, Wi 65536 x
theorem WfL.at_ {a : List Iv} (h : WfL a) (i : Nat) : Wi 65536 (gI a i) := by
  by_cases hi : i < a.length
  · exact h.w _ (gI_mem hi)
  · have : gI a i = iv0 := by unfold gI; simp [List.getD, List.getElem?_eq_none (show a.length ≤ i by omega)]
    rw [this]; exact wi0
theorem okK_nat {k : Int} (h : okK k = true) : ∃ n : Nat, k = n ∧ n ≤ 10 := by
  unfold okK at h
  rw [Bool.and_eq_true, decide_eq_true_eq, decide_eq_true_eq] at h
  exact ⟨k.toNat, by omega, by omega⟩

theorem p_sValid {k p : Int} : PC Tryz.prog 45 [i64 k, i64 p] fun d => d = bl (okK k && okP p) := by
  have pP := p_Valid (p := p)
  unfold okK
  generalize okP p = r at *
  by_cases h1 : 0 ≤ k
  · have h1' := eq_true h1
    rw [decide_eq_true h1, Bool.true_and]
    by_cases h2 : k ≤ 10
    · have h2' := eq_true h2
      rw [decide_eq_true h2, Bool.true_and]
      refine PB (rs := [.tmp 4]) Tryz.func45 ?_
      have ft := And.intro h1' h2'
      exact Wk
    · have h2' := eq_false h2
      rw [decide_eq_false h2, Bool.false_and]
      refine PB (rs := [.tmp 4]) Tryz.func45 ?_
      have ft := And.intro h1' h2'
      exact Wk
  · have h1' := eq_false h1
    rw [decide_eq_false h1, Bool.false_and, Bool.false_and]
    refine PB (rs := [.tmp 4]) Tryz.func45 ?_
    have ft := h1'
    exact Wk

theorem rightTo_no {a : List Iv} {k i : Nat} (hi : i < k + 1) (h : rightI (gI a i) = false) : rightTo a k = false := by
  unfold rightTo
  rw [Bool.and_eq_false_iff]
  right
  exact decide_eq_false fun h2 => by rw [h2 i hi] at h; cases h
theorem rightTo_yes {a : List Iv} {k : Nat} (hk : k < a.length) (h : ∀ i, i < k + 1 → rightI (gI a i) = true) : rightTo a k = true := by
  unfold rightTo
  rw [decide_eq_true hk, decide_eq_true h]; rfl
set_option maxHeartbeats 1000000 in
theorem p_sRight {a : List Iv} {k : Nat} (ha : WfL a) (hk : k ≤ 100000) : PC Tryz.prog 46 [II a, i64 k] fun d => d = bl (rightTo a k) := by
  generalize hr : rightTo a k = r
  unfold II
  by_cases hl : k < a.length
  · have k1 : ((a.length : Int) ≤ (k : Int)) = False := eq_false (by omega)
    have hat : ∀ i, i < k + 1 → (a.take (k + 1))[i]? = some (gI a i) := fun i hi => by
      rw [List.getElem?_take, if_pos hi]; exact gI_at (by omega)
    have hn : (a.take (k + 1)).length = k + 1 := by rw [List.length_take]; omega
    have kt : ((k : Int) + 1).toNat = k + 1 := by omega
    refine PB (rs := [.tmp 4]) Tryz.func46 ?_
    repeat (first | (with_reducible first | refine pv_seq fun K hK => ?_ | refine pv_reg ?_) | ((with_reducible first | refine hK _ _ ?_ | (clear hK; refine hK _ _ ?_) | (clear hK; clear hK; refine hK _ _ ?_)); clear hK; try clear K) | simp -implicitDefEqProofs only [k1, kt, List.drop_zero, hn, true_and, go_sem, seval] | with_reducible intro b | (with_reducible refine And.intro ?_ ?_; · first | assumption | omega | (unfold R64; omega)))
    have J : ∀ (e : DEnv) (S : Store), r = true → K e S := by
      intro e S h
      subst h
      repeat (first | (with_reducible first | refine pv_seq fun K hK => ?_ | refine pv_reg ?_) | ((with_reducible first | refine hK _ _ ?_ | (clear hK; refine hK _ _ ?_) | (clear hK; clear hK; refine hK _ _ ?_)); clear hK; try clear K) | simp -implicitDefEqProofs only [k1, kt, List.drop_zero, hn, true_and, go_sem, seval] | with_reducible intro b | (with_reducible refine And.intro ?_ ?_; · first | assumption | omega | (unfold R64; omega)))
    clear hK
    refine pv_loop (fun e S => ∃ i : Nat, i ≤ k + 1 ∧ e 14 = .g (eS eI (a.take (k + 1))) ∧ e 15 = i64 ((k + 1 : Nat) : Int) ∧ e 16 = i64 i ∧ ∀ j, j < i → rightI (gI a j) = true) (fun e _ => k + 1 - (intD (e 16)).toNat) ?_ ?_
    · exact ⟨0, Nat.zero_le _, (by first | rfl | (simp -implicitDefEqProofs only [k1, kt, List.drop_zero, hn, true_and, go_sem, seval] <;> rfl)), (by first | rfl | (simp -implicitDefEqProofs only [k1, kt, List.drop_zero, hn, true_and, go_sem, seval] <;> rfl)), (by first | rfl | (simp -implicitDefEqProofs only [k1, kt, List.drop_zero, hn, true_and, go_sem, seval] <;> rfl)), fun j hj => by omega⟩
    · rintro e S ⟨i, hi, g14, g15, g16, hz⟩
      have ft := And.intro g14 (And.intro g15 g16)
      repeat (first | with_reducible refine pv_seq fun K hK => ?_ | ((with_reducible first | refine hK _ _ ?_ | (clear hK; refine hK _ _ ?_) | (clear hK; clear hK; refine hK _ _ ?_)); clear hK; try clear K) | refine W0 ?_ | exact Z | with_reducible intro b)
      refine pv_cdD (fun ht => ?_) (fun ht => ?_)
      · have hil : i < k + 1 := by omega
        have q1 := hat i hil
        have pI := p_iRight (ha.at_ i)
        have hz2 : rightI (gI a i) = true → ∀ j, j < i + 1 → rightI (gI a j) = true := fun h j hj => by
          rcases Nat.lt_or_ge j i with h1 | h1
          · exact hz j h1
          · obtain rfl : j = i := by omega
            exact h
        have hno : rightI (gI a i) = false → r = false := fun h => by rw [← hr]; exact rightTo_no hil h
        generalize rightI (gI a i) = t at *
        generalize gI a i = x at *
        obtain ⟨⟨n1, e1, w1⟩, ⟨n2, e2, w2⟩⟩ := x
        cases t
        · have h := hno rfl
          subst h
          have ft := And.intro g14 (And.intro g15 (And.intro g16 q1))
          exact Wk
        · have ft := And.intro g14 (And.intro g16 (And.intro g15 q1))
          repeat (first | with_reducible refine pv_seq fun K hK => ?_ | ((with_reducible first | refine hK _ _ ?_ | (clear hK; refine hK _ _ ?_) | (clear hK; clear hK; refine hK _ _ ?_)); clear hK; try clear K) | refine W ?_ | exact Z | with_reducible intro b)
          exact ⟨⟨i + 1, by omega, rfl, hz2 rfl⟩, by simp only [intD]; omega⟩
      · obtain rfl : i = k + 1 := by omega
        have ft := And.intro g15 (And.intro g14 g16)
        repeat (first | with_reducible refine pv_seq fun K hK => ?_ | ((with_reducible first | refine hK _ _ ?_ | (clear hK; refine hK _ _ ?_) | (clear hK; clear hK; refine hK _ _ ?_)); clear hK; try clear K) | refine W0 ?_ | exact Z | with_reducible intro b)
        refine J _ _ ?_
        rw [← hr]; exact rightTo_yes hl hz
  · have k1 : ((a.length : Int) ≤ (k : Int)) = True := eq_true (by omega)
    have : r = false := by rw [← hr]; unfold rightTo; rw [decide_eq_false hl]; rfl
    subst this
    refine PB (rs := [.tmp 4]) Tryz.func46 ?_
    have ft := k1
    exact Wk

/-- The pairs of coefficients whose powers are k together. -/
def pairsL (a b : List Iv) (k : Nat) : List (List D) := (List.range (k + 1)).map fun i => [IV (gI a i), IV (gI b (k - i))]
theorem pairsL_len {a b : List Iv} {k : Nat} : (pairsL a b k).length = k + 1 := by unfold pairsL; simp
theorem pairsL_at {a b : List Iv} {k i : Nat} (hi : i < k + 1) : (pairsL a b k)[i]? = some [IV (gI a i), IV (gI b (k - i))] := by
  unfold pairsL
  rw [List.getElem?_map, List.getElem?_range hi]; rfl
theorem p_pairs {a b : List Iv} {k : Int} : PC Tryz.prog 47 [II a, II b, i64 k] fun d => d = .fn 81 [] [.ip [.lit (.int .i64 k)], .ip [eS eI a], .ip [eS eI b]] := by
  unfold II
  refine PZB (rs := [.tmp 6]) Tryz.func47 ?_
  exact Wk
set_option maxHeartbeats 1000000 in
theorem p_pairsIt {a b : List Iv} {k : Nat} (ha : k < a.length) (hb : k < b.length) (hk : k ≤ 100000) : Iter Tryz.prog 81 [.ip [.lit (.int .i64 k)], .ip [eS eI a], .ip [eS eI b]] (pairsL a b k) := by
  intro y J Jx S h0 hY
  have hX : ∀ i, i < k + 1 → (pairsL a b k)[i]? = some [IV (gI a i), IV (gI b (k - i))] := fun i => pairsL_at
  rw [pairsL_len]
  generalize pairsL a b k = xs at *
  have d1 := @dl 3 qT2_81_3
  refine PFB (rs := []) Tryz.func81 ?_
  repeat (first | with_reducible refine pv_seq fun K hK => ?_ | ((with_reducible first | refine hK _ _ ?_ | (clear hK; refine hK _ _ ?_) | (clear hK; clear hK; refine hK _ _ ?_)); clear hK; try clear K) | refine W0 ?_ | exact Z | with_reducible intro b)
  refine pv_loop (fun e T => ∃ i : Nat, i ≤ k + 1 ∧ e 0 = .yl y ∧ e 1 = .ip [.lit (.int .i64 k)] ∧ e 2 = .ip [eS eI a] ∧ e 3 = .ip [eS eI b] ∧ e 7 = i64 ((k + 1 : Nat) : Int) ∧ e 8 = i64 i ∧ J i (dnS T)) (fun e _ => k + 1 - (intD (e 8)).toNat) ?_ ?_
  · exact ⟨0, Nat.zero_le _, Zr, Zr, Zr, Zr, Zr, Zr, h0⟩
  · rintro e T ⟨i, hi0, g0, g1, g2, g3, g7, g8, hj⟩
    have ft := And.intro g0 (And.intro g1 (And.intro g2 (And.intro g3 (And.intro g7 g8))))
    repeat (first | with_reducible refine pv_seq fun K hK => ?_ | ((with_reducible first | refine hK _ _ ?_ | (clear hK; refine hK _ _ ?_) | (clear hK; clear hK; refine hK _ _ ?_)); clear hK; try clear K) | refine W0 ?_ | exact Z | with_reducible intro b)
    refine pv_cdD (fun ht1 => ?_) (fun ht => ?_)
    · have hil : i < k + 1 := by omega
      have q1 := gI_at (l := a) (i := i) (by omega)
      have q2 := gI_at (l := b) (i := k - i) (by omega)
      have kt : ((k : Int) - (i : Int)).toNat = k - i := by omega
      have hx := hX i hil
      clear hX
      generalize gI a i = x1 at *
      generalize gI b (k - i) = x2 at *
      obtain ⟨⟨n1, e1, w1⟩, ⟨n2, e2, w2⟩⟩ := x1
      obtain ⟨⟨n3, e3, w3⟩, ⟨n4, e4, w4⟩⟩ := x2
      have ft := And.intro g0 (And.intro g1 (And.intro g2 (And.intro g3 (And.intro g7 (And.intro g8 (And.intro q1 (And.intro q2 kt)))))))
      repeat (first | with_reducible refine pv_seq fun K hK => ?_ | ((with_reducible first | refine hK _ _ ?_ | (clear hK; refine hK _ _ ?_) | (clear hK; clear hK; refine hK _ _ ?_)); clear hK; try clear K) | refine W0 ?_ | exact Z | with_reducible intro b)
      refine PYC.up ?_
      refine (hY _ _ _ hx hj).mono ?_
      rintro d S' (⟨rfl, hj'⟩ | ⟨rfl, hjx⟩)
      · repeat (first | with_reducible refine pv_seq fun K hK => ?_ | ((with_reducible first | refine hK _ _ ?_ | (clear hK; refine hK _ _ ?_) | (clear hK; clear hK; refine hK _ _ ?_)); clear hK; try clear K) | refine W0 ?_ | exact Z | with_reducible intro b)
        exact ⟨⟨i + 1, by omega, rfl, hj'⟩, by simp only [intD]; omega⟩
      · repeat (first | with_reducible refine pv_seq fun K hK => ?_ | ((with_reducible first | refine hK _ _ ?_ | (clear hK; refine hK _ _ ?_) | (clear hK; clear hK; refine hK _ _ ?_)); clear hK; try clear K) | refine W0 ?_ | exact Z | with_reducible intro b)
        exact .inr hjx
    · repeat (first | with_reducible refine pv_seq fun K hK => ?_ | ((with_reducible first | refine hK _ _ ?_ | (clear hK; refine hK _ _ ?_) | (clear hK; clear hK; refine hK _ _ ?_)); clear hK; try clear K) | refine W0 ?_ | exact Z | with_reducible intro b)
      obtain rfl : i = k + 1 := by omega
      exact .inl hj

set_option maxHeartbeats 2000000 in
theorem p_Coef {a v : List Iv} {k p : Int} (ha : WfL a) (hb : WfL v) : PC Tryz.prog 19 [II a, II v, i64 k, i64 p] fun d => d = IE (coefR p a v k) := by
  have pV := p_sValid (k := k) (p := p)
  unfold coefR
  by_cases hv : (okK k && okP p) = true
  · have hv2 := hv
    rw [Bool.and_eq_true] at hv2
    obtain ⟨n, rfl, hn⟩ := okK_nat hv2.1
    have pA := p_sRight (k := n) ha (by omega)
    have pB := p_sRight (k := n) hb (by omega)
    have pP := p_pairs (a := a) (b := v) (k := (n : Nat))
    have pI := p_pairsIt (a := a) (b := v) (k := n)
    rw [hv2.1, hv2.2, Bool.true_and, Bool.and_true, Int.toNat_natCast]
    rw [hv] at pV
    have hra : rightTo a n = true → n < a.length := fun h => by unfold rightTo at h; rw [Bool.and_eq_true, decide_eq_true_eq] at h; exact h.1
    have hrb : rightTo v n = true → n < v.length := fun h => by unfold rightTo at h; rw [Bool.and_eq_true, decide_eq_true_eq] at h; exact h.1
    generalize rightTo a n = ra at *
    generalize rightTo v n = rb at *
    have hx : ∀ x ∈ pairsL a v n, x.length = 2 := fun x hx => by
      obtain ⟨i, hi⟩ := List.mem_iff_getElem?.1 hx
      have hil : i < n + 1 := by rw [← pairsL_len (a := a) (b := v)]; exact (List.getElem?_eq_some_iff.1 hi).1
      rw [pairsL_at hil] at hi
      injection hi with hi; subst hi; rfl
    cases ra
    · unfold II iv0 nu0 at *
      refine PB (rs := [.cell 8 28, .cell 9 49]) Tryz.func19 ?_
      exact Wk
    · cases rb
      · unfold II iv0 nu0 at *
        refine PB (rs := [.cell 8 28, .cell 9 49]) Tryz.func19 ?_
        exact Wk
      · have pI := pI (hra rfl) (hrb rfl) (by omega)
        have hM : ∀ i, PC Tryz.prog 48 [IV (gI a i), IV (gI v (n - i)), i64 p] fun d => d = IE (mulI p (gI a i) (gI v (n - i))) := fun i => p_iMul (ha.at_ i) (hb.at_ _)
        have hA : ∀ i, Wi 65536 (mulI p (gI a i) (gI v (n - i))).1 → PC Tryz.prog 49 [IV (coefN p a v n i).1, IV (mulI p (gI a i) (gI v (n - i))).1, i64 p] fun d => d = IE (addI p (coefN p a v n i).1 (mulI p (gI a i) (gI v (n - i))).1) := fun i hw => p_iAdd (coefN_wi i) hw
        have hlen : (pairsL a v n).length = n + 1 := pairsL_len
        unfold II at *
        rw [Bool.and_self, if_pos rfl]
        generalize hr : coefN p a v n (n + 1) = r at *
        refine PB (rs := [.cell 8 28, .cell 9 49]) Tryz.func19 ?_
        repeat (first | with_reducible refine pv_seq fun K hK => ?_ | ((with_reducible first | refine hK _ _ ?_ | (clear hK; refine hK _ _ ?_) | (clear hK; clear hK; refine hK _ _ ?_)); clear hK; try clear K) | refine W ?_ | exact Z | with_reducible intro b)
        rename_i b7 b8 b9 b10
        refine pv_range (f := 81) (pairsL a v n) rfl (by kernel_rfl) (by kernel_rfl) (by kernel_rfl) pI hx
          (fun i S => (coefN p a v n i).2 = 0 ∧ S (.l 7) = some ⟨b7, 1, 0, [[i64 p]]⟩ ∧ S (.l 8) = some ⟨b8, 6, 0, [[bl false, i64 0, .nil, bl false, i64 0, .nil]]⟩ ∧ S (.l 9) = some ⟨b9, 1, 0, [[i64 0]]⟩ ∧ S (.l 11) = some ⟨b, 1, 0, [[bl (decide (0 < i))]]⟩ ∧ ∃ z, S (.l 10) = some ⟨b10, 6, 0, [z]⟩ ∧ z.length = 6 ∧ (0 < i → z = cI (coefN p a v n i).1))
          (fun c S => c = .ret ∧ r.2 ≠ 0 ∧ r.1 = iv0 ∧ S (.l 8) = some ⟨b8, 6, 0, [[bl false, i64 0, .nil, bl false, i64 0, .nil]]⟩ ∧ S (.l 9) = some ⟨b9, 1, 0, [[i64 r.2]]⟩) ⟨rfl, rfl, rfl, rfl, rfl, _, rfl, rfl, fun h => absurd h (by decide)⟩ ?_ ?_ ?_ ?_
        · rintro i x S1 ga gb Kn Kx Kr hxi ⟨he, s7, s8, s9, s11, z, s10, hz, hzi⟩ hg1 hKn hKx hKr
          have hil : i < n + 1 := by rw [← hlen]; exact (List.getElem?_eq_some_iff.1 hxi).1
          rw [pairsL_at hil] at hxi
          injection hxi with hxi
          subst hxi
          have pM := hM i
          have pQ := hA i opI_wi
          have hst : (coefN p a v n (i + 1)).2 ≠ 0 → r = coefN p a v n (i + 1) := fun h => by rw [← hr]; exact coefN_stuck h (by omega)
          have hs : coefN p a v n (i + 1) = if (mulI p (gI a i) (gI v (n - i))).2 = 0 then (if i = 0 then mulI p (gI a i) (gI v (n - i)) else addI p (coefN p a v n i).1 (mulI p (gI a i) (gI v (n - i))).1) else mulI p (gI a i) (gI v (n - i)) := by
            conv => lhs; unfold coefN
            rw [if_pos he]
          have he1 := coefN_err (p := p) (a := a) (b := v) (k := n) (i + 1)
          clear hM hA hr hK pI hx
          generalize coefN p a v n (i + 1) = c1 at *
          generalize coefN p a v n i = c0 at *
          generalize gI a i = x1 at *
          generalize gI v (n - i) = x2 at *
          generalize mulI p x1 x2 = m at *
          obtain ⟨m, em⟩ := m
          generalize hq : addI p c0.1 m = q at *
          simp only at hs pQ
          obtain ⟨c0, e0⟩ := c0
          obtain ⟨⟨n1, e1, w1⟩, ⟨n2, e2, w2⟩⟩ := x1
          obtain ⟨⟨n3, e3, w3⟩, ⟨n4, e4, w4⟩⟩ := x2
          obtain ⟨⟨n5, e5, w5⟩, ⟨n6, e6, w6⟩⟩ := m
          simp only [bindD, IV]
          by_cases h0 : em = 0
          · subst h0
            rw [if_pos rfl] at hs
            by_cases hi0 : i = 0
            · subst hi0
              rw [if_pos rfl] at hs
              subst hs
              rw [decide_eq_false (by decide)] at s11
              obtain ⟨y1, y2, y3, y4, y5, y6, rfl⟩ := len6 hz
              have ft := And.intro s7 (And.intro s8 (And.intro s9 (And.intro s10 (And.intro s11 hg1))))
              repeat (first | with_reducible refine pv_seq fun K hK => ?_ | ((with_reducible first | refine hK _ _ ?_ | (clear hK; refine hK _ _ ?_) | (clear hK; clear hK; refine hK _ _ ?_)); clear hK; try clear K) | refine W ?_ | exact Z | with_reducible intro b)
              exact hKn _ rfl ⟨rfl, by simp only [updS_apply]; exact s7, by simp only [updS_apply]; exact s8, by simp only [updS_apply]; exact s9, by simp only [updS_apply]; rfl, _, by simp only [updS_apply]; rfl, rfl, fun _ => rfl⟩
            · rw [if_neg hi0] at hs
              subst hs
              have hzc := hzi (by omega)
              subst hzc
              obtain ⟨⟨⟨n7, e7, w7⟩, ⟨n8, e8, w8⟩⟩, eq⟩ := c1
              obtain ⟨⟨n9, e9, w9⟩, ⟨n10, e10, w10⟩⟩ := c0
              unfold cI at *
              rw [decide_eq_true (by omega)] at s11
              simp only at s10 pQ hst he1
              by_cases hq0 : eq = 0
              · subst hq0
                have ft := And.intro s7 (And.intro s8 (And.intro s9 (And.intro s10 (And.intro s11 hg1))))
                repeat (first | with_reducible refine pv_seq fun K hK => ?_ | ((with_reducible first | refine hK _ _ ?_ | (clear hK; refine hK _ _ ?_) | (clear hK; clear hK; refine hK _ _ ?_)); clear hK; try clear K) | refine W ?_ | exact Z | with_reducible intro b)
                exact hKn _ rfl ⟨rfl, by simp only [updS_apply]; exact s7, by simp only [updS_apply]; exact s8, by simp only [updS_apply]; exact s9, by simp only [updS_apply]; rfl, _, by simp only [updS_apply]; rfl, rfl, fun _ => rfl⟩
              · have hq1 := eq_false hq0
                have hr1 := hst hq0
                have hr2 := he1 hq0
                have ft := And.intro s7 (And.intro s8 (And.intro s9 (And.intro s10 (And.intro s11 (And.intro hg1 hq1)))))
                repeat (first | with_reducible refine pv_seq fun K hK => ?_ | ((with_reducible first | refine hK _ _ ?_ | (clear hK; refine hK _ _ ?_) | (clear hK; clear hK; refine hK _ _ ?_)); clear hK; try clear K) | refine W ?_ | exact Z | with_reducible intro b)
                exact hKr _ rfl ⟨rfl, by rw [hr1]; exact hq0, by rw [hr1]; exact hr2, by simp only [updS_apply]; rfl, by simp only [updS_apply]; rw [hr1]; rfl⟩
          · rw [if_neg h0] at hs
            subst hs
            have hq1 := eq_false h0
            have hr1 := hst h0
            have hr2 := he1 h0
            have ft := And.intro s7 (And.intro s8 (And.intro s9 (And.intro s10 (And.intro s11 (And.intro hg1 hq1)))))
            repeat (first | with_reducible refine pv_seq fun K hK => ?_ | ((with_reducible first | refine hK _ _ ?_ | (clear hK; refine hK _ _ ?_) | (clear hK; clear hK; refine hK _ _ ?_)); clear hK; try clear K) | refine W ?_ | exact Z | with_reducible intro b)
            exact hKr _ rfl ⟨rfl, by rw [hr1]; exact h0, by rw [hr1]; exact hr2, by simp only [updS_apply]; rfl, by simp only [updS_apply]; rw [hr1]; rfl⟩
        · intro S' hg0 ⟨he, s7, s8, s9, s11, z, s10, hz, hzi⟩
          rw [hlen] at *
          have hzc := hzi (by omega)
          subst hzc
          rw [hr] at *
          obtain ⟨⟨⟨n9, e9, w9⟩, ⟨n10, e10, w10⟩⟩, er⟩ := r
          simp only at he
          subst he
          unfold cI at s10
          have ft := And.intro s8 (And.intro s9 s10)
          exact Wk
        · rintro id S' _ ⟨h, _⟩
          cases h
        · rintro S' _ ⟨_, h1, h2, s8, s9⟩
          obtain ⟨r, er⟩ := r
          simp only at h2
          subst h2
          have ft := And.intro s8 s9
          exact Wk
  · rw [Bool.not_eq_true] at hv
    rw [hv] at pV
    have : (okK k && rightTo a k.toNat && rightTo v k.toNat && okP p) = false := by
      rw [Bool.and_eq_false_iff] at hv
      rcases hv with h | h
      · rw [h]; rfl
      · rw [h, Bool.and_false]
    rw [this]
    unfold II iv0 nu0 at *
    refine PB (rs := [.cell 8 28, .cell 9 49]) Tryz.func19 ?_
    exact Wk
end Go.V
namespace Go.V
open Go Go.RowKit Go.Proofs
def qT3_109_4 : List (Nat × Nat) := [(0, 0), (1, 0), (2, 0), (3, 1), (4, 0), (5, 0), (6, 0), (7, 1), (8, 0)]
def qT3_109_6 : List (Nat × Nat) := [(0, 0), (1, 0), (2, 0), (3, 1), (4, 0), (5, 0), (6, 0), (7, 1), (8, 0)]
attribute [go_sem] qT3_109_4 qT3_109_6
/-- Lists of integers, monomials, lists of these, as data. -/
def eZ (x : Int) : List G := [.lit (.int .i64 x)]
def eM (m : Mo) : List G := [.lit (.bool m.c.neg), .lit (.int .i64 m.c.exp), eS (eK .u64) m.c.w, eS eZ m.e]
def ZI (l : List Int) : D := .g (eS eZ l)
def MO (m : Mo) : D := .agg [bl m.c.neg, i64 m.c.exp, W64 m.c.w, .g (eS eZ m.e)]
def MM (l : List Mo) : D := .g (eS eM l)
theorem eZ_0 {x : Int} : eZ x = [.lit (.int .i64 x)] := rfl
theorem eM_0 {m : Mo} : eM m = [.lit (.bool m.c.neg), .lit (.int .i64 m.c.exp), eS (eK .u64) m.c.w, eS eZ m.e] := rfl
attribute [go_sem] eZ_0 eM_0 MO
theorem gM_at {l : List Mo} {i : Nat} (h : i < l.length) : l[i]? = some (gM l i) := by simp [gM, List.getD, List.getElem?_eq_getElem h]
theorem gM_mem {l : List Mo} {i : Nat} (h : i < l.length) : gM l i ∈ l := List.mem_of_getElem? (gM_at h)
/-- A monomial of so many words and powers. -/
structure Wm (m : Mo) : Prop where
  c : Wl 65536 m.c
  n : m.e.length ≤ 100000
structure WfM (l : List Mo) : Prop where
  n : l.length ≤ 100000
  w : ∀ m ∈ l, Wm m
theorem WfM.at_ {l : List Mo} (h : WfM l) {i : Nat} (hi : i < l.length) : Wm (gM l i) := h.w _ (gM_mem hi)
theorem zget {l : List Int} {i : Nat} (h : i < l.length) : l[i]? = some (l.getD i 0) := by simp [List.getD, List.getElem?_eq_getElem h]
theorem sum_take_le : ∀ {l : List Int} (i : Nat), (∀ x ∈ l, 0 ≤ x) → (l.take i).sum ≤ l.sum
  | [], i, _ => by simp
  | x :: l, 0, h => by
    have h1 := sum_take_le (l := l) 0 (fun y hy => h y (List.mem_cons_of_mem _ hy))
    have h2 := h x List.mem_cons_self
    simp only [List.take_zero, List.sum_nil, List.sum_cons] at h1 ⊢; omega
  | x :: l, i + 1, h => by
    have h1 := sum_take_le (l := l) i (fun y hy => h y (List.mem_cons_of_mem _ hy))
    simp only [List.take_succ_cons, List.sum_cons]; omega
theorem sum_take_succ {l : List Int} {i : Nat} {x : Int} (h : l[i]? = some x) : (l.take (i + 1)).sum = (l.take i).sum + x := by
  rw [List.take_add_one, h, List.sum_append]; simp

/-! ### Powers against each other -/
theorem cmpE_drop {a b : List Int} {i : Nat} {x y : Int} (ha : a[i]? = some x) (hb : b[i]? = some y) : cmpE (a.drop i) (b.drop i) = if x < y then -1 else if y < x then 1 else cmpE (a.drop (i + 1)) (b.drop (i + 1)) := by
  obtain ⟨hi, rfl⟩ := List.getElem?_eq_some_iff.1 ha
  obtain ⟨hj, rfl⟩ := List.getElem?_eq_some_iff.1 hb
  rw [List.drop_eq_getElem_cons hi, List.drop_eq_getElem_cons hj]; rfl
set_option maxHeartbeats 1000000 in
theorem p_sCompare {a b : List Int} (ha : a.length ≤ 100000) (hb : b.length ≤ 100000) : PC Tryz.prog 123 [ZI a, ZI b] fun d => d = i64 (cmpE a b) := by
  unfold ZI
  generalize hr : cmpE a b = r
  refine PB (rs := [.tmp 4]) Tryz.func123 ?_
  repeat (first | with_reducible refine pv_seq fun K hK => ?_ | ((with_reducible first | refine hK _ _ ?_ | (clear hK; refine hK _ _ ?_) | (clear hK; clear hK; refine hK _ _ ?_)); clear hK; try clear K) | refine W0 ?_ | exact Z | with_reducible intro b)
  refine pv_loop (fun e S => ∃ i : Nat, i ≤ a.length ∧ i ≤ b.length ∧ e 0 = .g (eS eZ a) ∧ e 1 = .g (eS eZ b) ∧ e 9 = .g (eS eZ a) ∧ e 10 = i64 a.length ∧ e 11 = i64 i ∧ cmpE (a.drop i) (b.drop i) = r) (fun e _ => a.length - (intD (e 11)).toNat) ?_ ?_
  · exact ⟨0, Nat.zero_le _, Nat.zero_le _, Zr, Zr, Zr, Zr, Zr, hr⟩
  · rintro e S ⟨i, hi, hj, g0, g1, g9, g10, g11, hc⟩
    have ft := And.intro g0 (And.intro g1 (And.intro g9 (And.intro g10 g11)))
    repeat (first | with_reducible refine pv_seq fun K hK => ?_ | ((with_reducible first | refine hK _ _ ?_ | (clear hK; refine hK _ _ ?_) | (clear hK; clear hK; refine hK _ _ ?_)); clear hK; try clear K) | refine W0 ?_ | exact Z | with_reducible intro b)
    refine pv_cdD (fun ht => ?_) (fun ht => ?_)
    · have hil : i < a.length := by omega
      have q1 := zget hil
      by_cases hjl : i < b.length
      · have k1 : ((b.length : Int) ≤ (i : Int)) = False := eq_false (by omega)
        have q2 := zget hjl
        rw [cmpE_drop q1 q2] at hc
        have pC := p_cmpint (a := a.getD i 0) (b := b.getD i 0)
        unfold cmpI at pC
        generalize a.getD i 0 = x at *
        generalize b.getD i 0 = y at *
        by_cases h1 : x < y
        · rw [if_pos h1] at hc pC
          subst hc
          have ft := And.intro g0 (And.intro g1 (And.intro g9 (And.intro g10 (And.intro g11 (And.intro q1 (And.intro q2 k1))))))
          exact Wk
        · rw [if_neg h1] at hc pC
          by_cases h2 : y < x
          · rw [if_pos h2] at hc pC
            subst hc
            have ft := And.intro g0 (And.intro g1 (And.intro g9 (And.intro g10 (And.intro q1 (And.intro g11 (And.intro q2 k1))))))
            exact Wk
          · rw [if_neg h2] at hc pC
            have ft := And.intro g0 (And.intro g1 (And.intro g9 (And.intro q1 (And.intro g10 (And.intro g11 (And.intro q2 k1))))))
            repeat (first | with_reducible refine pv_seq fun K hK => ?_ | ((with_reducible first | refine hK _ _ ?_ | (clear hK; refine hK _ _ ?_) | (clear hK; clear hK; refine hK _ _ ?_)); clear hK; try clear K) | refine W ?_ | exact Z | with_reducible intro b)
            exact ⟨⟨i + 1, by omega, by omega, rfl, hc⟩, by simp only [intD]; omega⟩
      · have k1 : ((b.length : Int) ≤ (i : Int)) = True := eq_true (by omega)
        have h1 : r = 1 := by
          rw [← hc, List.drop_eq_getElem_cons hil, List.drop_eq_nil_of_le (show b.length ≤ i by omega)]; rfl
        subst h1
        have ft := And.intro g0 (And.intro g1 (And.intro g9 (And.intro g10 (And.intro g11 (And.intro k1 q1)))))
        exact Wk
    · obtain rfl : i = a.length := by omega
      rw [List.drop_length] at hc
      by_cases hlt : a.length < b.length
      · have k1 : ((a.length : Int) < (b.length : Int)) = True := eq_true (by omega)
        have h1 : r = -1 := by
          rw [← hc, List.drop_eq_getElem_cons hlt]; rfl
        subst h1
        have ft := And.intro g0 (And.intro g1 (And.intro g9 (And.intro g10 (And.intro g11 k1))))
        exact Wk
      · have k1 : ((a.length : Int) < (b.length : Int)) = False := eq_false (by omega)
        have h1 : r = 0 := by
          rw [← hc, List.drop_eq_nil_of_le (show b.length ≤ a.length by omega)]; rfl
        subst h1
        have ft := And.intro g0 (And.intro g1 (And.intro g9 (And.intro g10 (And.intro k1 g11))))
        exact Wk
theorem p_ahead {a b : Mo} (ha : a.e.length ≤ 100000) (hb : b.e.length ≤ 100000) : PC Tryz.prog 99 [MO a, MO b] fun d => d = i64 (cmpE b.e a.e) := by
  have pC := p_sCompare hb ha
  obtain ⟨⟨n1, e1, w1⟩, z1⟩ := a
  obtain ⟨⟨n2, e2, w2⟩, z2⟩ := b
  unfold ZI at pC
  simp only at pC ⊢
  generalize cmpE z2 z1 = r at *
  refine PB (rs := [.tmp 4]) Tryz.func99 ?_
  exact Wk

/-- The document's: over as many powers as both have. -/
def ordE : List Int → List Int → Int
  | x :: a, y :: b => if y < x then 1 else if x < y then -1 else ordE a b
  | _, _ => 0
theorem ordE_drop {a b : List Int} {i : Nat} {x y : Int} (ha : a[i]? = some x) (hb : b[i]? = some y) : ordE (a.drop i) (b.drop i) = if y < x then 1 else if x < y then -1 else ordE (a.drop (i + 1)) (b.drop (i + 1)) := by
  obtain ⟨hi, rfl⟩ := List.getElem?_eq_some_iff.1 ha
  obtain ⟨hj, rfl⟩ := List.getElem?_eq_some_iff.1 hb
  rw [List.drop_eq_getElem_cons hi, List.drop_eq_getElem_cons hj]; rfl
theorem ordE_nil {a b : List Int} {i : Nat} (h : a.length ≤ i ∨ b.length ≤ i) : ordE (a.drop i) (b.drop i) = 0 := by
  rcases h with h | h
  · rw [List.drop_eq_nil_of_le h]; rfl
  · rw [List.drop_eq_nil_of_le h]; cases a.drop i <;> rfl
theorem ordE_cmpE : ∀ {a b : List Int}, a.length = b.length → ordE a b = - cmpE b a
  | [], [], _ => rfl
  | x :: a, y :: b, h => by
    have ih := ordE_cmpE (a := a) (b := b) (by simpa using h)
    unfold ordE cmpE
    rw [ih]
    by_cases h1 : y < x
    · rw [if_pos h1, if_pos h1]; rfl
    · rw [if_neg h1, if_neg h1]
      by_cases h2 : x < y
      · rw [if_pos h2, if_pos h2]
      · rw [if_neg h2, if_neg h2]
theorem cmpE_cases : ∀ (a b : List Int), cmpE a b = -1 ∨ cmpE a b = 0 ∨ cmpE a b = 1
  | [], [] => .inr (.inl rfl)
  | [], _ :: _ => .inl rfl
  | _ :: _, [] => .inr (.inr rfl)
  | x :: a, y :: b => by
    unfold cmpE
    split
    · exact .inl rfl
    · split
      · exact .inr (.inr rfl)
      · exact cmpE_cases a b
set_option maxHeartbeats 1000000 in
theorem p_rOrdE {a b : List Int} (ha : a.length ≤ 100000) (hb : b.length ≤ 100000) : PC Tryz.prog 109 [ZI a, ZI b] fun d => d = i64 (ordE a b) := by
  unfold ZI
  generalize hr : ordE a b = r
  have d1 := @dl 4 qT3_109_4
  have d2 := @dl 6 qT3_109_6
  refine PB (rs := [.tmp 4]) Tryz.func109 ?_
  repeat (first | with_reducible refine pv_seq fun K hK => ?_ | ((with_reducible first | refine hK _ _ ?_ | (clear hK; refine hK _ _ ?_) | (clear hK; clear hK; refine hK _ _ ?_)); clear hK; try clear K) | refine W0 ?_ | exact Z | with_reducible intro b)
  have J : ∀ (e : DEnv) (S : Store), r = 0 → K e S := by
    intro e S h
    subst h
    exact Wk
  clear hK
  refine pv_loop (fun e S => ∃ i : Nat, i ≤ a.length ∧ i ≤ b.length ∧ e 0 = .g (eS eZ a) ∧ e 1 = .g (eS eZ b) ∧ e 5 = i64 i ∧ ordE (a.drop i) (b.drop i) = r) (fun e _ => a.length - (intD (e 5)).toNat) ?_ ?_
  · exact ⟨0, Nat.zero_le _, Nat.zero_le _, Zr, Zr, Zr, hr⟩
  · rintro e S ⟨i, hi, hj, g0, g1, g5, hc⟩
    by_cases hil : i < a.length
    · have k1 : ((i : Int) < (a.length : Int)) = True := eq_true (by omega)
      by_cases hjl : i < b.length
      · have k2 : ((i : Int) < (b.length : Int)) = True := eq_true (by omega)
        have q1 := zget hil
        have q2 := zget hjl
        rw [ordE_drop q1 q2] at hc
        generalize a.getD i 0 = x at *
        generalize b.getD i 0 = y at *
        by_cases h1 : y < x
        · rw [if_pos h1] at hc
          have h1' := eq_true h1
          subst hc
          have ft := And.intro g0 (And.intro g1 (And.intro g5 (And.intro q1 (And.intro q2 (And.intro k1 (And.intro k2 h1'))))))
          exact Wk
        · rw [if_neg h1] at hc
          have h1' := eq_false h1
          by_cases h2 : x < y
          · rw [if_pos h2] at hc
            have h2' := eq_true h2
            subst hc
            have ft := And.intro g0 (And.intro g1 (And.intro g5 (And.intro q1 (And.intro q2 (And.intro k1 (And.intro k2 (And.intro h1' h2')))))))
            exact Wk
          · rw [if_neg h2] at hc
            have h2' := eq_false h2
            have ft := And.intro g0 (And.intro g1 (And.intro q1 (And.intro g5 (And.intro q2 (And.intro k1 (And.intro k2 (And.intro h1' h2')))))))
            repeat (first | with_reducible refine pv_seq fun K hK => ?_ | ((with_reducible first | refine hK _ _ ?_ | (clear hK; refine hK _ _ ?_) | (clear hK; clear hK; refine hK _ _ ?_)); clear hK; try clear K) | refine W0 ?_ | exact Z | with_reducible intro b)
            exact ⟨⟨i + 1, by omega, by omega, rfl, hc⟩, by simp only [intD]; omega⟩
      · have k2 : ((i : Int) < (b.length : Int)) = False := eq_false (by omega)
        rw [ordE_nil (.inr (by omega))] at hc
        have ft := And.intro g0 (And.intro g1 (And.intro g5 (And.intro k1 k2)))
        repeat (first | with_reducible refine pv_seq fun K hK => ?_ | ((with_reducible first | refine hK _ _ ?_ | (clear hK; refine hK _ _ ?_) | (clear hK; clear hK; refine hK _ _ ?_)); clear hK; try clear K) | refine W0 ?_ | exact Z | with_reducible intro b)
        exact J _ _ hc.symm
    · have k1 : ((i : Int) < (a.length : Int)) = False := eq_false (by omega)
      rw [ordE_nil (.inl (by omega))] at hc
      have ft := And.intro g0 (And.intro g1 (And.intro g5 k1))
      repeat (first | with_reducible refine pv_seq fun K hK => ?_ | ((with_reducible first | refine hK _ _ ?_ | (clear hK; refine hK _ _ ?_) | (clear hK; clear hK; refine hK _ _ ?_)); clear hK; try clear K) | refine W0 ?_ | exact Z | with_reducible intro b)
      exact J _ _ hc.symm

/-! ### Which monomials are right -/
theorem monoB_neg {m : Mo} {n : Int} {i : Nat} {x : Int} (h : m.e[i]? = some x) (hx : x < 0) : monoB m n = false := by
  unfold monoB
  rw [decide_eq_false (p := ∀ x ∈ m.e, 0 ≤ x) (fun h2 => by have := h2 x (List.mem_of_getElem? h); omega), Bool.and_false]; rfl
theorem monoB_big {m : Mo} {n : Int} {i : Nat} (h : 8 < (m.e.take i).sum) : monoB m n = false := by
  unfold monoB
  by_cases h2 : ∀ x ∈ m.e, 0 ≤ x
  · have := sum_take_le (l := m.e) i h2
    rw [decide_eq_false (p := m.e.sum ≤ 8) (by omega), Bool.and_false]; rfl
  · rw [decide_eq_false h2, Bool.and_false]; rfl
theorem monoB_len {m : Mo} {n : Int} (h : ¬ (m.e.length : Int) = n) : monoB m n = false := by
  unfold monoB; rw [decide_eq_false h]; rfl
theorem monoB_is {m : Mo} {n : Int} (h1 : (m.e.length : Int) = n) (h2 : ∀ i, i < m.e.length → 0 ≤ m.e.getD i 0) (h3 : (m.e.take m.e.length).sum ≤ 8) : monoB m n = rightB m.c := by
  unfold monoB
  have h2' : ∀ x ∈ m.e, 0 ≤ x := fun x hx => by
    obtain ⟨i, hi⟩ := List.mem_iff_getElem?.1 hx
    have hil : i < m.e.length := (List.getElem?_eq_some_iff.1 hi).1
    have := h2 i hil
    rw [zget hil] at hi
    injection hi with hi; omega
  rw [List.take_length] at h3
  rw [decide_eq_true h1, decide_eq_true h2', decide_eq_true h3]; rfl
theorem z_step {l : List Int} {i : Nat} {x : Int} (hz : ∀ j, j < i → 0 ≤ l.getD j 0) (h : l.getD i 0 = x) (hx : 0 ≤ x) : ∀ j, j < i + 1 → 0 ≤ l.getD j 0 := fun j hj => by
  rcases Nat.lt_or_ge j i with h1 | h1
  · exact hz j h1
  · obtain rfl : j = i := by omega
    omega
set_option maxHeartbeats 1000000 in
theorem p_mono {m : Mo} {n : Int} (hm : Wm m) : PC Tryz.prog 98 [MO m, i64 n] fun d => d = bl (monoB m n) := by
  have pR := p_nRight hm.c.b
  have hne := fun (i : Nat) (x : Int) => monoB_neg (m := m) (n := n) (i := i) (x := x)
  have hbg := fun (i : Nat) => monoB_big (m := m) (n := n) (i := i)
  have hln := monoB_len (m := m) (n := n)
  have his := monoB_is (m := m) (n := n)
  have hn1 := hm.n
  clear hm
  generalize monoB m n = r at *
  obtain ⟨c, z⟩ := m
  simp only at *
  generalize rightB c = s at *
  obtain ⟨n1, e1, w1⟩ := c
  refine PB (rs := [.tmp 4]) Tryz.func98 ?_
  repeat (first | with_reducible refine pv_seq fun K hK => ?_ | ((with_reducible first | refine hK _ _ ?_ | (clear hK; refine hK _ _ ?_) | (clear hK; clear hK; refine hK _ _ ?_)); clear hK; try clear K) | refine W0 ?_ | exact Z | with_reducible intro b)
  refine pv_loop (fun e S => Hid (∃ (i b2 : Nat) (t : Int), i ≤ z.length ∧ e 1 = i64 n ∧ e 2 = .ptr (.l 2) b2 0 0 4 ∧ e 5 = i64 (8 - t) ∧ e 9 = .g (eS eZ z) ∧ e 10 = i64 z.length ∧ e 11 = i64 i ∧ t = (z.take i).sum ∧ t ≤ 8 ∧ 0 ≤ t ∧ (∀ j, j < i → 0 ≤ z.getD j 0) ∧ S (.l 2) = some ⟨b2, 4, 0, [[bl n1, i64 e1, W64 w1, .g (eS eZ z)]]⟩)) (fun e _ => z.length - (intD (e 11)).toNat) ?_ ?_
  · exact ⟨0, _, 0, Nat.zero_le _, Zr, Zr, Zr, Zr, Zr, Zr, rfl, by omega, by omega, fun j hj => by omega, Zr⟩
  · rintro e S ⟨i, b2, t, hi, g1, g2, g5, g9, g10, g11, ht1, ht2, ht3, hz, s2⟩
    have ft := And.intro g1 (And.intro g2 (And.intro g5 (And.intro g9 (And.intro g10 (And.intro g11 s2)))))
    repeat (first | with_reducible refine pv_seq fun K hK => ?_ | ((with_reducible first | refine hK _ _ ?_ | (clear hK; refine hK _ _ ?_) | (clear hK; clear hK; refine hK _ _ ?_)); clear hK; try clear K) | refine W0 ?_ | exact Z | with_reducible intro b)
    refine pv_cdD (fun ht => ?_) (fun ht => ?_)
    · have hil : i < z.length := by omega
      have q1 := zget hil
      have hsum := sum_take_succ q1
      have hst := fun h => z_step (l := z) (i := i) (x := z.getD i 0) hz rfl h
      generalize z.getD i 0 = x at *
      by_cases h1 : x < 0
      · have h1' := eq_true h1
        have hr := hne i x q1 h1
        subst hr
        have ft := And.intro g1 (And.intro g2 (And.intro g5 (And.intro g9 (And.intro g10 (And.intro g11 (And.intro s2 (And.intro q1 h1')))))))
        exact Wk
      · have h1' := eq_false h1
        by_cases h2 : 8 - t < x
        · have h2' := eq_true h2
          have hr := hbg (i + 1) (by omega)
          subst hr
          have ft := And.intro g1 (And.intro g2 (And.intro g5 (And.intro g9 (And.intro g10 (And.intro g11 (And.intro s2 (And.intro q1 (And.intro h1' h2'))))))))
          exact Wk
        · have h2' := eq_false h2
          have hsb : 8 - t - x = 8 - (t + x) := by omega
          have ft := And.intro g1 (And.intro g2 (And.intro g5 (And.intro g9 (And.intro g10 (And.intro g11 (And.intro s2 (And.intro q1 (And.intro h1' (And.intro h2' hsb)))))))))
          repeat (first | with_reducible refine pv_seq fun K hK => ?_ | ((with_reducible first | refine hK _ _ ?_ | (clear hK; refine hK _ _ ?_) | (clear hK; clear hK; refine hK _ _ ?_)); clear hK; try clear K) | refine W0 ?_ | exact Z | with_reducible intro b)
          exact ⟨⟨i + 1, b2, t + x, by omega, Zr, Zr, Zr, Zr, Zr, Zr, by omega, by omega, by omega, hst (by omega), Zr⟩, by simp only [intD]; omega⟩
    · obtain rfl : i = z.length := by omega
      by_cases h1 : (z.length : Int) = n
      · have h1' := eq_true h1
        have hr := his h1 hz (by omega)
        subst hr
        have ft := And.intro g1 (And.intro g2 (And.intro g5 (And.intro g9 (And.intro g10 (And.intro g11 (And.intro s2 h1'))))))
        exact Wk
      · have h1' := eq_false h1
        have hr := hln h1
        subst hr
        have ft := And.intro g1 (And.intro g2 (And.intro g5 (And.intro g9 (And.intro g10 (And.intro g11 (And.intro s2 h1'))))))
        exact Wk
set_option maxHeartbeats 1000000 in
theorem p_rMono {m : Mo} {n : Int} (hm : Wm m) (h4 : n ≤ 4) : PC Tryz.prog 77 [MO m, i64 n] fun d => d = bl (monoB m n) := by
  have pR := p_rRight hm.c.b
  have hne := fun (i : Nat) (x : Int) => monoB_neg (m := m) (n := n) (i := i) (x := x)
  have hbg := fun (i : Nat) => monoB_big (m := m) (n := n) (i := i)
  have hln := monoB_len (m := m) (n := n)
  have his := monoB_is (m := m) (n := n)
  have hn1 := hm.n
  clear hm
  generalize monoB m n = r at *
  obtain ⟨c, z⟩ := m
  simp only at *
  generalize rightB c = s at *
  obtain ⟨n1, e1, w1⟩ := c
  have hbx : ∀ (i : Nat) (x : Int), z[i]? = some x → (∀ j, j < i → 0 ≤ z.getD j 0) → 8 < x → r = false := by
    intro i x hx hz h8
    refine hbg (i + 1) ?_
    rw [sum_take_succ hx]
    have : 0 ≤ (z.take i).sum := by
      have : ∀ y ∈ z.take i, 0 ≤ y := fun y hy => by
        obtain ⟨j, hj⟩ := List.mem_iff_getElem?.1 hy
        rw [List.getElem?_take] at hj
        split at hj
        · rename_i hji
          have hjl : j < z.length := (List.getElem?_eq_some_iff.1 hj).1
          have := hz j hji
          rw [zget hjl] at hj
          injection hj with hj; omega
        · cases hj
      have h0 := sum_take_le (l := z.take i) 0 this
      simpa using h0
    omega
  refine PB (rs := [.tmp 4]) Tryz.func77 ?_
  repeat (first | with_reducible refine pv_seq fun K hK => ?_ | ((with_reducible first | refine hK _ _ ?_ | (clear hK; refine hK _ _ ?_) | (clear hK; clear hK; refine hK _ _ ?_)); clear hK; try clear K) | refine W0 ?_ | exact Z | with_reducible intro b)
  have J : ∀ (e : DEnv) (S : Store) (i b2 : Nat) (t : Int), i ≤ z.length → (z.length ≤ i ∨ 4 ≤ i) → e 1 = i64 n → e 2 = .ptr (.l 2) b2 0 0 4 → e 5 = i64 t → t = (z.take i).sum → (∀ j, j < i → 0 ≤ z.getD j 0) → S (.l 2) = some ⟨b2, 4, 0, [[bl n1, i64 e1, W64 w1, .g (eS eZ z)]]⟩ → K e S := by
    intro e S i b2 t hi hi2 g1 g2 g5 ht hz s2
    by_cases h1 : (z.length : Int) = n
    · have h1' := eq_true h1
      obtain rfl : i = z.length := by omega
      by_cases h2 : t ≤ 8
      · have h2' := eq_true h2
        have hr := his h1 hz (by omega)
        subst hr
        have ft := And.intro g1 (And.intro g2 (And.intro g5 (And.intro s2 (And.intro h1' h2'))))
        exact Wk
      · have h2' := eq_false h2
        have hr := hbg z.length (by omega)
        subst hr
        have ft := And.intro g1 (And.intro g2 (And.intro g5 (And.intro s2 (And.intro h1' h2'))))
        exact Wk
    · have h1' := eq_false h1
      have hr := hln h1
      subst hr
      have ft := And.intro g1 (And.intro g2 (And.intro g5 (And.intro s2 h1')))
      exact Wk
  clear hK
  refine pv_loop (fun e S => Hid (∃ (i b2 : Nat) (t : Int), i ≤ z.length ∧ i ≤ 4 ∧ e 1 = i64 n ∧ e 2 = .ptr (.l 2) b2 0 0 4 ∧ e 5 = i64 t ∧ e 6 = i64 i ∧ t = (z.take i).sum ∧ 0 ≤ t ∧ t ≤ 8 * i ∧ (∀ j, j < i → 0 ≤ z.getD j 0) ∧ S (.l 2) = some ⟨b2, 4, 0, [[bl n1, i64 e1, W64 w1, .g (eS eZ z)]]⟩)) (fun e _ => z.length - (intD (e 6)).toNat) ?_ ?_
  · exact ⟨0, _, 0, Nat.zero_le _, by omega, Zr, Zr, Zr, Zr, rfl, by omega, by omega, fun j hj => by omega, Zr⟩
  · rintro e S ⟨i, b2, t, hi, hi4, g1, g2, g5, g6, ht1, ht2, ht3, hz, s2⟩
    by_cases hil : i < z.length
    · have k1 : ((i : Int) < (z.length : Int)) = True := eq_true (by omega)
      by_cases hi5 : i < 4
      · have k2 : ((i : Int) < 4) = True := eq_true (by omega)
        have q1 := zget hil
        have hsum := sum_take_succ q1
        have hst := fun h => z_step (l := z) (i := i) (x := z.getD i 0) hz rfl h
        generalize z.getD i 0 = x at *
        by_cases h1 : x < 0
        · have h1' := eq_true h1
          have hr := hne i x q1 h1
          subst hr
          have ft := And.intro g1 (And.intro g2 (And.intro g5 (And.intro g6 (And.intro s2 (And.intro q1 (And.intro h1' (And.intro k1 k2)))))))
          exact Wk
        · have h1' := eq_false h1
          by_cases h2 : 8 < x
          · have h2' := eq_true h2
            have hr := hbx i x q1 hz h2
            subst hr
            have ft := And.intro g1 (And.intro g2 (And.intro g5 (And.intro g6 (And.intro s2 (And.intro q1 (And.intro h1' (And.intro h2' (And.intro k1 k2))))))))
            exact Wk
          · have h2' := eq_false h2
            have ft := And.intro g1 (And.intro g2 (And.intro g5 (And.intro g6 (And.intro s2 (And.intro q1 (And.intro h1' (And.intro h2' (And.intro k1 k2))))))))
            repeat (first | with_reducible refine pv_seq fun K hK => ?_ | ((with_reducible first | refine hK _ _ ?_ | (clear hK; refine hK _ _ ?_) | (clear hK; clear hK; refine hK _ _ ?_)); clear hK; try clear K) | refine W0 ?_ | exact Z | with_reducible intro b)
            exact ⟨⟨i + 1, b2, t + x, by omega, by omega, Zr, Zr, Zr, Zr, by omega, by omega, by omega, hst (by omega), Zr⟩, by simp only [intD]; omega⟩
      · have k2 : ((i : Int) < 4) = False := eq_false (by omega)
        have ft := And.intro g1 (And.intro g2 (And.intro g5 (And.intro g6 (And.intro s2 (And.intro k1 k2)))))
        repeat (first | with_reducible refine pv_seq fun K hK => ?_ | ((with_reducible first | refine hK _ _ ?_ | (clear hK; refine hK _ _ ?_) | (clear hK; clear hK; refine hK _ _ ?_)); clear hK; try clear K) | refine W0 ?_ | exact Z | with_reducible intro b)
        exact J _ _ i b2 t hi (.inr (by omega)) Zr Zr Zr ht1 hz Zr
    · have k1 : ((i : Int) < (z.length : Int)) = False := eq_false (by omega)
      have ft := And.intro g1 (And.intro g2 (And.intro g5 (And.intro g6 (And.intro s2 k1))))
      repeat (first | with_reducible refine pv_seq fun K hK => ?_ | ((with_reducible first | refine hK _ _ ?_ | (clear hK; refine hK _ _ ?_) | (clear hK; clear hK; refine hK _ _ ?_)); clear hK; try clear K) | refine W0 ?_ | exact Z | with_reducible intro b)
      exact J _ _ i b2 t hi (.inl (by omega)) Zr Zr Zr ht1 hz Zr
end Go.V

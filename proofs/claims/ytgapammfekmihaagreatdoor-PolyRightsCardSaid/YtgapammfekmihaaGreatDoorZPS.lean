/- The deck's N and Prec. Numbers of few bits, near 1; the contracts of num and round over the core library's dyadic numbers. -/
import Derived.Test.YtgapammfekmihaaGreatDoorZPY
import Derived.Test.YtgapammfekmihaaGreatDoorZPZ
set_option linter.unusedSimpArgs false
set_option linter.unusedVariables false
set_option maxRecDepth 100000
namespace Go.V
open Go Go.RowKit Go.Proofs

end Go.V
namespace Go.V
open Go Go.RowKit Go.Proofs

/-- Of few bits and near 1: a multiple of 2 ^ -p, less than 2 ^ k times that. -/
def Sm (k : Nat) (p : Nat) (d : Dyadic) : Prop := ∃ z : Int, d = .ofIntWithPrec z p ∧ z.natAbs < 2 ^ k
theorem Sm.dy {neg : Bool} {n : Nat} {e : Int} (hn : n < 64) (h1 : -6 ≤ e) (h2 : e ≤ 2) : Sm 14 6 (dy neg n e) := by
  refine ⟨sg neg n * 2 ^ (e + 6).toNat, ?_, ?_⟩
  · have := owp_shl (sg neg n) (-e) (e + 6).toNat
    rw [show -e + ((e + 6).toNat : Int) = (6 : Nat) by omega] at this
    exact this.symm
  · rw [Int.natAbs_mul, sg_abs, Int.natAbs_pow]
    have : (2 : Int).natAbs ^ (e + 6).toNat ≤ 2 ^ 8 := Nat.pow_le_pow_right (by decide) (by omega)
    calc n * (2 : Int).natAbs ^ (e + 6).toNat ≤ n * 2 ^ 8 := Nat.mul_le_mul_left _ this
      _ < 2 ^ 14 := by omega
theorem Sm.add {k p : Nat} {a b : Dyadic} (ha : Sm k p a) (hb : Sm k p b) : Sm (k + 1) p (a + b) := by
  obtain ⟨x, rfl, hx⟩ := ha; obtain ⟨y, rfl, hy⟩ := hb
  refine ⟨x + y, owp_add _ _ _, ?_⟩
  have := Int.natAbs_add_le x y
  rw [Nat.pow_succ]; omega
theorem Sm.mul {k m p q : Nat} {a b : Dyadic} (ha : Sm k p a) (hb : Sm m q b) : Sm (k + m) (p + q) (a * b) := by
  obtain ⟨x, rfl, hx⟩ := ha; obtain ⟨y, rfl, hy⟩ := hb
  refine ⟨x * y, by rw [owp_mul]; rfl, ?_⟩
  rw [Int.natAbs_mul, Nat.pow_add]
  exact Nat.mul_lt_mul'' hx hy
theorem Sm.mono {k m p : Nat} {a : Dyadic} (ha : Sm k p a) (h : k ≤ m) : Sm m p a := by
  obtain ⟨x, rfl, hx⟩ := ha
  exact ⟨x, rfl, Nat.lt_of_lt_of_le hx (Nat.pow_le_pow_right (by decide) h)⟩
theorem sg_natAbs (z : Int) : sg (decide (z < 0)) z.natAbs = z := by
  unfold sg
  by_cases h : z < 0
  · rw [decide_eq_true h, if_pos rfl]; omega
  · rw [decide_eq_false h, if_neg (by decide)]; omega
theorem Sm.ok {k p : Nat} {d : Dyadic} (h : Sm k p d) (hk : k ≤ 64) (hp : p ≤ 60000) : OkD d := by
  obtain ⟨z, rfl, hz⟩ := h
  have : Dyadic.ofIntWithPrec z p = Go.V.dy (decide (z < 0)) z.natAbs (-(p : Int)) := by
    unfold Go.V.dy; rw [sg_natAbs, Int.neg_neg]
  rw [this]
  exact OkD_word (Nat.lt_of_lt_of_le hz (Nat.pow_le_pow_right (by decide) hk)) (by omega) (by omega)
theorem p_nMulD {a b : Dyadic} (ha : OkD a) (hb : OkD b) : PC Tryz.prog 33 [NU (nuOf a), NU (nuOf b)] fun d => d = NE (numR (a * b)) := by
  have := p_nMul (ha.sz).wl (hb.sz).wl (by decide)
  rw [opR, rightB_nuOf, rightB_nuOf, decide_eq_true ha, decide_eq_true hb, val_nuOf, val_nuOf] at this
  exact this
/-! ### Few bits, near 1: rounded -/
end Go.V

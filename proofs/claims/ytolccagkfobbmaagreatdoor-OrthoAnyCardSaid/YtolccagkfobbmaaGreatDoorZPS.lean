/- The deck's N and Prec. Numbers of few bits, near 1; the contracts of num and round over the core library's dyadic numbers. -/
import Derived.Test.YtolccagkfobbmaaGreatDoorZPY
import Derived.Test.YtolccagkfobbmaaGreatDoorZPZ
set_option linter.unusedSimpArgs false
set_option linter.unusedVariables false
set_option maxRecDepth 100000
namespace Go.V
open Go Go.RowKit Go.Proofs

end Go.V
namespace Go.V
open Go Go.RowKit Go.Proofs

theorem p_nCmpD {a b : Dyadic} (ha : OkD a) (hb : OkD b) : PC Tryz.prog 45 [NU (nuOf a), NU (nuOf b)] fun d => d = i64 (cmpD a b) := by
  have := p_nCmp (ha.sz).wl (hb.sz).wl (by decide)
  rw [rightB_nuOf, rightB_nuOf, decide_eq_true ha, decide_eq_true hb, val_nuOf, val_nuOf] at this
  exact this
theorem cmpD_gt0 {a b : Dyadic} : 0 < cmpD a b ↔ b < a := by
  unfold cmpD
  by_cases h1 : a < b
  · rw [if_pos h1]; simp; grind
  · rw [if_neg h1]; by_cases h2 : b < a <;> simp [h2]
/-! ### Few bits, near 1: rounded -/
theorem okP_of {p : Nat} (h8 : 8 ≤ p) (h256 : p ≤ 256) : okP p = true := by unfold okP; rw [decide_eq_true (by omega), decide_eq_true (by omega)]; rfl
theorem opP_D {a b v : Dyadic} {p : Nat} {up : Bool} (ha : OkD a) (hb : OkD b) (h8 : 8 ≤ p) (h256 : p ≤ 256) : opP (nuOf a) (nuOf b) p up v = numR (rd p up v) := by
  unfold opP; rw [rightB_nuOf, rightB_nuOf, decide_eq_true ha, decide_eq_true hb, okP_of h8 h256]; simp only [Bool.and_self, if_true, Int.toNat_natCast]
theorem dvR_D {a b : Dyadic} {p : Nat} {up : Bool} (ha : OkD a) (hb : OkD b) (h8 : 8 ≤ p) (h256 : p ≤ 256) : dvR (nuOf a) (nuOf b) p up = if b = 0 then (nu0, 3) else numR (rd p up (quo p a b)) := by
  unfold dvR; rw [rightB_nuOf, rightB_nuOf, decide_eq_true ha, decide_eq_true hb, okP_of h8 h256]; simp only [Bool.and_self, if_true, Int.toNat_natCast, val_nuOf]

end Go.V

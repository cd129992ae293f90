/- The document's intervals over values as data: which are right, what lies in what, hull, meet, opposites, amounts. The document's intervals over values as data: least, greatest product, powers, ends. -/
import Derived.Test.YtkjjmhdlcebnnaaGreatDoorZIA
import Derived.Test.YtkjjmhdlcebnnaaGreatDoorZPY
import Derived.Test.YtkjjmhdlcebnnaaGreatDoorZPR
set_option linter.unusedSimpArgs false
set_option linter.unusedVariables false
set_option maxRecDepth 100000
namespace Go.V
open Go Go.RowKit Go.Proofs
theorem p_rCmpR {x y : Nu} (hx : B64 x.w) (hy : B64 y.w) (rx : rightB x = true) (ry : rightB y = true) : PC Tryz.prog 113 [NU x, NU y] fun d => d = i64 (cmpD x.val y.val) := by
  have := p_rCmpNum hx hy
  rw [rx, ry] at this
  exact this
theorem p_rCmpD {a b : Dyadic} (ha : OkD a) (hb : OkD b) : PC Tryz.prog 113 [NU (nuOf a), NU (nuOf b)] fun d => d = i64 (cmpD a b) := by
  have := p_rCmpR (ha.sz).b (hb.sz).b (by rw [rightB_nuOf, decide_eq_true ha]) (by rw [rightB_nuOf, decide_eq_true hb])
  rw [val_nuOf, val_nuOf] at this
  exact this
theorem p_rPoint {x : Nu} : PC Tryz.prog 54 [NU x] fun d => d = IV ⟨x, x⟩ := by
  obtain ⟨n1, e1, w1⟩ := x
  refine PB (rs := [.cell 2 26]) Tryz.func54 ?_
  exact Wk
end Go.V
namespace Go.V
open Go Go.RowKit Go.Proofs
def endR (l h : Dyadic) : Iv × Int := if (numR l).2 = 0 then (if (numR h).2 = 0 then (⟨(numR l).1, (numR h).1⟩, 0) else (iv0, 2)) else (iv0, 2)
theorem sgnD_0le {a : Dyadic} : (0 ≤ sgnD a) = (0 ≤ a) := by
  apply propext
  unfold sgnD
  by_cases h1 : a < 0
  · rw [if_pos h1]; constructor
    · intro h; exact absurd h (by decide)
    · intro h; grind
  · rw [if_neg h1]; constructor
    · intro _; grind
    · intro _; split <;> decide
theorem sgnD_le0 {a : Dyadic} : (sgnD a ≤ 0) = (a ≤ 0) := by
  apply propext
  unfold sgnD
  by_cases h1 : a < 0
  · rw [if_pos h1]; exact ⟨fun _ => by grind, fun _ => by decide⟩
  · rw [if_neg h1]
    by_cases h2 : 0 < a
    · rw [if_pos h2]; constructor
      · intro h; exact absurd h (by decide)
      · intro h; grind
    · rw [if_neg h2]; exact ⟨fun _ => by grind, fun _ => by decide⟩
theorem sgnD_lt0 {a : Dyadic} : (sgnD a < 0) = (a < 0) := by
  have := sgnD_0le (a := a)
  apply propext
  rw [← Int.not_le, this]
  constructor
  · intro h; grind
  · intro h; grind
theorem sgnD_0lt {a : Dyadic} : (0 < sgnD a) = (0 < a) := by
  have := sgnD_le0 (a := a)
  apply propext
  rw [← Int.not_le, this]
  constructor
  · intro h; grind
  · intro h; grind
end Go.V

/- The document's intervals over values as data: which are right, what lies in what, hull, meet, opposites, amounts. -/
import Derived.Test.YtcmnbpliiopbjaaGreatDoorI3
import Derived.Test.YtcmnbpliiopbjaaGreatDoorPY
set_option linter.unusedSimpArgs false
set_option linter.unusedVariables false
set_option maxRecDepth 100000
namespace Go.V
open Go Go.RowKit Go.Proofs

theorem p_rCmpR {x y : Nu} (hx : B64 x.w) (hy : B64 y.w) (rx : rightB x = true) (ry : rightB y = true) : PC Tryz.prog 34 [NU x, NU y] fun d => d = i64 (cmpD x.val y.val) := by
  have := p_rCmpNum hx hy
  rw [rx, ry] at this
  exact this
theorem p_rCmpD {a b : Dyadic} (ha : OkD a) (hb : OkD b) : PC Tryz.prog 34 [NU (nuOf a), NU (nuOf b)] fun d => d = i64 (cmpD a b) := by
  have := p_rCmpR (ha.sz).b (hb.sz).b (by rw [rightB_nuOf, decide_eq_true ha]) (by rw [rightB_nuOf, decide_eq_true hb])
  rw [val_nuOf, val_nuOf] at this
  exact this
theorem p_rPoint {x : Nu} : PC Tryz.prog 75 [NU x] fun d => d = IV ⟨x, x⟩ := by
  obtain ⟨n1, e1, w1⟩ := x
  refine PB (rs := [.cell 2 34]) Tryz.func75 ?_
  exact Wk








end Go.V

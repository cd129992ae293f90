/- The document's intervals over values as data: which are right, what lies in what, hull, meet, opposites, amounts. -/
import Derived.Test.YtcmnbpliiopbjaaI3
import Derived.Test.YtcmnbpliiopbjaaPY
set_option linter.unusedSimpArgs false
set_option linter.unusedVariables false
set_option maxRecDepth 100000
namespace Go.V
open Go Go.RowKit Go.Proofs

theorem p_rCmpR {x y : Nu} (hx : B64 x.w) (hy : B64 y.w) (rx : rightB x = true) (ry : rightB y = true) : PC Try.prog 35 [NU x, NU y] fun d => d = i64 (cmpD x.val y.val) := by
  have := p_rCmpNum hx hy
  rw [rx, ry] at this
  exact this
theorem p_rCmpD {a b : Dyadic} (ha : OkD a) (hb : OkD b) : PC Try.prog 35 [NU (nuOf a), NU (nuOf b)] fun d => d = i64 (cmpD a b) := by
  have := p_rCmpR (ha.sz).b (hb.sz).b (by rw [rightB_nuOf, decide_eq_true ha]) (by rw [rightB_nuOf, decide_eq_true hb])
  rw [val_nuOf, val_nuOf] at this
  exact this
theorem p_rPoint {x : Nu} : PC Try.prog 75 [NU x] fun d => d = IV ⟨x, x⟩ := by
  obtain ⟨n1, e1, w1⟩ := x
  refine PB (rs := [.cell 2 34]) Try.func75 ?_
  exact Wk
theorem p_rSameIv {a b : Iv} (h1 : a.lo.w.length ≤ 1099511627776) (h2 : a.hi.w.length ≤ 1099511627776) : PC Try.prog 67 [IV a, IV b] fun d => d = bl (decide (a.lo = b.lo) && decide (a.hi = b.hi)) := by
  have pX := p_rSame (x := a.lo) (y := b.lo) h1
  have pY := p_rSame (x := a.hi) (y := b.hi) h2
  generalize decide (a.lo = b.lo) = r at *
  generalize decide (a.hi = b.hi) = s at *
  obtain ⟨⟨n1, e1, w1⟩, ⟨n2, e2, w2⟩⟩ := a
  obtain ⟨⟨n3, e3, w3⟩, ⟨n4, e4, w4⟩⟩ := b
  cases r
  · refine PB (rs := [.tmp 4]) Try.func67 ?_
    exact Wk
  · cases s
    · refine PB (rs := [.tmp 4]) Try.func67 ?_
      exact Wk
    · refine PB (rs := [.tmp 4]) Try.func67 ?_
      exact Wk
theorem same_iv {a : Iv} (h1 : a.lo.w.length ≤ 1099511627776) (h2 : a.hi.w.length ≤ 1099511627776) : PC Try.prog 67 [IV a, IV a] fun d => d = bl true :=
  (p_rSameIv (a := a) (b := a) h1 h2).mono fun d hd => hd.trans (by rw [decide_eq_true rfl, decide_eq_true rfl]; rfl)








end Go.V

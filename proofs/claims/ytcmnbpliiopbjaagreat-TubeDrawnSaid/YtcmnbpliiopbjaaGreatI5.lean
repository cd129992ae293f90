/- The document's intervals over values as data: which are right, what lies in what, hull, meet, opposites, amounts. -/
import Derived.Test.YtcmnbpliiopbjaaGreatI3
import Derived.Test.YtcmnbpliiopbjaaGreatPY
set_option linter.unusedSimpArgs false
set_option linter.unusedVariables false
set_option maxRecDepth 100000
namespace Go.V
open Go Go.RowKit Go.Proofs

theorem p_rCmpR {x y : Nu} (hx : B64 x.w) (hy : B64 y.w) (rx : rightB x = true) (ry : rightB y = true) : PC Tryz.prog 54 [NU x, NU y] fun d => d = i64 (cmpD x.val y.val) := by
  have := p_rCmpNum hx hy
  rw [rx, ry] at this
  exact this
theorem p_rCmpD {a b : Dyadic} (ha : OkD a) (hb : OkD b) : PC Tryz.prog 54 [NU (nuOf a), NU (nuOf b)] fun d => d = i64 (cmpD a b) := by
  have := p_rCmpR (ha.sz).b (hb.sz).b (by rw [rightB_nuOf, decide_eq_true ha]) (by rw [rightB_nuOf, decide_eq_true hb])
  rw [val_nuOf, val_nuOf] at this
  exact this
theorem p_rRightIv {k : Nat} {a : Iv} (h : Wi k a) : PC Tryz.prog 94 [IV a] fun d => d = bl (rightI a) := by
  have pX := p_rRight h.lo.b
  have pY := p_rRight h.hi.b
  have pC := p_rCmpR h.lo.b h.hi.b
  unfold rightI
  have k1 : (cmpD a.lo.val a.hi.val ≤ 0) = (a.lo.val ≤ a.hi.val) := cmpD_le0'
  have k3 : decide (cmpD a.lo.val a.hi.val ≤ 0) = decide (a.lo.val ≤ a.hi.val) := decide_eq_decide.2 (Iff.of_eq k1)
  rw [← k3]
  clear k1 k3
  generalize cmpD a.lo.val a.hi.val = c at *
  generalize rightB a.lo = r at *
  generalize rightB a.hi = s at *
  obtain ⟨⟨n1, e1, w1⟩, ⟨n2, e2, w2⟩⟩ := a
  cases r
  · refine PB (rs := [.tmp 2]) Tryz.func94 ?_
    exact Wk
  · cases s
    · refine PB (rs := [.tmp 2]) Tryz.func94 ?_
      exact Wk
    · have pC := pC rfl rfl
      refine PB (rs := [.tmp 2]) Tryz.func94 ?_
      exact Wk
theorem p_rPoint {x : Nu} : PC Tryz.prog 47 [NU x] fun d => d = IV ⟨x, x⟩ := by
  obtain ⟨n1, e1, w1⟩ := x
  refine PB (rs := [.cell 2 41]) Tryz.func47 ?_
  exact Wk
theorem p_rSameIv {a b : Iv} (h1 : a.lo.w.length ≤ 1099511627776) (h2 : a.hi.w.length ≤ 1099511627776) : PC Tryz.prog 72 [IV a, IV b] fun d => d = bl (decide (a.lo = b.lo) && decide (a.hi = b.hi)) := by
  have pX := p_rSame (x := a.lo) (y := b.lo) h1
  have pY := p_rSame (x := a.hi) (y := b.hi) h2
  generalize decide (a.lo = b.lo) = r at *
  generalize decide (a.hi = b.hi) = s at *
  obtain ⟨⟨n1, e1, w1⟩, ⟨n2, e2, w2⟩⟩ := a
  obtain ⟨⟨n3, e3, w3⟩, ⟨n4, e4, w4⟩⟩ := b
  cases r
  · refine PB (rs := [.tmp 4]) Tryz.func72 ?_
    exact Wk
  · cases s
    · refine PB (rs := [.tmp 4]) Tryz.func72 ?_
      exact Wk
    · refine PB (rs := [.tmp 4]) Tryz.func72 ?_
      exact Wk
theorem same_iv {a : Iv} (h1 : a.lo.w.length ≤ 1099511627776) (h2 : a.hi.w.length ≤ 1099511627776) : PC Tryz.prog 72 [IV a, IV a] fun d => d = bl true :=
  (p_rSameIv (a := a) (b := a) h1 h2).mono fun d hd => hd.trans (by rw [decide_eq_true rfl, decide_eq_true rfl]; rfl)


theorem p_rIn {k : Nat} {a b : Iv} (ha : Wi k a) (hb : Wi k b) : PC Tryz.prog 75 [IV a, IV b] fun d => d = bl (endsR a b 0) := by
  have pA := p_rRightIv ha
  have pB := p_rRightIv hb
  have pC : rightI a = true → rightI b = true → (PC Tryz.prog 54 [NU b.lo, NU a.lo] fun d => d = i64 (cmpD b.lo.val a.lo.val)) ∧ (PC Tryz.prog 54 [NU a.hi, NU b.hi] fun d => d = i64 (cmpD a.hi.val b.hi.val)) := fun h1 h2 => by
    obtain ⟨r1, r2, _⟩ := rightI_lo h1
    obtain ⟨r3, r4, _⟩ := rightI_lo h2
    exact ⟨p_rCmpR hb.lo.b ha.lo.b r3 r1, p_rCmpR ha.hi.b hb.hi.b r2 r4⟩
  unfold endsR
  have k3 : decide (0 ≤ cmpD a.lo.val b.lo.val) = decide (cmpD b.lo.val a.lo.val ≤ 0) := decide_eq_decide.2 (Iff.of_eq (cmpD_0le.trans cmpD_le0'.symm))
  have k4 : decide (0 ≤ cmpD b.hi.val a.hi.val) = decide (cmpD a.hi.val b.hi.val ≤ 0) := decide_eq_decide.2 (Iff.of_eq (cmpD_0le.trans cmpD_le0'.symm))
  rw [k3, k4]
  clear k3 k4
  generalize cmpD b.lo.val a.lo.val = c1 at *
  generalize cmpD a.hi.val b.hi.val = c2 at *
  generalize rightI a = r at *
  generalize rightI b = s at *
  obtain ⟨⟨n1, e1, w1⟩, ⟨n2, e2, w2⟩⟩ := a
  obtain ⟨⟨n3, e3, w3⟩, ⟨n4, e4, w4⟩⟩ := b
  cases r
  · refine PB (rs := [.tmp 4]) Tryz.func75 ?_
    exact Wk
  · cases s
    · refine PB (rs := [.tmp 4]) Tryz.func75 ?_
      exact Wk
    · obtain ⟨q1, q2⟩ := pC rfl rfl
      by_cases h1 : c1 ≤ 0
      · rw [decide_eq_true h1]
        refine PB (rs := [.tmp 4]) Tryz.func75 ?_
        have ft := (eq_true h1)
        exact Wk
      · rw [decide_eq_false h1]
        refine PB (rs := [.tmp 4]) Tryz.func75 ?_
        have ft := (eq_false h1)
        exact Wk






end Go.V

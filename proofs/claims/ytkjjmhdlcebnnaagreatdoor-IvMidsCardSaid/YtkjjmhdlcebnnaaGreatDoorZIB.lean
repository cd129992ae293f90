/- The document's intervals over values as data: which are right, what lies in what, hull, meet, opposites, amounts. The document's intervals over values as data: least, greatest product, powers, ends. -/
import Derived.Test.YtkjjmhdlcebnnaaGreatDoorZIA
import Derived.Test.YtkjjmhdlcebnnaaGreatDoorZPY
import Derived.Test.YtkjjmhdlcebnnaaGreatDoorZPR
set_option linter.unusedSimpArgs false
set_option linter.unusedVariables false
set_option maxRecDepth 100000
namespace Go.V
open Go Go.RowKit Go.Proofs
def qI5_101_3 : List (Nat × Nat) := [(0, 0), (1, 1), (2, 0), (3, 1), (5, 0), (6, 2), (7, 0), (8, 2), (4, 4), (9, 3), (10, 0), (11, 3), (12, 0)]
def qI5_102_3 : PT := (.lin [(0, 0), (1, 2), (2, 0), (3, 2), (5, 0), (6, 2), (7, 0), (8, 2)] (.fork 4 4 (.lin [] (.fork 9 3 (.lin [(10, 0), (11, 4), (12, 3)] .nil) 11 4 (.lin [(9, 3), (10, 0), (12, 3)] .nil))) 11 4 (.lin [(4, 4), (9, 3), (10, 0), (12, 3)] .nil)))
def qI5_105_3 : List (Nat × Nat) := [(0, 0), (1, 1), (3, 0), (4, 2), (2, 4), (5, 3), (6, 0), (7, 3)]
def qI5_42_3 : List (Nat × Nat) := [(0, 0), (1, 1), (3, 0), (4, 2), (2, 4), (5, 3), (6, 3), (7, 3)]
attribute [go_sem] qI5_101_3 qI5_102_3 qI5_105_3 qI5_42_3
theorem p_rCmpR {x y : Nu} (hx : B64 x.w) (hy : B64 y.w) (rx : rightB x = true) (ry : rightB y = true) : PC Tryz.prog 113 [NU x, NU y] fun d => d = i64 (cmpD x.val y.val) := by
  have := p_rCmpNum hx hy
  rw [rx, ry] at this
  exact this
theorem p_rCmpD {a b : Dyadic} (ha : OkD a) (hb : OkD b) : PC Tryz.prog 113 [NU (nuOf a), NU (nuOf b)] fun d => d = i64 (cmpD a b) := by
  have := p_rCmpR (ha.sz).b (hb.sz).b (by rw [rightB_nuOf, decide_eq_true ha]) (by rw [rightB_nuOf, decide_eq_true hb])
  rw [val_nuOf, val_nuOf] at this
  exact this
theorem p_rRightIv {k : Nat} {a : Iv} (h : Wi k a) : PC Tryz.prog 66 [IV a] fun d => d = bl (rightI a) := by
  have pX := p_rRight h.lo.b
  have pY := p_rRight h.hi.b
  have pC := p_rCmpR h.lo.b h.hi.b
  unfold rightI
  have k1 : (cmpD a.lo.val a.hi.val ≤ 0) = (a.lo.val ≤ a.hi.val) := cmpD_le0'
  have k3 : decide (cmpD a.lo.val a.hi.val ≤ 0) = decide (a.lo.val ≤ a.hi.val) := decide_eq_decide.2 (Iff.of_eq k1)
  rw [← k3]
  clear k1 k3
  generalize cmpD a.lo.val a.hi.val = c at *
  generalize rightB a.lo = r at *
  generalize rightB a.hi = s at *
  obtain ⟨⟨n1, e1, w1⟩, ⟨n2, e2, w2⟩⟩ := a
  cases r
  · refine PB (rs := [.tmp 2]) Tryz.func66 ?_
    exact Wk
  · cases s
    · refine PB (rs := [.tmp 2]) Tryz.func66 ?_
      exact Wk
    · have pC := pC rfl rfl
      refine PB (rs := [.tmp 2]) Tryz.func66 ?_
      exact Wk
theorem p_rPoint {x : Nu} : PC Tryz.prog 54 [NU x] fun d => d = IV ⟨x, x⟩ := by
  obtain ⟨n1, e1, w1⟩ := x
  refine PB (rs := [.cell 2 26]) Tryz.func54 ?_
  exact Wk
theorem p_rSameIv {a b : Iv} (h1 : a.lo.w.length ≤ 1099511627776) (h2 : a.hi.w.length ≤ 1099511627776) : PC Tryz.prog 20 [IV a, IV b] fun d => d = bl (decide (a.lo = b.lo) && decide (a.hi = b.hi)) := by
  have pX := p_rSame (x := a.lo) (y := b.lo) h1
  have pY := p_rSame (x := a.hi) (y := b.hi) h2
  generalize decide (a.lo = b.lo) = r at *
  generalize decide (a.hi = b.hi) = s at *
  obtain ⟨⟨n1, e1, w1⟩, ⟨n2, e2, w2⟩⟩ := a
  obtain ⟨⟨n3, e3, w3⟩, ⟨n4, e4, w4⟩⟩ := b
  cases r
  · refine PB (rs := [.tmp 4]) Tryz.func20 ?_
    exact Wk
  · cases s
    · refine PB (rs := [.tmp 4]) Tryz.func20 ?_
      exact Wk
    · refine PB (rs := [.tmp 4]) Tryz.func20 ?_
      exact Wk
theorem same_iv {a : Iv} (h1 : a.lo.w.length ≤ 1099511627776) (h2 : a.hi.w.length ≤ 1099511627776) : PC Tryz.prog 20 [IV a, IV a] fun d => d = bl true :=
  (p_rSameIv (a := a) (b := a) h1 h2).mono fun d hd => hd.trans (by rw [decide_eq_true rfl, decide_eq_true rfl]; rfl)

theorem p_rHas {k : Nat} {a : Iv} {x : Nu} (h : Wi k a) (hx : B64 x.w) : PC Tryz.prog 71 [IV a, NU x] fun d => d = bl (hasR a x) := by
  have pR := p_rRightIv h
  have pX := p_rRight hx
  have pC : rightI a = true → rightB x = true → (PC Tryz.prog 113 [NU a.lo, NU x] fun d => d = i64 (cmpD a.lo.val x.val)) ∧ (PC Tryz.prog 113 [NU x, NU a.hi] fun d => d = i64 (cmpD x.val a.hi.val)) := fun h1 h2 => by
    obtain ⟨r1, r2, _⟩ := rightI_lo h1
    exact ⟨p_rCmpR h.lo.b hx r1 h2, p_rCmpR hx h.hi.b h2 r2⟩
  unfold hasR
  have k3 : decide (cmpD a.lo.val x.val ≤ 0) = decide (a.lo.val ≤ x.val) := decide_eq_decide.2 (Iff.of_eq cmpD_le0')
  have k4 : decide (cmpD x.val a.hi.val ≤ 0) = decide (x.val ≤ a.hi.val) := decide_eq_decide.2 (Iff.of_eq cmpD_le0')
  rw [← k3, ← k4]
  clear k3 k4
  generalize cmpD a.lo.val x.val = c1 at *
  generalize cmpD x.val a.hi.val = c2 at *
  generalize rightI a = r at *
  generalize rightB x = s at *
  obtain ⟨⟨n1, e1, w1⟩, ⟨n2, e2, w2⟩⟩ := a
  obtain ⟨n3, e3, w3⟩ := x
  cases r
  · refine PB (rs := [.tmp 4]) Tryz.func71 ?_
    exact Wk
  · cases s
    · refine PB (rs := [.tmp 4]) Tryz.func71 ?_
      exact Wk
    · obtain ⟨q1, q2⟩ := pC rfl rfl
      by_cases h1 : c1 ≤ 0
      · rw [decide_eq_true h1]
        refine PB (rs := [.tmp 4]) Tryz.func71 ?_
        have ft := (eq_true h1)
        exact Wk
      · rw [decide_eq_false h1]
        refine PB (rs := [.tmp 4]) Tryz.func71 ?_
        have ft := (eq_false h1)
        exact Wk

theorem p_rIn {k : Nat} {a b : Iv} (ha : Wi k a) (hb : Wi k b) : PC Tryz.prog 103 [IV a, IV b] fun d => d = bl (endsR a b 0) := by
  have pA := p_rRightIv ha
  have pB := p_rRightIv hb
  have pC : rightI a = true → rightI b = true → (PC Tryz.prog 113 [NU b.lo, NU a.lo] fun d => d = i64 (cmpD b.lo.val a.lo.val)) ∧ (PC Tryz.prog 113 [NU a.hi, NU b.hi] fun d => d = i64 (cmpD a.hi.val b.hi.val)) := fun h1 h2 => by
    obtain ⟨r1, r2, _⟩ := rightI_lo h1
    obtain ⟨r3, r4, _⟩ := rightI_lo h2
    exact ⟨p_rCmpR hb.lo.b ha.lo.b r3 r1, p_rCmpR ha.hi.b hb.hi.b r2 r4⟩
  unfold endsR
  have k3 : decide (0 ≤ cmpD a.lo.val b.lo.val) = decide (cmpD b.lo.val a.lo.val ≤ 0) := decide_eq_decide.2 (Iff.of_eq (cmpD_0le.trans cmpD_le0'.symm))
  have k4 : decide (0 ≤ cmpD b.hi.val a.hi.val) = decide (cmpD a.hi.val b.hi.val ≤ 0) := decide_eq_decide.2 (Iff.of_eq (cmpD_0le.trans cmpD_le0'.symm))
  rw [k3, k4]
  clear k3 k4
  generalize cmpD b.lo.val a.lo.val = c1 at *
  generalize cmpD a.hi.val b.hi.val = c2 at *
  generalize rightI a = r at *
  generalize rightI b = s at *
  obtain ⟨⟨n1, e1, w1⟩, ⟨n2, e2, w2⟩⟩ := a
  obtain ⟨⟨n3, e3, w3⟩, ⟨n4, e4, w4⟩⟩ := b
  cases r
  · refine PB (rs := [.tmp 4]) Tryz.func103 ?_
    exact Wk
  · cases s
    · refine PB (rs := [.tmp 4]) Tryz.func103 ?_
      exact Wk
    · obtain ⟨q1, q2⟩ := pC rfl rfl
      by_cases h1 : c1 ≤ 0
      · rw [decide_eq_true h1]
        refine PB (rs := [.tmp 4]) Tryz.func103 ?_
        have ft := (eq_true h1)
        exact Wk
      · rw [decide_eq_false h1]
        refine PB (rs := [.tmp 4]) Tryz.func103 ?_
        have ft := (eq_false h1)
        exact Wk

theorem p_rInside {k : Nat} {a b : Iv} (ha : Wi k a) (hb : Wi k b) : PC Tryz.prog 104 [IV a, IV b] fun d => d = bl (endsR a b 1) := by
  have pA := p_rRightIv ha
  have pB := p_rRightIv hb
  have pC : rightI a = true → rightI b = true → (PC Tryz.prog 113 [NU b.lo, NU a.lo] fun d => d = i64 (cmpD b.lo.val a.lo.val)) ∧ (PC Tryz.prog 113 [NU a.hi, NU b.hi] fun d => d = i64 (cmpD a.hi.val b.hi.val)) := fun h1 h2 => by
    obtain ⟨r1, r2, _⟩ := rightI_lo h1
    obtain ⟨r3, r4, _⟩ := rightI_lo h2
    exact ⟨p_rCmpR hb.lo.b ha.lo.b r3 r1, p_rCmpR ha.hi.b hb.hi.b r2 r4⟩
  unfold endsR
  have k3 : decide (1 ≤ cmpD a.lo.val b.lo.val) = decide (cmpD b.lo.val a.lo.val < 0) := decide_eq_decide.2 (Iff.of_eq (cmpD_1le.trans cmpD_lt0.symm))
  have k4 : decide (1 ≤ cmpD b.hi.val a.hi.val) = decide (cmpD a.hi.val b.hi.val < 0) := decide_eq_decide.2 (Iff.of_eq (cmpD_1le.trans cmpD_lt0.symm))
  rw [k3, k4]
  clear k3 k4
  generalize cmpD b.lo.val a.lo.val = c1 at *
  generalize cmpD a.hi.val b.hi.val = c2 at *
  generalize rightI a = r at *
  generalize rightI b = s at *
  obtain ⟨⟨n1, e1, w1⟩, ⟨n2, e2, w2⟩⟩ := a
  obtain ⟨⟨n3, e3, w3⟩, ⟨n4, e4, w4⟩⟩ := b
  cases r
  · refine PB (rs := [.tmp 4]) Tryz.func104 ?_
    exact Wk
  · cases s
    · refine PB (rs := [.tmp 4]) Tryz.func104 ?_
      exact Wk
    · obtain ⟨q1, q2⟩ := pC rfl rfl
      by_cases h1 : c1 < 0
      · rw [decide_eq_true h1]
        refine PB (rs := [.tmp 4]) Tryz.func104 ?_
        have ft := (eq_true h1)
        exact Wk
      · rw [decide_eq_false h1]
        refine PB (rs := [.tmp 4]) Tryz.func104 ?_
        have ft := (eq_false h1)
        exact Wk

theorem p_lower {a b : Dyadic} (ha : OkD a) (hb : OkD b) : PC Tryz.prog 143 [NU (nuOf a), NU (nuOf b)] fun d => d = NU (nuOf (loD a b)) := by
  have pC := p_rCmpD hb ha
  have k1 : (cmpD b a < 0) = (b < a) := cmpD_lt0
  unfold loD
  by_cases h : b < a
  · rw [if_pos h]
    rw [eq_true h] at k1
    generalize cmpD b a = c at *
    generalize nuOf a = X at *
    generalize nuOf b = Y at *
    obtain ⟨n1, e1, w1⟩ := X
    obtain ⟨n2, e2, w2⟩ := Y
    refine PB (rs := [.cell 4 24]) Tryz.func143 ?_
    have ft := k1
    exact Wk
  · rw [if_neg h]
    rw [eq_false h] at k1
    generalize cmpD b a = c at *
    generalize nuOf a = X at *
    generalize nuOf b = Y at *
    obtain ⟨n1, e1, w1⟩ := X
    obtain ⟨n2, e2, w2⟩ := Y
    refine PB (rs := [.cell 4 24]) Tryz.func143 ?_
    have ft := k1
    exact Wk

theorem p_upper {a b : Dyadic} (ha : OkD a) (hb : OkD b) : PC Tryz.prog 98 [NU (nuOf a), NU (nuOf b)] fun d => d = NU (nuOf (hiD a b)) := by
  have pC := p_rCmpD hb ha
  have k1 : (0 < cmpD b a) = (a < b) := cmpD_0lt
  unfold hiD
  by_cases h : a < b
  · rw [if_pos h]
    rw [eq_true h] at k1
    generalize cmpD b a = c at *
    generalize nuOf a = X at *
    generalize nuOf b = Y at *
    obtain ⟨n1, e1, w1⟩ := X
    obtain ⟨n2, e2, w2⟩ := Y
    refine PB (rs := [.cell 4 24]) Tryz.func98 ?_
    have ft := k1
    exact Wk
  · rw [if_neg h]
    rw [eq_false h] at k1
    generalize cmpD b a = c at *
    generalize nuOf a = X at *
    generalize nuOf b = Y at *
    obtain ⟨n1, e1, w1⟩ := X
    obtain ⟨n2, e2, w2⟩ := Y
    refine PB (rs := [.cell 4 24]) Tryz.func98 ?_
    have ft := k1
    exact Wk

theorem p_rHull {k : Nat} {a b : Iv} (ha : Wi k a) (hb : Wi k b) : PC Tryz.prog 101 [IV a, IV b] fun d => d = IE (hullR a b) := by
  have pA := p_rRightIv ha
  have pB := p_rRightIv hb
  unfold hullR
  by_cases h : (rightI a && rightI b) = true
  · rw [if_pos h]
    rw [Bool.and_eq_true] at h
    rw [h.1] at pA
    rw [h.2] at pB
    obtain ⟨x, y, ox, oy, hxy, rfl⟩ := rightI_is ha h.1
    obtain ⟨u, v, ou, ov, huv, rfl⟩ := rightI_is hb h.2
    have pL := p_lower ox ou
    have pU := p_upper oy ov
    simp only [ivD, val_nuOf] at *
    generalize nuOf (loD x u) = m at *
    generalize nuOf (hiD y v) = n at *
    generalize nuOf x = X at *
    generalize nuOf y = Y at *
    generalize nuOf u = U at *
    generalize nuOf v = V at *
    obtain ⟨n1, e1, w1⟩ := X
    obtain ⟨n2, e2, w2⟩ := Y
    obtain ⟨n3, e3, w3⟩ := U
    obtain ⟨n4, e4, w4⟩ := V
    obtain ⟨n5, e5, w5⟩ := m
    obtain ⟨n6, e6, w6⟩ := n
    have d1 := @dl 3 qI5_101_3
    refine PB (rs := [.cell 4 26, .tmp 5]) Tryz.func101 ?_
    exact Wk
  · rw [if_neg h]
    generalize rightI a = r at *
    generalize rightI b = s at *
    obtain ⟨⟨n1, e1, w1⟩, ⟨n2, e2, w2⟩⟩ := a
    obtain ⟨⟨n3, e3, w3⟩, ⟨n4, e4, w4⟩⟩ := b
    cases r
    · have d1 := @dl 3 qI5_101_3
      refine PB (rs := [.cell 4 26, .tmp 5]) Tryz.func101 ?_
      exact Wk
    · obtain rfl : s = false := by simpa using h
      have d1 := @dl 3 qI5_101_3
      refine PB (rs := [.cell 4 26, .tmp 5]) Tryz.func101 ?_
      exact Wk

theorem p_rMeet {k : Nat} {a b : Iv} (ha : Wi k a) (hb : Wi k b) : PC Tryz.prog 102 [IV a, IV b] fun d => d = IE (meetR a b) := by
  have pA := p_rRightIv ha
  have pB := p_rRightIv hb
  unfold meetR
  by_cases h : (rightI a && rightI b) = true
  · rw [if_pos h]
    rw [Bool.and_eq_true] at h
    rw [h.1] at pA
    rw [h.2] at pB
    obtain ⟨x, y, ox, oy, hxy, rfl⟩ := rightI_is ha h.1
    obtain ⟨u, v, ou, ov, huv, rfl⟩ := rightI_is hb h.2
    have om := hiD_ok ox ou
    have on := loD_ok oy ov
    have pL := p_upper ox ou
    have pU := p_lower oy ov
    have pC := p_rCmpD om on
    simp only [ivD, val_nuOf] at *
    have k1 : (0 < cmpD (hiD x u) (loD y v)) = (loD y v < hiD x u) := cmpD_0lt
    generalize cmpD (hiD x u) (loD y v) = c at *
    by_cases h0 : loD y v < hiD x u
    · rw [if_pos h0]
      rw [eq_true h0] at k1
      generalize nuOf (hiD x u) = m at *
      generalize nuOf (loD y v) = n at *
      generalize nuOf x = X at *
      generalize nuOf y = Y at *
      generalize nuOf u = U at *
      generalize nuOf v = V at *
      obtain ⟨n1, e1, w1⟩ := X
      obtain ⟨n2, e2, w2⟩ := Y
      obtain ⟨n3, e3, w3⟩ := U
      obtain ⟨n4, e4, w4⟩ := V
      obtain ⟨n5, e5, w5⟩ := m
      obtain ⟨n6, e6, w6⟩ := n
      have d1 := @dr 3 qI5_102_3
      refine PB (rs := [.cell 4 26, .tmp 5]) Tryz.func102 ?_
      have ft := k1
      exact Wk
    · rw [if_neg h0]
      rw [eq_false h0] at k1
      generalize nuOf (hiD x u) = m at *
      generalize nuOf (loD y v) = n at *
      generalize nuOf x = X at *
      generalize nuOf y = Y at *
      generalize nuOf u = U at *
      generalize nuOf v = V at *
      obtain ⟨n1, e1, w1⟩ := X
      obtain ⟨n2, e2, w2⟩ := Y
      obtain ⟨n3, e3, w3⟩ := U
      obtain ⟨n4, e4, w4⟩ := V
      obtain ⟨n5, e5, w5⟩ := m
      obtain ⟨n6, e6, w6⟩ := n
      have d1 := @dr 3 qI5_102_3
      refine PB (rs := [.cell 4 26, .tmp 5]) Tryz.func102 ?_
      have ft := k1
      exact Wk
  · rw [if_neg h]
    generalize rightI a = r at *
    generalize rightI b = s at *
    obtain ⟨⟨n1, e1, w1⟩, ⟨n2, e2, w2⟩⟩ := a
    obtain ⟨⟨n3, e3, w3⟩, ⟨n4, e4, w4⟩⟩ := b
    cases r
    · have d1 := @dr 3 qI5_102_3
      refine PB (rs := [.cell 4 26, .tmp 5]) Tryz.func102 ?_
      exact Wk
    · obtain rfl : s = false := by simpa using h
      have d1 := @dr 3 qI5_102_3
      refine PB (rs := [.cell 4 26, .tmp 5]) Tryz.func102 ?_
      exact Wk

theorem p_rNegI {k : Nat} {a : Iv} (ha : Wi k a) : PC Tryz.prog 105 [IV a] fun d => d = IV (negI a) := by
  have pA := p_rRightIv ha
  unfold negI
  by_cases h : rightI a = true
  · rw [if_pos h]
    rw [h] at pA
    obtain ⟨x, y, ox, oy, hxy, rfl⟩ := rightI_is ha h
    have pX := p_rMinus (ox.sz).b; rw [rv_D ox] at pX
    have pY := p_rMinus (oy.sz).b; rw [rv_D oy] at pY
    simp only [ivD, val_nuOf] at *
    generalize nuOf (-x) = m at *
    generalize nuOf (-y) = n at *
    generalize nuOf x = X at *
    generalize nuOf y = Y at *
    obtain ⟨n1, e1, w1⟩ := X
    obtain ⟨n2, e2, w2⟩ := Y
    obtain ⟨n5, e5, w5⟩ := m
    obtain ⟨n6, e6, w6⟩ := n
    have d1 := @dl 3 qI5_105_3
    refine PB (rs := [.cell 2 26]) Tryz.func105 ?_
    exact Wk
  · rw [if_neg h]
    rw [Bool.not_eq_true] at h
    rw [h] at pA
    obtain ⟨⟨n1, e1, w1⟩, ⟨n2, e2, w2⟩⟩ := a
    have d1 := @dl 3 qI5_105_3
    refine PB (rs := [.cell 2 26]) Tryz.func105 ?_
    exact Wk
theorem p_rMag {k : Nat} {a : Iv} (ha : Wi k a) : PC Tryz.prog 42 [IV a] fun d => d = NU (magI a) := by
  have pA := p_rRightIv ha
  unfold magI
  by_cases h : rightI a = true
  · rw [if_pos h]
    rw [h] at pA
    obtain ⟨x, y, ox, oy, hxy, rfl⟩ := rightI_is ha h
    have pX := p_rAbs (ox.sz).b; rw [rv_D ox] at pX
    have pY := p_rAbs (oy.sz).b; rw [rv_D oy] at pY
    have pG := p_upper (abs_ok ox) (abs_ok oy)
    unfold absD at pG
    simp only [ivD, val_nuOf] at *
    show PC _ _ _ fun d => d = NU (nuOf (hiD (dy false (fN x) (fE x)) (dy false (fN y) (fE y))))
    generalize nuOf (hiD (dy false (fN x) (fE x)) (dy false (fN y) (fE y))) = g at *
    generalize nuOf (dy false (fN x) (fE x)) = m at *
    generalize nuOf (dy false (fN y) (fE y)) = n at *
    generalize nuOf x = X at *
    generalize nuOf y = Y at *
    obtain ⟨n1, e1, w1⟩ := X
    obtain ⟨n2, e2, w2⟩ := Y
    obtain ⟨n5, e5, w5⟩ := m
    obtain ⟨n6, e6, w6⟩ := n
    obtain ⟨n7, e7, w7⟩ := g
    have d1 := @dl 3 qI5_42_3
    refine PB (rs := [.cell 2 24]) Tryz.func42 ?_
    exact Wk
  · rw [if_neg h]
    rw [Bool.not_eq_true] at h
    rw [h] at pA
    obtain ⟨⟨n1, e1, w1⟩, ⟨n2, e2, w2⟩⟩ := a
    have d1 := @dl 3 qI5_42_3
    refine PB (rs := [.cell 2 24]) Tryz.func42 ?_
    exact Wk
end Go.V
namespace Go.V
open Go Go.RowKit Go.Proofs
def qI6_109_9 : PT := (.lin [(0, 2), (1, 2), (3, 2), (4, 2)] (.mix [2, 5] [6, 7] (.lin [(8, 3), (9, 3)] .nil)))
def qI6_110_1 : List (Nat × Nat) := [(0, 1), (2, 2), (4, 2), (5, 2), (1, 4), (3, 4), (6, 3), (7, 3), (8, 3)]
attribute [go_sem] qI6_109_9 qI6_110_1
theorem p_precs {p : Int} : PC Tryz.prog 67 [i64 p] fun d => d = bl (okP p) := by
  refine PB (rs := [.tmp 2]) Tryz.func67 ?_
  by_cases h1 : (8 : Int) ≤ p
  · by_cases h2 : p ≤ (256 : Int)
    · rw [okP, decide_eq_true h1, decide_eq_true h2]
      have ft := And.intro (eq_true h1) (eq_true h2)
      exact Wk
    · rw [okP, decide_eq_true h1, decide_eq_false h2]
      have ft := And.intro (eq_true h1) (eq_false h2)
      exact Wk
  · rw [okP, decide_eq_false h1]
    have ft := (eq_false h1)
    exact Wk
def endR (l h : Dyadic) : Iv × Int := if (numR l).2 = 0 then (if (numR h).2 = 0 then (⟨(numR l).1, (numR h).1⟩, 0) else (iv0, 2)) else (iv0, 2)
theorem outR_end (p : Nat) (l h : Dyadic) : outR p l h = endR (rd p false l) (rd p true h) := rfl
theorem p_rEnds {k : Nat} {l h : Dyadic} (hl : Bd k l) (hh : Bd k h) (hk : k ≤ 1073741824) : PC Tryz.prog 72 [VA l, VA h] fun d => d = IE (endR l h) := by
  have pL := p_rNum hl hk
  have pH := p_rNum hh hk
  unfold endR
  generalize numR l = q at *
  generalize numR h = r at *
  obtain ⟨⟨n1, x1, w1⟩, r1⟩ := q
  obtain ⟨⟨n2, x2, w2⟩, r2⟩ := r
  unfold VA at *
  by_cases h1 : r1 = 0
  · rw [if_pos h1]
    by_cases h2 : r2 = 0
    · rw [if_pos h2]
      refine PB (rs := [.cell 4 26, .tmp 5]) Tryz.func72 ?_
      have ft := And.intro (eq_true h1) (eq_true h2)
      exact Wk
    · rw [if_neg h2]
      refine PB (rs := [.cell 4 26, .tmp 5]) Tryz.func72 ?_
      have ft := And.intro (eq_true h1) (eq_false h2)
      exact Wk
  · rw [if_neg h1]
    refine PB (rs := [.cell 4 26, .tmp 5]) Tryz.func72 ?_
    have ft := (eq_false h1)
    exact Wk

theorem sgnD_0le {a : Dyadic} : (0 ≤ sgnD a) = (0 ≤ a) := by
  apply propext
  unfold sgnD
  by_cases h1 : a < 0
  · rw [if_pos h1]; constructor
    · intro h; exact absurd h (by decide)
    · intro h; grind
  · rw [if_neg h1]; constructor
    · intro _; grind
    · intro _; split <;> decide
theorem sgnD_le0 {a : Dyadic} : (sgnD a ≤ 0) = (a ≤ 0) := by
  apply propext
  unfold sgnD
  by_cases h1 : a < 0
  · rw [if_pos h1]; exact ⟨fun _ => by grind, fun _ => by decide⟩
  · rw [if_neg h1]
    by_cases h2 : 0 < a
    · rw [if_pos h2]; constructor
      · intro h; exact absurd h (by decide)
      · intro h; grind
    · rw [if_neg h2]; exact ⟨fun _ => by grind, fun _ => by decide⟩
theorem sgnD_lt0 {a : Dyadic} : (sgnD a < 0) = (a < 0) := by
  have := sgnD_0le (a := a)
  apply propext
  rw [← Int.not_le, this]
  constructor
  · intro h; grind
  · intro h; grind
theorem sgnD_0lt {a : Dyadic} : (0 < sgnD a) = (0 < a) := by
  have := sgnD_le0 (a := a)
  apply propext
  rw [← Int.not_le, this]
  constructor
  · intro h; grind
  · intro h; grind
theorem p_rLeast {k : Nat} {x y u v : Dyadic} (hx : Bd k x) (hy : Bd k y) (hu : Bd k u) (hv : Bd k v) (hk : k ≤ 33000000) : PC Tryz.prog 109 [VA x, VA y, VA u, VA v] fun d => d = VA (leastR x y u v) := by
  have sx := p_rSign (d := x)
  have sy := p_rSign (d := y)
  have su := p_rSign (d := u)
  have sv := p_rSign (d := v)
  have kx : (0 ≤ sgnD x) = (0 ≤ x) := sgnD_0le
  have ku : (0 ≤ sgnD u) = (0 ≤ u) := sgnD_0le
  have ky : (sgnD y ≤ 0) = (y ≤ 0) := sgnD_le0
  have kv : (sgnD v ≤ 0) = (v ≤ 0) := sgnD_le0
  have p1 := p_rBy hx hu (by omega)
  have p2 := p_rBy hy hu (by omega)
  have p3 := p_rBy hx hv (by omega)
  have p4 := p_rBy hy hv (by omega)
  have pO := p_rOrder (hy.mul hu) (hx.mul hv) (by omega)
  have ko : (cmpD (y * u) (x * v) < 0) = (y * u < x * v) := cmpD_lt0
  unfold leastR
  generalize cmpD (y * u) (x * v) = c at *
  generalize sgnD x = gx at *
  generalize sgnD y = gy at *
  generalize sgnD u = gu at *
  generalize sgnD v = gv at *
  by_cases a1 : 0 ≤ x
  · rw [eq_true a1] at kx
    by_cases a2 : 0 ≤ u
    · rw [if_pos ⟨a1, a2⟩]
      rw [eq_true a2] at ku
      unfold VA at *
      have d1 := @dr 9 qI6_109_9
      refine PB (rs := [.cell 8 73]) Tryz.func109 ?_
      have ft := And.intro kx ku
      exact Wk
    · rw [if_neg (fun h => a2 h.2), if_pos a1]
      rw [eq_false a2] at ku
      unfold VA at *
      have d1 := @dr 9 qI6_109_9
      refine PB (rs := [.cell 8 73]) Tryz.func109 ?_
      have ft := And.intro kx ku
      exact Wk
  · rw [if_neg (fun h => a1 h.1), if_neg a1]
    rw [eq_false a1] at kx
    by_cases a2 : 0 ≤ u
    · rw [if_pos a2]
      rw [eq_true a2] at ku
      unfold VA at *
      have d1 := @dr 9 qI6_109_9
      refine PB (rs := [.cell 8 73]) Tryz.func109 ?_
      have ft := And.intro kx ku
      exact Wk
    · rw [if_neg a2]
      rw [eq_false a2] at ku
      by_cases a3 : y ≤ 0 ∧ v ≤ 0
      · rw [if_pos a3]
        rw [eq_true a3.1] at ky
        rw [eq_true a3.2] at kv
        unfold VA at *
        have d1 := @dr 9 qI6_109_9
        refine PB (rs := [.cell 8 73]) Tryz.func109 ?_
        have ft := And.intro kx (And.intro ku (And.intro ky kv))
        exact Wk
      · rw [if_neg a3]
        by_cases a5 : y * u < x * v
        · rw [if_pos a5]
          rw [eq_true a5] at ko
          by_cases a4 : y ≤ 0
          · rw [eq_true a4] at ky
            rw [eq_false (fun h => a3 ⟨a4, h⟩)] at kv
            unfold VA at *
            have d1 := @dr 9 qI6_109_9
            refine PB (rs := [.cell 8 73]) Tryz.func109 ?_
            have ft := And.intro kx (And.intro ku (And.intro ky (And.intro kv ko)))
            exact Wk
          · rw [eq_false a4] at ky
            unfold VA at *
            have d1 := @dr 9 qI6_109_9
            refine PB (rs := [.cell 8 73]) Tryz.func109 ?_
            have ft := And.intro kx (And.intro ku (And.intro ky ko))
            exact Wk
        · rw [if_neg a5]
          rw [eq_false a5] at ko
          by_cases a4 : y ≤ 0
          · rw [eq_true a4] at ky
            rw [eq_false (fun h => a3 ⟨a4, h⟩)] at kv
            unfold VA at *
            have d1 := @dr 9 qI6_109_9
            refine PB (rs := [.cell 8 73]) Tryz.func109 ?_
            have ft := And.intro kx (And.intro ku (And.intro ky (And.intro kv ko)))
            exact Wk
          · rw [eq_false a4] at ky
            unfold VA at *
            have d1 := @dr 9 qI6_109_9
            refine PB (rs := [.cell 8 73]) Tryz.func109 ?_
            have ft := And.intro kx (And.intro ku (And.intro ky ko))
            exact Wk
theorem leastR_bd {k : Nat} {x y u v : Dyadic} (hx : Bd k x) (hy : Bd k y) (hu : Bd k u) (hv : Bd k v) : Bd (k + k) (leastR x y u v) := by
  unfold leastR
  repeat' split
  all_goals first | exact hx.mul hu | exact hy.mul hu | exact hx.mul hv | exact hy.mul hv
theorem p_rGreatest {k : Nat} {x y u v : Dyadic} (hx : Bd k x) (hy : Bd k y) (hu : Bd k u) (hv : Bd k v) (hk : k ≤ 33000000) : PC Tryz.prog 110 [VA x, VA y, VA u, VA v] fun d => d = VA (- leastR (-y) (-x) u v) := by
  have tx := p_rTurned (d := x)
  have ty := p_rTurned (d := y)
  have pL := p_rLeast hy.neg hx.neg hu hv hk
  have tl := p_rTurned (d := leastR (-y) (-x) u v)
  unfold VA at *
  have d1 := @dl 1 qI6_110_1
  refine PB (rs := [.cell 8 73]) Tryz.func110 ?_
  exact Wk
end Go.V

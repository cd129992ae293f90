/- The document's intervals over values as data: quotients, the four operations. The document's intervals over values as data: sums, differences, products, quotients. -/
import Derived.Test.YtkjjmhdlcebnnaaGreatDoorZIC
set_option linter.unusedSimpArgs false
set_option linter.unusedVariables false
set_option maxRecDepth 100000
namespace Go.V
open Go Go.RowKit Go.Proofs
def qI13_108_2 : List (Nat × Nat) := [(0, 1), (2, 2), (4, 2), (6, 2), (1, 4), (3, 4), (5, 4), (7, 3), (8, 3), (9, 3), (10, 3), (11, 3)]
def qI13_108_3 : PT := (.lin [(0, 2)] (.fork3 1 4 (.lin [] (.mix [] [2, 3] (.lin [(4, 3), (5, 3)] .nil))) 2 4 (.lin [] (.fork 1 4 (.lin [(3, 4), (4, 3), (5, 3)] .nil) 3 4 (.lin [] (.fork 1 4 (.lin [(4, 3), (5, 3)] .nil) 4 3 (.lin [(1, 4), (5, 3)] .nil))))) 3 4 (.lin [] (.fork 1 4 (.lin [(2, 4), (4, 3), (5, 3)] .nil) 2 4 (.lin [] (.fork 1 4 (.lin [(4, 3), (5, 3)] .nil) 4 3 (.lin [(1, 4), (5, 3)] .nil)))))))
def qI13_108_8 : List (Nat × Nat) := [(0, 1), (1, 1), (2, 0), (4, 2), (5, 2), (6, 0), (3, 4), (7, 3), (8, 3), (9, 0), (10, 0), (11, 3), (12, 0)]
attribute [go_sem] qI13_108_2 qI13_108_3 qI13_108_8
theorem quo3 {x y u v : Dyadic} {p : Nat} (ox : OkD x) (oy : OkD y) (ou : OkD u) (ov : OkD v) (hu : u ≠ 0) (hv : v ≠ 0) (hp1 : 1 ≤ p) (hp : p ≤ 256) :
    (PC Tryz.prog 145 [VA x, VA (if x < 0 then u else v), i64 p, bl false] fun r => r = VA (qlo p x u v)) ∧ (PC Tryz.prog 145 [VA y, VA (if y < 0 then v else u), i64 p, bl true] fun r => r = VA (qhi p y u v)) ∧
    (PC Tryz.prog 72 [VA (qlo p x u v), VA (qhi p y u v)] fun d => d = IE (qoI p x y u v)) := by
  have h1 : OkD (if x < 0 then u else v) ∧ (if x < 0 then u else v) ≠ 0 := by split <;> exact ⟨by assumption, by assumption⟩
  have h2 : OkD (if y < 0 then v else u) ∧ (if y < 0 then v else u) ≠ 0 := by split <;> exact ⟨by assumption, by assumption⟩
  exact ⟨p_rRatio ox h1.1 h1.2 hp, p_rRatio oy h2.1 h2.2 hp, p_rEnds (rd_bd (quo_bd ox h1.1 hp) hp1) (rd_bd (quo_bd oy h2.1 hp) hp1) (by omega)⟩
theorem neg_ne {a : Dyadic} (h : a ≠ 0) : -a ≠ 0 := by grind
set_option maxHeartbeats 2000000 in
theorem p_rQuot {x y u v : Dyadic} {p : Nat} (ox : OkD x) (oy : OkD y) (ou : OkD u) (ov : OkD v) (hu : u ≠ 0) (hv : v ≠ 0) (hp1 : 1 ≤ p) (hp : p ≤ 256) :
    PC Tryz.prog 108 [VA x, VA y, VA u, VA v, i64 p] fun d => d = IE (if v < 0 then qoI p (-y) (-x) (-v) (-u) else qoI p x y u v) := by
  have sV := p_rSign (d := v)
  have kV : (sgnD v < 0) = (v < 0) := sgnD_lt0
  by_cases h : v < 0
  · rw [if_pos h]
    rw [eq_true h] at kV
    obtain ⟨c1, c2, c3⟩ := quo3 (neg_ok oy) (neg_ok ox) (neg_ok ov) (neg_ok ou) (neg_ne hv) (neg_ne hu) hp1 hp
    have tX := p_rTurned (d := x)
    have tY := p_rTurned (d := y)
    have tU := p_rTurned (d := u)
    have tV := p_rTurned (d := v)
    have sX := p_rSign (d := -y)
    have sY := p_rSign (d := -x)
    have kX : (sgnD (-y) < 0) = (-y < 0) := sgnD_lt0
    have kY : (sgnD (-x) < 0) = (-x < 0) := sgnD_lt0
    generalize sgnD v = gv at *
    generalize sgnD (-y) = gx at *
    generalize sgnD (-x) = gy at *
    generalize hq : qoI p (-y) (-x) (-v) (-u) = q at *
    obtain ⟨⟨⟨n1, e1, w1⟩, ⟨n2, e2, w2⟩⟩, r⟩ := q
    generalize qlo p (-y) (-v) (-u) = l at *
    generalize qhi p (-x) (-v) (-u) = m at *
    by_cases hx : -y < 0 <;> by_cases hy : -x < 0 <;> simp only [hx, hy, if_true, if_false] at c1 c2 kX kY
    all_goals unfold VA at *
    · have d1 := @dl 2 qI13_108_2
      have d2 := @dr 3 qI13_108_3
      have d3 := @dl 8 qI13_108_8
      refine PB (rs := [.cell 10 26, .tmp 11]) Tryz.func108 ?_
      have ft := And.intro kV (And.intro kX kY)
      exact Wk
    · have d1 := @dl 2 qI13_108_2
      have d2 := @dr 3 qI13_108_3
      have d3 := @dl 8 qI13_108_8
      refine PB (rs := [.cell 10 26, .tmp 11]) Tryz.func108 ?_
      have ft := And.intro kV (And.intro kX kY)
      exact Wk
    · have d1 := @dl 2 qI13_108_2
      have d2 := @dr 3 qI13_108_3
      have d3 := @dl 8 qI13_108_8
      refine PB (rs := [.cell 10 26, .tmp 11]) Tryz.func108 ?_
      have ft := And.intro kV (And.intro kX kY)
      exact Wk
    · have d1 := @dl 2 qI13_108_2
      have d2 := @dr 3 qI13_108_3
      have d3 := @dl 8 qI13_108_8
      refine PB (rs := [.cell 10 26, .tmp 11]) Tryz.func108 ?_
      have ft := And.intro kV (And.intro kX kY)
      exact Wk
  · rw [if_neg h]
    rw [eq_false h] at kV
    obtain ⟨c1, c2, c3⟩ := quo3 ox oy ou ov hu hv hp1 hp
    have sX := p_rSign (d := x)
    have sY := p_rSign (d := y)
    have kX : (sgnD x < 0) = (x < 0) := sgnD_lt0
    have kY : (sgnD y < 0) = (y < 0) := sgnD_lt0
    generalize sgnD v = gv at *
    generalize sgnD x = gx at *
    generalize sgnD y = gy at *
    generalize hq : qoI p x y u v = q at *
    obtain ⟨⟨⟨n1, e1, w1⟩, ⟨n2, e2, w2⟩⟩, r⟩ := q
    generalize qlo p x u v = l at *
    generalize qhi p y u v = m at *
    by_cases hx : x < 0 <;> by_cases hy : y < 0 <;> simp only [hx, hy, if_true, if_false] at c1 c2 kX kY
    all_goals unfold VA at *
    · have d1 := @dl 2 qI13_108_2
      have d2 := @dr 3 qI13_108_3
      have d3 := @dl 8 qI13_108_8
      refine PB (rs := [.cell 10 26, .tmp 11]) Tryz.func108 ?_
      have ft := And.intro kV (And.intro kX kY)
      exact Wk
    · have d1 := @dl 2 qI13_108_2
      have d2 := @dr 3 qI13_108_3
      have d3 := @dl 8 qI13_108_8
      refine PB (rs := [.cell 10 26, .tmp 11]) Tryz.func108 ?_
      have ft := And.intro kV (And.intro kX kY)
      exact Wk
    · have d1 := @dl 2 qI13_108_2
      have d2 := @dr 3 qI13_108_3
      have d3 := @dl 8 qI13_108_8
      refine PB (rs := [.cell 10 26, .tmp 11]) Tryz.func108 ?_
      have ft := And.intro kV (And.intro kX kY)
      exact Wk
    · have d1 := @dl 2 qI13_108_2
      have d2 := @dr 3 qI13_108_3
      have d3 := @dl 8 qI13_108_8
      refine PB (rs := [.cell 10 26, .tmp 11]) Tryz.func108 ?_
      have ft := And.intro kV (And.intro kX kY)
      exact Wk
end Go.V
namespace Go.V
open Go Go.RowKit Go.Proofs
def qI14_52_5 : PT := (.lin [(0, 0), (1, 2), (3, 0), (4, 2), (6, 0), (7, 2), (9, 0), (10, 2)] (.mix [2, 5, 8, 11] [12, 13, 14, 15] (.lin [(16, 3), (17, 3), (18, 3), (19, 3)] .nil)))
def qI14_52_8 : List (Nat × Nat) := [(0, 1), (1, 1), (3, 0), (5, 2), (6, 2), (8, 0), (2, 4), (4, 4), (7, 3), (9, 3), (10, 3), (11, 0), (12, 0), (13, 3), (14, 0)]
def qI14_52_10 : List (Nat × Nat) := [(0, 1), (1, 1), (3, 0), (5, 2), (6, 2), (8, 0), (2, 4), (4, 4), (7, 3), (9, 3), (10, 3), (11, 0), (12, 0), (13, 3), (14, 0)]
def qI14_52_13 : PT := (.lin [(0, 2), (1, 2), (2, 2), (3, 2), (5, 2), (6, 2), (7, 2), (8, 2)] (.mix [4, 9] [10, 11] (.lin [(12, 3), (13, 3)] .nil)))
def qI14_52_14 : List (Nat × Nat) := [(0, 1), (1, 0), (3, 2), (4, 0), (2, 4), (5, 3), (6, 3), (7, 0), (8, 0), (9, 3), (10, 0)]
attribute [go_sem] qI14_52_5 qI14_52_8 qI14_52_10 qI14_52_13 qI14_52_14
theorem p_rOpNo {k : Nat} {n : Int} {a b : Iv} {p : Int} (ha : Wi k a) (hb : Wi k b) (h : (rightI a && rightI b && okP p) = false) : PC Tryz.prog 52 [i64 n, IV a, IV b, i64 p] fun d => d = IE (iv0, 1) := by
  have pA := p_rRightIv ha
  have pB := p_rRightIv hb
  have pP := p_precs (p := p)
  generalize rightI a = r at *
  generalize rightI b = s at *
  generalize okP p = t at *
  obtain ⟨⟨n1, e1, w1⟩, ⟨n2, e2, w2⟩⟩ := a
  obtain ⟨⟨n3, e3, w3⟩, ⟨n4, e4, w4⟩⟩ := b
  cases r
  · have d1 := @dr 5 qI14_52_5
    have d2 := @dl 8 qI14_52_8
    have d3 := @dl 10 qI14_52_10
    have d4 := @dr 13 qI14_52_13
    have d5 := @dl 14 qI14_52_14
    refine PB (rs := [.cell 8 26, .tmp 9]) Tryz.func52 ?_
    exact Wk
  · cases s
    · have d1 := @dr 5 qI14_52_5
      have d2 := @dl 8 qI14_52_8
      have d3 := @dl 10 qI14_52_10
      have d4 := @dr 13 qI14_52_13
      have d5 := @dl 14 qI14_52_14
      refine PB (rs := [.cell 8 26, .tmp 9]) Tryz.func52 ?_
      exact Wk
    · cases t
      · have d1 := @dr 5 qI14_52_5
        have d2 := @dl 8 qI14_52_8
        have d3 := @dl 10 qI14_52_10
        have d4 := @dr 13 qI14_52_13
        have d5 := @dl 14 qI14_52_14
        refine PB (rs := [.cell 8 26, .tmp 9]) Tryz.func52 ?_
        exact Wk
      · cases h
set_option maxHeartbeats 2000000 in
theorem p_rOpS {k : Nat} {a b : Iv} {p : Int} (ha : Wi k a) (hb : Wi k b) : PC Tryz.prog 52 [i64 0, IV a, IV b, i64 p] fun d => d = IE (opI a b p (a.lo.val + b.lo.val) (a.hi.val + b.hi.val)) := by
  by_cases h : (rightI a && rightI b && okP p) = true
  · have pA := p_rRightIv ha
    have pB := p_rRightIv hb
    have pP := p_precs (p := p)
    unfold opI
    rw [if_pos h]
    rw [Bool.and_eq_true, Bool.and_eq_true] at h
    rw [h.1.1] at pA; rw [h.1.2] at pB; rw [h.2] at pP
    obtain ⟨m, rfl, h8, h256⟩ := okP_nat h.2
    obtain ⟨x, y, ox, oy, hxy, rfl⟩ := rightI_is ha h.1.1
    obtain ⟨u, v, ou, ov, huv, rfl⟩ := rightI_is hb h.1.2
    have o1 := p_rOf ox; have o2 := p_rOf oy; have o3 := p_rOf ou; have o4 := p_rOf ov
    have pl := p_rPlus ox.bd ou.bd (by decide)
    have ph := p_rPlus oy.bd ov.bd (by decide)
    have bl := ox.bd.add ou.bd
    have bh := oy.bd.add ov.bd
    have rl := p_rRound (p := m) (up := false) bl (by decide) (by omega)
    have rh := p_rRound (p := m) (up := true) bh (by decide) (by omega)
    have pE := p_rEnds (rd_bd (p := m) (up := false) bl (by omega)) (rd_bd (p := m) (up := true) bh (by omega)) (by omega)
    rw [← outR_end] at pE
    simp only [ivD, val_nuOf, Int.toNat_natCast] at *
    generalize outR m (x + u) (y + v) = q at *
    obtain ⟨⟨⟨n5, e5, w5⟩, ⟨n6, e6, w6⟩⟩, r⟩ := q
    generalize rd m false (x + u) = l at *
    generalize rd m true (y + v) = g at *
    generalize x + u = xu at *
    generalize y + v = yv at *
    unfold VA at *
    have d1 := @dr 5 qI14_52_5
    have d2 := @dl 8 qI14_52_8
    have d3 := @dl 10 qI14_52_10
    have d4 := @dr 13 qI14_52_13
    have d5 := @dl 14 qI14_52_14
    refine PB (rs := [.cell 8 26, .tmp 9]) Tryz.func52 ?_
    exact Wk
  · rw [Bool.not_eq_true] at h
    unfold opI
    rw [h]
    exact p_rOpNo ha hb h
set_option maxHeartbeats 2000000 in
theorem p_rOpD {k : Nat} {a b : Iv} {p : Int} (ha : Wi k a) (hb : Wi k b) : PC Tryz.prog 52 [i64 1, IV a, IV b, i64 p] fun d => d = IE (opI a b p (a.lo.val - b.hi.val) (a.hi.val - b.lo.val)) := by
  by_cases h : (rightI a && rightI b && okP p) = true
  · have pA := p_rRightIv ha
    have pB := p_rRightIv hb
    have pP := p_precs (p := p)
    unfold opI
    rw [if_pos h]
    rw [Bool.and_eq_true, Bool.and_eq_true] at h
    rw [h.1.1] at pA; rw [h.1.2] at pB; rw [h.2] at pP
    obtain ⟨m, rfl, h8, h256⟩ := okP_nat h.2
    obtain ⟨x, y, ox, oy, hxy, rfl⟩ := rightI_is ha h.1.1
    obtain ⟨u, v, ou, ov, huv, rfl⟩ := rightI_is hb h.1.2
    have o1 := p_rOf ox; have o2 := p_rOf oy; have o3 := p_rOf ou; have o4 := p_rOf ov
    have pl := p_rLess ox.bd ov.bd (by decide)
    have ph := p_rLess oy.bd ou.bd (by decide)
    have bl := ox.bd.sub ov.bd
    have bh := oy.bd.sub ou.bd
    have rl := p_rRound (p := m) (up := false) bl (by decide) (by omega)
    have rh := p_rRound (p := m) (up := true) bh (by decide) (by omega)
    have pE := p_rEnds (rd_bd (p := m) (up := false) bl (by omega)) (rd_bd (p := m) (up := true) bh (by omega)) (by omega)
    rw [← outR_end] at pE
    simp only [ivD, val_nuOf, Int.toNat_natCast] at *
    generalize outR m (x - v) (y - u) = q at *
    obtain ⟨⟨⟨n5, e5, w5⟩, ⟨n6, e6, w6⟩⟩, r⟩ := q
    generalize rd m false (x - v) = l at *
    generalize rd m true (y - u) = g at *
    generalize x - v = xu at *
    generalize y - u = yv at *
    unfold VA at *
    have d1 := @dr 5 qI14_52_5
    have d2 := @dl 8 qI14_52_8
    have d3 := @dl 10 qI14_52_10
    have d4 := @dr 13 qI14_52_13
    have d5 := @dl 14 qI14_52_14
    refine PB (rs := [.cell 8 26, .tmp 9]) Tryz.func52 ?_
    exact Wk
  · rw [Bool.not_eq_true] at h
    unfold opI
    rw [h]
    exact p_rOpNo ha hb h
set_option maxHeartbeats 2000000 in
theorem p_rOpP {k : Nat} {a b : Iv} {p : Int} (ha : Wi k a) (hb : Wi k b) : PC Tryz.prog 52 [i64 2, IV a, IV b, i64 p] fun d => d = IE (opI a b p (minP a.lo.val a.hi.val b.lo.val b.hi.val) (maxP a.lo.val a.hi.val b.lo.val b.hi.val)) := by
  by_cases h : (rightI a && rightI b && okP p) = true
  · have pA := p_rRightIv ha
    have pB := p_rRightIv hb
    have pP := p_precs (p := p)
    unfold opI
    rw [if_pos h]
    rw [Bool.and_eq_true, Bool.and_eq_true] at h
    rw [h.1.1] at pA; rw [h.1.2] at pB; rw [h.2] at pP
    obtain ⟨m, rfl, h8, h256⟩ := okP_nat h.2
    obtain ⟨x, y, ox, oy, hxy, rfl⟩ := rightI_is ha h.1.1
    obtain ⟨u, v, ou, ov, huv, rfl⟩ := rightI_is hb h.1.2
    have o1 := p_rOf ox; have o2 := p_rOf oy; have o3 := p_rOf ou; have o4 := p_rOf ov
    have pl := p_rLeast ox.bd oy.bd ou.bd ov.bd (by decide)
    have ph := p_rGreatest ox.bd oy.bd ou.bd ov.bd (by decide)
    have bl := leastR_bd ox.bd oy.bd ou.bd ov.bd
    have bh := (leastR_bd oy.bd.neg ox.bd.neg ou.bd ov.bd).neg
    rw [leastR_eq hxy huv] at pl bl
    rw [greatR_eq hxy huv] at ph bh
    have rl := p_rRound (p := m) (up := false) bl (by decide) (by omega)
    have rh := p_rRound (p := m) (up := true) bh (by decide) (by omega)
    have pE := p_rEnds (rd_bd (p := m) (up := false) bl (by omega)) (rd_bd (p := m) (up := true) bh (by omega)) (by omega)
    rw [← outR_end] at pE
    simp only [ivD, val_nuOf, Int.toNat_natCast] at *
    generalize outR m (minP x y u v) (maxP x y u v) = q at *
    obtain ⟨⟨⟨n5, e5, w5⟩, ⟨n6, e6, w6⟩⟩, r⟩ := q
    generalize rd m false (minP x y u v) = l at *
    generalize rd m true (maxP x y u v) = g at *
    generalize minP x y u v = xu at *
    generalize maxP x y u v = yv at *
    unfold VA at *
    have d1 := @dr 5 qI14_52_5
    have d2 := @dl 8 qI14_52_8
    have d3 := @dl 10 qI14_52_10
    have d4 := @dr 13 qI14_52_13
    have d5 := @dl 14 qI14_52_14
    refine PB (rs := [.cell 8 26, .tmp 9]) Tryz.func52 ?_
    exact Wk
  · rw [Bool.not_eq_true] at h
    unfold opI
    rw [h]
    exact p_rOpNo ha hb h
set_option maxHeartbeats 2000000 in
theorem p_rOpQ {k : Nat} {a b : Iv} {p : Int} (ha : Wi k a) (hb : Wi k b) : PC Tryz.prog 52 [i64 3, IV a, IV b, i64 p] fun d => d = IE (dvI a b p) := by
  by_cases h : (rightI a && rightI b && okP p) = true
  · have pA := p_rRightIv ha
    have pB := p_rRightIv hb
    have pP := p_precs (p := p)
    have pH := p_rHas (x := nu0) hb (by intro x hx; cases hx)
    unfold dvI
    rw [if_pos h]
    rw [Bool.and_eq_true, Bool.and_eq_true] at h
    rw [h.1.1] at pA; rw [h.1.2] at pB; rw [h.2] at pP
    unfold hasR at pH
    rw [h.1.2] at pH
    obtain ⟨m, rfl, h8, h256⟩ := okP_nat h.2
    obtain ⟨x, y, ox, oy, hxy, rfl⟩ := rightI_is ha h.1.1
    obtain ⟨u, v, ou, ov, huv, rfl⟩ := rightI_is hb h.1.2
    rw [show rightB nu0 = true from rfl, show nu0.val = 0 from rfl, Bool.true_and, Bool.true_and] at pH
    simp only [ivD, val_nuOf, Int.toNat_natCast] at *
    have o1 := p_rOf ox; have o2 := p_rOf oy; have o3 := p_rOf ou; have o4 := p_rOf ov
    by_cases hz : u ≤ 0 ∧ 0 ≤ v
    · rw [if_pos hz]
      rw [decide_eq_true hz.1, decide_eq_true hz.2] at pH
      unfold nu0 at pH
      have d1 := @dr 5 qI14_52_5
      have d2 := @dl 8 qI14_52_8
      have d3 := @dl 10 qI14_52_10
      have d4 := @dr 13 qI14_52_13
      have d5 := @dl 14 qI14_52_14
      refine PB (rs := [.cell 8 26, .tmp 9]) Tryz.func52 ?_
      exact Wk
    · rw [if_neg hz]
      have hf : (decide (u ≤ 0) && decide (0 ≤ v)) = false := by
        by_cases h1 : u ≤ 0
        · rw [decide_eq_true h1, decide_eq_false (fun h2 => hz ⟨h1, h2⟩)]; rfl
        · rw [decide_eq_false h1]; rfl
      rw [hf] at pH
      have pQ := p_rQuot (p := m) ox oy ou ov (by rintro rfl; exact hz ⟨by grind, by grind⟩) (by rintro rfl; exact hz ⟨by grind, by grind⟩) (by omega) h256
      have hc : (v < 0) = (u < 0) := by
        apply propext
        constructor
        · intro h; grind
        · intro h
          by_cases h2 : 0 ≤ v
          · exact absurd ⟨by grind, h2⟩ hz
          · grind
      simp only [hc] at pQ
      generalize (if u < 0 then qoI m (-y) (-x) (-v) (-u) else qoI m x y u v) = q at *
      obtain ⟨⟨⟨n5, e5, w5⟩, ⟨n6, e6, w6⟩⟩, r⟩ := q
      unfold VA at *
      unfold nu0 at pH
      have d1 := @dr 5 qI14_52_5
      have d2 := @dl 8 qI14_52_8
      have d3 := @dl 10 qI14_52_10
      have d4 := @dr 13 qI14_52_13
      have d5 := @dl 14 qI14_52_14
      refine PB (rs := [.cell 8 26, .tmp 9]) Tryz.func52 ?_
      exact Wk
  · rw [Bool.not_eq_true] at h
    unfold dvI
    rw [h]
    exact p_rOpNo ha hb h
end Go.V

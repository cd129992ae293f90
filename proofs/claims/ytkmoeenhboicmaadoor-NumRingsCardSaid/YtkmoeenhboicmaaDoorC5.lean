/- Numbers over values as data: the document's values: differences, order, right numbers. -/
import Derived.Test.YtkmoeenhboicmaaDoorC4
set_option linter.unusedSimpArgs false
set_option linter.unusedVariables false
set_option maxRecDepth 100000
namespace Go.V
open Go Go.RowKit Go.Proofs

theorem p_rLess {k : Nat} {a b : Dyadic} (ha : Bd k a) (hb : Bd k b) (hk : k ≤ 67108864) : PC Tryd.prog 72 [VA a, VA b] fun r => r = VA (a - b) := by
  have e : a - b = a + -b := by grind
  have pT := p_rTurned (d := b)
  have pP := p_rPlus ha hb.neg hk
  rw [e]
  unfold VA at *
  refine PC.body (args := [.agg [bl (fS a), W32 (D32 (fN a)), i64 (fE a)], .agg [bl (fS b), W32 (D32 (fN b)), i64 (fE b)]]) (rs := [.cell 4 36]) mixed Tryd.func72 rfl (by kernel_rfl) (by kernel_rfl) (Nat.le_of_ble_eq_true rfl) rfl ?_
  repeat (first | (with_reducible refine pv_seq fun K hK => ?_) | (with_reducible refine pv_reg ?_; simp -implicitDefEqProofs only [cmpB]) | (with_reducible refine pv_draw (id := 1) [(0, 2), (1, 1), (2, 4), (3, 3), (4, 3)] (by kernel_rfl) ?_; simp -implicitDefEqProofs only [cmpB]) | ((with_reducible first | refine hK _ _ ?_ | (clear hK; refine hK _ _ ?_) | (clear hK; clear hK; refine hK _ _ ?_)); clear hK; try clear K) | (simp -implicitDefEqProofs only [true_and, true_and, go_sem, seval]) | (with_reducible intro b) | (with_reducible refine And.intro ?_ ?_; · first | assumption | omega | (unfold R64; omega)))
  refine ExtC_is ?_
  simp -implicitDefEqProofs only [true_and, true_and, go_sem, seval]
  refine ext_is pT ?_
  repeat (first | (with_reducible refine pv_seq fun K hK => ?_) | (with_reducible refine pv_reg ?_; simp -implicitDefEqProofs only [cmpB]) | (with_reducible refine pv_draw (id := 1) [(0, 2), (1, 1), (2, 4), (3, 3), (4, 3)] (by kernel_rfl) ?_; simp -implicitDefEqProofs only [cmpB]) | ((with_reducible first | refine hK _ _ ?_ | (clear hK; refine hK _ _ ?_) | (clear hK; clear hK; refine hK _ _ ?_)); clear hK; try clear K) | (simp -implicitDefEqProofs only [true_and, true_and, go_sem, seval]) | (with_reducible intro b) | (with_reducible refine And.intro ?_ ?_; · first | assumption | omega | (unfold R64; omega)))
  refine call_is pP ?_
  repeat (first | (with_reducible refine pv_seq fun K hK => ?_) | (with_reducible refine pv_reg ?_; simp -implicitDefEqProofs only [cmpB]) | (with_reducible refine pv_draw (id := 1) [(0, 2), (1, 1), (2, 4), (3, 3), (4, 3)] (by kernel_rfl) ?_; simp -implicitDefEqProofs only [cmpB]) | ((with_reducible first | refine hK _ _ ?_ | (clear hK; refine hK _ _ ?_) | (clear hK; clear hK; refine hK _ _ ?_)); clear hK; try clear K) | (simp -implicitDefEqProofs only [true_and, true_and, go_sem, seval]) | (with_reducible intro b) | (with_reducible refine And.intro ?_ ?_; · first | assumption | omega | (unfold R64; omega)))

theorem p_rOrder {k : Nat} {a b : Dyadic} (ha : Bd k a) (hb : Bd k b) (hk : k ≤ 67108864) : PC Tryd.prog 55 [VA a, VA b] fun r => r = i64 (cmpD a b) := by
  have pL := p_rLess ha hb hk
  have pS := p_rSign (d := a - b)
  rw [cmpD_sub]
  unfold VA at *
  refine PC.body (args := [.agg [bl (fS a), W32 (D32 (fN a)), i64 (fE a)], .agg [bl (fS b), W32 (D32 (fN b)), i64 (fE b)]]) (rs := [.tmp 4]) mixed Tryd.func55 rfl (by kernel_rfl) (by kernel_rfl) (Nat.le_of_ble_eq_true rfl) rfl ?_
  repeat (first | (with_reducible refine pv_seq fun K hK => ?_) | (with_reducible refine pv_reg ?_; simp -implicitDefEqProofs only [cmpB]) | (fail) | ((with_reducible first | refine hK _ _ ?_ | (clear hK; refine hK _ _ ?_) | (clear hK; clear hK; refine hK _ _ ?_)); clear hK; try clear K) | (simp -implicitDefEqProofs only [true_and, true_and, go_sem, seval]) | (with_reducible intro b) | (with_reducible refine And.intro ?_ ?_; · first | assumption | omega | (unfold R64; omega)))
  refine call_is pL ?_
  repeat (first | (with_reducible refine pv_seq fun K hK => ?_) | (with_reducible refine pv_reg ?_; simp -implicitDefEqProofs only [cmpB]) | (fail) | ((with_reducible first | refine hK _ _ ?_ | (clear hK; refine hK _ _ ?_) | (clear hK; clear hK; refine hK _ _ ?_)); clear hK; try clear K) | (simp -implicitDefEqProofs only [true_and, true_and, go_sem, seval]) | (with_reducible intro b) | (with_reducible refine And.intro ?_ ?_; · first | assumption | omega | (unfold R64; omega)))
  refine call_is pS ?_
  repeat (first | (with_reducible refine pv_seq fun K hK => ?_) | (with_reducible refine pv_reg ?_; simp -implicitDefEqProofs only [cmpB]) | (fail) | ((with_reducible first | refine hK _ _ ?_ | (clear hK; refine hK _ _ ?_) | (clear hK; clear hK; refine hK _ _ ?_)); clear hK; try clear K) | (simp -implicitDefEqProofs only [true_and, true_and, go_sem, seval]) | (with_reducible intro b) | (with_reducible refine And.intro ?_ ?_; · first | assumption | omega | (unfold R64; omega)))

theorem p_rCmpNum {x y : Nu} (hx : B64 x.w) (hy : B64 y.w) : PC Tryd.prog 31 [NU x, NU y] fun d => d = i64 (if rightB x && rightB y then cmpD x.val y.val else 0) := by
  have pX := p_rRight hx
  have pY := p_rRight hy
  by_cases h : (rightB x && rightB y) = true
  · rw [if_pos h]
    rw [Bool.and_eq_true] at h
    rw [h.1] at pX
    rw [h.2] at pY
    obtain ⟨a, ha, rfl⟩ := right_is hx h.1
    obtain ⟨b, hb, rfl⟩ := right_is hy h.2
    rw [val_nuOf, val_nuOf]
    have pA := p_rOf ha
    have pB := p_rOf hb
    have pO := p_rOrder ha.bd hb.bd (by decide)
    generalize nuOf a = x at *
    generalize nuOf b = y at *
    obtain ⟨neg, exp, w⟩ := x
    obtain ⟨neg', exp', w'⟩ := y
    refine PC.body (args := [NU ⟨neg, exp, w⟩, NU ⟨neg', exp', w'⟩]) (rs := [.tmp 4]) mixed Tryd.func31 rfl (by kernel_rfl) (by kernel_rfl) (Nat.le_of_ble_eq_true rfl) rfl ?_
    repeat (first | (with_reducible refine pv_seq fun K hK => ?_) | (with_reducible refine pv_reg ?_; simp -implicitDefEqProofs only [cmpB]) | (with_reducible refine pv_draw (id := 3) [(0, 1), (2, 2), (1, 4), (3, 3), (4, 3), (5, 0)] (by kernel_rfl) ?_; simp -implicitDefEqProofs only [cmpB]) | ((with_reducible first | refine hK _ _ ?_ | (clear hK; refine hK _ _ ?_) | (clear hK; clear hK; refine hK _ _ ?_)); clear hK; try clear K) | (simp -implicitDefEqProofs only [true_and, true_and, go_sem, seval]) | (with_reducible intro b) | (with_reducible refine And.intro ?_ ?_; · first | assumption | omega | (unfold R64; omega)))
    refine call_is pX ?_
    repeat (first | (with_reducible refine pv_seq fun K hK => ?_) | (with_reducible refine pv_reg ?_; simp -implicitDefEqProofs only [cmpB]) | (with_reducible refine pv_draw (id := 3) [(0, 1), (2, 2), (1, 4), (3, 3), (4, 3), (5, 0)] (by kernel_rfl) ?_; simp -implicitDefEqProofs only [cmpB]) | ((with_reducible first | refine hK _ _ ?_ | (clear hK; refine hK _ _ ?_) | (clear hK; clear hK; refine hK _ _ ?_)); clear hK; try clear K) | (simp -implicitDefEqProofs only [true_and, true_and, go_sem, seval]) | (with_reducible intro b) | (with_reducible refine And.intro ?_ ?_; · first | assumption | omega | (unfold R64; omega)))
    refine call_is pY ?_
    repeat (first | (with_reducible refine pv_seq fun K hK => ?_) | (with_reducible refine pv_reg ?_; simp -implicitDefEqProofs only [cmpB]) | (with_reducible refine pv_draw (id := 3) [(0, 1), (2, 2), (1, 4), (3, 3), (4, 3), (5, 0)] (by kernel_rfl) ?_; simp -implicitDefEqProofs only [cmpB]) | ((with_reducible first | refine hK _ _ ?_ | (clear hK; refine hK _ _ ?_) | (clear hK; clear hK; refine hK _ _ ?_)); clear hK; try clear K) | (simp -implicitDefEqProofs only [true_and, true_and, go_sem, seval]) | (with_reducible intro b) | (with_reducible refine And.intro ?_ ?_; · first | assumption | omega | (unfold R64; omega)))
    refine ExtC_is ?_
    simp -implicitDefEqProofs only [true_and, true_and, go_sem, seval]
    refine ext_is pA ?_
    repeat (first | (with_reducible refine pv_seq fun K hK => ?_) | (with_reducible refine pv_reg ?_; simp -implicitDefEqProofs only [cmpB]) | (with_reducible refine pv_draw (id := 3) [(0, 1), (2, 2), (1, 4), (3, 3), (4, 3), (5, 0)] (by kernel_rfl) ?_; simp -implicitDefEqProofs only [cmpB]) | ((with_reducible first | refine hK _ _ ?_ | (clear hK; refine hK _ _ ?_) | (clear hK; clear hK; refine hK _ _ ?_)); clear hK; try clear K) | (simp -implicitDefEqProofs only [true_and, true_and, go_sem, seval]) | (with_reducible intro b) | (with_reducible refine And.intro ?_ ?_; · first | assumption | omega | (unfold R64; omega)))
    refine call_is pB ?_
    repeat (first | (with_reducible refine pv_seq fun K hK => ?_) | (with_reducible refine pv_reg ?_; simp -implicitDefEqProofs only [cmpB]) | (with_reducible refine pv_draw (id := 3) [(0, 1), (2, 2), (1, 4), (3, 3), (4, 3), (5, 0)] (by kernel_rfl) ?_; simp -implicitDefEqProofs only [cmpB]) | ((with_reducible first | refine hK _ _ ?_ | (clear hK; refine hK _ _ ?_) | (clear hK; clear hK; refine hK _ _ ?_)); clear hK; try clear K) | (simp -implicitDefEqProofs only [true_and, true_and, go_sem, seval]) | (with_reducible intro b) | (with_reducible refine And.intro ?_ ?_; · first | assumption | omega | (unfold R64; omega)))
    refine call_is pO ?_
    repeat (first | (with_reducible refine pv_seq fun K hK => ?_) | (with_reducible refine pv_reg ?_; simp -implicitDefEqProofs only [cmpB]) | (with_reducible refine pv_draw (id := 3) [(0, 1), (2, 2), (1, 4), (3, 3), (4, 3), (5, 0)] (by kernel_rfl) ?_; simp -implicitDefEqProofs only [cmpB]) | ((with_reducible first | refine hK _ _ ?_ | (clear hK; refine hK _ _ ?_) | (clear hK; clear hK; refine hK _ _ ?_)); clear hK; try clear K) | (simp -implicitDefEqProofs only [true_and, true_and, go_sem, seval]) | (with_reducible intro b) | (with_reducible refine And.intro ?_ ?_; · first | assumption | omega | (unfold R64; omega)))
  · rw [if_neg h]
    generalize rightB x = r at *
    generalize rightB y = s at *
    obtain ⟨neg, exp, w⟩ := x
    obtain ⟨neg', exp', w'⟩ := y
    refine PC.body (args := [NU ⟨neg, exp, w⟩, NU ⟨neg', exp', w'⟩]) (rs := [.tmp 4]) mixed Tryd.func31 rfl (by kernel_rfl) (by kernel_rfl) (Nat.le_of_ble_eq_true rfl) rfl ?_
    repeat (first | (with_reducible refine pv_seq fun K hK => ?_) | (with_reducible refine pv_reg ?_; simp -implicitDefEqProofs only [cmpB]) | (with_reducible refine pv_draw (id := 3) [(0, 1), (2, 2), (1, 4), (3, 3), (4, 3), (5, 0)] (by kernel_rfl) ?_; simp -implicitDefEqProofs only [cmpB]) | ((with_reducible first | refine hK _ _ ?_ | (clear hK; refine hK _ _ ?_) | (clear hK; clear hK; refine hK _ _ ?_)); clear hK; try clear K) | (simp -implicitDefEqProofs only [true_and, true_and, go_sem, seval]) | (with_reducible intro b) | (with_reducible refine And.intro ?_ ?_; · first | assumption | omega | (unfold R64; omega)))
    refine call_is pX ?_
    cases r
    · repeat (first | (with_reducible refine pv_seq fun K hK => ?_) | (with_reducible refine pv_reg ?_; simp -implicitDefEqProofs only [cmpB]) | (with_reducible refine pv_draw (id := 3) [(0, 1), (2, 2), (1, 4), (3, 3), (4, 3), (5, 0)] (by kernel_rfl) ?_; simp -implicitDefEqProofs only [cmpB]) | ((with_reducible first | refine hK _ _ ?_ | (clear hK; refine hK _ _ ?_) | (clear hK; clear hK; refine hK _ _ ?_)); clear hK; try clear K) | (simp -implicitDefEqProofs only [true_and, true_and, go_sem, seval]) | (with_reducible intro b) | (with_reducible refine And.intro ?_ ?_; · first | assumption | omega | (unfold R64; omega)))
    · obtain rfl : s = false := by simpa using h
      repeat (first | (with_reducible refine pv_seq fun K hK => ?_) | (with_reducible refine pv_reg ?_; simp -implicitDefEqProofs only [cmpB]) | (with_reducible refine pv_draw (id := 3) [(0, 1), (2, 2), (1, 4), (3, 3), (4, 3), (5, 0)] (by kernel_rfl) ?_; simp -implicitDefEqProofs only [cmpB]) | ((with_reducible first | refine hK _ _ ?_ | (clear hK; refine hK _ _ ?_) | (clear hK; clear hK; refine hK _ _ ?_)); clear hK; try clear K) | (simp -implicitDefEqProofs only [true_and, true_and, go_sem, seval]) | (with_reducible intro b) | (with_reducible refine And.intro ?_ ?_; · first | assumption | omega | (unfold R64; omega)))
      refine call_is pY ?_
      repeat (first | (with_reducible refine pv_seq fun K hK => ?_) | (with_reducible refine pv_reg ?_; simp -implicitDefEqProofs only [cmpB]) | (with_reducible refine pv_draw (id := 3) [(0, 1), (2, 2), (1, 4), (3, 3), (4, 3), (5, 0)] (by kernel_rfl) ?_; simp -implicitDefEqProofs only [cmpB]) | ((with_reducible first | refine hK _ _ ?_ | (clear hK; refine hK _ _ ?_) | (clear hK; clear hK; refine hK _ _ ?_)); clear hK; try clear K) | (simp -implicitDefEqProofs only [true_and, true_and, go_sem, seval]) | (with_reducible intro b) | (with_reducible refine And.intro ?_ ?_; · first | assumption | omega | (unfold R64; omega)))

/-- Sum, difference, product. -/
def exD (n : Int) (a b : Dyadic) : Dyadic := if n = 0 then a + b else if n = 1 then a - b else a * b
theorem p_rExact {k : Nat} {n : Int} {a b : Dyadic} (ha : Bd k a) (hb : Bd k b) (hk : k ≤ 67108864) : PC Tryd.prog 60 [i64 n, VA a, VA b] fun r => r = VA (exD n a b) := by
  have pP := p_rPlus ha hb hk
  have pL := p_rLess ha hb hk
  have pB := p_rBy ha hb (by omega)
  unfold VA at *
  unfold exD
  refine PC.body (args := [i64 n, .agg [bl (fS a), W32 (D32 (fN a)), i64 (fE a)], .agg [bl (fS b), W32 (D32 (fN b)), i64 (fE b)]]) (rs := [.cell 6 36]) mixed Tryd.func60 rfl (by kernel_rfl) (by kernel_rfl) (Nat.le_of_ble_eq_true rfl) rfl ?_
  repeat (first | (with_reducible refine pv_seq fun K hK => ?_) | (with_reducible refine pv_reg ?_; simp -implicitDefEqProofs only [cmpB]) | (fail) | ((with_reducible first | refine hK _ _ ?_ | (clear hK; refine hK _ _ ?_) | (clear hK; clear hK; refine hK _ _ ?_)); clear hK; try clear K) | (simp -implicitDefEqProofs only [true_and, true_and, go_sem, seval]) | (with_reducible intro b) | (with_reducible refine And.intro ?_ ?_; · first | assumption | omega | (unfold R64; omega)))
  refine pv_cdD (fun h1 => ?_) (fun h1 => ?_)
  · repeat (first | (with_reducible refine pv_seq fun K hK => ?_) | (with_reducible refine pv_reg ?_; simp -implicitDefEqProofs only [cmpB]) | (fail) | ((with_reducible first | refine hK _ _ ?_ | (clear hK; refine hK _ _ ?_) | (clear hK; clear hK; refine hK _ _ ?_)); clear hK; try clear K) | (simp -implicitDefEqProofs only [true_and, true_and, go_sem, seval]) | (with_reducible intro b) | (with_reducible refine And.intro ?_ ?_; · first | assumption | omega | (unfold R64; omega)))
    refine call_is pP ?_
    repeat (first | (with_reducible refine pv_seq fun K hK => ?_) | (with_reducible refine pv_reg ?_; simp -implicitDefEqProofs only [cmpB]) | (fail) | ((with_reducible first | refine hK _ _ ?_ | (clear hK; refine hK _ _ ?_) | (clear hK; clear hK; refine hK _ _ ?_)); clear hK; try clear K) | (simp -implicitDefEqProofs only [true_and, true_and, go_sem, seval]) | (with_reducible intro b) | (with_reducible refine And.intro ?_ ?_; · first | assumption | omega | (unfold R64; omega)))
    rw [if_pos h1]
  · repeat (first | (with_reducible refine pv_seq fun K hK => ?_) | (with_reducible refine pv_reg ?_; simp -implicitDefEqProofs only [cmpB]) | (fail) | ((with_reducible first | refine hK _ _ ?_ | (clear hK; refine hK _ _ ?_) | (clear hK; clear hK; refine hK _ _ ?_)); clear hK; try clear K) | (simp -implicitDefEqProofs only [true_and, true_and, go_sem, seval]) | (with_reducible intro b) | (with_reducible refine And.intro ?_ ?_; · first | assumption | omega | (unfold R64; omega)))
    refine pv_cdD (fun h2 => ?_) (fun h2 => ?_)
    · repeat (first | (with_reducible refine pv_seq fun K hK => ?_) | (with_reducible refine pv_reg ?_; simp -implicitDefEqProofs only [cmpB]) | (fail) | ((with_reducible first | refine hK _ _ ?_ | (clear hK; refine hK _ _ ?_) | (clear hK; clear hK; refine hK _ _ ?_)); clear hK; try clear K) | (simp -implicitDefEqProofs only [true_and, true_and, go_sem, seval]) | (with_reducible intro b) | (with_reducible refine And.intro ?_ ?_; · first | assumption | omega | (unfold R64; omega)))
      refine call_is pL ?_
      repeat (first | (with_reducible refine pv_seq fun K hK => ?_) | (with_reducible refine pv_reg ?_; simp -implicitDefEqProofs only [cmpB]) | (fail) | ((with_reducible first | refine hK _ _ ?_ | (clear hK; refine hK _ _ ?_) | (clear hK; clear hK; refine hK _ _ ?_)); clear hK; try clear K) | (simp -implicitDefEqProofs only [true_and, true_and, go_sem, seval]) | (with_reducible intro b) | (with_reducible refine And.intro ?_ ?_; · first | assumption | omega | (unfold R64; omega)))
      rw [if_neg h1, if_pos h2]
    · repeat (first | (with_reducible refine pv_seq fun K hK => ?_) | (with_reducible refine pv_reg ?_; simp -implicitDefEqProofs only [cmpB]) | (fail) | ((with_reducible first | refine hK _ _ ?_ | (clear hK; refine hK _ _ ?_) | (clear hK; clear hK; refine hK _ _ ?_)); clear hK; try clear K) | (simp -implicitDefEqProofs only [true_and, true_and, go_sem, seval]) | (with_reducible intro b) | (with_reducible refine And.intro ?_ ?_; · first | assumption | omega | (unfold R64; omega)))
      refine call_is pB ?_
      repeat (first | (with_reducible refine pv_seq fun K hK => ?_) | (with_reducible refine pv_reg ?_; simp -implicitDefEqProofs only [cmpB]) | (fail) | ((with_reducible first | refine hK _ _ ?_ | (clear hK; refine hK _ _ ?_) | (clear hK; clear hK; refine hK _ _ ?_)); clear hK; try clear K) | (simp -implicitDefEqProofs only [true_and, true_and, go_sem, seval]) | (with_reducible intro b) | (with_reducible refine And.intro ?_ ?_; · first | assumption | omega | (unfold R64; omega)))
      rw [if_neg h1, if_neg h2]
theorem exD_bd {k : Nat} {n : Int} {a b : Dyadic} (ha : Bd k a) (hb : Bd k b) : Bd (4 * k + 1) (exD n a b) := by
  unfold exD; split
  · exact ha.add hb
  · split
    · exact ha.sub hb
    · exact (ha.mul hb).mono (by omega)

theorem p_rStraight {n : Int} {x y : Nu} (hx : B64 x.w) (hy : B64 y.w) : PC Tryd.prog 35 [i64 n, NU x, NU y] fun d => d = NE (opR x y (exD n x.val y.val)) := by
  have pX := p_rRight hx
  have pY := p_rRight hy
  unfold opR
  by_cases h : (rightB x && rightB y) = true
  · rw [if_pos h]
    rw [Bool.and_eq_true] at h
    rw [h.1] at pX
    rw [h.2] at pY
    obtain ⟨a, ha, rfl⟩ := right_is hx h.1
    obtain ⟨b, hb, rfl⟩ := right_is hy h.2
    rw [val_nuOf, val_nuOf]
    have pA := p_rOf ha
    have pB := p_rOf hb
    have pO := p_rExact (n := n) ha.bd hb.bd (by decide)
    have pN := p_rNum (exD_bd (n := n) ha.bd hb.bd) (by decide)
    generalize nuOf a = x at *
    generalize nuOf b = y at *
    obtain ⟨neg, exp, w⟩ := x
    obtain ⟨neg', exp', w'⟩ := y
    refine PC.body (args := [i64 n, NU ⟨neg, exp, w⟩, NU ⟨neg', exp', w'⟩]) (rs := [.cell 6 24, .tmp 7]) mixed Tryd.func35 rfl (by kernel_rfl) (by kernel_rfl) (Nat.le_of_ble_eq_true rfl) rfl ?_
    repeat (first | (with_reducible refine pv_seq fun K hK => ?_) | (with_reducible refine pv_reg ?_; simp -implicitDefEqProofs only [cmpB]) | (with_reducible refine pv_draw (id := 3) [(0, 0), (1, 1), (3, 2), (2, 4), (4, 3), (5, 3), (6, 3), (7, 0), (8, 0), (9, 3), (10, 0)] (by kernel_rfl) ?_; simp -implicitDefEqProofs only [cmpB]) | ((with_reducible first | refine hK _ _ ?_ | (clear hK; refine hK _ _ ?_) | (clear hK; clear hK; refine hK _ _ ?_)); clear hK; try clear K) | (simp -implicitDefEqProofs only [true_and, true_and, go_sem, seval]) | (with_reducible intro b) | (with_reducible refine And.intro ?_ ?_; · first | assumption | omega | (unfold R64; omega)))
    refine call_is pX ?_
    repeat (first | (with_reducible refine pv_seq fun K hK => ?_) | (with_reducible refine pv_reg ?_; simp -implicitDefEqProofs only [cmpB]) | (with_reducible refine pv_draw (id := 3) [(0, 0), (1, 1), (3, 2), (2, 4), (4, 3), (5, 3), (6, 3), (7, 0), (8, 0), (9, 3), (10, 0)] (by kernel_rfl) ?_; simp -implicitDefEqProofs only [cmpB]) | ((with_reducible first | refine hK _ _ ?_ | (clear hK; refine hK _ _ ?_) | (clear hK; clear hK; refine hK _ _ ?_)); clear hK; try clear K) | (simp -implicitDefEqProofs only [true_and, true_and, go_sem, seval]) | (with_reducible intro b) | (with_reducible refine And.intro ?_ ?_; · first | assumption | omega | (unfold R64; omega)))
    refine call_is pY ?_
    repeat (first | (with_reducible refine pv_seq fun K hK => ?_) | (with_reducible refine pv_reg ?_; simp -implicitDefEqProofs only [cmpB]) | (with_reducible refine pv_draw (id := 3) [(0, 0), (1, 1), (3, 2), (2, 4), (4, 3), (5, 3), (6, 3), (7, 0), (8, 0), (9, 3), (10, 0)] (by kernel_rfl) ?_; simp -implicitDefEqProofs only [cmpB]) | ((with_reducible first | refine hK _ _ ?_ | (clear hK; refine hK _ _ ?_) | (clear hK; clear hK; refine hK _ _ ?_)); clear hK; try clear K) | (simp -implicitDefEqProofs only [true_and, true_and, go_sem, seval]) | (with_reducible intro b) | (with_reducible refine And.intro ?_ ?_; · first | assumption | omega | (unfold R64; omega)))
    refine ExtC_is ?_
    simp -implicitDefEqProofs only [true_and, true_and, go_sem, seval]
    refine ext_is pA ?_
    repeat (first | (with_reducible refine pv_seq fun K hK => ?_) | (with_reducible refine pv_reg ?_; simp -implicitDefEqProofs only [cmpB]) | (with_reducible refine pv_draw (id := 3) [(0, 0), (1, 1), (3, 2), (2, 4), (4, 3), (5, 3), (6, 3), (7, 0), (8, 0), (9, 3), (10, 0)] (by kernel_rfl) ?_; simp -implicitDefEqProofs only [cmpB]) | ((with_reducible first | refine hK _ _ ?_ | (clear hK; refine hK _ _ ?_) | (clear hK; clear hK; refine hK _ _ ?_)); clear hK; try clear K) | (simp -implicitDefEqProofs only [true_and, true_and, go_sem, seval]) | (with_reducible intro b) | (with_reducible refine And.intro ?_ ?_; · first | assumption | omega | (unfold R64; omega)))
    refine call_is pB ?_
    repeat (first | (with_reducible refine pv_seq fun K hK => ?_) | (with_reducible refine pv_reg ?_; simp -implicitDefEqProofs only [cmpB]) | (with_reducible refine pv_draw (id := 3) [(0, 0), (1, 1), (3, 2), (2, 4), (4, 3), (5, 3), (6, 3), (7, 0), (8, 0), (9, 3), (10, 0)] (by kernel_rfl) ?_; simp -implicitDefEqProofs only [cmpB]) | ((with_reducible first | refine hK _ _ ?_ | (clear hK; refine hK _ _ ?_) | (clear hK; clear hK; refine hK _ _ ?_)); clear hK; try clear K) | (simp -implicitDefEqProofs only [true_and, true_and, go_sem, seval]) | (with_reducible intro b) | (with_reducible refine And.intro ?_ ?_; · first | assumption | omega | (unfold R64; omega)))
    refine call_is pO ?_
    repeat (first | (with_reducible refine pv_seq fun K hK => ?_) | (with_reducible refine pv_reg ?_; simp -implicitDefEqProofs only [cmpB]) | (with_reducible refine pv_draw (id := 3) [(0, 0), (1, 1), (3, 2), (2, 4), (4, 3), (5, 3), (6, 3), (7, 0), (8, 0), (9, 3), (10, 0)] (by kernel_rfl) ?_; simp -implicitDefEqProofs only [cmpB]) | ((with_reducible first | refine hK _ _ ?_ | (clear hK; refine hK _ _ ?_) | (clear hK; clear hK; refine hK _ _ ?_)); clear hK; try clear K) | (simp -implicitDefEqProofs only [true_and, true_and, go_sem, seval]) | (with_reducible intro b) | (with_reducible refine And.intro ?_ ?_; · first | assumption | omega | (unfold R64; omega)))
    refine call_is pN ?_
    repeat (first | (with_reducible refine pv_seq fun K hK => ?_) | (with_reducible refine pv_reg ?_; simp -implicitDefEqProofs only [cmpB]) | (with_reducible refine pv_draw (id := 3) [(0, 0), (1, 1), (3, 2), (2, 4), (4, 3), (5, 3), (6, 3), (7, 0), (8, 0), (9, 3), (10, 0)] (by kernel_rfl) ?_; simp -implicitDefEqProofs only [cmpB]) | ((with_reducible first | refine hK _ _ ?_ | (clear hK; refine hK _ _ ?_) | (clear hK; clear hK; refine hK _ _ ?_)); clear hK; try clear K) | (simp -implicitDefEqProofs only [true_and, true_and, go_sem, seval]) | (with_reducible intro b) | (with_reducible refine And.intro ?_ ?_; · first | assumption | omega | (unfold R64; omega)))
  · rw [if_neg h]
    generalize rightB x = r at *
    generalize rightB y = s at *
    obtain ⟨neg, exp, w⟩ := x
    obtain ⟨neg', exp', w'⟩ := y
    refine PC.body (args := [i64 n, NU ⟨neg, exp, w⟩, NU ⟨neg', exp', w'⟩]) (rs := [.cell 6 24, .tmp 7]) mixed Tryd.func35 rfl (by kernel_rfl) (by kernel_rfl) (Nat.le_of_ble_eq_true rfl) rfl ?_
    repeat (first | (with_reducible refine pv_seq fun K hK => ?_) | (with_reducible refine pv_reg ?_; simp -implicitDefEqProofs only [cmpB]) | (with_reducible refine pv_draw (id := 3) [(0, 0), (1, 1), (3, 2), (2, 4), (4, 3), (5, 3), (6, 3), (7, 0), (8, 0), (9, 3), (10, 0)] (by kernel_rfl) ?_; simp -implicitDefEqProofs only [cmpB]) | ((with_reducible first | refine hK _ _ ?_ | (clear hK; refine hK _ _ ?_) | (clear hK; clear hK; refine hK _ _ ?_)); clear hK; try clear K) | (simp -implicitDefEqProofs only [true_and, true_and, go_sem, seval]) | (with_reducible intro b) | (with_reducible refine And.intro ?_ ?_; · first | assumption | omega | (unfold R64; omega)))
    refine call_is pX ?_
    cases r
    · repeat (first | (with_reducible refine pv_seq fun K hK => ?_) | (with_reducible refine pv_reg ?_; simp -implicitDefEqProofs only [cmpB]) | (with_reducible refine pv_draw (id := 3) [(0, 0), (1, 1), (3, 2), (2, 4), (4, 3), (5, 3), (6, 3), (7, 0), (8, 0), (9, 3), (10, 0)] (by kernel_rfl) ?_; simp -implicitDefEqProofs only [cmpB]) | ((with_reducible first | refine hK _ _ ?_ | (clear hK; refine hK _ _ ?_) | (clear hK; clear hK; refine hK _ _ ?_)); clear hK; try clear K) | (simp -implicitDefEqProofs only [true_and, true_and, go_sem, seval]) | (with_reducible intro b) | (with_reducible refine And.intro ?_ ?_; · first | assumption | omega | (unfold R64; omega)))
      rfl
    · obtain rfl : s = false := by simpa using h
      repeat (first | (with_reducible refine pv_seq fun K hK => ?_) | (with_reducible refine pv_reg ?_; simp -implicitDefEqProofs only [cmpB]) | (with_reducible refine pv_draw (id := 3) [(0, 0), (1, 1), (3, 2), (2, 4), (4, 3), (5, 3), (6, 3), (7, 0), (8, 0), (9, 3), (10, 0)] (by kernel_rfl) ?_; simp -implicitDefEqProofs only [cmpB]) | ((with_reducible first | refine hK _ _ ?_ | (clear hK; refine hK _ _ ?_) | (clear hK; clear hK; refine hK _ _ ?_)); clear hK; try clear K) | (simp -implicitDefEqProofs only [true_and, true_and, go_sem, seval]) | (with_reducible intro b) | (with_reducible refine And.intro ?_ ?_; · first | assumption | omega | (unfold R64; omega)))
      refine call_is pY ?_
      repeat (first | (with_reducible refine pv_seq fun K hK => ?_) | (with_reducible refine pv_reg ?_; simp -implicitDefEqProofs only [cmpB]) | (with_reducible refine pv_draw (id := 3) [(0, 0), (1, 1), (3, 2), (2, 4), (4, 3), (5, 3), (6, 3), (7, 0), (8, 0), (9, 3), (10, 0)] (by kernel_rfl) ?_; simp -implicitDefEqProofs only [cmpB]) | ((with_reducible first | refine hK _ _ ?_ | (clear hK; refine hK _ _ ?_) | (clear hK; clear hK; refine hK _ _ ?_)); clear hK; try clear K) | (simp -implicitDefEqProofs only [true_and, true_and, go_sem, seval]) | (with_reducible intro b) | (with_reducible refine And.intro ?_ ?_; · first | assumption | omega | (unfold R64; omega)))
      rfl

theorem p_rMinus {x : Nu} (hx : B64 x.w) : PC Tryd.prog 28 [NU x] fun d => d = NU (nuOf (- rv x)) := by
  have pX := p_rRight hx
  unfold rv
  by_cases h : rightB x = true
  · rw [if_pos h]
    rw [h] at pX
    obtain ⟨a, ha, rfl⟩ := right_is hx h
    rw [val_nuOf]
    by_cases h0 : a = 0
    · subst h0
      rw [nuOf_zero] at pX ⊢
      rw [show nuOf (-0) = nu0 from rfl]
      refine PC.body (args := [NU ⟨false, 0, []⟩]) (rs := [.cell 2 24]) mixed Tryd.func28 rfl (by kernel_rfl) (by kernel_rfl) (Nat.le_of_ble_eq_true rfl) rfl ?_
      repeat (first | (with_reducible refine pv_seq fun K hK => ?_) | (with_reducible refine pv_reg ?_; simp -implicitDefEqProofs only [cmpB]) | (fail) | ((with_reducible first | refine hK _ _ ?_ | (clear hK; refine hK _ _ ?_) | (clear hK; clear hK; refine hK _ _ ?_)); clear hK; try clear K) | (simp -implicitDefEqProofs only [true_and, true_and, go_sem, seval]) | (with_reducible intro b) | (with_reducible refine And.intro ?_ ?_; · first | assumption | omega | (unfold R64; omega)))
      refine call_is pX ?_
      repeat (first | (with_reducible refine pv_seq fun K hK => ?_) | (with_reducible refine pv_reg ?_; simp -implicitDefEqProofs only [cmpB]) | (fail) | ((with_reducible first | refine hK _ _ ?_ | (clear hK; refine hK _ _ ?_) | (clear hK; clear hK; refine hK _ _ ?_)); clear hK; try clear K) | (simp -implicitDefEqProofs only [true_and, true_and, go_sem, seval]) | (with_reducible intro b) | (with_reducible refine And.intro ?_ ?_; · first | assumption | omega | (unfold R64; omega)))
      try rfl
    · have hl : ((D64 (fN a)).length = 0) = False := eq_false fun h => h0 (fN_eq_zero.1 ((digs_eq_nil (by decide)).1 (List.eq_nil_of_length_eq_zero h)))
      obtain ⟨p, q, r⟩ := f_neg a h0
      rw [nuOf_f (-a), p, q, r]
      rw [nuOf_f a] at pX ⊢
      refine PC.body (args := [NU ⟨fS a, fE a, D64 (fN a)⟩]) (rs := [.cell 2 24]) mixed Tryd.func28 rfl (by kernel_rfl) (by kernel_rfl) (Nat.le_of_ble_eq_true rfl) rfl ?_
      repeat (first | (with_reducible refine pv_seq fun K hK => ?_) | (with_reducible refine pv_reg ?_; simp -implicitDefEqProofs only [cmpB]) | (fail) | ((with_reducible first | refine hK _ _ ?_ | (clear hK; refine hK _ _ ?_) | (clear hK; clear hK; refine hK _ _ ?_)); clear hK; try clear K) | (simp -implicitDefEqProofs only [true_and, true_and, go_sem, seval]) | (with_reducible intro b) | (with_reducible refine And.intro ?_ ?_; · first | assumption | omega | (unfold R64; omega)))
      refine call_is pX ?_
      repeat (first | (with_reducible refine pv_seq fun K hK => ?_) | (with_reducible refine pv_reg ?_; simp -implicitDefEqProofs only [cmpB]) | (fail) | ((with_reducible first | refine hK _ _ ?_ | (clear hK; refine hK _ _ ?_) | (clear hK; clear hK; refine hK _ _ ?_)); clear hK; try clear K) | (simp -implicitDefEqProofs only [hl, true_and, go_sem, seval]) | (with_reducible intro b) | (with_reducible refine And.intro ?_ ?_; · first | assumption | omega | (unfold R64; omega)))
  · rw [if_neg h]
    rw [Bool.not_eq_true] at h
    rw [h] at pX
    rw [show nuOf (-0) = nu0 from rfl]
    obtain ⟨neg, exp, w⟩ := x
    refine PC.body (args := [NU ⟨neg, exp, w⟩]) (rs := [.cell 2 24]) mixed Tryd.func28 rfl (by kernel_rfl) (by kernel_rfl) (Nat.le_of_ble_eq_true rfl) rfl ?_
    repeat (first | (with_reducible refine pv_seq fun K hK => ?_) | (with_reducible refine pv_reg ?_; simp -implicitDefEqProofs only [cmpB]) | (fail) | ((with_reducible first | refine hK _ _ ?_ | (clear hK; refine hK _ _ ?_) | (clear hK; clear hK; refine hK _ _ ?_)); clear hK; try clear K) | (simp -implicitDefEqProofs only [true_and, true_and, go_sem, seval]) | (with_reducible intro b) | (with_reducible refine And.intro ?_ ?_; · first | assumption | omega | (unfold R64; omega)))
    refine call_is pX ?_
    repeat (first | (with_reducible refine pv_seq fun K hK => ?_) | (with_reducible refine pv_reg ?_; simp -implicitDefEqProofs only [cmpB]) | (fail) | ((with_reducible first | refine hK _ _ ?_ | (clear hK; refine hK _ _ ?_) | (clear hK; clear hK; refine hK _ _ ?_)); clear hK; try clear K) | (simp -implicitDefEqProofs only [true_and, true_and, go_sem, seval]) | (with_reducible intro b) | (with_reducible refine And.intro ?_ ?_; · first | assumption | omega | (unfold R64; omega)))
    try rfl

theorem p_rAbs {x : Nu} (hx : B64 x.w) : PC Tryd.prog 30 [NU x] fun d => d = NU (nuOf (dy false (fN (rv x)) (fE (rv x)))) := by
  have pX := p_rRight hx
  unfold rv
  by_cases h : rightB x = true
  · rw [if_pos h]
    rw [h] at pX
    obtain ⟨a, ha, rfl⟩ := right_is hx h
    rw [val_nuOf]
    have hz : nuOf (dy false (fN a) (fE a)) = ⟨false, (nuOf a).exp, (nuOf a).w⟩ := by
      by_cases h0 : a = 0
      · subst h0; rfl
      · rw [nuOf_odd (fN_mod h0), nuOf_f a]
    rw [hz]
    generalize nuOf a = x at *
    obtain ⟨neg, exp, w⟩ := x
    refine PC.body (args := [NU ⟨neg, exp, w⟩]) (rs := [.cell 2 24]) mixed Tryd.func30 rfl (by kernel_rfl) (by kernel_rfl) (Nat.le_of_ble_eq_true rfl) rfl ?_
    repeat (first | (with_reducible refine pv_seq fun K hK => ?_) | (with_reducible refine pv_reg ?_; simp -implicitDefEqProofs only [cmpB]) | (fail) | ((with_reducible first | refine hK _ _ ?_ | (clear hK; refine hK _ _ ?_) | (clear hK; clear hK; refine hK _ _ ?_)); clear hK; try clear K) | (simp -implicitDefEqProofs only [true_and, true_and, go_sem, seval]) | (with_reducible intro b) | (with_reducible refine And.intro ?_ ?_; · first | assumption | omega | (unfold R64; omega)))
    refine call_is pX ?_
    repeat (first | (with_reducible refine pv_seq fun K hK => ?_) | (with_reducible refine pv_reg ?_; simp -implicitDefEqProofs only [cmpB]) | (fail) | ((with_reducible first | refine hK _ _ ?_ | (clear hK; refine hK _ _ ?_) | (clear hK; clear hK; refine hK _ _ ?_)); clear hK; try clear K) | (simp -implicitDefEqProofs only [true_and, true_and, go_sem, seval]) | (with_reducible intro b) | (with_reducible refine And.intro ?_ ?_; · first | assumption | omega | (unfold R64; omega)))
  · rw [if_neg h]
    rw [Bool.not_eq_true] at h
    rw [h] at pX
    obtain ⟨neg, exp, w⟩ := x
    refine PC.body (args := [NU ⟨neg, exp, w⟩]) (rs := [.cell 2 24]) mixed Tryd.func30 rfl (by kernel_rfl) (by kernel_rfl) (Nat.le_of_ble_eq_true rfl) rfl ?_
    repeat (first | (with_reducible refine pv_seq fun K hK => ?_) | (with_reducible refine pv_reg ?_; simp -implicitDefEqProofs only [cmpB]) | (fail) | ((with_reducible first | refine hK _ _ ?_ | (clear hK; refine hK _ _ ?_) | (clear hK; clear hK; refine hK _ _ ?_)); clear hK; try clear K) | (simp -implicitDefEqProofs only [true_and, true_and, go_sem, seval]) | (with_reducible intro b) | (with_reducible refine And.intro ?_ ?_; · first | assumption | omega | (unfold R64; omega)))
    refine call_is pX ?_
    repeat (first | (with_reducible refine pv_seq fun K hK => ?_) | (with_reducible refine pv_reg ?_; simp -implicitDefEqProofs only [cmpB]) | (fail) | ((with_reducible first | refine hK _ _ ?_ | (clear hK; refine hK _ _ ?_) | (clear hK; clear hK; refine hK _ _ ?_)); clear hK; try clear K) | (simp -implicitDefEqProofs only [true_and, true_and, go_sem, seval]) | (with_reducible intro b) | (with_reducible refine And.intro ?_ ?_; · first | assumption | omega | (unfold R64; omega)))
    try rfl

theorem p_rScale {x : Nu} {j : Int} (hx : B64 x.w) (hj : R64 j) : PC Tryd.prog 39 [NU x, i64 j] fun d => d = NE (scR x j) := by
  have pX := p_rRight hx
  unfold scR
  by_cases h : rightB x = true
  · rw [if_pos h]
    rw [h] at pX
    obtain ⟨a, ha, rfl⟩ := right_is hx h
    by_cases h0 : a = 0
    · subst h0
      rw [nuOf_zero] at pX ⊢
      rw [if_pos (show nu0.w.length = 0 from rfl)]
      refine PC.body (args := [NU ⟨false, 0, []⟩, i64 j]) (rs := [.cell 4 24, .tmp 5]) mixed Tryd.func39 rfl (by kernel_rfl) (by kernel_rfl) (Nat.le_of_ble_eq_true rfl) rfl ?_
      repeat (first | (with_reducible refine pv_seq fun K hK => ?_) | (with_reducible refine pv_reg ?_; simp -implicitDefEqProofs only [cmpB]) | (with_reducible refine pv_draw (id := 7) [(0, 0), (1, 2), (2, 0), (3, 1), (5, 0), (6, 2), (7, 0), (8, 0), (4, 4), (9, 0), (10, 3), (11, 0), (12, 0), (13, 3), (14, 0)] (by kernel_rfl) ?_; simp -implicitDefEqProofs only [cmpB]) | ((with_reducible first | refine hK _ _ ?_ | (clear hK; refine hK _ _ ?_) | (clear hK; clear hK; refine hK _ _ ?_)); clear hK; try clear K) | (simp -implicitDefEqProofs only [true_and, true_and, go_sem, seval]) | (with_reducible intro b) | (with_reducible refine And.intro ?_ ?_; · first | assumption | omega | (unfold R64; omega)))
      refine call_is pX ?_
      repeat (first | (with_reducible refine pv_seq fun K hK => ?_) | (with_reducible refine pv_reg ?_; simp -implicitDefEqProofs only [cmpB]) | (with_reducible refine pv_draw (id := 7) [(0, 0), (1, 2), (2, 0), (3, 1), (5, 0), (6, 2), (7, 0), (8, 0), (4, 4), (9, 0), (10, 3), (11, 0), (12, 0), (13, 3), (14, 0)] (by kernel_rfl) ?_; simp -implicitDefEqProofs only [cmpB]) | ((with_reducible first | refine hK _ _ ?_ | (clear hK; refine hK _ _ ?_) | (clear hK; clear hK; refine hK _ _ ?_)); clear hK; try clear K) | (simp -implicitDefEqProofs only [true_and, true_and, go_sem, seval]) | (with_reducible intro b) | (with_reducible refine And.intro ?_ ?_; · first | assumption | omega | (unfold R64; omega)))
      try rfl
    · have hl : ((D64 (fN a)).length = 0) = False := eq_false fun h => h0 (fN_eq_zero.1 ((digs_eq_nil (by decide)).1 (List.eq_nil_of_length_eq_zero h)))
      have hbd := ha.bd
      have hlen := ha.len
      rw [nuOf_f] at hlen
      simp only at hlen
      have pP := p_Part (xs := D64 (fN a)) (digs_lt (by decide) _) (by show (digs _ _).length ≤ _; omega)
      rw [show N64 (D64 (fN a)) = fN a from nval_digs (by decide) _] at pP
      have hodd := fN_mod h0
      have hb1 := hbd.2.1; have hb2 := hbd.2.2
      rw [nuOf_f] at pX ⊢
      simp only
      rw [show N64 (digs 18446744073709551616 (fN a)) = fN a from nval_digs (by decide) _, if_neg (by rw [hl]; exact id)]
      by_cases g1 : 131072 < j
      · rw [if_pos (.inl g1)]
        refine PC.body (args := [NU ⟨fS a, fE a, D64 (fN a)⟩, i64 j]) (rs := [.cell 4 24, .tmp 5]) mixed Tryd.func39 rfl (by kernel_rfl) (by kernel_rfl) (Nat.le_of_ble_eq_true rfl) rfl ?_
        repeat (first | (with_reducible refine pv_seq fun K hK => ?_) | (with_reducible refine pv_reg ?_; simp -implicitDefEqProofs only [cmpB]) | (with_reducible refine pv_draw (id := 7) [(0, 0), (1, 2), (2, 0), (3, 1), (5, 0), (6, 2), (7, 0), (8, 0), (4, 4), (9, 0), (10, 3), (11, 0), (12, 0), (13, 3), (14, 0)] (by kernel_rfl) ?_; simp -implicitDefEqProofs only [cmpB]) | ((with_reducible first | refine hK _ _ ?_ | (clear hK; refine hK _ _ ?_) | (clear hK; clear hK; refine hK _ _ ?_)); clear hK; try clear K) | (simp -implicitDefEqProofs only [hl, eq_true g1, true_and, go_sem, seval]) | (with_reducible intro b) | (with_reducible refine And.intro ?_ ?_; · first | assumption | omega | (unfold R64; omega)))
        refine call_is pX ?_
        repeat (first | (with_reducible refine pv_seq fun K hK => ?_) | (with_reducible refine pv_reg ?_; simp -implicitDefEqProofs only [cmpB]) | (with_reducible refine pv_draw (id := 7) [(0, 0), (1, 2), (2, 0), (3, 1), (5, 0), (6, 2), (7, 0), (8, 0), (4, 4), (9, 0), (10, 3), (11, 0), (12, 0), (13, 3), (14, 0)] (by kernel_rfl) ?_; simp -implicitDefEqProofs only [cmpB]) | ((with_reducible first | refine hK _ _ ?_ | (clear hK; refine hK _ _ ?_) | (clear hK; clear hK; refine hK _ _ ?_)); clear hK; try clear K) | (simp -implicitDefEqProofs only [hl, eq_true g1, true_and, go_sem, seval]) | (with_reducible intro b) | (with_reducible refine And.intro ?_ ?_; · first | assumption | omega | (unfold R64; omega)))
        try rfl
      · by_cases g2 : j < -131072
        · rw [if_pos (.inr g2)]
          refine PC.body (args := [NU ⟨fS a, fE a, D64 (fN a)⟩, i64 j]) (rs := [.cell 4 24, .tmp 5]) mixed Tryd.func39 rfl (by kernel_rfl) (by kernel_rfl) (Nat.le_of_ble_eq_true rfl) rfl ?_
          repeat (first | (with_reducible refine pv_seq fun K hK => ?_) | (with_reducible refine pv_reg ?_; simp -implicitDefEqProofs only [cmpB]) | (with_reducible refine pv_draw (id := 7) [(0, 0), (1, 2), (2, 0), (3, 1), (5, 0), (6, 2), (7, 0), (8, 0), (4, 4), (9, 0), (10, 3), (11, 0), (12, 0), (13, 3), (14, 0)] (by kernel_rfl) ?_; simp -implicitDefEqProofs only [cmpB]) | ((with_reducible first | refine hK _ _ ?_ | (clear hK; refine hK _ _ ?_) | (clear hK; clear hK; refine hK _ _ ?_)); clear hK; try clear K) | (simp -implicitDefEqProofs only [hl, eq_false g1, eq_true g2, true_and, go_sem, seval]) | (with_reducible intro b) | (with_reducible refine And.intro ?_ ?_; · first | assumption | omega | (unfold R64; omega)))
          refine call_is pX ?_
          repeat (first | (with_reducible refine pv_seq fun K hK => ?_) | (with_reducible refine pv_reg ?_; simp -implicitDefEqProofs only [cmpB]) | (with_reducible refine pv_draw (id := 7) [(0, 0), (1, 2), (2, 0), (3, 1), (5, 0), (6, 2), (7, 0), (8, 0), (4, 4), (9, 0), (10, 3), (11, 0), (12, 0), (13, 3), (14, 0)] (by kernel_rfl) ?_; simp -implicitDefEqProofs only [cmpB]) | ((with_reducible first | refine hK _ _ ?_ | (clear hK; refine hK _ _ ?_) | (clear hK; clear hK; refine hK _ _ ?_)); clear hK; try clear K) | (simp -implicitDefEqProofs only [hl, eq_false g1, eq_true g2, true_and, go_sem, seval]) | (with_reducible intro b) | (with_reducible refine And.intro ?_ ?_; · first | assumption | omega | (unfold R64; omega)))
          try rfl
        · rw [if_neg (by omega)]
          have hv : VA (dy (fS a) (fN a) (fE a + j)) = .agg [bl (fS a), W32 (D32 (fN a)), i64 (fE a + j)] := by unfold VA; rw [fS_odd hodd, fN_odd hodd, fE_odd hodd]
          obtain ⟨q, hq⟩ : ∃ q : Nat, q = 196608 := ⟨_, rfl⟩
          have hbq := ha.bdk (k := q) (by omega)
          have pN := p_rNum (k := q) (d := dy (fS a) (fN a) (fE a + j)) ⟨by rw [fN_odd hodd]; exact hbq.1, by rw [fE_odd hodd]; omega, by rw [fE_odd hodd]; omega⟩ (by omega)
          rw [hv] at pN
          generalize numR (dy (fS a) (fN a) (fE a + j)) = r at *
          refine PC.body (args := [NU ⟨fS a, fE a, D64 (fN a)⟩, i64 j]) (rs := [.cell 4 24, .tmp 5]) mixed Tryd.func39 rfl (by kernel_rfl) (by kernel_rfl) (Nat.le_of_ble_eq_true rfl) rfl ?_
          repeat (first | (with_reducible refine pv_seq fun K hK => ?_) | (with_reducible refine pv_reg ?_; simp -implicitDefEqProofs only [cmpB]) | (with_reducible refine pv_draw (id := 7) [(0, 0), (1, 2), (2, 0), (3, 1), (5, 0), (6, 2), (7, 0), (8, 0), (4, 4), (9, 0), (10, 3), (11, 0), (12, 0), (13, 3), (14, 0)] (by kernel_rfl) ?_; simp -implicitDefEqProofs only [cmpB]) | ((with_reducible first | refine hK _ _ ?_ | (clear hK; refine hK _ _ ?_) | (clear hK; clear hK; refine hK _ _ ?_)); clear hK; try clear K) | (simp -implicitDefEqProofs only [hl, eq_false g1, eq_false g2, true_and, go_sem, seval]) | (with_reducible intro b) | (with_reducible refine And.intro ?_ ?_; · first | assumption | omega | (unfold R64; omega)))
          refine call_is pX ?_
          repeat (first | (with_reducible refine pv_seq fun K hK => ?_) | (with_reducible refine pv_reg ?_; simp -implicitDefEqProofs only [cmpB]) | (with_reducible refine pv_draw (id := 7) [(0, 0), (1, 2), (2, 0), (3, 1), (5, 0), (6, 2), (7, 0), (8, 0), (4, 4), (9, 0), (10, 3), (11, 0), (12, 0), (13, 3), (14, 0)] (by kernel_rfl) ?_; simp -implicitDefEqProofs only [cmpB]) | ((with_reducible first | refine hK _ _ ?_ | (clear hK; refine hK _ _ ?_) | (clear hK; clear hK; refine hK _ _ ?_)); clear hK; try clear K) | (simp -implicitDefEqProofs only [hl, eq_false g1, eq_false g2, true_and, go_sem, seval]) | (with_reducible intro b) | (with_reducible refine And.intro ?_ ?_; · first | assumption | omega | (unfold R64; omega)))
          refine ExtC_is ?_
          simp -implicitDefEqProofs only [hl, eq_false g1, eq_false g2, true_and, go_sem, seval]
          refine ext_is pP ?_
          repeat (first | (with_reducible refine pv_seq fun K hK => ?_) | (with_reducible refine pv_reg ?_; simp -implicitDefEqProofs only [cmpB]) | (with_reducible refine pv_draw (id := 7) [(0, 0), (1, 2), (2, 0), (3, 1), (5, 0), (6, 2), (7, 0), (8, 0), (4, 4), (9, 0), (10, 3), (11, 0), (12, 0), (13, 3), (14, 0)] (by kernel_rfl) ?_; simp -implicitDefEqProofs only [cmpB]) | ((with_reducible first | refine hK _ _ ?_ | (clear hK; refine hK _ _ ?_) | (clear hK; clear hK; refine hK _ _ ?_)); clear hK; try clear K) | (simp -implicitDefEqProofs only [hl, eq_false g1, eq_false g2, true_and, go_sem, seval]) | (with_reducible intro b) | (with_reducible refine And.intro ?_ ?_; · first | assumption | omega | (unfold R64; omega)))
          refine call_is pN ?_
          repeat (first | (with_reducible refine pv_seq fun K hK => ?_) | (with_reducible refine pv_reg ?_; simp -implicitDefEqProofs only [cmpB]) | (with_reducible refine pv_draw (id := 7) [(0, 0), (1, 2), (2, 0), (3, 1), (5, 0), (6, 2), (7, 0), (8, 0), (4, 4), (9, 0), (10, 3), (11, 0), (12, 0), (13, 3), (14, 0)] (by kernel_rfl) ?_; simp -implicitDefEqProofs only [cmpB]) | ((with_reducible first | refine hK _ _ ?_ | (clear hK; refine hK _ _ ?_) | (clear hK; clear hK; refine hK _ _ ?_)); clear hK; try clear K) | (simp -implicitDefEqProofs only [hl, eq_false g1, eq_false g2, true_and, go_sem, seval]) | (with_reducible intro b) | (with_reducible refine And.intro ?_ ?_; · first | assumption | omega | (unfold R64; omega)))
  · rw [if_neg h]
    rw [Bool.not_eq_true] at h
    rw [h] at pX
    obtain ⟨neg, exp, w⟩ := x
    refine PC.body (args := [NU ⟨neg, exp, w⟩, i64 j]) (rs := [.cell 4 24, .tmp 5]) mixed Tryd.func39 rfl (by kernel_rfl) (by kernel_rfl) (Nat.le_of_ble_eq_true rfl) rfl ?_
    repeat (first | (with_reducible refine pv_seq fun K hK => ?_) | (with_reducible refine pv_reg ?_; simp -implicitDefEqProofs only [cmpB]) | (with_reducible refine pv_draw (id := 7) [(0, 0), (1, 2), (2, 0), (3, 1), (5, 0), (6, 2), (7, 0), (8, 0), (4, 4), (9, 0), (10, 3), (11, 0), (12, 0), (13, 3), (14, 0)] (by kernel_rfl) ?_; simp -implicitDefEqProofs only [cmpB]) | ((with_reducible first | refine hK _ _ ?_ | (clear hK; refine hK _ _ ?_) | (clear hK; clear hK; refine hK _ _ ?_)); clear hK; try clear K) | (simp -implicitDefEqProofs only [true_and, true_and, go_sem, seval]) | (with_reducible intro b) | (with_reducible refine And.intro ?_ ?_; · first | assumption | omega | (unfold R64; omega)))
    refine call_is pX ?_
    repeat (first | (with_reducible refine pv_seq fun K hK => ?_) | (with_reducible refine pv_reg ?_; simp -implicitDefEqProofs only [cmpB]) | (with_reducible refine pv_draw (id := 7) [(0, 0), (1, 2), (2, 0), (3, 1), (5, 0), (6, 2), (7, 0), (8, 0), (4, 4), (9, 0), (10, 3), (11, 0), (12, 0), (13, 3), (14, 0)] (by kernel_rfl) ?_; simp -implicitDefEqProofs only [cmpB]) | ((with_reducible first | refine hK _ _ ?_ | (clear hK; refine hK _ _ ?_) | (clear hK; clear hK; refine hK _ _ ?_)); clear hK; try clear K) | (simp -implicitDefEqProofs only [true_and, true_and, go_sem, seval]) | (with_reducible intro b) | (with_reducible refine And.intro ?_ ?_; · first | assumption | omega | (unfold R64; omega)))
    try rfl

theorem p_rWhole {n : Int} (hn : R64 n) : PC Tryd.prog 21 [i64 n] fun d => d = VA (dy (decide (n < 0)) n.natAbs 0) := by
  unfold R64 at hn
  have hwl : B64 [n.natAbs] := by intro x hx; rw [List.mem_singleton.1 hx]; omega
  have pP := p_Part hwl (by simp)
  rw [show N64 [n.natAbs] = n.natAbs by simp [nval]] at pP
  have pO := p_rOdd (k := 64) (neg := decide (n < 0)) (n := n.natAbs) (e := 0) (by omega) (by decide) (by decide) (by decide)
  by_cases hn0 : n < 0
  · have e1 : IntKind.u64.wrap n = ((18446744073709551616 - n.natAbs : Nat) : Int) := by simp [IntKind.wrap, IntKind.signed, IntKind.bits]; omega
    have e2 : IntKind.u64.wrap (0 - ((18446744073709551616 - n.natAbs : Nat) : Int)) = (n.natAbs : Int) := by simp [IntKind.wrap, IntKind.signed, IntKind.bits]; omega
    have hd : decide (n < 0) = true := decide_eq_true hn0
    rw [hd] at pO ⊢
    generalize dy true n.natAbs 0 = v at *
    refine PC.body (args := [i64 n]) (rs := [.cell 2 36]) mixed Tryd.func21 rfl (by kernel_rfl) (by kernel_rfl) (Nat.le_of_ble_eq_true rfl) rfl ?_
    repeat (first | (with_reducible refine pv_seq fun K hK => ?_) | (with_reducible refine pv_reg ?_; simp -implicitDefEqProofs only [cmpB]) | (fail) | ((with_reducible first | refine hK _ _ ?_ | (clear hK; refine hK _ _ ?_) | (clear hK; clear hK; refine hK _ _ ?_)); clear hK; try clear K) | (simp -implicitDefEqProofs only [e1, e2, eq_true hn0, true_and, go_sem, seval]) | (with_reducible intro b) | (with_reducible refine And.intro ?_ ?_; · first | assumption | omega | (unfold R64; omega)))
    refine PFC.coe ?_
    simp -implicitDefEqProofs only [e1, e2, eq_true hn0, true_and, go_sem, seval]
    refine call_is pP ?_
    repeat (first | (with_reducible refine pv_seq fun K hK => ?_) | (with_reducible refine pv_reg ?_; simp -implicitDefEqProofs only [cmpB]) | (fail) | ((with_reducible first | refine hK _ _ ?_ | (clear hK; refine hK _ _ ?_) | (clear hK; clear hK; refine hK _ _ ?_)); clear hK; try clear K) | (simp -implicitDefEqProofs only [e1, e2, eq_true hn0, true_and, go_sem, seval]) | (with_reducible intro b) | (with_reducible refine And.intro ?_ ?_; · first | assumption | omega | (unfold R64; omega)))
    refine call_is pO ?_
    repeat (first | (with_reducible refine pv_seq fun K hK => ?_) | (with_reducible refine pv_reg ?_; simp -implicitDefEqProofs only [cmpB]) | (fail) | ((with_reducible first | refine hK _ _ ?_ | (clear hK; refine hK _ _ ?_) | (clear hK; clear hK; refine hK _ _ ?_)); clear hK; try clear K) | (simp -implicitDefEqProofs only [e1, e2, eq_true hn0, true_and, go_sem, seval]) | (with_reducible intro b) | (with_reducible refine And.intro ?_ ?_; · first | assumption | omega | (unfold R64; omega)))
  · have e1 : IntKind.u64.wrap n = (n.natAbs : Int) := by simp [IntKind.wrap, IntKind.signed, IntKind.bits]; omega
    have hd : decide (n < 0) = false := decide_eq_false hn0
    rw [hd] at pO ⊢
    generalize dy false n.natAbs 0 = v at *
    refine PC.body (args := [i64 n]) (rs := [.cell 2 36]) mixed Tryd.func21 rfl (by kernel_rfl) (by kernel_rfl) (Nat.le_of_ble_eq_true rfl) rfl ?_
    repeat (first | (with_reducible refine pv_seq fun K hK => ?_) | (with_reducible refine pv_reg ?_; simp -implicitDefEqProofs only [cmpB]) | (fail) | ((with_reducible first | refine hK _ _ ?_ | (clear hK; refine hK _ _ ?_) | (clear hK; clear hK; refine hK _ _ ?_)); clear hK; try clear K) | (simp -implicitDefEqProofs only [e1, eq_false hn0, true_and, go_sem, seval]) | (with_reducible intro b) | (with_reducible refine And.intro ?_ ?_; · first | assumption | omega | (unfold R64; omega)))
    refine PFC.coe ?_
    simp -implicitDefEqProofs only [e1, eq_false hn0, true_and, go_sem, seval]
    refine call_is pP ?_
    repeat (first | (with_reducible refine pv_seq fun K hK => ?_) | (with_reducible refine pv_reg ?_; simp -implicitDefEqProofs only [cmpB]) | (fail) | ((with_reducible first | refine hK _ _ ?_ | (clear hK; refine hK _ _ ?_) | (clear hK; clear hK; refine hK _ _ ?_)); clear hK; try clear K) | (simp -implicitDefEqProofs only [e1, eq_false hn0, true_and, go_sem, seval]) | (with_reducible intro b) | (with_reducible refine And.intro ?_ ?_; · first | assumption | omega | (unfold R64; omega)))
    refine call_is pO ?_
    repeat (first | (with_reducible refine pv_seq fun K hK => ?_) | (with_reducible refine pv_reg ?_; simp -implicitDefEqProofs only [cmpB]) | (fail) | ((with_reducible first | refine hK _ _ ?_ | (clear hK; refine hK _ _ ?_) | (clear hK; clear hK; refine hK _ _ ?_)); clear hK; try clear K) | (simp -implicitDefEqProofs only [e1, eq_false hn0, true_and, go_sem, seval]) | (with_reducible intro b) | (with_reducible refine And.intro ?_ ?_; · first | assumption | omega | (unfold R64; omega)))

end Go.V

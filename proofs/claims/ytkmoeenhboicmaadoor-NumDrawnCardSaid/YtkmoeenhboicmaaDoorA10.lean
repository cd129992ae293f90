/- The statements of layer 2: NumRights, NumMakes, NumInts, NumOrders, NumReckons, NumScales. -/
import Derived.Test.YtkmoeenhboicmaaDoorC6
import Derived.Test.YtkmoeenhboicmaaDoorC7
set_option linter.unusedSimpArgs false
set_option linter.unusedVariables false
set_option maxRecDepth 100000
namespace Go.V
open Go Go.RowKit Go.Proofs

theorem same_refl {z : Nu} (h : z.w.length ≤ 1099511627776) : PC Tryd.prog 17 [NU z, NU z] fun d => d = bl true :=
  (p_rSame (x := z) (y := z) h).mono fun d hd => hd.trans (by rw [decide_eq_true rfl])
theorem numR_len {d : Dyadic} : (numR d).1.w.length ≤ 1099511627776 := by
  by_cases h : OkD d
  · rw [numR_ok h]; have := h.len; simp only; omega
  · rw [numR_over h]; decide
theorem opR_len {x y : Nu} {v : Dyadic} : (opR x y v).1.w.length ≤ 1099511627776 := by
  unfold opR; split
  · exact numR_len
  · decide

theorem p_NumRights {x y : Nu} (hx : B64 x.w) (hy : B64 y.w) : PC Tryd.prog 3 [NU x, NU y] fun d => d = bl true := by
  have pR := p_nRight hx
  have qR := p_rRight hx
  have pS := fun h => p_nSame (x := x) (y := y) h
  have qS := fun h => p_rSame (x := x) (y := y) h
  have pX := fun h => (p_nSame (x := x) (y := x) h).mono fun d hd => hd.trans (show bl (decide (x = x)) = bl true by rw [decide_eq_true rfl])
  have pL := p_light (xs := [x, y]) (by simp)
  have hlx : (∀ z ∈ [x, y], z.w.length ≤ 70) → x.w.length ≤ 1099511627776 := fun h => by have := h x (by simp); omega
  generalize decide (x = y) = s at *
  generalize rightB x = r at *
  obtain ⟨neg, exp, w⟩ := x
  obtain ⟨neg', exp', w'⟩ := y
  refine PC.body (args := [NU ⟨neg, exp, w⟩, NU ⟨neg', exp', w'⟩]) (rs := [.tmp 4]) mixed Tryd.func3 rfl (by kernel_rfl) (by kernel_rfl) (Nat.le_of_ble_eq_true rfl) rfl ?_
  repeat (first | (with_reducible refine pv_seq fun K hK => ?_) | (with_reducible refine pv_reg ?_; simp -implicitDefEqProofs only [cmpB]) | (with_reducible refine pv_draw (id := 5) [(0, 1), (2, 2), (1, 4), (3, 3), (4, 0), (5, 0), (6, 1), (7, 1), (9, 2), (10, 2), (8, 4), (11, 3), (12, 0), (13, 0), (14, 0), (15, 1), (16, 1), (17, 3), (18, 0), (19, 0)] (by kernel_rfl) ?_; simp -implicitDefEqProofs only [cmpB]) | ((with_reducible first | refine hK _ _ ?_ | (clear hK; refine hK _ _ ?_) | (clear hK; clear hK; refine hK _ _ ?_)); clear hK; try clear K) | (simp -implicitDefEqProofs only [true_and, true_and, go_sem, seval]) | (with_reducible intro b) | (with_reducible refine And.intro ?_ ?_; · first | assumption | omega | (unfold R64; omega)))
  refine call_is p_known2 ?_
  repeat (first | (with_reducible refine pv_seq fun K hK => ?_) | (with_reducible refine pv_reg ?_; simp -implicitDefEqProofs only [cmpB]) | (with_reducible refine pv_draw (id := 5) [(0, 1), (2, 2), (1, 4), (3, 3), (4, 0), (5, 0), (6, 1), (7, 1), (9, 2), (10, 2), (8, 4), (11, 3), (12, 0), (13, 0), (14, 0), (15, 1), (16, 1), (17, 3), (18, 0), (19, 0)] (by kernel_rfl) ?_; simp -implicitDefEqProofs only [cmpB]) | ((with_reducible first | refine hK _ _ ?_ | (clear hK; refine hK _ _ ?_) | (clear hK; clear hK; refine hK _ _ ?_)); clear hK; try clear K) | (simp -implicitDefEqProofs only [true_and, true_and, go_sem, seval]) | (with_reducible intro b) | (with_reducible refine And.intro ?_ ?_; · first | assumption | omega | (unfold R64; omega)))
  refine PFC.coe ?_
  simp -implicitDefEqProofs only [true_and, true_and, go_sem, seval]
  refine call_is pL ?_
  by_cases hl : ∀ z ∈ [(⟨neg, exp, w⟩ : Nu), ⟨neg', exp', w'⟩], z.w.length ≤ 70
  · rw [decide_eq_true hl]
    have hw := hlx hl
    have k1 : (r == r) = true := beq_self_eq_true _
    have k2 : (s == s) = true := beq_self_eq_true _
    repeat (first | (with_reducible refine pv_seq fun K hK => ?_) | (with_reducible refine pv_reg ?_; simp -implicitDefEqProofs only [cmpB]) | (with_reducible refine pv_draw (id := 5) [(0, 1), (2, 2), (1, 4), (3, 3), (4, 0), (5, 0), (6, 1), (7, 1), (9, 2), (10, 2), (8, 4), (11, 3), (12, 0), (13, 0), (14, 0), (15, 1), (16, 1), (17, 3), (18, 0), (19, 0)] (by kernel_rfl) ?_; simp -implicitDefEqProofs only [cmpB]) | ((with_reducible first | refine hK _ _ ?_ | (clear hK; refine hK _ _ ?_) | (clear hK; clear hK; refine hK _ _ ?_)); clear hK; try clear K) | (simp -implicitDefEqProofs only [k1, k2, true_and, go_sem, seval]) | (with_reducible intro b) | (with_reducible refine And.intro ?_ ?_; · first | assumption | omega | (unfold R64; omega)))
    refine ExtC_is ?_
    simp -implicitDefEqProofs only [k1, k2, true_and, go_sem, seval]
    refine ext_is pR ?_
    repeat (first | (with_reducible refine pv_seq fun K hK => ?_) | (with_reducible refine pv_reg ?_; simp -implicitDefEqProofs only [cmpB]) | (with_reducible refine pv_draw (id := 5) [(0, 1), (2, 2), (1, 4), (3, 3), (4, 0), (5, 0), (6, 1), (7, 1), (9, 2), (10, 2), (8, 4), (11, 3), (12, 0), (13, 0), (14, 0), (15, 1), (16, 1), (17, 3), (18, 0), (19, 0)] (by kernel_rfl) ?_; simp -implicitDefEqProofs only [cmpB]) | ((with_reducible first | refine hK _ _ ?_ | (clear hK; refine hK _ _ ?_) | (clear hK; clear hK; refine hK _ _ ?_)); clear hK; try clear K) | (simp -implicitDefEqProofs only [k1, k2, true_and, go_sem, seval]) | (with_reducible intro b) | (with_reducible refine And.intro ?_ ?_; · first | assumption | omega | (unfold R64; omega)))
    refine call_is qR ?_
    repeat (first | (with_reducible refine pv_seq fun K hK => ?_) | (with_reducible refine pv_reg ?_; simp -implicitDefEqProofs only [cmpB]) | (with_reducible refine pv_draw (id := 5) [(0, 1), (2, 2), (1, 4), (3, 3), (4, 0), (5, 0), (6, 1), (7, 1), (9, 2), (10, 2), (8, 4), (11, 3), (12, 0), (13, 0), (14, 0), (15, 1), (16, 1), (17, 3), (18, 0), (19, 0)] (by kernel_rfl) ?_; simp -implicitDefEqProofs only [cmpB]) | ((with_reducible first | refine hK _ _ ?_ | (clear hK; refine hK _ _ ?_) | (clear hK; clear hK; refine hK _ _ ?_)); clear hK; try clear K) | (simp -implicitDefEqProofs only [k1, k2, true_and, go_sem, seval]) | (with_reducible intro b) | (with_reducible refine And.intro ?_ ?_; · first | assumption | omega | (unfold R64; omega)))
    refine ExtC_is ?_
    simp -implicitDefEqProofs only [k1, k2, true_and, go_sem, seval]
    refine ext_is (pS hw) ?_
    repeat (first | (with_reducible refine pv_seq fun K hK => ?_) | (with_reducible refine pv_reg ?_; simp -implicitDefEqProofs only [cmpB]) | (with_reducible refine pv_draw (id := 5) [(0, 1), (2, 2), (1, 4), (3, 3), (4, 0), (5, 0), (6, 1), (7, 1), (9, 2), (10, 2), (8, 4), (11, 3), (12, 0), (13, 0), (14, 0), (15, 1), (16, 1), (17, 3), (18, 0), (19, 0)] (by kernel_rfl) ?_; simp -implicitDefEqProofs only [cmpB]) | ((with_reducible first | refine hK _ _ ?_ | (clear hK; refine hK _ _ ?_) | (clear hK; clear hK; refine hK _ _ ?_)); clear hK; try clear K) | (simp -implicitDefEqProofs only [k1, k2, true_and, go_sem, seval]) | (with_reducible intro b) | (with_reducible refine And.intro ?_ ?_; · first | assumption | omega | (unfold R64; omega)))
    refine call_is (qS hw) ?_
    repeat (first | (with_reducible refine pv_seq fun K hK => ?_) | (with_reducible refine pv_reg ?_; simp -implicitDefEqProofs only [cmpB]) | (with_reducible refine pv_draw (id := 5) [(0, 1), (2, 2), (1, 4), (3, 3), (4, 0), (5, 0), (6, 1), (7, 1), (9, 2), (10, 2), (8, 4), (11, 3), (12, 0), (13, 0), (14, 0), (15, 1), (16, 1), (17, 3), (18, 0), (19, 0)] (by kernel_rfl) ?_; simp -implicitDefEqProofs only [cmpB]) | ((with_reducible first | refine hK _ _ ?_ | (clear hK; refine hK _ _ ?_) | (clear hK; clear hK; refine hK _ _ ?_)); clear hK; try clear K) | (simp -implicitDefEqProofs only [k1, k2, true_and, go_sem, seval]) | (with_reducible intro b) | (with_reducible refine And.intro ?_ ?_; · first | assumption | omega | (unfold R64; omega)))
    refine call_is (pX hw) ?_
    repeat (first | (with_reducible refine pv_seq fun K hK => ?_) | (with_reducible refine pv_reg ?_; simp -implicitDefEqProofs only [cmpB]) | (with_reducible refine pv_draw (id := 5) [(0, 1), (2, 2), (1, 4), (3, 3), (4, 0), (5, 0), (6, 1), (7, 1), (9, 2), (10, 2), (8, 4), (11, 3), (12, 0), (13, 0), (14, 0), (15, 1), (16, 1), (17, 3), (18, 0), (19, 0)] (by kernel_rfl) ?_; simp -implicitDefEqProofs only [cmpB]) | ((with_reducible first | refine hK _ _ ?_ | (clear hK; refine hK _ _ ?_) | (clear hK; clear hK; refine hK _ _ ?_)); clear hK; try clear K) | (simp -implicitDefEqProofs only [k1, k2, true_and, go_sem, seval]) | (with_reducible intro b) | (with_reducible refine And.intro ?_ ?_; · first | assumption | omega | (unfold R64; omega)))
  · rw [decide_eq_false hl]
    repeat (first | (with_reducible refine pv_seq fun K hK => ?_) | (with_reducible refine pv_reg ?_; simp -implicitDefEqProofs only [cmpB]) | (with_reducible refine pv_draw (id := 5) [(0, 1), (2, 2), (1, 4), (3, 3), (4, 0), (5, 0), (6, 1), (7, 1), (9, 2), (10, 2), (8, 4), (11, 3), (12, 0), (13, 0), (14, 0), (15, 1), (16, 1), (17, 3), (18, 0), (19, 0)] (by kernel_rfl) ?_; simp -implicitDefEqProofs only [cmpB]) | ((with_reducible first | refine hK _ _ ?_ | (clear hK; refine hK _ _ ?_) | (clear hK; clear hK; refine hK _ _ ?_)); clear hK; try clear K) | (simp -implicitDefEqProofs only [true_and, true_and, go_sem, seval]) | (with_reducible intro b) | (with_reducible refine And.intro ?_ ?_; · first | assumption | omega | (unfold R64; omega)))

theorem p_NumMakes {neg : Bool} {w : List Nat} {e : Int} (hb : B64 w) (he : (Lit.int .i64 e).wf = true) : PC Tryd.prog 4 [bl neg, W64 w, i64 e] fun d => d = bl true := by
  have hr : R64 e := by unfold R64; simp [Lit.wf, IntKind.min, IntKind.max, IntKind.signed, IntKind.bits] at he; omega
  have pM := fun h => p_nMake (neg := neg) (e := e) hb h hr
  have qM := fun h => p_rMake (neg := neg) (e := e) (k := 80) hb h (by decide) hr
  have pS := same_refl (z := (numR (dy neg (N64 w) e)).1) numR_len
  by_cases hl : w.length ≤ 80
  · have pM := pM (by omega)
    have qM := qM hl
    have pR : OkD (dy neg (N64 w) e) → PC Tryd.prog 14 [NU (nuOf (dy neg (N64 w) e))] fun d => d = bl true := fun h =>
      (p_nRight (by rw [nuOf_f]; exact digs_lt (by decide) _)).mono fun d hd => hd.trans (by rw [rightB_nuOf, decide_eq_true h])
    have k0 : ((80 : Int) < (w.length : Int)) = False := eq_false (by omega)
    by_cases hk : OkD (dy neg (N64 w) e)
    · have pR := pR hk
      rw [numR_ok hk] at pM qM pS
      simp only at pS
      generalize nuOf (dy neg (N64 w) e) = z at *
      obtain ⟨n1, e1, w1⟩ := z
      refine PC.body (args := [bl neg, W64 w, i64 e]) (rs := [.tmp 6]) mixed Tryd.func4 rfl (by kernel_rfl) (by kernel_rfl) (Nat.le_of_ble_eq_true rfl) rfl ?_
      repeat (first | (with_reducible refine pv_seq fun K hK => ?_) | (with_reducible refine pv_reg ?_; simp -implicitDefEqProofs only [cmpB]) | (fail) | ((with_reducible first | refine hK _ _ ?_ | (clear hK; refine hK _ _ ?_) | (clear hK; clear hK; refine hK _ _ ?_)); clear hK; try clear K) | (simp -implicitDefEqProofs only [true_and, true_and, go_sem, seval]) | (with_reducible intro b) | (with_reducible refine And.intro ?_ ?_; · first | assumption | omega | (unfold R64; omega)))
      refine call_is p_known2 ?_
      repeat (first | (with_reducible refine pv_seq fun K hK => ?_) | (with_reducible refine pv_reg ?_; simp -implicitDefEqProofs only [cmpB]) | (fail) | ((with_reducible first | refine hK _ _ ?_ | (clear hK; refine hK _ _ ?_) | (clear hK; clear hK; refine hK _ _ ?_)); clear hK; try clear K) | (simp -implicitDefEqProofs only [k0, true_and, go_sem, seval]) | (with_reducible intro b) | (with_reducible refine And.intro ?_ ?_; · first | assumption | omega | (unfold R64; omega)))
      refine call_is pM ?_
      repeat (first | (with_reducible refine pv_seq fun K hK => ?_) | (with_reducible refine pv_reg ?_; simp -implicitDefEqProofs only [cmpB]) | (fail) | ((with_reducible first | refine hK _ _ ?_ | (clear hK; refine hK _ _ ?_) | (clear hK; clear hK; refine hK _ _ ?_)); clear hK; try clear K) | (simp -implicitDefEqProofs only [k0, true_and, go_sem, seval]) | (with_reducible intro b) | (with_reducible refine And.intro ?_ ?_; · first | assumption | omega | (unfold R64; omega)))
      refine call_is qM ?_
      repeat (first | (with_reducible refine pv_seq fun K hK => ?_) | (with_reducible refine pv_reg ?_; simp -implicitDefEqProofs only [cmpB]) | (fail) | ((with_reducible first | refine hK _ _ ?_ | (clear hK; refine hK _ _ ?_) | (clear hK; clear hK; refine hK _ _ ?_)); clear hK; try clear K) | (simp -implicitDefEqProofs only [k0, true_and, go_sem, seval]) | (with_reducible intro b) | (with_reducible refine And.intro ?_ ?_; · first | assumption | omega | (unfold R64; omega)))
      refine call_is pS ?_
      repeat (first | (with_reducible refine pv_seq fun K hK => ?_) | (with_reducible refine pv_reg ?_; simp -implicitDefEqProofs only [cmpB]) | (fail) | ((with_reducible first | refine hK _ _ ?_ | (clear hK; refine hK _ _ ?_) | (clear hK; clear hK; refine hK _ _ ?_)); clear hK; try clear K) | (simp -implicitDefEqProofs only [k0, true_and, go_sem, seval]) | (with_reducible intro b) | (with_reducible refine And.intro ?_ ?_; · first | assumption | omega | (unfold R64; omega)))
      refine call_is pR ?_
      repeat (first | (with_reducible refine pv_seq fun K hK => ?_) | (with_reducible refine pv_reg ?_; simp -implicitDefEqProofs only [cmpB]) | (fail) | ((with_reducible first | refine hK _ _ ?_ | (clear hK; refine hK _ _ ?_) | (clear hK; clear hK; refine hK _ _ ?_)); clear hK; try clear K) | (simp -implicitDefEqProofs only [k0, true_and, go_sem, seval]) | (with_reducible intro b) | (with_reducible refine And.intro ?_ ?_; · first | assumption | omega | (unfold R64; omega)))
    · rw [numR_over hk] at pM qM pS
      simp only at pS
      refine PC.body (args := [bl neg, W64 w, i64 e]) (rs := [.tmp 6]) mixed Tryd.func4 rfl (by kernel_rfl) (by kernel_rfl) (Nat.le_of_ble_eq_true rfl) rfl ?_
      repeat (first | (with_reducible refine pv_seq fun K hK => ?_) | (with_reducible refine pv_reg ?_; simp -implicitDefEqProofs only [cmpB]) | (fail) | ((with_reducible first | refine hK _ _ ?_ | (clear hK; refine hK _ _ ?_) | (clear hK; clear hK; refine hK _ _ ?_)); clear hK; try clear K) | (simp -implicitDefEqProofs only [k0, true_and, go_sem, seval]) | (with_reducible intro b) | (with_reducible refine And.intro ?_ ?_; · first | assumption | omega | (unfold R64; omega)))
      refine call_is p_known2 ?_
      repeat (first | (with_reducible refine pv_seq fun K hK => ?_) | (with_reducible refine pv_reg ?_; simp -implicitDefEqProofs only [cmpB]) | (fail) | ((with_reducible first | refine hK _ _ ?_ | (clear hK; refine hK _ _ ?_) | (clear hK; clear hK; refine hK _ _ ?_)); clear hK; try clear K) | (simp -implicitDefEqProofs only [k0, true_and, go_sem, seval]) | (with_reducible intro b) | (with_reducible refine And.intro ?_ ?_; · first | assumption | omega | (unfold R64; omega)))
      refine call_is pM ?_
      repeat (first | (with_reducible refine pv_seq fun K hK => ?_) | (with_reducible refine pv_reg ?_; simp -implicitDefEqProofs only [cmpB]) | (fail) | ((with_reducible first | refine hK _ _ ?_ | (clear hK; refine hK _ _ ?_) | (clear hK; clear hK; refine hK _ _ ?_)); clear hK; try clear K) | (simp -implicitDefEqProofs only [k0, true_and, go_sem, seval]) | (with_reducible intro b) | (with_reducible refine And.intro ?_ ?_; · first | assumption | omega | (unfold R64; omega)))
      refine call_is qM ?_
      repeat (first | (with_reducible refine pv_seq fun K hK => ?_) | (with_reducible refine pv_reg ?_; simp -implicitDefEqProofs only [cmpB]) | (fail) | ((with_reducible first | refine hK _ _ ?_ | (clear hK; refine hK _ _ ?_) | (clear hK; clear hK; refine hK _ _ ?_)); clear hK; try clear K) | (simp -implicitDefEqProofs only [k0, true_and, go_sem, seval]) | (with_reducible intro b) | (with_reducible refine And.intro ?_ ?_; · first | assumption | omega | (unfold R64; omega)))
      refine call_is pS ?_
      repeat (first | (with_reducible refine pv_seq fun K hK => ?_) | (with_reducible refine pv_reg ?_; simp -implicitDefEqProofs only [cmpB]) | (fail) | ((with_reducible first | refine hK _ _ ?_ | (clear hK; refine hK _ _ ?_) | (clear hK; clear hK; refine hK _ _ ?_)); clear hK; try clear K) | (simp -implicitDefEqProofs only [k0, true_and, go_sem, seval]) | (with_reducible intro b) | (with_reducible refine And.intro ?_ ?_; · first | assumption | omega | (unfold R64; omega)))
  · have k0 : ((80 : Int) < (w.length : Int)) = True := eq_true (by omega)
    refine PC.body (args := [bl neg, W64 w, i64 e]) (rs := [.tmp 6]) mixed Tryd.func4 rfl (by kernel_rfl) (by kernel_rfl) (Nat.le_of_ble_eq_true rfl) rfl ?_
    repeat (first | (with_reducible refine pv_seq fun K hK => ?_) | (with_reducible refine pv_reg ?_; simp -implicitDefEqProofs only [cmpB]) | (fail) | ((with_reducible first | refine hK _ _ ?_ | (clear hK; refine hK _ _ ?_) | (clear hK; clear hK; refine hK _ _ ?_)); clear hK; try clear K) | (simp -implicitDefEqProofs only [true_and, true_and, go_sem, seval]) | (with_reducible intro b) | (with_reducible refine And.intro ?_ ?_; · first | assumption | omega | (unfold R64; omega)))
    refine call_is p_known2 ?_
    repeat (first | (with_reducible refine pv_seq fun K hK => ?_) | (with_reducible refine pv_reg ?_; simp -implicitDefEqProofs only [cmpB]) | (fail) | ((with_reducible first | refine hK _ _ ?_ | (clear hK; refine hK _ _ ?_) | (clear hK; clear hK; refine hK _ _ ?_)); clear hK; try clear K) | (simp -implicitDefEqProofs only [k0, true_and, go_sem, seval]) | (with_reducible intro b) | (with_reducible refine And.intro ?_ ?_; · first | assumption | omega | (unfold R64; omega)))

theorem p_NumScales {x : Nu} {j : Int} (hx : B64 x.w) (hj : (Lit.int .i64 j).wf = true) : PC Tryd.prog 9 [NU x, i64 j] fun d => d = bl true := by
  have hr : R64 j := by unfold R64; simp [Lit.wf, IntKind.min, IntKind.max, IntKind.signed, IntKind.bits] at hj; omega
  have pL := p_light (xs := [x]) (by simp)
  have qS := p_rScale hx hr
  have hlen : (scR x j).1.w.length ≤ 1099511627776 := by
    unfold scR; split
    · split
      · decide
      · split
        · decide
        · exact numR_len
    · decide
  have pE := same_refl hlen
  by_cases hl : ∀ z ∈ [x], z.w.length ≤ 70
  · rw [decide_eq_true hl] at pL
    have pS := p_nScale (k := 70) (j := j) ⟨hx, hl x (by simp)⟩ (by decide) hr
    generalize scR x j = q at *
    obtain ⟨⟨n1, e1, w1⟩, er⟩ := q
    obtain ⟨neg, exp, w⟩ := x
    simp only at pE
    have k1 : (er = er) = True := eq_true rfl
    refine PC.body (args := [NU ⟨neg, exp, w⟩, i64 j]) (rs := [.tmp 4]) mixed Tryd.func9 rfl (by kernel_rfl) (by kernel_rfl) (Nat.le_of_ble_eq_true rfl) rfl ?_
    repeat (first | (with_reducible refine pv_seq fun K hK => ?_) | (with_reducible refine pv_reg ?_; simp -implicitDefEqProofs only [cmpB]) | (fail) | ((with_reducible first | refine hK _ _ ?_ | (clear hK; refine hK _ _ ?_) | (clear hK; clear hK; refine hK _ _ ?_)); clear hK; try clear K) | (simp -implicitDefEqProofs only [true_and, true_and, go_sem, seval]) | (with_reducible intro b) | (with_reducible refine And.intro ?_ ?_; · first | assumption | omega | (unfold R64; omega)))
    refine call_is p_known2 ?_
    repeat (first | (with_reducible refine pv_seq fun K hK => ?_) | (with_reducible refine pv_reg ?_; simp -implicitDefEqProofs only [cmpB]) | (fail) | ((with_reducible first | refine hK _ _ ?_ | (clear hK; refine hK _ _ ?_) | (clear hK; clear hK; refine hK _ _ ?_)); clear hK; try clear K) | (simp -implicitDefEqProofs only [true_and, true_and, go_sem, seval]) | (with_reducible intro b) | (with_reducible refine And.intro ?_ ?_; · first | assumption | omega | (unfold R64; omega)))
    refine PFC.coe ?_
    simp -implicitDefEqProofs only [true_and, true_and, go_sem, seval]
    refine call_is pL ?_
    repeat (first | (with_reducible refine pv_seq fun K hK => ?_) | (with_reducible refine pv_reg ?_; simp -implicitDefEqProofs only [cmpB]) | (fail) | ((with_reducible first | refine hK _ _ ?_ | (clear hK; refine hK _ _ ?_) | (clear hK; clear hK; refine hK _ _ ?_)); clear hK; try clear K) | (simp -implicitDefEqProofs only [true_and, true_and, go_sem, seval]) | (with_reducible intro b) | (with_reducible refine And.intro ?_ ?_; · first | assumption | omega | (unfold R64; omega)))
    refine call_is pS ?_
    repeat (first | (with_reducible refine pv_seq fun K hK => ?_) | (with_reducible refine pv_reg ?_; simp -implicitDefEqProofs only [cmpB]) | (fail) | ((with_reducible first | refine hK _ _ ?_ | (clear hK; refine hK _ _ ?_) | (clear hK; clear hK; refine hK _ _ ?_)); clear hK; try clear K) | (simp -implicitDefEqProofs only [true_and, true_and, go_sem, seval]) | (with_reducible intro b) | (with_reducible refine And.intro ?_ ?_; · first | assumption | omega | (unfold R64; omega)))
    refine call_is qS ?_
    repeat (first | (with_reducible refine pv_seq fun K hK => ?_) | (with_reducible refine pv_reg ?_; simp -implicitDefEqProofs only [cmpB]) | (fail) | ((with_reducible first | refine hK _ _ ?_ | (clear hK; refine hK _ _ ?_) | (clear hK; clear hK; refine hK _ _ ?_)); clear hK; try clear K) | (simp -implicitDefEqProofs only [true_and, true_and, go_sem, seval]) | (with_reducible intro b) | (with_reducible refine And.intro ?_ ?_; · first | assumption | omega | (unfold R64; omega)))
    refine call_is pE ?_
    repeat (first | (with_reducible refine pv_seq fun K hK => ?_) | (with_reducible refine pv_reg ?_; simp -implicitDefEqProofs only [cmpB]) | (fail) | ((with_reducible first | refine hK _ _ ?_ | (clear hK; refine hK _ _ ?_) | (clear hK; clear hK; refine hK _ _ ?_)); clear hK; try clear K) | (simp -implicitDefEqProofs only [true_and, true_and, go_sem, seval]) | (with_reducible intro b) | (with_reducible refine And.intro ?_ ?_; · first | assumption | omega | (unfold R64; omega)))
  · rw [decide_eq_false hl] at pL
    obtain ⟨neg, exp, w⟩ := x
    refine PC.body (args := [NU ⟨neg, exp, w⟩, i64 j]) (rs := [.tmp 4]) mixed Tryd.func9 rfl (by kernel_rfl) (by kernel_rfl) (Nat.le_of_ble_eq_true rfl) rfl ?_
    repeat (first | (with_reducible refine pv_seq fun K hK => ?_) | (with_reducible refine pv_reg ?_; simp -implicitDefEqProofs only [cmpB]) | (fail) | ((with_reducible first | refine hK _ _ ?_ | (clear hK; refine hK _ _ ?_) | (clear hK; clear hK; refine hK _ _ ?_)); clear hK; try clear K) | (simp -implicitDefEqProofs only [true_and, true_and, go_sem, seval]) | (with_reducible intro b) | (with_reducible refine And.intro ?_ ?_; · first | assumption | omega | (unfold R64; omega)))
    refine call_is p_known2 ?_
    repeat (first | (with_reducible refine pv_seq fun K hK => ?_) | (with_reducible refine pv_reg ?_; simp -implicitDefEqProofs only [cmpB]) | (fail) | ((with_reducible first | refine hK _ _ ?_ | (clear hK; refine hK _ _ ?_) | (clear hK; clear hK; refine hK _ _ ?_)); clear hK; try clear K) | (simp -implicitDefEqProofs only [true_and, true_and, go_sem, seval]) | (with_reducible intro b) | (with_reducible refine And.intro ?_ ?_; · first | assumption | omega | (unfold R64; omega)))
    refine PFC.coe ?_
    simp -implicitDefEqProofs only [true_and, true_and, go_sem, seval]
    refine call_is pL ?_
    repeat (first | (with_reducible refine pv_seq fun K hK => ?_) | (with_reducible refine pv_reg ?_; simp -implicitDefEqProofs only [cmpB]) | (fail) | ((with_reducible first | refine hK _ _ ?_ | (clear hK; refine hK _ _ ?_) | (clear hK; clear hK; refine hK _ _ ?_)); clear hK; try clear K) | (simp -implicitDefEqProofs only [true_and, true_and, go_sem, seval]) | (with_reducible intro b) | (with_reducible refine And.intro ?_ ?_; · first | assumption | omega | (unfold R64; omega)))

set_option maxHeartbeats 1000000 in
theorem p_NumReckons {x y : Nu} (hx : B64 x.w) (hy : B64 y.w) : PC Tryd.prog 7 [NU x, NU y] fun d => d = bl true := by
  have pL := p_light (xs := [x, y]) (by simp)
  have qA := p_rStraight (n := 0) hx hy
  have qS := p_rStraight (n := 1) hx hy
  have qM := p_rStraight (n := 2) hx hy
  rw [show exD 0 x.val y.val = x.val + y.val from rfl] at qA
  rw [show exD 1 x.val y.val = x.val - y.val from rfl] at qS
  rw [show exD 2 x.val y.val = x.val * y.val from rfl] at qM
  have eA := same_refl (opR_len (x := x) (y := y) (v := x.val + y.val))
  have eS := same_refl (opR_len (x := x) (y := y) (v := x.val - y.val))
  have eM := same_refl (opR_len (x := x) (y := y) (v := x.val * y.val))
  by_cases hl : ∀ z ∈ [x, y], z.w.length ≤ 70
  · rw [decide_eq_true hl] at pL
    have X : Wl 70 x := ⟨hx, hl x (by simp)⟩
    have Y : Wl 70 y := ⟨hy, hl y (by simp)⟩
    have pA := p_nAdd X Y (by decide)
    have pS := p_nSub X Y (by decide)
    have pM := p_nMul X Y (by decide)
    generalize opR x y (x.val + y.val) = a at *
    generalize opR x y (x.val - y.val) = b at *
    generalize opR x y (x.val * y.val) = c at *
    obtain ⟨⟨n1, e1, w1⟩, r1⟩ := a
    obtain ⟨⟨n2, e2, w2⟩, r2⟩ := b
    obtain ⟨⟨n3, e3, w3⟩, r3⟩ := c
    simp only at eA eS eM
    obtain ⟨neg, exp, w⟩ := x
    obtain ⟨neg', exp', w'⟩ := y
    refine PC.body (args := [NU ⟨neg, exp, w⟩, NU ⟨neg', exp', w'⟩]) (rs := [.tmp 4]) mixed Tryd.func7 rfl (by kernel_rfl) (by kernel_rfl) (Nat.le_of_ble_eq_true rfl) rfl ?_
    repeat (first | (with_reducible refine pv_seq fun K hK => ?_) | (with_reducible refine pv_reg ?_; simp -implicitDefEqProofs only [cmpB]) | (fail) | ((with_reducible first | refine hK _ _ ?_ | (clear hK; refine hK _ _ ?_) | (clear hK; clear hK; refine hK _ _ ?_)); clear hK; try clear K) | (simp -implicitDefEqProofs only [true_and, true_and, go_sem, seval]) | (with_reducible intro b) | (with_reducible refine And.intro ?_ ?_; · first | assumption | omega | (unfold R64; omega)))
    refine call_is p_known2 ?_
    repeat (first | (with_reducible refine pv_seq fun K hK => ?_) | (with_reducible refine pv_reg ?_; simp -implicitDefEqProofs only [cmpB]) | (fail) | ((with_reducible first | refine hK _ _ ?_ | (clear hK; refine hK _ _ ?_) | (clear hK; clear hK; refine hK _ _ ?_)); clear hK; try clear K) | (simp -implicitDefEqProofs only [true_and, true_and, go_sem, seval]) | (with_reducible intro b) | (with_reducible refine And.intro ?_ ?_; · first | assumption | omega | (unfold R64; omega)))
    refine PFC.coe ?_
    simp -implicitDefEqProofs only [true_and, true_and, go_sem, seval]
    refine call_is pL ?_
    repeat (first | (with_reducible refine pv_seq fun K hK => ?_) | (with_reducible refine pv_reg ?_; simp -implicitDefEqProofs only [cmpB]) | (fail) | ((with_reducible first | refine hK _ _ ?_ | (clear hK; refine hK _ _ ?_) | (clear hK; clear hK; refine hK _ _ ?_)); clear hK; try clear K) | (simp -implicitDefEqProofs only [true_and, true_and, go_sem, seval]) | (with_reducible intro b) | (with_reducible refine And.intro ?_ ?_; · first | assumption | omega | (unfold R64; omega)))
    refine call_is pA ?_
    repeat (first | (with_reducible refine pv_seq fun K hK => ?_) | (with_reducible refine pv_reg ?_; simp -implicitDefEqProofs only [cmpB]) | (fail) | ((with_reducible first | refine hK _ _ ?_ | (clear hK; refine hK _ _ ?_) | (clear hK; clear hK; refine hK _ _ ?_)); clear hK; try clear K) | (simp -implicitDefEqProofs only [true_and, true_and, go_sem, seval]) | (with_reducible intro b) | (with_reducible refine And.intro ?_ ?_; · first | assumption | omega | (unfold R64; omega)))
    refine call_is pS ?_
    repeat (first | (with_reducible refine pv_seq fun K hK => ?_) | (with_reducible refine pv_reg ?_; simp -implicitDefEqProofs only [cmpB]) | (fail) | ((with_reducible first | refine hK _ _ ?_ | (clear hK; refine hK _ _ ?_) | (clear hK; clear hK; refine hK _ _ ?_)); clear hK; try clear K) | (simp -implicitDefEqProofs only [true_and, true_and, go_sem, seval]) | (with_reducible intro b) | (with_reducible refine And.intro ?_ ?_; · first | assumption | omega | (unfold R64; omega)))
    refine call_is pM ?_
    repeat (first | (with_reducible refine pv_seq fun K hK => ?_) | (with_reducible refine pv_reg ?_; simp -implicitDefEqProofs only [cmpB]) | (fail) | ((with_reducible first | refine hK _ _ ?_ | (clear hK; refine hK _ _ ?_) | (clear hK; clear hK; refine hK _ _ ?_)); clear hK; try clear K) | (simp -implicitDefEqProofs only [true_and, true_and, go_sem, seval]) | (with_reducible intro b) | (with_reducible refine And.intro ?_ ?_; · first | assumption | omega | (unfold R64; omega)))
    refine call_is qA ?_
    repeat (first | (with_reducible refine pv_seq fun K hK => ?_) | (with_reducible refine pv_reg ?_; simp -implicitDefEqProofs only [cmpB]) | (fail) | ((with_reducible first | refine hK _ _ ?_ | (clear hK; refine hK _ _ ?_) | (clear hK; clear hK; refine hK _ _ ?_)); clear hK; try clear K) | (simp -implicitDefEqProofs only [true_and, true_and, go_sem, seval]) | (with_reducible intro b) | (with_reducible refine And.intro ?_ ?_; · first | assumption | omega | (unfold R64; omega)))
    refine call_is qS ?_
    repeat (first | (with_reducible refine pv_seq fun K hK => ?_) | (with_reducible refine pv_reg ?_; simp -implicitDefEqProofs only [cmpB]) | (fail) | ((with_reducible first | refine hK _ _ ?_ | (clear hK; refine hK _ _ ?_) | (clear hK; clear hK; refine hK _ _ ?_)); clear hK; try clear K) | (simp -implicitDefEqProofs only [true_and, true_and, go_sem, seval]) | (with_reducible intro b) | (with_reducible refine And.intro ?_ ?_; · first | assumption | omega | (unfold R64; omega)))
    refine call_is qM ?_
    repeat (first | (with_reducible refine pv_seq fun K hK => ?_) | (with_reducible refine pv_reg ?_; simp -implicitDefEqProofs only [cmpB]) | (fail) | ((with_reducible first | refine hK _ _ ?_ | (clear hK; refine hK _ _ ?_) | (clear hK; clear hK; refine hK _ _ ?_)); clear hK; try clear K) | (simp -implicitDefEqProofs only [true_and, true_and, go_sem, seval]) | (with_reducible intro b) | (with_reducible refine And.intro ?_ ?_; · first | assumption | omega | (unfold R64; omega)))
    refine call_is eA ?_
    repeat (first | (with_reducible refine pv_seq fun K hK => ?_) | (with_reducible refine pv_reg ?_; simp -implicitDefEqProofs only [cmpB]) | (fail) | ((with_reducible first | refine hK _ _ ?_ | (clear hK; refine hK _ _ ?_) | (clear hK; clear hK; refine hK _ _ ?_)); clear hK; try clear K) | (simp -implicitDefEqProofs only [true_and, true_and, go_sem, seval]) | (with_reducible intro b) | (with_reducible refine And.intro ?_ ?_; · first | assumption | omega | (unfold R64; omega)))
    refine call_is eS ?_
    repeat (first | (with_reducible refine pv_seq fun K hK => ?_) | (with_reducible refine pv_reg ?_; simp -implicitDefEqProofs only [cmpB]) | (fail) | ((with_reducible first | refine hK _ _ ?_ | (clear hK; refine hK _ _ ?_) | (clear hK; clear hK; refine hK _ _ ?_)); clear hK; try clear K) | (simp -implicitDefEqProofs only [true_and, true_and, go_sem, seval]) | (with_reducible intro b) | (with_reducible refine And.intro ?_ ?_; · first | assumption | omega | (unfold R64; omega)))
    refine call_is eM ?_
    repeat (first | (with_reducible refine pv_seq fun K hK => ?_) | (with_reducible refine pv_reg ?_; simp -implicitDefEqProofs only [cmpB]) | (fail) | ((with_reducible first | refine hK _ _ ?_ | (clear hK; refine hK _ _ ?_) | (clear hK; clear hK; refine hK _ _ ?_)); clear hK; try clear K) | (simp -implicitDefEqProofs only [true_and, true_and, go_sem, seval]) | (with_reducible intro b) | (with_reducible refine And.intro ?_ ?_; · first | assumption | omega | (unfold R64; omega)))
  · rw [decide_eq_false hl] at pL
    obtain ⟨neg, exp, w⟩ := x
    obtain ⟨neg', exp', w'⟩ := y
    refine PC.body (args := [NU ⟨neg, exp, w⟩, NU ⟨neg', exp', w'⟩]) (rs := [.tmp 4]) mixed Tryd.func7 rfl (by kernel_rfl) (by kernel_rfl) (Nat.le_of_ble_eq_true rfl) rfl ?_
    repeat (first | (with_reducible refine pv_seq fun K hK => ?_) | (with_reducible refine pv_reg ?_; simp -implicitDefEqProofs only [cmpB]) | (fail) | ((with_reducible first | refine hK _ _ ?_ | (clear hK; refine hK _ _ ?_) | (clear hK; clear hK; refine hK _ _ ?_)); clear hK; try clear K) | (simp -implicitDefEqProofs only [true_and, true_and, go_sem, seval]) | (with_reducible intro b) | (with_reducible refine And.intro ?_ ?_; · first | assumption | omega | (unfold R64; omega)))
    refine call_is p_known2 ?_
    repeat (first | (with_reducible refine pv_seq fun K hK => ?_) | (with_reducible refine pv_reg ?_; simp -implicitDefEqProofs only [cmpB]) | (fail) | ((with_reducible first | refine hK _ _ ?_ | (clear hK; refine hK _ _ ?_) | (clear hK; clear hK; refine hK _ _ ?_)); clear hK; try clear K) | (simp -implicitDefEqProofs only [true_and, true_and, go_sem, seval]) | (with_reducible intro b) | (with_reducible refine And.intro ?_ ?_; · first | assumption | omega | (unfold R64; omega)))
    refine PFC.coe ?_
    simp -implicitDefEqProofs only [true_and, true_and, go_sem, seval]
    refine call_is pL ?_
    repeat (first | (with_reducible refine pv_seq fun K hK => ?_) | (with_reducible refine pv_reg ?_; simp -implicitDefEqProofs only [cmpB]) | (fail) | ((with_reducible first | refine hK _ _ ?_ | (clear hK; refine hK _ _ ?_) | (clear hK; clear hK; refine hK _ _ ?_)); clear hK; try clear K) | (simp -implicitDefEqProofs only [true_and, true_and, go_sem, seval]) | (with_reducible intro b) | (with_reducible refine And.intro ?_ ?_; · first | assumption | omega | (unfold R64; omega)))

theorem sgn_nuOf {x : Nu} : rightB x = true → sgnD (rv x) = sgnD x.val := fun h => by unfold rv; rw [if_pos h]

set_option maxHeartbeats 1000000 in
theorem p_NumOrders {x y : Nu} (hx : B64 x.w) (hy : B64 y.w) : PC Tryd.prog 6 [NU x, NU y] fun d => d = bl true := by
  have pL := p_light (xs := [x, y]) (by simp)
  have qR := p_rRight hx
  have qO : rightB x = true → PC Tryd.prog 24 [NU x] fun d => d = VA (rv x) := fun h => by
    obtain ⟨d, hd, rfl⟩ := right_is hx h
    unfold rv
    rw [if_pos h, val_nuOf]
    exact p_rOf hd
  have qG := p_rSign (d := rv x)
  have qN := p_rMinus hx
  have qB := p_rAbs hx
  have qC := p_rCmpNum hx hy
  have hok := fun d => show ∀ y ∈ (nuOf d).w, y < 18446744073709551616 by rw [nuOf_f]; exact digs_lt (by decide) _
  have hkv : OkD (rv x) := rv_ok hx
  have okn : OkD (- rv x) := by
    by_cases h0 : rv x = 0
    · rw [h0]; exact OkD.zero
    · obtain ⟨a, b, c⟩ := f_neg _ h0
      unfold OkD at hkv ⊢
      rw [nuOf_f] at hkv ⊢
      rw [b, c]; exact ⟨hkv.len, hkv.lo, hkv.hi⟩
  have oka : (nuOf (dy false (fN (rv x)) (fE (rv x)))).w.length ≤ 1099511627776 := by
    by_cases h0 : rv x = 0
    · rw [h0]; decide
    · rw [nuOf_odd (fN_mod h0)]
      have := hkv.len
      rw [nuOf_f] at this
      simp only at this ⊢; omega
  have eN := same_refl (z := nuOf (- rv x)) (by have := okn.len; omega)
  have eB := same_refl oka
  have hs0 : rightB x = false → sgnD (rv x) = 0 := fun h => by unfold rv; rw [h, if_neg (by decide)]; decide
  by_cases hl : ∀ z ∈ [x, y], z.w.length ≤ 70
  · rw [decide_eq_true hl] at pL
    have X : Wl 70 x := ⟨hx, hl x (by simp)⟩
    have Y : Wl 70 y := ⟨hy, hl y (by simp)⟩
    have pG := p_nSign X (by decide)
    have pN := p_nNeg X (by decide)
    have pB := p_nAbs X (by decide)
    have pC := p_nCmp X Y (by decide)
    generalize (if (rightB x && rightB y) = true then cmpD x.val y.val else 0) = c at *
    generalize nuOf (dy false (fN (rv x)) (fE (rv x))) = a at *
    generalize nuOf (- rv x) = m at *
    generalize hv : rv x = v at *
    have J : ∀ (K' : Prop), True := fun _ => trivial
    generalize rightB x = r at *
    obtain ⟨n1, e1, w1⟩ := a
    obtain ⟨n2, e2, w2⟩ := m
    obtain ⟨neg, exp, w⟩ := x
    obtain ⟨neg', exp', w'⟩ := y
    unfold VA at qO qG
    refine PC.body (args := [NU ⟨neg, exp, w⟩, NU ⟨neg', exp', w'⟩]) (rs := [.tmp 4]) mixed Tryd.func6 rfl (by kernel_rfl) (by kernel_rfl) (Nat.le_of_ble_eq_true rfl) rfl ?_
    repeat (first | (with_reducible refine pv_seq fun K hK => ?_) | (with_reducible refine pv_reg ?_; simp -implicitDefEqProofs only [cmpB]) | (with_reducible refine pv_draw (id := 8) [(0, 1), (2, 0), (1, 3), (3, 0), (4, 0), (5, 1), (7, 2), (6, 4), (8, 3), (9, 3), (10, 0), (11, 0), (12, 1), (14, 2), (13, 4), (15, 3), (16, 3), (17, 0), (18, 0), (19, 1), (20, 1), (22, 2), (23, 2), (21, 4), (24, 3), (25, 0), (26, 0), (27, 0)] (by kernel_rfl) ?_; simp -implicitDefEqProofs only [cmpB]) | ((with_reducible first | refine hK _ _ ?_ | (clear hK; refine hK _ _ ?_) | (clear hK; clear hK; refine hK _ _ ?_)); clear hK; try clear K) | (simp -implicitDefEqProofs only [true_and, true_and, go_sem, seval]) | (with_reducible intro b) | (with_reducible refine And.intro ?_ ?_; · first | assumption | omega | (unfold R64; omega)))
    refine call_is p_known2 ?_
    repeat (first | (with_reducible refine pv_seq fun K hK => ?_) | (with_reducible refine pv_reg ?_; simp -implicitDefEqProofs only [cmpB]) | (with_reducible refine pv_draw (id := 8) [(0, 1), (2, 0), (1, 3), (3, 0), (4, 0), (5, 1), (7, 2), (6, 4), (8, 3), (9, 3), (10, 0), (11, 0), (12, 1), (14, 2), (13, 4), (15, 3), (16, 3), (17, 0), (18, 0), (19, 1), (20, 1), (22, 2), (23, 2), (21, 4), (24, 3), (25, 0), (26, 0), (27, 0)] (by kernel_rfl) ?_; simp -implicitDefEqProofs only [cmpB]) | ((with_reducible first | refine hK _ _ ?_ | (clear hK; refine hK _ _ ?_) | (clear hK; clear hK; refine hK _ _ ?_)); clear hK; try clear K) | (simp -implicitDefEqProofs only [true_and, true_and, go_sem, seval]) | (with_reducible intro b) | (with_reducible refine And.intro ?_ ?_; · first | assumption | omega | (unfold R64; omega)))
    refine PFC.coe ?_
    simp -implicitDefEqProofs only [true_and, true_and, go_sem, seval]
    refine call_is pL ?_
    repeat (first | (with_reducible refine pv_seq fun K hK => ?_) | (with_reducible refine pv_reg ?_; simp -implicitDefEqProofs only [cmpB]) | (with_reducible refine pv_draw (id := 8) [(0, 1), (2, 0), (1, 3), (3, 0), (4, 0), (5, 1), (7, 2), (6, 4), (8, 3), (9, 3), (10, 0), (11, 0), (12, 1), (14, 2), (13, 4), (15, 3), (16, 3), (17, 0), (18, 0), (19, 1), (20, 1), (22, 2), (23, 2), (21, 4), (24, 3), (25, 0), (26, 0), (27, 0)] (by kernel_rfl) ?_; simp -implicitDefEqProofs only [cmpB]) | ((with_reducible first | refine hK _ _ ?_ | (clear hK; refine hK _ _ ?_) | (clear hK; clear hK; refine hK _ _ ?_)); clear hK; try clear K) | (simp -implicitDefEqProofs only [true_and, true_and, go_sem, seval]) | (with_reducible intro b) | (with_reducible refine And.intro ?_ ?_; · first | assumption | omega | (unfold R64; omega)))
    refine call_is qR ?_
    cases r with
    | true =>
      repeat (first | (with_reducible refine pv_seq fun K hK => ?_) | (with_reducible refine pv_reg ?_; simp -implicitDefEqProofs only [cmpB]) | (with_reducible refine pv_draw (id := 8) [(0, 1), (2, 0), (1, 3), (3, 0), (4, 0), (5, 1), (7, 2), (6, 4), (8, 3), (9, 3), (10, 0), (11, 0), (12, 1), (14, 2), (13, 4), (15, 3), (16, 3), (17, 0), (18, 0), (19, 1), (20, 1), (22, 2), (23, 2), (21, 4), (24, 3), (25, 0), (26, 0), (27, 0)] (by kernel_rfl) ?_; simp -implicitDefEqProofs only [cmpB]) | ((with_reducible first | refine hK _ _ ?_ | (clear hK; refine hK _ _ ?_) | (clear hK; clear hK; refine hK _ _ ?_)); clear hK; try clear K) | (simp -implicitDefEqProofs only [true_and, true_and, go_sem, seval]) | (with_reducible intro b) | (with_reducible refine And.intro ?_ ?_; · first | assumption | omega | (unfold R64; omega)))
      refine call_is (qO rfl) ?_
      repeat (first | (with_reducible refine pv_seq fun K hK => ?_) | (with_reducible refine pv_reg ?_; simp -implicitDefEqProofs only [cmpB]) | (with_reducible refine pv_draw (id := 8) [(0, 1), (2, 0), (1, 3), (3, 0), (4, 0), (5, 1), (7, 2), (6, 4), (8, 3), (9, 3), (10, 0), (11, 0), (12, 1), (14, 2), (13, 4), (15, 3), (16, 3), (17, 0), (18, 0), (19, 1), (20, 1), (22, 2), (23, 2), (21, 4), (24, 3), (25, 0), (26, 0), (27, 0)] (by kernel_rfl) ?_; simp -implicitDefEqProofs only [cmpB]) | ((with_reducible first | refine hK _ _ ?_ | (clear hK; refine hK _ _ ?_) | (clear hK; clear hK; refine hK _ _ ?_)); clear hK; try clear K) | (simp -implicitDefEqProofs only [true_and, true_and, go_sem, seval]) | (with_reducible intro b) | (with_reducible refine And.intro ?_ ?_; · first | assumption | omega | (unfold R64; omega)))
      refine call_is qG ?_
      repeat (first | (with_reducible refine pv_seq fun K hK => ?_) | (with_reducible refine pv_reg ?_; simp -implicitDefEqProofs only [cmpB]) | (with_reducible refine pv_draw (id := 8) [(0, 1), (2, 0), (1, 3), (3, 0), (4, 0), (5, 1), (7, 2), (6, 4), (8, 3), (9, 3), (10, 0), (11, 0), (12, 1), (14, 2), (13, 4), (15, 3), (16, 3), (17, 0), (18, 0), (19, 1), (20, 1), (22, 2), (23, 2), (21, 4), (24, 3), (25, 0), (26, 0), (27, 0)] (by kernel_rfl) ?_; simp -implicitDefEqProofs only [cmpB]) | ((with_reducible first | refine hK _ _ ?_ | (clear hK; refine hK _ _ ?_) | (clear hK; clear hK; refine hK _ _ ?_)); clear hK; try clear K) | (simp -implicitDefEqProofs only [true_and, true_and, go_sem, seval]) | (with_reducible intro b) | (with_reducible refine And.intro ?_ ?_; · first | assumption | omega | (unfold R64; omega)))
      refine call_is pG ?_
      repeat (first | (with_reducible refine pv_seq fun K hK => ?_) | (with_reducible refine pv_reg ?_; simp -implicitDefEqProofs only [cmpB]) | (with_reducible refine pv_draw (id := 8) [(0, 1), (2, 0), (1, 3), (3, 0), (4, 0), (5, 1), (7, 2), (6, 4), (8, 3), (9, 3), (10, 0), (11, 0), (12, 1), (14, 2), (13, 4), (15, 3), (16, 3), (17, 0), (18, 0), (19, 1), (20, 1), (22, 2), (23, 2), (21, 4), (24, 3), (25, 0), (26, 0), (27, 0)] (by kernel_rfl) ?_; simp -implicitDefEqProofs only [cmpB]) | ((with_reducible first | refine hK _ _ ?_ | (clear hK; refine hK _ _ ?_) | (clear hK; clear hK; refine hK _ _ ?_)); clear hK; try clear K) | (simp -implicitDefEqProofs only [true_and, true_and, go_sem, seval]) | (with_reducible intro b) | (with_reducible refine And.intro ?_ ?_; · first | assumption | omega | (unfold R64; omega)))
      refine ExtC_is ?_
      simp -implicitDefEqProofs only [true_and, true_and, go_sem, seval]
      refine ext_is pN ?_
      repeat (first | (with_reducible refine pv_seq fun K hK => ?_) | (with_reducible refine pv_reg ?_; simp -implicitDefEqProofs only [cmpB]) | (with_reducible refine pv_draw (id := 8) [(0, 1), (2, 0), (1, 3), (3, 0), (4, 0), (5, 1), (7, 2), (6, 4), (8, 3), (9, 3), (10, 0), (11, 0), (12, 1), (14, 2), (13, 4), (15, 3), (16, 3), (17, 0), (18, 0), (19, 1), (20, 1), (22, 2), (23, 2), (21, 4), (24, 3), (25, 0), (26, 0), (27, 0)] (by kernel_rfl) ?_; simp -implicitDefEqProofs only [cmpB]) | ((with_reducible first | refine hK _ _ ?_ | (clear hK; refine hK _ _ ?_) | (clear hK; clear hK; refine hK _ _ ?_)); clear hK; try clear K) | (simp -implicitDefEqProofs only [true_and, true_and, go_sem, seval]) | (with_reducible intro b) | (with_reducible refine And.intro ?_ ?_; · first | assumption | omega | (unfold R64; omega)))
      refine call_is qN ?_
      repeat (first | (with_reducible refine pv_seq fun K hK => ?_) | (with_reducible refine pv_reg ?_; simp -implicitDefEqProofs only [cmpB]) | (with_reducible refine pv_draw (id := 8) [(0, 1), (2, 0), (1, 3), (3, 0), (4, 0), (5, 1), (7, 2), (6, 4), (8, 3), (9, 3), (10, 0), (11, 0), (12, 1), (14, 2), (13, 4), (15, 3), (16, 3), (17, 0), (18, 0), (19, 1), (20, 1), (22, 2), (23, 2), (21, 4), (24, 3), (25, 0), (26, 0), (27, 0)] (by kernel_rfl) ?_; simp -implicitDefEqProofs only [cmpB]) | ((with_reducible first | refine hK _ _ ?_ | (clear hK; refine hK _ _ ?_) | (clear hK; clear hK; refine hK _ _ ?_)); clear hK; try clear K) | (simp -implicitDefEqProofs only [true_and, true_and, go_sem, seval]) | (with_reducible intro b) | (with_reducible refine And.intro ?_ ?_; · first | assumption | omega | (unfold R64; omega)))
      refine call_is eN ?_
      repeat (first | (with_reducible refine pv_seq fun K hK => ?_) | (with_reducible refine pv_reg ?_; simp -implicitDefEqProofs only [cmpB]) | (with_reducible refine pv_draw (id := 8) [(0, 1), (2, 0), (1, 3), (3, 0), (4, 0), (5, 1), (7, 2), (6, 4), (8, 3), (9, 3), (10, 0), (11, 0), (12, 1), (14, 2), (13, 4), (15, 3), (16, 3), (17, 0), (18, 0), (19, 1), (20, 1), (22, 2), (23, 2), (21, 4), (24, 3), (25, 0), (26, 0), (27, 0)] (by kernel_rfl) ?_; simp -implicitDefEqProofs only [cmpB]) | ((with_reducible first | refine hK _ _ ?_ | (clear hK; refine hK _ _ ?_) | (clear hK; clear hK; refine hK _ _ ?_)); clear hK; try clear K) | (simp -implicitDefEqProofs only [true_and, true_and, go_sem, seval]) | (with_reducible intro b) | (with_reducible refine And.intro ?_ ?_; · first | assumption | omega | (unfold R64; omega)))
      refine ExtC_is ?_
      simp -implicitDefEqProofs only [true_and, true_and, go_sem, seval]
      refine ext_is pB ?_
      repeat (first | (with_reducible refine pv_seq fun K hK => ?_) | (with_reducible refine pv_reg ?_; simp -implicitDefEqProofs only [cmpB]) | (with_reducible refine pv_draw (id := 8) [(0, 1), (2, 0), (1, 3), (3, 0), (4, 0), (5, 1), (7, 2), (6, 4), (8, 3), (9, 3), (10, 0), (11, 0), (12, 1), (14, 2), (13, 4), (15, 3), (16, 3), (17, 0), (18, 0), (19, 1), (20, 1), (22, 2), (23, 2), (21, 4), (24, 3), (25, 0), (26, 0), (27, 0)] (by kernel_rfl) ?_; simp -implicitDefEqProofs only [cmpB]) | ((with_reducible first | refine hK _ _ ?_ | (clear hK; refine hK _ _ ?_) | (clear hK; clear hK; refine hK _ _ ?_)); clear hK; try clear K) | (simp -implicitDefEqProofs only [true_and, true_and, go_sem, seval]) | (with_reducible intro b) | (with_reducible refine And.intro ?_ ?_; · first | assumption | omega | (unfold R64; omega)))
      refine call_is qB ?_
      repeat (first | (with_reducible refine pv_seq fun K hK => ?_) | (with_reducible refine pv_reg ?_; simp -implicitDefEqProofs only [cmpB]) | (with_reducible refine pv_draw (id := 8) [(0, 1), (2, 0), (1, 3), (3, 0), (4, 0), (5, 1), (7, 2), (6, 4), (8, 3), (9, 3), (10, 0), (11, 0), (12, 1), (14, 2), (13, 4), (15, 3), (16, 3), (17, 0), (18, 0), (19, 1), (20, 1), (22, 2), (23, 2), (21, 4), (24, 3), (25, 0), (26, 0), (27, 0)] (by kernel_rfl) ?_; simp -implicitDefEqProofs only [cmpB]) | ((with_reducible first | refine hK _ _ ?_ | (clear hK; refine hK _ _ ?_) | (clear hK; clear hK; refine hK _ _ ?_)); clear hK; try clear K) | (simp -implicitDefEqProofs only [true_and, true_and, go_sem, seval]) | (with_reducible intro b) | (with_reducible refine And.intro ?_ ?_; · first | assumption | omega | (unfold R64; omega)))
      refine call_is eB ?_
      repeat (first | (with_reducible refine pv_seq fun K hK => ?_) | (with_reducible refine pv_reg ?_; simp -implicitDefEqProofs only [cmpB]) | (with_reducible refine pv_draw (id := 8) [(0, 1), (2, 0), (1, 3), (3, 0), (4, 0), (5, 1), (7, 2), (6, 4), (8, 3), (9, 3), (10, 0), (11, 0), (12, 1), (14, 2), (13, 4), (15, 3), (16, 3), (17, 0), (18, 0), (19, 1), (20, 1), (22, 2), (23, 2), (21, 4), (24, 3), (25, 0), (26, 0), (27, 0)] (by kernel_rfl) ?_; simp -implicitDefEqProofs only [cmpB]) | ((with_reducible first | refine hK _ _ ?_ | (clear hK; refine hK _ _ ?_) | (clear hK; clear hK; refine hK _ _ ?_)); clear hK; try clear K) | (simp -implicitDefEqProofs only [true_and, true_and, go_sem, seval]) | (with_reducible intro b) | (with_reducible refine And.intro ?_ ?_; · first | assumption | omega | (unfold R64; omega)))
      refine ExtC_is ?_
      simp -implicitDefEqProofs only [true_and, true_and, go_sem, seval]
      refine ext_is pC ?_
      repeat (first | (with_reducible refine pv_seq fun K hK => ?_) | (with_reducible refine pv_reg ?_; simp -implicitDefEqProofs only [cmpB]) | (with_reducible refine pv_draw (id := 8) [(0, 1), (2, 0), (1, 3), (3, 0), (4, 0), (5, 1), (7, 2), (6, 4), (8, 3), (9, 3), (10, 0), (11, 0), (12, 1), (14, 2), (13, 4), (15, 3), (16, 3), (17, 0), (18, 0), (19, 1), (20, 1), (22, 2), (23, 2), (21, 4), (24, 3), (25, 0), (26, 0), (27, 0)] (by kernel_rfl) ?_; simp -implicitDefEqProofs only [cmpB]) | ((with_reducible first | refine hK _ _ ?_ | (clear hK; refine hK _ _ ?_) | (clear hK; clear hK; refine hK _ _ ?_)); clear hK; try clear K) | (simp -implicitDefEqProofs only [true_and, true_and, go_sem, seval]) | (with_reducible intro b) | (with_reducible refine And.intro ?_ ?_; · first | assumption | omega | (unfold R64; omega)))
      refine call_is qC ?_
      repeat (first | (with_reducible refine pv_seq fun K hK => ?_) | (with_reducible refine pv_reg ?_; simp -implicitDefEqProofs only [cmpB]) | (with_reducible refine pv_draw (id := 8) [(0, 1), (2, 0), (1, 3), (3, 0), (4, 0), (5, 1), (7, 2), (6, 4), (8, 3), (9, 3), (10, 0), (11, 0), (12, 1), (14, 2), (13, 4), (15, 3), (16, 3), (17, 0), (18, 0), (19, 1), (20, 1), (22, 2), (23, 2), (21, 4), (24, 3), (25, 0), (26, 0), (27, 0)] (by kernel_rfl) ?_; simp -implicitDefEqProofs only [cmpB]) | ((with_reducible first | refine hK _ _ ?_ | (clear hK; refine hK _ _ ?_) | (clear hK; clear hK; refine hK _ _ ?_)); clear hK; try clear K) | (simp -implicitDefEqProofs only [true_and, true_and, go_sem, seval]) | (with_reducible intro b) | (with_reducible refine And.intro ?_ ?_; · first | assumption | omega | (unfold R64; omega)))
    | false =>
      rw [hs0 rfl] at pG
      repeat (first | (with_reducible refine pv_seq fun K hK => ?_) | (with_reducible refine pv_reg ?_; simp -implicitDefEqProofs only [cmpB]) | (with_reducible refine pv_draw (id := 8) [(0, 1), (2, 0), (1, 3), (3, 0), (4, 0), (5, 1), (7, 2), (6, 4), (8, 3), (9, 3), (10, 0), (11, 0), (12, 1), (14, 2), (13, 4), (15, 3), (16, 3), (17, 0), (18, 0), (19, 1), (20, 1), (22, 2), (23, 2), (21, 4), (24, 3), (25, 0), (26, 0), (27, 0)] (by kernel_rfl) ?_; simp -implicitDefEqProofs only [cmpB]) | ((with_reducible first | refine hK _ _ ?_ | (clear hK; refine hK _ _ ?_) | (clear hK; clear hK; refine hK _ _ ?_)); clear hK; try clear K) | (simp -implicitDefEqProofs only [true_and, true_and, go_sem, seval]) | (with_reducible intro b) | (with_reducible refine And.intro ?_ ?_; · first | assumption | omega | (unfold R64; omega)))
      refine call_is pG ?_
      repeat (first | (with_reducible refine pv_seq fun K hK => ?_) | (with_reducible refine pv_reg ?_; simp -implicitDefEqProofs only [cmpB]) | (with_reducible refine pv_draw (id := 8) [(0, 1), (2, 0), (1, 3), (3, 0), (4, 0), (5, 1), (7, 2), (6, 4), (8, 3), (9, 3), (10, 0), (11, 0), (12, 1), (14, 2), (13, 4), (15, 3), (16, 3), (17, 0), (18, 0), (19, 1), (20, 1), (22, 2), (23, 2), (21, 4), (24, 3), (25, 0), (26, 0), (27, 0)] (by kernel_rfl) ?_; simp -implicitDefEqProofs only [cmpB]) | ((with_reducible first | refine hK _ _ ?_ | (clear hK; refine hK _ _ ?_) | (clear hK; clear hK; refine hK _ _ ?_)); clear hK; try clear K) | (simp -implicitDefEqProofs only [true_and, true_and, go_sem, seval]) | (with_reducible intro b) | (with_reducible refine And.intro ?_ ?_; · first | assumption | omega | (unfold R64; omega)))
      refine ExtC_is ?_
      simp -implicitDefEqProofs only [true_and, true_and, go_sem, seval]
      refine ext_is pN ?_
      repeat (first | (with_reducible refine pv_seq fun K hK => ?_) | (with_reducible refine pv_reg ?_; simp -implicitDefEqProofs only [cmpB]) | (with_reducible refine pv_draw (id := 8) [(0, 1), (2, 0), (1, 3), (3, 0), (4, 0), (5, 1), (7, 2), (6, 4), (8, 3), (9, 3), (10, 0), (11, 0), (12, 1), (14, 2), (13, 4), (15, 3), (16, 3), (17, 0), (18, 0), (19, 1), (20, 1), (22, 2), (23, 2), (21, 4), (24, 3), (25, 0), (26, 0), (27, 0)] (by kernel_rfl) ?_; simp -implicitDefEqProofs only [cmpB]) | ((with_reducible first | refine hK _ _ ?_ | (clear hK; refine hK _ _ ?_) | (clear hK; clear hK; refine hK _ _ ?_)); clear hK; try clear K) | (simp -implicitDefEqProofs only [true_and, true_and, go_sem, seval]) | (with_reducible intro b) | (with_reducible refine And.intro ?_ ?_; · first | assumption | omega | (unfold R64; omega)))
      refine call_is qN ?_
      repeat (first | (with_reducible refine pv_seq fun K hK => ?_) | (with_reducible refine pv_reg ?_; simp -implicitDefEqProofs only [cmpB]) | (with_reducible refine pv_draw (id := 8) [(0, 1), (2, 0), (1, 3), (3, 0), (4, 0), (5, 1), (7, 2), (6, 4), (8, 3), (9, 3), (10, 0), (11, 0), (12, 1), (14, 2), (13, 4), (15, 3), (16, 3), (17, 0), (18, 0), (19, 1), (20, 1), (22, 2), (23, 2), (21, 4), (24, 3), (25, 0), (26, 0), (27, 0)] (by kernel_rfl) ?_; simp -implicitDefEqProofs only [cmpB]) | ((with_reducible first | refine hK _ _ ?_ | (clear hK; refine hK _ _ ?_) | (clear hK; clear hK; refine hK _ _ ?_)); clear hK; try clear K) | (simp -implicitDefEqProofs only [true_and, true_and, go_sem, seval]) | (with_reducible intro b) | (with_reducible refine And.intro ?_ ?_; · first | assumption | omega | (unfold R64; omega)))
      refine call_is eN ?_
      repeat (first | (with_reducible refine pv_seq fun K hK => ?_) | (with_reducible refine pv_reg ?_; simp -implicitDefEqProofs only [cmpB]) | (with_reducible refine pv_draw (id := 8) [(0, 1), (2, 0), (1, 3), (3, 0), (4, 0), (5, 1), (7, 2), (6, 4), (8, 3), (9, 3), (10, 0), (11, 0), (12, 1), (14, 2), (13, 4), (15, 3), (16, 3), (17, 0), (18, 0), (19, 1), (20, 1), (22, 2), (23, 2), (21, 4), (24, 3), (25, 0), (26, 0), (27, 0)] (by kernel_rfl) ?_; simp -implicitDefEqProofs only [cmpB]) | ((with_reducible first | refine hK _ _ ?_ | (clear hK; refine hK _ _ ?_) | (clear hK; clear hK; refine hK _ _ ?_)); clear hK; try clear K) | (simp -implicitDefEqProofs only [true_and, true_and, go_sem, seval]) | (with_reducible intro b) | (with_reducible refine And.intro ?_ ?_; · first | assumption | omega | (unfold R64; omega)))
      refine ExtC_is ?_
      simp -implicitDefEqProofs only [true_and, true_and, go_sem, seval]
      refine ext_is pB ?_
      repeat (first | (with_reducible refine pv_seq fun K hK => ?_) | (with_reducible refine pv_reg ?_; simp -implicitDefEqProofs only [cmpB]) | (with_reducible refine pv_draw (id := 8) [(0, 1), (2, 0), (1, 3), (3, 0), (4, 0), (5, 1), (7, 2), (6, 4), (8, 3), (9, 3), (10, 0), (11, 0), (12, 1), (14, 2), (13, 4), (15, 3), (16, 3), (17, 0), (18, 0), (19, 1), (20, 1), (22, 2), (23, 2), (21, 4), (24, 3), (25, 0), (26, 0), (27, 0)] (by kernel_rfl) ?_; simp -implicitDefEqProofs only [cmpB]) | ((with_reducible first | refine hK _ _ ?_ | (clear hK; refine hK _ _ ?_) | (clear hK; clear hK; refine hK _ _ ?_)); clear hK; try clear K) | (simp -implicitDefEqProofs only [true_and, true_and, go_sem, seval]) | (with_reducible intro b) | (with_reducible refine And.intro ?_ ?_; · first | assumption | omega | (unfold R64; omega)))
      refine call_is qB ?_
      repeat (first | (with_reducible refine pv_seq fun K hK => ?_) | (with_reducible refine pv_reg ?_; simp -implicitDefEqProofs only [cmpB]) | (with_reducible refine pv_draw (id := 8) [(0, 1), (2, 0), (1, 3), (3, 0), (4, 0), (5, 1), (7, 2), (6, 4), (8, 3), (9, 3), (10, 0), (11, 0), (12, 1), (14, 2), (13, 4), (15, 3), (16, 3), (17, 0), (18, 0), (19, 1), (20, 1), (22, 2), (23, 2), (21, 4), (24, 3), (25, 0), (26, 0), (27, 0)] (by kernel_rfl) ?_; simp -implicitDefEqProofs only [cmpB]) | ((with_reducible first | refine hK _ _ ?_ | (clear hK; refine hK _ _ ?_) | (clear hK; clear hK; refine hK _ _ ?_)); clear hK; try clear K) | (simp -implicitDefEqProofs only [true_and, true_and, go_sem, seval]) | (with_reducible intro b) | (with_reducible refine And.intro ?_ ?_; · first | assumption | omega | (unfold R64; omega)))
      refine call_is eB ?_
      repeat (first | (with_reducible refine pv_seq fun K hK => ?_) | (with_reducible refine pv_reg ?_; simp -implicitDefEqProofs only [cmpB]) | (with_reducible refine pv_draw (id := 8) [(0, 1), (2, 0), (1, 3), (3, 0), (4, 0), (5, 1), (7, 2), (6, 4), (8, 3), (9, 3), (10, 0), (11, 0), (12, 1), (14, 2), (13, 4), (15, 3), (16, 3), (17, 0), (18, 0), (19, 1), (20, 1), (22, 2), (23, 2), (21, 4), (24, 3), (25, 0), (26, 0), (27, 0)] (by kernel_rfl) ?_; simp -implicitDefEqProofs only [cmpB]) | ((with_reducible first | refine hK _ _ ?_ | (clear hK; refine hK _ _ ?_) | (clear hK; clear hK; refine hK _ _ ?_)); clear hK; try clear K) | (simp -implicitDefEqProofs only [true_and, true_and, go_sem, seval]) | (with_reducible intro b) | (with_reducible refine And.intro ?_ ?_; · first | assumption | omega | (unfold R64; omega)))
      refine ExtC_is ?_
      simp -implicitDefEqProofs only [true_and, true_and, go_sem, seval]
      refine ext_is pC ?_
      repeat (first | (with_reducible refine pv_seq fun K hK => ?_) | (with_reducible refine pv_reg ?_; simp -implicitDefEqProofs only [cmpB]) | (with_reducible refine pv_draw (id := 8) [(0, 1), (2, 0), (1, 3), (3, 0), (4, 0), (5, 1), (7, 2), (6, 4), (8, 3), (9, 3), (10, 0), (11, 0), (12, 1), (14, 2), (13, 4), (15, 3), (16, 3), (17, 0), (18, 0), (19, 1), (20, 1), (22, 2), (23, 2), (21, 4), (24, 3), (25, 0), (26, 0), (27, 0)] (by kernel_rfl) ?_; simp -implicitDefEqProofs only [cmpB]) | ((with_reducible first | refine hK _ _ ?_ | (clear hK; refine hK _ _ ?_) | (clear hK; clear hK; refine hK _ _ ?_)); clear hK; try clear K) | (simp -implicitDefEqProofs only [true_and, true_and, go_sem, seval]) | (with_reducible intro b) | (with_reducible refine And.intro ?_ ?_; · first | assumption | omega | (unfold R64; omega)))
      refine call_is qC ?_
      repeat (first | (with_reducible refine pv_seq fun K hK => ?_) | (with_reducible refine pv_reg ?_; simp -implicitDefEqProofs only [cmpB]) | (with_reducible refine pv_draw (id := 8) [(0, 1), (2, 0), (1, 3), (3, 0), (4, 0), (5, 1), (7, 2), (6, 4), (8, 3), (9, 3), (10, 0), (11, 0), (12, 1), (14, 2), (13, 4), (15, 3), (16, 3), (17, 0), (18, 0), (19, 1), (20, 1), (22, 2), (23, 2), (21, 4), (24, 3), (25, 0), (26, 0), (27, 0)] (by kernel_rfl) ?_; simp -implicitDefEqProofs only [cmpB]) | ((with_reducible first | refine hK _ _ ?_ | (clear hK; refine hK _ _ ?_) | (clear hK; clear hK; refine hK _ _ ?_)); clear hK; try clear K) | (simp -implicitDefEqProofs only [true_and, true_and, go_sem, seval]) | (with_reducible intro b) | (with_reducible refine And.intro ?_ ?_; · first | assumption | omega | (unfold R64; omega)))
  · rw [decide_eq_false hl] at pL
    obtain ⟨neg, exp, w⟩ := x
    obtain ⟨neg', exp', w'⟩ := y
    refine PC.body (args := [NU ⟨neg, exp, w⟩, NU ⟨neg', exp', w'⟩]) (rs := [.tmp 4]) mixed Tryd.func6 rfl (by kernel_rfl) (by kernel_rfl) (Nat.le_of_ble_eq_true rfl) rfl ?_
    repeat (first | (with_reducible refine pv_seq fun K hK => ?_) | (with_reducible refine pv_reg ?_; simp -implicitDefEqProofs only [cmpB]) | (with_reducible refine pv_draw (id := 8) [(0, 1), (2, 0), (1, 3), (3, 0), (4, 0), (5, 1), (7, 2), (6, 4), (8, 3), (9, 3), (10, 0), (11, 0), (12, 1), (14, 2), (13, 4), (15, 3), (16, 3), (17, 0), (18, 0), (19, 1), (20, 1), (22, 2), (23, 2), (21, 4), (24, 3), (25, 0), (26, 0), (27, 0)] (by kernel_rfl) ?_; simp -implicitDefEqProofs only [cmpB]) | ((with_reducible first | refine hK _ _ ?_ | (clear hK; refine hK _ _ ?_) | (clear hK; clear hK; refine hK _ _ ?_)); clear hK; try clear K) | (simp -implicitDefEqProofs only [true_and, true_and, go_sem, seval]) | (with_reducible intro b) | (with_reducible refine And.intro ?_ ?_; · first | assumption | omega | (unfold R64; omega)))
    refine call_is p_known2 ?_
    repeat (first | (with_reducible refine pv_seq fun K hK => ?_) | (with_reducible refine pv_reg ?_; simp -implicitDefEqProofs only [cmpB]) | (with_reducible refine pv_draw (id := 8) [(0, 1), (2, 0), (1, 3), (3, 0), (4, 0), (5, 1), (7, 2), (6, 4), (8, 3), (9, 3), (10, 0), (11, 0), (12, 1), (14, 2), (13, 4), (15, 3), (16, 3), (17, 0), (18, 0), (19, 1), (20, 1), (22, 2), (23, 2), (21, 4), (24, 3), (25, 0), (26, 0), (27, 0)] (by kernel_rfl) ?_; simp -implicitDefEqProofs only [cmpB]) | ((with_reducible first | refine hK _ _ ?_ | (clear hK; refine hK _ _ ?_) | (clear hK; clear hK; refine hK _ _ ?_)); clear hK; try clear K) | (simp -implicitDefEqProofs only [true_and, true_and, go_sem, seval]) | (with_reducible intro b) | (with_reducible refine And.intro ?_ ?_; · first | assumption | omega | (unfold R64; omega)))
    refine PFC.coe ?_
    simp -implicitDefEqProofs only [true_and, true_and, go_sem, seval]
    refine call_is pL ?_
    repeat (first | (with_reducible refine pv_seq fun K hK => ?_) | (with_reducible refine pv_reg ?_; simp -implicitDefEqProofs only [cmpB]) | (with_reducible refine pv_draw (id := 8) [(0, 1), (2, 0), (1, 3), (3, 0), (4, 0), (5, 1), (7, 2), (6, 4), (8, 3), (9, 3), (10, 0), (11, 0), (12, 1), (14, 2), (13, 4), (15, 3), (16, 3), (17, 0), (18, 0), (19, 1), (20, 1), (22, 2), (23, 2), (21, 4), (24, 3), (25, 0), (26, 0), (27, 0)] (by kernel_rfl) ?_; simp -implicitDefEqProofs only [cmpB]) | ((with_reducible first | refine hK _ _ ?_ | (clear hK; refine hK _ _ ?_) | (clear hK; clear hK; refine hK _ _ ?_)); clear hK; try clear K) | (simp -implicitDefEqProofs only [true_and, true_and, go_sem, seval]) | (with_reducible intro b) | (with_reducible refine And.intro ?_ ?_; · first | assumption | omega | (unfold R64; omega)))

end Go.V

/- The statement NumDrawn of layer 2. -/
import Derived.Test.YtkmoeenhboicmaaDoorA10
import Derived.Test.YtkmoeenhboicmaaDoorC8
set_option linter.unusedSimpArgs false
set_option linter.unusedVariables false
set_option maxRecDepth 100000
namespace Go.V
open Go Go.RowKit Go.Proofs

theorem scR_len {x : Nu} {j : Int} : (scR x j).1.w.length ≤ 1099511627776 := by
  unfold scR; split
  · split
    · decide
    · split
      · decide
      · exact numR_len
  · decide
theorem p_NumDrawn {w : List Nat} {j : Int} (hb : B64 w) (hj : (Lit.int .i64 j).wf = true) : PC Tryd.prog 8 [W64 w, i64 j] fun d => d = bl true := by
  have hr : R64 j := by unfold R64; simp [Lit.wf, IntKind.min, IntKind.max, IntKind.signed, IntKind.bits] at hj; omega
  refine PC.body (args := [W64 w, i64 j]) (rs := [.tmp 4]) mixed Tryd.func8 rfl (by kernel_rfl) (by kernel_rfl) (Nat.le_of_ble_eq_true rfl) rfl ?_
  repeat (first | (with_reducible refine pv_seq fun K hK => ?_) | (with_reducible refine pv_reg ?_; simp -implicitDefEqProofs only [cmpB]) | (with_reducible refine pv_draw (id := 7) [(0, 1), (1, 3), (2, 0), (3, 1), (4, 1), (5, 3), (6, 0), (7, 0), (8, 1), (9, 1), (10, 3), (11, 0), (12, 0), (13, 2), (14, 1), (15, 4), (16, 3), (17, 0), (18, 0), (19, 0), (20, 0), (21, 0), (22, 0), (23, 0), (24, 1), (25, 1), (26, 3), (27, 0), (28, 0)] (by kernel_rfl) ?_; simp -implicitDefEqProofs only [cmpB]) | ((with_reducible first | refine hK _ _ ?_ | (clear hK; refine hK _ _ ?_) | (clear hK; clear hK; refine hK _ _ ?_)); clear hK; try clear K) | (simp -implicitDefEqProofs only [true_and, true_and, go_sem, seval]) | (with_reducible intro b) | (with_reducible refine And.intro ?_ ?_; · first | assumption | omega | (unfold R64; omega)))
  refine call_is p_known2 ?_
  repeat (first | (with_reducible refine pv_seq fun K hK => ?_) | (with_reducible refine pv_reg ?_; simp -implicitDefEqProofs only [cmpB]) | (with_reducible refine pv_draw (id := 7) [(0, 1), (1, 3), (2, 0), (3, 1), (4, 1), (5, 3), (6, 0), (7, 0), (8, 1), (9, 1), (10, 3), (11, 0), (12, 0), (13, 2), (14, 1), (15, 4), (16, 3), (17, 0), (18, 0), (19, 0), (20, 0), (21, 0), (22, 0), (23, 0), (24, 1), (25, 1), (26, 3), (27, 0), (28, 0)] (by kernel_rfl) ?_; simp -implicitDefEqProofs only [cmpB]) | ((with_reducible first | refine hK _ _ ?_ | (clear hK; refine hK _ _ ?_) | (clear hK; clear hK; refine hK _ _ ?_)); clear hK; try clear K) | (simp -implicitDefEqProofs only [true_and, true_and, go_sem, seval]) | (with_reducible intro b) | (with_reducible refine And.intro ?_ ?_; · first | assumption | omega | (unfold R64; omega)))
  refine p_Of (fun b0 => ?_)
  repeat (first | (with_reducible refine pv_seq fun K hK => ?_) | (with_reducible refine pv_reg ?_; simp -implicitDefEqProofs only [cmpB]) | (with_reducible refine pv_draw (id := 7) [(0, 1), (1, 3), (2, 0), (3, 1), (4, 1), (5, 3), (6, 0), (7, 0), (8, 1), (9, 1), (10, 3), (11, 0), (12, 0), (13, 2), (14, 1), (15, 4), (16, 3), (17, 0), (18, 0), (19, 0), (20, 0), (21, 0), (22, 0), (23, 0), (24, 1), (25, 1), (26, 3), (27, 0), (28, 0)] (by kernel_rfl) ?_; simp -implicitDefEqProofs only [cmpB]) | ((with_reducible first | refine hK _ _ ?_ | (clear hK; refine hK _ _ ?_) | (clear hK; clear hK; refine hK _ _ ?_)); clear hK; try clear K) | (simp -implicitDefEqProofs only [true_and, true_and, go_sem, seval]) | (with_reducible intro b) | (with_reducible refine And.intro ?_ ?_; · first | assumption | omega | (unfold R64; omega)))
  refine p_dnum (i := 0) (by simp -implicitDefEqProofs only [updS, upS, if_true]; rfl) hb (by omega) (fun d1 j1 o1 l1 => ?_)
  repeat (first | (with_reducible refine pv_seq fun K hK => ?_) | (with_reducible refine pv_reg ?_; simp -implicitDefEqProofs only [cmpB]) | (with_reducible refine pv_draw (id := 7) [(0, 1), (1, 3), (2, 0), (3, 1), (4, 1), (5, 3), (6, 0), (7, 0), (8, 1), (9, 1), (10, 3), (11, 0), (12, 0), (13, 2), (14, 1), (15, 4), (16, 3), (17, 0), (18, 0), (19, 0), (20, 0), (21, 0), (22, 0), (23, 0), (24, 1), (25, 1), (26, 3), (27, 0), (28, 0)] (by kernel_rfl) ?_; simp -implicitDefEqProofs only [cmpB]) | ((with_reducible first | refine hK _ _ ?_ | (clear hK; refine hK _ _ ?_) | (clear hK; clear hK; refine hK _ _ ?_)); clear hK; try clear K) | (simp -implicitDefEqProofs only [true_and, true_and, go_sem, seval]) | (with_reducible intro b) | (with_reducible refine And.intro ?_ ?_; · first | assumption | omega | (unfold R64; omega)))
  refine p_dnum (i := j1) (by simp -implicitDefEqProofs only [updS, upS, if_true]; rfl) hb (by omega) (fun d2 j2 o2 l2 => ?_)
  repeat (first | (with_reducible refine pv_seq fun K hK => ?_) | (with_reducible refine pv_reg ?_; simp -implicitDefEqProofs only [cmpB]) | (with_reducible refine pv_draw (id := 7) [(0, 1), (1, 3), (2, 0), (3, 1), (4, 1), (5, 3), (6, 0), (7, 0), (8, 1), (9, 1), (10, 3), (11, 0), (12, 0), (13, 2), (14, 1), (15, 4), (16, 3), (17, 0), (18, 0), (19, 0), (20, 0), (21, 0), (22, 0), (23, 0), (24, 1), (25, 1), (26, 3), (27, 0), (28, 0)] (by kernel_rfl) ?_; simp -implicitDefEqProofs only [cmpB]) | ((with_reducible first | refine hK _ _ ?_ | (clear hK; refine hK _ _ ?_) | (clear hK; clear hK; refine hK _ _ ?_)); clear hK; try clear K) | (simp -implicitDefEqProofs only [true_and, true_and, go_sem, seval]) | (with_reducible intro b) | (with_reducible refine And.intro ?_ ?_; · first | assumption | omega | (unfold R64; omega)))
  have wx : B64 (nuOf d1).w := by rw [nuOf_f]; exact digs_lt (by decide) _
  have wy : B64 (nuOf d2).w := by rw [nuOf_f]; exact digs_lt (by decide) _
  have r1 : rightB (nuOf d1) = true := by rw [rightB_nuOf, decide_eq_true o1]
  have wz : B64 (nuOf (- rv (nuOf d1))).w := by rw [nuOf_f]; exact digs_lt (by decide) _
  have pS := p_nScale (j := j) (right_sz wx r1).wl (by decide) hr
  have qS := p_rScale wx hr
  have pR := p_nRight wx
  rw [r1] at pR
  have pG := p_NumReckons wx wy
  have pO := p_NumOrders wx wy
  have pN := p_nNeg (right_sz wx r1).wl (by decide)
  have pH := p_NumReckons wx wz
  have pE := same_refl (scR_len (x := nuOf d1) (j := j))
  generalize nuOf (- rv (nuOf d1)) = z at *
  generalize scR (nuOf d1) j = q at *
  generalize nuOf d1 = x at *
  generalize nuOf d2 = y at *
  obtain ⟨⟨s1, e1, w1⟩, er⟩ := q
  obtain ⟨s2, e2, w2⟩ := x
  obtain ⟨s3, e3, w3⟩ := y
  obtain ⟨s4, e4, w4⟩ := z
  simp only at pE
  have k1 : (er = er) = True := eq_true rfl
  refine call_is pS ?_
  repeat (first | (with_reducible refine pv_seq fun K hK => ?_) | (with_reducible refine pv_reg ?_; simp -implicitDefEqProofs only [cmpB]) | (with_reducible refine pv_draw (id := 7) [(0, 1), (1, 3), (2, 0), (3, 1), (4, 1), (5, 3), (6, 0), (7, 0), (8, 1), (9, 1), (10, 3), (11, 0), (12, 0), (13, 2), (14, 1), (15, 4), (16, 3), (17, 0), (18, 0), (19, 0), (20, 0), (21, 0), (22, 0), (23, 0), (24, 1), (25, 1), (26, 3), (27, 0), (28, 0)] (by kernel_rfl) ?_; simp -implicitDefEqProofs only [cmpB]) | ((with_reducible first | refine hK _ _ ?_ | (clear hK; refine hK _ _ ?_) | (clear hK; clear hK; refine hK _ _ ?_)); clear hK; try clear K) | (simp -implicitDefEqProofs only [k1, true_and, go_sem, seval]) | (with_reducible intro b) | (with_reducible refine And.intro ?_ ?_; · first | assumption | omega | (unfold R64; omega)))
  refine call_is qS ?_
  repeat (first | (with_reducible refine pv_seq fun K hK => ?_) | (with_reducible refine pv_reg ?_; simp -implicitDefEqProofs only [cmpB]) | (with_reducible refine pv_draw (id := 7) [(0, 1), (1, 3), (2, 0), (3, 1), (4, 1), (5, 3), (6, 0), (7, 0), (8, 1), (9, 1), (10, 3), (11, 0), (12, 0), (13, 2), (14, 1), (15, 4), (16, 3), (17, 0), (18, 0), (19, 0), (20, 0), (21, 0), (22, 0), (23, 0), (24, 1), (25, 1), (26, 3), (27, 0), (28, 0)] (by kernel_rfl) ?_; simp -implicitDefEqProofs only [cmpB]) | ((with_reducible first | refine hK _ _ ?_ | (clear hK; refine hK _ _ ?_) | (clear hK; clear hK; refine hK _ _ ?_)); clear hK; try clear K) | (simp -implicitDefEqProofs only [k1, true_and, go_sem, seval]) | (with_reducible intro b) | (with_reducible refine And.intro ?_ ?_; · first | assumption | omega | (unfold R64; omega)))
  refine call_is pR ?_
  repeat (first | (with_reducible refine pv_seq fun K hK => ?_) | (with_reducible refine pv_reg ?_; simp -implicitDefEqProofs only [cmpB]) | (with_reducible refine pv_draw (id := 7) [(0, 1), (1, 3), (2, 0), (3, 1), (4, 1), (5, 3), (6, 0), (7, 0), (8, 1), (9, 1), (10, 3), (11, 0), (12, 0), (13, 2), (14, 1), (15, 4), (16, 3), (17, 0), (18, 0), (19, 0), (20, 0), (21, 0), (22, 0), (23, 0), (24, 1), (25, 1), (26, 3), (27, 0), (28, 0)] (by kernel_rfl) ?_; simp -implicitDefEqProofs only [cmpB]) | ((with_reducible first | refine hK _ _ ?_ | (clear hK; refine hK _ _ ?_) | (clear hK; clear hK; refine hK _ _ ?_)); clear hK; try clear K) | (simp -implicitDefEqProofs only [k1, true_and, go_sem, seval]) | (with_reducible intro b) | (with_reducible refine And.intro ?_ ?_; · first | assumption | omega | (unfold R64; omega)))
  refine call_is pG ?_
  repeat (first | (with_reducible refine pv_seq fun K hK => ?_) | (with_reducible refine pv_reg ?_; simp -implicitDefEqProofs only [cmpB]) | (with_reducible refine pv_draw (id := 7) [(0, 1), (1, 3), (2, 0), (3, 1), (4, 1), (5, 3), (6, 0), (7, 0), (8, 1), (9, 1), (10, 3), (11, 0), (12, 0), (13, 2), (14, 1), (15, 4), (16, 3), (17, 0), (18, 0), (19, 0), (20, 0), (21, 0), (22, 0), (23, 0), (24, 1), (25, 1), (26, 3), (27, 0), (28, 0)] (by kernel_rfl) ?_; simp -implicitDefEqProofs only [cmpB]) | ((with_reducible first | refine hK _ _ ?_ | (clear hK; refine hK _ _ ?_) | (clear hK; clear hK; refine hK _ _ ?_)); clear hK; try clear K) | (simp -implicitDefEqProofs only [k1, true_and, go_sem, seval]) | (with_reducible intro b) | (with_reducible refine And.intro ?_ ?_; · first | assumption | omega | (unfold R64; omega)))
  refine call_is pO ?_
  repeat (first | (with_reducible refine pv_seq fun K hK => ?_) | (with_reducible refine pv_reg ?_; simp -implicitDefEqProofs only [cmpB]) | (with_reducible refine pv_draw (id := 7) [(0, 1), (1, 3), (2, 0), (3, 1), (4, 1), (5, 3), (6, 0), (7, 0), (8, 1), (9, 1), (10, 3), (11, 0), (12, 0), (13, 2), (14, 1), (15, 4), (16, 3), (17, 0), (18, 0), (19, 0), (20, 0), (21, 0), (22, 0), (23, 0), (24, 1), (25, 1), (26, 3), (27, 0), (28, 0)] (by kernel_rfl) ?_; simp -implicitDefEqProofs only [cmpB]) | ((with_reducible first | refine hK _ _ ?_ | (clear hK; refine hK _ _ ?_) | (clear hK; clear hK; refine hK _ _ ?_)); clear hK; try clear K) | (simp -implicitDefEqProofs only [k1, true_and, go_sem, seval]) | (with_reducible intro b) | (with_reducible refine And.intro ?_ ?_; · first | assumption | omega | (unfold R64; omega)))
  refine ExtC_is ?_
  simp -implicitDefEqProofs only [k1, true_and, go_sem, seval]
  refine ext_is pN ?_
  repeat (first | (with_reducible refine pv_seq fun K hK => ?_) | (with_reducible refine pv_reg ?_; simp -implicitDefEqProofs only [cmpB]) | (with_reducible refine pv_draw (id := 7) [(0, 1), (1, 3), (2, 0), (3, 1), (4, 1), (5, 3), (6, 0), (7, 0), (8, 1), (9, 1), (10, 3), (11, 0), (12, 0), (13, 2), (14, 1), (15, 4), (16, 3), (17, 0), (18, 0), (19, 0), (20, 0), (21, 0), (22, 0), (23, 0), (24, 1), (25, 1), (26, 3), (27, 0), (28, 0)] (by kernel_rfl) ?_; simp -implicitDefEqProofs only [cmpB]) | ((with_reducible first | refine hK _ _ ?_ | (clear hK; refine hK _ _ ?_) | (clear hK; clear hK; refine hK _ _ ?_)); clear hK; try clear K) | (simp -implicitDefEqProofs only [k1, true_and, go_sem, seval]) | (with_reducible intro b) | (with_reducible refine And.intro ?_ ?_; · first | assumption | omega | (unfold R64; omega)))
  refine call_is pH ?_
  repeat (first | (with_reducible refine pv_seq fun K hK => ?_) | (with_reducible refine pv_reg ?_; simp -implicitDefEqProofs only [cmpB]) | (with_reducible refine pv_draw (id := 7) [(0, 1), (1, 3), (2, 0), (3, 1), (4, 1), (5, 3), (6, 0), (7, 0), (8, 1), (9, 1), (10, 3), (11, 0), (12, 0), (13, 2), (14, 1), (15, 4), (16, 3), (17, 0), (18, 0), (19, 0), (20, 0), (21, 0), (22, 0), (23, 0), (24, 1), (25, 1), (26, 3), (27, 0), (28, 0)] (by kernel_rfl) ?_; simp -implicitDefEqProofs only [cmpB]) | ((with_reducible first | refine hK _ _ ?_ | (clear hK; refine hK _ _ ?_) | (clear hK; clear hK; refine hK _ _ ?_)); clear hK; try clear K) | (simp -implicitDefEqProofs only [k1, true_and, go_sem, seval]) | (with_reducible intro b) | (with_reducible refine And.intro ?_ ?_; · first | assumption | omega | (unfold R64; omega)))
  refine call_is pE ?_
  repeat (first | (with_reducible refine pv_seq fun K hK => ?_) | (with_reducible refine pv_reg ?_; simp -implicitDefEqProofs only [cmpB]) | (with_reducible refine pv_draw (id := 7) [(0, 1), (1, 3), (2, 0), (3, 1), (4, 1), (5, 3), (6, 0), (7, 0), (8, 1), (9, 1), (10, 3), (11, 0), (12, 0), (13, 2), (14, 1), (15, 4), (16, 3), (17, 0), (18, 0), (19, 0), (20, 0), (21, 0), (22, 0), (23, 0), (24, 1), (25, 1), (26, 3), (27, 0), (28, 0)] (by kernel_rfl) ?_; simp -implicitDefEqProofs only [cmpB]) | ((with_reducible first | refine hK _ _ ?_ | (clear hK; refine hK _ _ ?_) | (clear hK; clear hK; refine hK _ _ ?_)); clear hK; try clear K) | (simp -implicitDefEqProofs only [k1, true_and, go_sem, seval]) | (with_reducible intro b) | (with_reducible refine And.intro ?_ ?_; · first | assumption | omega | (unfold R64; omega)))
end Go.V

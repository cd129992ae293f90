/- The statements' own small functions: NatProducts. -/
import Derived.Test.YtilnmcabjkpohaaDoorM
import Derived.Test.YtilnmcabjkpohaaDoorDV
import Derived.Test.YtilnmcabjkpohaaDoorR8
import Derived.Test.YtilnmcabjkpohaaDoorR10
set_option linter.unusedSimpArgs false
set_option linter.unusedVariables false
set_option maxRecDepth 100000
namespace Go.V
open Go Go.RowKit Go.Proofs

theorem D32q {n k : Nat} (h : n < Mw k) : (D32 n).length ≤ 2 * k := by
  have e : Mw k = 4294967296 ^ (2 * k) := by unfold Mw; rw [Nat.pow_mul]
  rw [e] at h
  exact digs_len_le two32 h
theorem D32_len0 {n : Nat} : (D32 n).length = 0 ↔ n = 0 := by rw [List.length_eq_zero_iff]; exact digs_eq_nil two32

theorem p_NatProducts {xs ys : List Nat} (hx : B64 xs) (hy : B64 ys) : PC Tryd.prog 5 [W64 xs, W64 ys] fun d => d = bl true := by
  refine PC.body (args := [W64 xs, W64 ys]) (rs := [.tmp 4]) mixed Tryd.func5 rfl (by kernel_rfl) (by kernel_rfl) (Nat.le_of_ble_eq_true rfl) rfl ?_
  repeat (first
   | (with_reducible first | refine pv_seq fun K hK => ?_ | refine pv_skip ?_ | refine pv_block ?_ | refine pv_scope ?_ | refine pv_label ?_)
   | (with_reducible refine pv_reg ?_; simp -implicitDefEqProofs only [comp_nil, comp_cons, compD_nil, compD_cons, gsl_none, gsl_some, List.getElem?_cons_zero, List.getElem?_cons_succ, Option.map_some, Option.bind_some, lapp_cons, lapp_nil])
   | (fail)
   | (with_reducible refine pv_condT ?_ ?_; · simp -implicitDefEqProofs only [true_and, go_sem, seval] <;> rfl)
   | (with_reducible refine pv_condF ?_ ?_; · simp -implicitDefEqProofs only [true_and, go_sem, seval] <;> rfl)
   | (with_reducible refine pv_exit ?_; simp only [↓reduceIte, Nat.reduceEqDiff])
   | (with_reducible refine pv_ret ?_; simp -implicitDefEqProofs only [retC, retS, retR, resD, oneD, coeDs_nil, coeDs_cons, coeD_agg, coeD_g, coeD_nil, coeD_own, coeCs_nil, coeCs_cons, coeC_g, coeC_nil, coeC_own, true_and, go_sem, seval])
   | ((with_reducible first | refine hK _ _ ?_ | (clear hK; refine hK _ _ ?_) | (clear hK; clear hK; refine hK _ _ ?_)); clear hK; try clear K)
   | (simp -implicitDefEqProofs only [true_and, go_sem, seval])
   | (with_reducible intro b)
   | (with_reducible refine And.intro ?_ ?_; · first | assumption | omega | (unfold R64; omega)))
  refine call_is p_known ?_
  repeat (first
   | (with_reducible first | refine pv_seq fun K hK => ?_ | refine pv_skip ?_ | refine pv_block ?_ | refine pv_scope ?_ | refine pv_label ?_)
   | (with_reducible refine pv_reg ?_; simp -implicitDefEqProofs only [comp_nil, comp_cons, compD_nil, compD_cons, gsl_none, gsl_some, List.getElem?_cons_zero, List.getElem?_cons_succ, Option.map_some, Option.bind_some, lapp_cons, lapp_nil])
   | (fail)
   | (with_reducible refine pv_condT ?_ ?_; · simp -implicitDefEqProofs only [true_and, go_sem, seval] <;> rfl)
   | (with_reducible refine pv_condF ?_ ?_; · simp -implicitDefEqProofs only [true_and, go_sem, seval] <;> rfl)
   | (with_reducible refine pv_exit ?_; simp only [↓reduceIte, Nat.reduceEqDiff])
   | (with_reducible refine pv_ret ?_; simp -implicitDefEqProofs only [retC, retS, retR, resD, oneD, coeDs_nil, coeDs_cons, coeD_agg, coeD_g, coeD_nil, coeD_own, coeCs_nil, coeCs_cons, coeC_g, coeC_nil, coeC_own, true_and, go_sem, seval])
   | ((with_reducible first | refine hK _ _ ?_ | (clear hK; refine hK _ _ ?_) | (clear hK; clear hK; refine hK _ _ ?_)); clear hK; try clear K)
   | (simp -implicitDefEqProofs only [true_and, go_sem, seval])
   | (with_reducible intro b)
   | (with_reducible refine And.intro ?_ ?_; · first | assumption | omega | (unfold R64; omega)))
  refine PFC.coe ?_
  simp -implicitDefEqProofs only [coeDs_nil, coeDs_cons, coeD_agg, coeD_g, coeD_nil, coeD_own, coeCs_nil, coeCs_cons, coeC_g, coeC_nil, coeC_own, pureLL, pureL, tg_g, tg_nil, Nat.zero_add, Nat.le_refl, W64_l1, W64_l2, W32_l1, toG_W64, WW_1, WW_2, WW_3, true_and, go_sem, seval]
  refine call_is (p_few (xss := [xs, ys]) (by simp)) ?_
  by_cases hl : xs.length ≤ 40 ∧ ys.length ≤ 40
  · have hf : decide (∀ l ∈ [xs, ys], l.length ≤ 40) = true := by simpa using hl
    rw [hf]
    have X := Wd.x hx hl.1; have Y := Wd.x hy hl.2
    have x := nlt hx hl.1; have y := nlt hy hl.2
    have lx := D32q x; have ly := D32q y
    have pxy := Mw_mul x y
    have lxy := D32q pxy
    have pD := p_Div hx hy X.2.2 Y.2.2
    have pM := p_rMul (digs_lt two32 (N64 xs)) (digs_lt two32 (N64 ys)) (Nat.le_trans lx (by decide)) (Nat.le_trans ly (by decide))
    rw [show N32 (D32 (N64 xs)) = N64 xs from nval_digs two32 _, show N32 (D32 (N64 ys)) = N64 ys from nval_digs two32 _] at pM
    repeat (first
     | (with_reducible first | refine pv_seq fun K hK => ?_ | refine pv_skip ?_ | refine pv_block ?_ | refine pv_scope ?_ | refine pv_label ?_)
     | (with_reducible refine pv_reg ?_; simp -implicitDefEqProofs only [comp_nil, comp_cons, compD_nil, compD_cons, gsl_none, gsl_some, List.getElem?_cons_zero, List.getElem?_cons_succ, Option.map_some, Option.bind_some, lapp_cons, lapp_nil])
     | (fail)
     | (with_reducible refine pv_condT ?_ ?_; · simp -implicitDefEqProofs only [true_and, go_sem, seval] <;> rfl)
     | (with_reducible refine pv_condF ?_ ?_; · simp -implicitDefEqProofs only [true_and, go_sem, seval] <;> rfl)
     | (with_reducible refine pv_exit ?_; simp only [↓reduceIte, Nat.reduceEqDiff])
     | (with_reducible refine pv_ret ?_; simp -implicitDefEqProofs only [retC, retS, retR, resD, oneD, coeDs_nil, coeDs_cons, coeD_agg, coeD_g, coeD_nil, coeD_own, coeCs_nil, coeCs_cons, coeC_g, coeC_nil, coeC_own, true_and, go_sem, seval])
     | ((with_reducible first | refine hK _ _ ?_ | (clear hK; refine hK _ _ ?_) | (clear hK; clear hK; refine hK _ _ ?_)); clear hK; try clear K)
     | (simp -implicitDefEqProofs only [true_and, go_sem, seval])
     | (with_reducible intro b)
     | (with_reducible refine And.intro ?_ ?_; · first | assumption | omega | (unfold R64; omega)))
    refine call_is (p_Part hx X.2.2) ?_
    repeat (first
     | (with_reducible first | refine pv_seq fun K hK => ?_ | refine pv_skip ?_ | refine pv_block ?_ | refine pv_scope ?_ | refine pv_label ?_)
     | (with_reducible refine pv_reg ?_; simp -implicitDefEqProofs only [comp_nil, comp_cons, compD_nil, compD_cons, gsl_none, gsl_some, List.getElem?_cons_zero, List.getElem?_cons_succ, Option.map_some, Option.bind_some, lapp_cons, lapp_nil])
     | (fail)
     | (with_reducible refine pv_condT ?_ ?_; · simp -implicitDefEqProofs only [true_and, go_sem, seval] <;> rfl)
     | (with_reducible refine pv_condF ?_ ?_; · simp -implicitDefEqProofs only [true_and, go_sem, seval] <;> rfl)
     | (with_reducible refine pv_exit ?_; simp only [↓reduceIte, Nat.reduceEqDiff])
     | (with_reducible refine pv_ret ?_; simp -implicitDefEqProofs only [retC, retS, retR, resD, oneD, coeDs_nil, coeDs_cons, coeD_agg, coeD_g, coeD_nil, coeD_own, coeCs_nil, coeCs_cons, coeC_g, coeC_nil, coeC_own, true_and, go_sem, seval])
     | ((with_reducible first | refine hK _ _ ?_ | (clear hK; refine hK _ _ ?_) | (clear hK; clear hK; refine hK _ _ ?_)); clear hK; try clear K)
     | (simp -implicitDefEqProofs only [true_and, go_sem, seval])
     | (with_reducible intro b)
     | (with_reducible refine And.intro ?_ ?_; · first | assumption | omega | (unfold R64; omega)))
    refine call_is (p_Part hy Y.2.2) ?_
    repeat (first
     | (with_reducible first | refine pv_seq fun K hK => ?_ | refine pv_skip ?_ | refine pv_block ?_ | refine pv_scope ?_ | refine pv_label ?_)
     | (with_reducible refine pv_reg ?_; simp -implicitDefEqProofs only [comp_nil, comp_cons, compD_nil, compD_cons, gsl_none, gsl_some, List.getElem?_cons_zero, List.getElem?_cons_succ, Option.map_some, Option.bind_some, lapp_cons, lapp_nil])
     | (fail)
     | (with_reducible refine pv_condT ?_ ?_; · simp -implicitDefEqProofs only [true_and, go_sem, seval] <;> rfl)
     | (with_reducible refine pv_condF ?_ ?_; · simp -implicitDefEqProofs only [true_and, go_sem, seval] <;> rfl)
     | (with_reducible refine pv_exit ?_; simp only [↓reduceIte, Nat.reduceEqDiff])
     | (with_reducible refine pv_ret ?_; simp -implicitDefEqProofs only [retC, retS, retR, resD, oneD, coeDs_nil, coeDs_cons, coeD_agg, coeD_g, coeD_nil, coeD_own, coeCs_nil, coeCs_cons, coeC_g, coeC_nil, coeC_own, true_and, go_sem, seval])
     | ((with_reducible first | refine hK _ _ ?_ | (clear hK; refine hK _ _ ?_) | (clear hK; clear hK; refine hK _ _ ?_)); clear hK; try clear K)
     | (simp -implicitDefEqProofs only [true_and, go_sem, seval])
     | (with_reducible intro b)
     | (with_reducible refine And.intro ?_ ?_; · first | assumption | omega | (unfold R64; omega)))
    by_cases h0 : N64 ys = 0
    · rw [if_pos h0] at pD
      have l0 : (D32 (N64 ys)).length = 0 := D32_len0.2 h0
      refine call_is pD ?_
      repeat (first
       | (with_reducible first | refine pv_seq fun K hK => ?_ | refine pv_skip ?_ | refine pv_block ?_ | refine pv_scope ?_ | refine pv_label ?_)
       | (with_reducible refine pv_reg ?_; simp -implicitDefEqProofs only [comp_nil, comp_cons, compD_nil, compD_cons, gsl_none, gsl_some, List.getElem?_cons_zero, List.getElem?_cons_succ, Option.map_some, Option.bind_some, lapp_cons, lapp_nil])
       | (fail)
       | (with_reducible refine pv_condT ?_ ?_; · simp -implicitDefEqProofs only [l0, eq_self, bne_self_eq_false, true_and, go_sem, seval] <;> rfl)
       | (with_reducible refine pv_condF ?_ ?_; · simp -implicitDefEqProofs only [l0, eq_self, bne_self_eq_false, true_and, go_sem, seval] <;> rfl)
       | (with_reducible refine pv_exit ?_; simp only [↓reduceIte, Nat.reduceEqDiff])
       | (with_reducible refine pv_ret ?_; simp -implicitDefEqProofs only [retC, retS, retR, resD, oneD, coeDs_nil, coeDs_cons, coeD_agg, coeD_g, coeD_nil, coeD_own, coeCs_nil, coeCs_cons, coeC_g, coeC_nil, coeC_own, l0, eq_self, bne_self_eq_false, true_and, go_sem, seval])
       | ((with_reducible first | refine hK _ _ ?_ | (clear hK; refine hK _ _ ?_) | (clear hK; clear hK; refine hK _ _ ?_)); clear hK; try clear K)
       | (simp -implicitDefEqProofs only [l0, eq_self, bne_self_eq_false, true_and, go_sem, seval])
       | (with_reducible intro b)
       | (with_reducible refine And.intro ?_ ?_; · first | assumption | omega | (unfold R64; omega)))
      refine call_is (w_Mul X Y) ?_
      repeat (first
       | (with_reducible first | refine pv_seq fun K hK => ?_ | refine pv_skip ?_ | refine pv_block ?_ | refine pv_scope ?_ | refine pv_label ?_)
       | (with_reducible refine pv_reg ?_; simp -implicitDefEqProofs only [comp_nil, comp_cons, compD_nil, compD_cons, gsl_none, gsl_some, List.getElem?_cons_zero, List.getElem?_cons_succ, Option.map_some, Option.bind_some, lapp_cons, lapp_nil])
       | (fail)
       | (with_reducible refine pv_condT ?_ ?_; · simp -implicitDefEqProofs only [l0, eq_self, bne_self_eq_false, true_and, go_sem, seval] <;> rfl)
       | (with_reducible refine pv_condF ?_ ?_; · simp -implicitDefEqProofs only [l0, eq_self, bne_self_eq_false, true_and, go_sem, seval] <;> rfl)
       | (with_reducible refine pv_exit ?_; simp only [↓reduceIte, Nat.reduceEqDiff])
       | (with_reducible refine pv_ret ?_; simp -implicitDefEqProofs only [retC, retS, retR, resD, oneD, coeDs_nil, coeDs_cons, coeD_agg, coeD_g, coeD_nil, coeD_own, coeCs_nil, coeCs_cons, coeC_g, coeC_nil, coeC_own, l0, eq_self, bne_self_eq_false, true_and, go_sem, seval])
       | ((with_reducible first | refine hK _ _ ?_ | (clear hK; refine hK _ _ ?_) | (clear hK; clear hK; refine hK _ _ ?_)); clear hK; try clear K)
       | (simp -implicitDefEqProofs only [l0, eq_self, bne_self_eq_false, true_and, go_sem, seval])
       | (with_reducible intro b)
       | (with_reducible refine And.intro ?_ ?_; · first | assumption | omega | (unfold R64; omega)))
      refine call_is pM ?_
      repeat (first
       | (with_reducible first | refine pv_seq fun K hK => ?_ | refine pv_skip ?_ | refine pv_block ?_ | refine pv_scope ?_ | refine pv_label ?_)
       | (with_reducible refine pv_reg ?_; simp -implicitDefEqProofs only [comp_nil, comp_cons, compD_nil, compD_cons, gsl_none, gsl_some, List.getElem?_cons_zero, List.getElem?_cons_succ, Option.map_some, Option.bind_some, lapp_cons, lapp_nil])
       | (fail)
       | (with_reducible refine pv_condT ?_ ?_; · simp -implicitDefEqProofs only [l0, eq_self, bne_self_eq_false, true_and, go_sem, seval] <;> rfl)
       | (with_reducible refine pv_condF ?_ ?_; · simp -implicitDefEqProofs only [l0, eq_self, bne_self_eq_false, true_and, go_sem, seval] <;> rfl)
       | (with_reducible refine pv_exit ?_; simp only [↓reduceIte, Nat.reduceEqDiff])
       | (with_reducible refine pv_ret ?_; simp -implicitDefEqProofs only [retC, retS, retR, resD, oneD, coeDs_nil, coeDs_cons, coeD_agg, coeD_g, coeD_nil, coeD_own, coeCs_nil, coeCs_cons, coeC_g, coeC_nil, coeC_own, l0, eq_self, bne_self_eq_false, true_and, go_sem, seval])
       | ((with_reducible first | refine hK _ _ ?_ | (clear hK; refine hK _ _ ?_) | (clear hK; clear hK; refine hK _ _ ?_)); clear hK; try clear K)
       | (simp -implicitDefEqProofs only [l0, eq_self, bne_self_eq_false, true_and, go_sem, seval])
       | (with_reducible intro b)
       | (with_reducible refine And.intro ?_ ?_; · first | assumption | omega | (unfold R64; omega)))
      refine call_is (p_Words (by omega)) ?_
      repeat (first
       | (with_reducible first | refine pv_seq fun K hK => ?_ | refine pv_skip ?_ | refine pv_block ?_ | refine pv_scope ?_ | refine pv_label ?_)
       | (with_reducible refine pv_reg ?_; simp -implicitDefEqProofs only [comp_nil, comp_cons, compD_nil, compD_cons, gsl_none, gsl_some, List.getElem?_cons_zero, List.getElem?_cons_succ, Option.map_some, Option.bind_some, lapp_cons, lapp_nil])
       | (fail)
       | (with_reducible refine pv_condT ?_ ?_; · simp -implicitDefEqProofs only [l0, eq_self, bne_self_eq_false, true_and, go_sem, seval] <;> rfl)
       | (with_reducible refine pv_condF ?_ ?_; · simp -implicitDefEqProofs only [l0, eq_self, bne_self_eq_false, true_and, go_sem, seval] <;> rfl)
       | (with_reducible refine pv_exit ?_; simp only [↓reduceIte, Nat.reduceEqDiff])
       | (with_reducible refine pv_ret ?_; simp -implicitDefEqProofs only [retC, retS, retR, resD, oneD, coeDs_nil, coeDs_cons, coeD_agg, coeD_g, coeD_nil, coeD_own, coeCs_nil, coeCs_cons, coeC_g, coeC_nil, coeC_own, l0, eq_self, bne_self_eq_false, true_and, go_sem, seval])
       | ((with_reducible first | refine hK _ _ ?_ | (clear hK; refine hK _ _ ?_) | (clear hK; clear hK; refine hK _ _ ?_)); clear hK; try clear K)
       | (simp -implicitDefEqProofs only [l0, eq_self, bne_self_eq_false, true_and, go_sem, seval])
       | (with_reducible intro b)
       | (with_reducible refine And.intro ?_ ?_; · first | assumption | omega | (unfold R64; omega)))
      refine call_is (w_Words (Mw_up pxy (by decide)) rfl) ?_
      repeat (first
       | (with_reducible first | refine pv_seq fun K hK => ?_ | refine pv_skip ?_ | refine pv_block ?_ | refine pv_scope ?_ | refine pv_label ?_)
       | (with_reducible refine pv_reg ?_; simp -implicitDefEqProofs only [comp_nil, comp_cons, compD_nil, compD_cons, gsl_none, gsl_some, List.getElem?_cons_zero, List.getElem?_cons_succ, Option.map_some, Option.bind_some, lapp_cons, lapp_nil])
       | (fail)
       | (with_reducible refine pv_condT ?_ ?_; · simp -implicitDefEqProofs only [l0, eq_self, bne_self_eq_false, true_and, go_sem, seval] <;> rfl)
       | (with_reducible refine pv_condF ?_ ?_; · simp -implicitDefEqProofs only [l0, eq_self, bne_self_eq_false, true_and, go_sem, seval] <;> rfl)
       | (with_reducible refine pv_exit ?_; simp only [↓reduceIte, Nat.reduceEqDiff])
       | (with_reducible refine pv_ret ?_; simp -implicitDefEqProofs only [retC, retS, retR, resD, oneD, coeDs_nil, coeDs_cons, coeD_agg, coeD_g, coeD_nil, coeD_own, coeCs_nil, coeCs_cons, coeC_g, coeC_nil, coeC_own, l0, eq_self, bne_self_eq_false, true_and, go_sem, seval])
       | ((with_reducible first | refine hK _ _ ?_ | (clear hK; refine hK _ _ ?_) | (clear hK; clear hK; refine hK _ _ ?_)); clear hK; try clear K)
       | (simp -implicitDefEqProofs only [l0, eq_self, bne_self_eq_false, true_and, go_sem, seval])
       | (with_reducible intro b)
       | (with_reducible refine And.intro ?_ ?_; · first | assumption | omega | (unfold R64; omega)))
    · rw [if_neg h0] at pD
      have l0 : (0 < (D32 (N64 ys)).length) = True := eq_true (by have := mt D32_len0.1 h0; omega)
      have q := Nat.lt_of_le_of_lt (Nat.div_le_self (N64 xs) (N64 ys)) x
      have r := Nat.lt_trans (Nat.mod_lt (N64 xs) (show 0 < N64 ys by omega)) y
      have lq := D32q q; have lr := D32q r
      refine call_is pD ?_
      repeat (first
       | (with_reducible first | refine pv_seq fun K hK => ?_ | refine pv_skip ?_ | refine pv_block ?_ | refine pv_scope ?_ | refine pv_label ?_)
       | (with_reducible refine pv_reg ?_; simp -implicitDefEqProofs only [comp_nil, comp_cons, compD_nil, compD_cons, gsl_none, gsl_some, List.getElem?_cons_zero, List.getElem?_cons_succ, Option.map_some, Option.bind_some, lapp_cons, lapp_nil])
       | (fail)
       | (with_reducible refine pv_condT ?_ ?_; · simp -implicitDefEqProofs only [l0, eq_self, bne_self_eq_false, true_and, go_sem, seval] <;> rfl)
       | (with_reducible refine pv_condF ?_ ?_; · simp -implicitDefEqProofs only [l0, eq_self, bne_self_eq_false, true_and, go_sem, seval] <;> rfl)
       | (with_reducible refine pv_exit ?_; simp only [↓reduceIte, Nat.reduceEqDiff])
       | (with_reducible refine pv_ret ?_; simp -implicitDefEqProofs only [retC, retS, retR, resD, oneD, coeDs_nil, coeDs_cons, coeD_agg, coeD_g, coeD_nil, coeD_own, coeCs_nil, coeCs_cons, coeC_g, coeC_nil, coeC_own, l0, eq_self, bne_self_eq_false, true_and, go_sem, seval])
       | ((with_reducible first | refine hK _ _ ?_ | (clear hK; refine hK _ _ ?_) | (clear hK; clear hK; refine hK _ _ ?_)); clear hK; try clear K)
       | (simp -implicitDefEqProofs only [l0, eq_self, bne_self_eq_false, true_and, go_sem, seval])
       | (with_reducible intro b)
       | (with_reducible refine And.intro ?_ ?_; · first | assumption | omega | (unfold R64; omega)))
      refine call_is (w_Mul X Y) ?_
      repeat (first
       | (with_reducible first | refine pv_seq fun K hK => ?_ | refine pv_skip ?_ | refine pv_block ?_ | refine pv_scope ?_ | refine pv_label ?_)
       | (with_reducible refine pv_reg ?_; simp -implicitDefEqProofs only [comp_nil, comp_cons, compD_nil, compD_cons, gsl_none, gsl_some, List.getElem?_cons_zero, List.getElem?_cons_succ, Option.map_some, Option.bind_some, lapp_cons, lapp_nil])
       | (fail)
       | (with_reducible refine pv_condT ?_ ?_; · simp -implicitDefEqProofs only [l0, eq_self, bne_self_eq_false, true_and, go_sem, seval] <;> rfl)
       | (with_reducible refine pv_condF ?_ ?_; · simp -implicitDefEqProofs only [l0, eq_self, bne_self_eq_false, true_and, go_sem, seval] <;> rfl)
       | (with_reducible refine pv_exit ?_; simp only [↓reduceIte, Nat.reduceEqDiff])
       | (with_reducible refine pv_ret ?_; simp -implicitDefEqProofs only [retC, retS, retR, resD, oneD, coeDs_nil, coeDs_cons, coeD_agg, coeD_g, coeD_nil, coeD_own, coeCs_nil, coeCs_cons, coeC_g, coeC_nil, coeC_own, l0, eq_self, bne_self_eq_false, true_and, go_sem, seval])
       | ((with_reducible first | refine hK _ _ ?_ | (clear hK; refine hK _ _ ?_) | (clear hK; clear hK; refine hK _ _ ?_)); clear hK; try clear K)
       | (simp -implicitDefEqProofs only [l0, eq_self, bne_self_eq_false, true_and, go_sem, seval])
       | (with_reducible intro b)
       | (with_reducible refine And.intro ?_ ?_; · first | assumption | omega | (unfold R64; omega)))
      refine call_is pM ?_
      repeat (first
       | (with_reducible first | refine pv_seq fun K hK => ?_ | refine pv_skip ?_ | refine pv_block ?_ | refine pv_scope ?_ | refine pv_label ?_)
       | (with_reducible refine pv_reg ?_; simp -implicitDefEqProofs only [comp_nil, comp_cons, compD_nil, compD_cons, gsl_none, gsl_some, List.getElem?_cons_zero, List.getElem?_cons_succ, Option.map_some, Option.bind_some, lapp_cons, lapp_nil])
       | (fail)
       | (with_reducible refine pv_condT ?_ ?_; · simp -implicitDefEqProofs only [l0, eq_self, bne_self_eq_false, true_and, go_sem, seval] <;> rfl)
       | (with_reducible refine pv_condF ?_ ?_; · simp -implicitDefEqProofs only [l0, eq_self, bne_self_eq_false, true_and, go_sem, seval] <;> rfl)
       | (with_reducible refine pv_exit ?_; simp only [↓reduceIte, Nat.reduceEqDiff])
       | (with_reducible refine pv_ret ?_; simp -implicitDefEqProofs only [retC, retS, retR, resD, oneD, coeDs_nil, coeDs_cons, coeD_agg, coeD_g, coeD_nil, coeD_own, coeCs_nil, coeCs_cons, coeC_g, coeC_nil, coeC_own, l0, eq_self, bne_self_eq_false, true_and, go_sem, seval])
       | ((with_reducible first | refine hK _ _ ?_ | (clear hK; refine hK _ _ ?_) | (clear hK; clear hK; refine hK _ _ ?_)); clear hK; try clear K)
       | (simp -implicitDefEqProofs only [l0, eq_self, bne_self_eq_false, true_and, go_sem, seval])
       | (with_reducible intro b)
       | (with_reducible refine And.intro ?_ ?_; · first | assumption | omega | (unfold R64; omega)))
      refine call_is (p_Words (by omega)) ?_
      repeat (first
       | (with_reducible first | refine pv_seq fun K hK => ?_ | refine pv_skip ?_ | refine pv_block ?_ | refine pv_scope ?_ | refine pv_label ?_)
       | (with_reducible refine pv_reg ?_; simp -implicitDefEqProofs only [comp_nil, comp_cons, compD_nil, compD_cons, gsl_none, gsl_some, List.getElem?_cons_zero, List.getElem?_cons_succ, Option.map_some, Option.bind_some, lapp_cons, lapp_nil])
       | (fail)
       | (with_reducible refine pv_condT ?_ ?_; · simp -implicitDefEqProofs only [l0, eq_self, bne_self_eq_false, true_and, go_sem, seval] <;> rfl)
       | (with_reducible refine pv_condF ?_ ?_; · simp -implicitDefEqProofs only [l0, eq_self, bne_self_eq_false, true_and, go_sem, seval] <;> rfl)
       | (with_reducible refine pv_exit ?_; simp only [↓reduceIte, Nat.reduceEqDiff])
       | (with_reducible refine pv_ret ?_; simp -implicitDefEqProofs only [retC, retS, retR, resD, oneD, coeDs_nil, coeDs_cons, coeD_agg, coeD_g, coeD_nil, coeD_own, coeCs_nil, coeCs_cons, coeC_g, coeC_nil, coeC_own, l0, eq_self, bne_self_eq_false, true_and, go_sem, seval])
       | ((with_reducible first | refine hK _ _ ?_ | (clear hK; refine hK _ _ ?_) | (clear hK; clear hK; refine hK _ _ ?_)); clear hK; try clear K)
       | (simp -implicitDefEqProofs only [l0, eq_self, bne_self_eq_false, true_and, go_sem, seval])
       | (with_reducible intro b)
       | (with_reducible refine And.intro ?_ ?_; · first | assumption | omega | (unfold R64; omega)))
      refine call_is (w_Words (Mw_up pxy (by decide)) rfl) ?_
      repeat (first
       | (with_reducible first | refine pv_seq fun K hK => ?_ | refine pv_skip ?_ | refine pv_block ?_ | refine pv_scope ?_ | refine pv_label ?_)
       | (with_reducible refine pv_reg ?_; simp -implicitDefEqProofs only [comp_nil, comp_cons, compD_nil, compD_cons, gsl_none, gsl_some, List.getElem?_cons_zero, List.getElem?_cons_succ, Option.map_some, Option.bind_some, lapp_cons, lapp_nil])
       | (fail)
       | (with_reducible refine pv_condT ?_ ?_; · simp -implicitDefEqProofs only [l0, eq_self, bne_self_eq_false, true_and, go_sem, seval] <;> rfl)
       | (with_reducible refine pv_condF ?_ ?_; · simp -implicitDefEqProofs only [l0, eq_self, bne_self_eq_false, true_and, go_sem, seval] <;> rfl)
       | (with_reducible refine pv_exit ?_; simp only [↓reduceIte, Nat.reduceEqDiff])
       | (with_reducible refine pv_ret ?_; simp -implicitDefEqProofs only [retC, retS, retR, resD, oneD, coeDs_nil, coeDs_cons, coeD_agg, coeD_g, coeD_nil, coeD_own, coeCs_nil, coeCs_cons, coeC_g, coeC_nil, coeC_own, l0, eq_self, bne_self_eq_false, true_and, go_sem, seval])
       | ((with_reducible first | refine hK _ _ ?_ | (clear hK; refine hK _ _ ?_) | (clear hK; clear hK; refine hK _ _ ?_)); clear hK; try clear K)
       | (simp -implicitDefEqProofs only [l0, eq_self, bne_self_eq_false, true_and, go_sem, seval])
       | (with_reducible intro b)
       | (with_reducible refine And.intro ?_ ?_; · first | assumption | omega | (unfold R64; omega)))
      refine call_is (p_rDiv (by omega) (by omega) (by omega)) ?_
      repeat (first
       | (with_reducible first | refine pv_seq fun K hK => ?_ | refine pv_skip ?_ | refine pv_block ?_ | refine pv_scope ?_ | refine pv_label ?_)
       | (with_reducible refine pv_reg ?_; simp -implicitDefEqProofs only [comp_nil, comp_cons, compD_nil, compD_cons, gsl_none, gsl_some, List.getElem?_cons_zero, List.getElem?_cons_succ, Option.map_some, Option.bind_some, lapp_cons, lapp_nil])
       | (fail)
       | (with_reducible refine pv_condT ?_ ?_; · simp -implicitDefEqProofs only [l0, eq_self, bne_self_eq_false, true_and, go_sem, seval] <;> rfl)
       | (with_reducible refine pv_condF ?_ ?_; · simp -implicitDefEqProofs only [l0, eq_self, bne_self_eq_false, true_and, go_sem, seval] <;> rfl)
       | (with_reducible refine pv_exit ?_; simp only [↓reduceIte, Nat.reduceEqDiff])
       | (with_reducible refine pv_ret ?_; simp -implicitDefEqProofs only [retC, retS, retR, resD, oneD, coeDs_nil, coeDs_cons, coeD_agg, coeD_g, coeD_nil, coeD_own, coeCs_nil, coeCs_cons, coeC_g, coeC_nil, coeC_own, l0, eq_self, bne_self_eq_false, true_and, go_sem, seval])
       | ((with_reducible first | refine hK _ _ ?_ | (clear hK; refine hK _ _ ?_) | (clear hK; clear hK; refine hK _ _ ?_)); clear hK; try clear K)
       | (simp -implicitDefEqProofs only [l0, eq_self, bne_self_eq_false, true_and, go_sem, seval])
       | (with_reducible intro b)
       | (with_reducible refine And.intro ?_ ?_; · first | assumption | omega | (unfold R64; omega)))
      refine call_is (p_Words (by omega)) ?_
      repeat (first
       | (with_reducible first | refine pv_seq fun K hK => ?_ | refine pv_skip ?_ | refine pv_block ?_ | refine pv_scope ?_ | refine pv_label ?_)
       | (with_reducible refine pv_reg ?_; simp -implicitDefEqProofs only [comp_nil, comp_cons, compD_nil, compD_cons, gsl_none, gsl_some, List.getElem?_cons_zero, List.getElem?_cons_succ, Option.map_some, Option.bind_some, lapp_cons, lapp_nil])
       | (fail)
       | (with_reducible refine pv_condT ?_ ?_; · simp -implicitDefEqProofs only [l0, eq_self, bne_self_eq_false, true_and, go_sem, seval] <;> rfl)
       | (with_reducible refine pv_condF ?_ ?_; · simp -implicitDefEqProofs only [l0, eq_self, bne_self_eq_false, true_and, go_sem, seval] <;> rfl)
       | (with_reducible refine pv_exit ?_; simp only [↓reduceIte, Nat.reduceEqDiff])
       | (with_reducible refine pv_ret ?_; simp -implicitDefEqProofs only [retC, retS, retR, resD, oneD, coeDs_nil, coeDs_cons, coeD_agg, coeD_g, coeD_nil, coeD_own, coeCs_nil, coeCs_cons, coeC_g, coeC_nil, coeC_own, l0, eq_self, bne_self_eq_false, true_and, go_sem, seval])
       | ((with_reducible first | refine hK _ _ ?_ | (clear hK; refine hK _ _ ?_) | (clear hK; clear hK; refine hK _ _ ?_)); clear hK; try clear K)
       | (simp -implicitDefEqProofs only [l0, eq_self, bne_self_eq_false, true_and, go_sem, seval])
       | (with_reducible intro b)
       | (with_reducible refine And.intro ?_ ?_; · first | assumption | omega | (unfold R64; omega)))
      refine call_is (w_Words (Mw_up q (by decide)) rfl) ?_
      repeat (first
       | (with_reducible first | refine pv_seq fun K hK => ?_ | refine pv_skip ?_ | refine pv_block ?_ | refine pv_scope ?_ | refine pv_label ?_)
       | (with_reducible refine pv_reg ?_; simp -implicitDefEqProofs only [comp_nil, comp_cons, compD_nil, compD_cons, gsl_none, gsl_some, List.getElem?_cons_zero, List.getElem?_cons_succ, Option.map_some, Option.bind_some, lapp_cons, lapp_nil])
       | (fail)
       | (with_reducible refine pv_condT ?_ ?_; · simp -implicitDefEqProofs only [l0, eq_self, bne_self_eq_false, true_and, go_sem, seval] <;> rfl)
       | (with_reducible refine pv_condF ?_ ?_; · simp -implicitDefEqProofs only [l0, eq_self, bne_self_eq_false, true_and, go_sem, seval] <;> rfl)
       | (with_reducible refine pv_exit ?_; simp only [↓reduceIte, Nat.reduceEqDiff])
       | (with_reducible refine pv_ret ?_; simp -implicitDefEqProofs only [retC, retS, retR, resD, oneD, coeDs_nil, coeDs_cons, coeD_agg, coeD_g, coeD_nil, coeD_own, coeCs_nil, coeCs_cons, coeC_g, coeC_nil, coeC_own, l0, eq_self, bne_self_eq_false, true_and, go_sem, seval])
       | ((with_reducible first | refine hK _ _ ?_ | (clear hK; refine hK _ _ ?_) | (clear hK; clear hK; refine hK _ _ ?_)); clear hK; try clear K)
       | (simp -implicitDefEqProofs only [l0, eq_self, bne_self_eq_false, true_and, go_sem, seval])
       | (with_reducible intro b)
       | (with_reducible refine And.intro ?_ ?_; · first | assumption | omega | (unfold R64; omega)))
      refine call_is (p_Words (by omega)) ?_
      repeat (first
       | (with_reducible first | refine pv_seq fun K hK => ?_ | refine pv_skip ?_ | refine pv_block ?_ | refine pv_scope ?_ | refine pv_label ?_)
       | (with_reducible refine pv_reg ?_; simp -implicitDefEqProofs only [comp_nil, comp_cons, compD_nil, compD_cons, gsl_none, gsl_some, List.getElem?_cons_zero, List.getElem?_cons_succ, Option.map_some, Option.bind_some, lapp_cons, lapp_nil])
       | (fail)
       | (with_reducible refine pv_condT ?_ ?_; · simp -implicitDefEqProofs only [l0, eq_self, bne_self_eq_false, true_and, go_sem, seval] <;> rfl)
       | (with_reducible refine pv_condF ?_ ?_; · simp -implicitDefEqProofs only [l0, eq_self, bne_self_eq_false, true_and, go_sem, seval] <;> rfl)
       | (with_reducible refine pv_exit ?_; simp only [↓reduceIte, Nat.reduceEqDiff])
       | (with_reducible refine pv_ret ?_; simp -implicitDefEqProofs only [retC, retS, retR, resD, oneD, coeDs_nil, coeDs_cons, coeD_agg, coeD_g, coeD_nil, coeD_own, coeCs_nil, coeCs_cons, coeC_g, coeC_nil, coeC_own, l0, eq_self, bne_self_eq_false, true_and, go_sem, seval])
       | ((with_reducible first | refine hK _ _ ?_ | (clear hK; refine hK _ _ ?_) | (clear hK; clear hK; refine hK _ _ ?_)); clear hK; try clear K)
       | (simp -implicitDefEqProofs only [l0, eq_self, bne_self_eq_false, true_and, go_sem, seval])
       | (with_reducible intro b)
       | (with_reducible refine And.intro ?_ ?_; · first | assumption | omega | (unfold R64; omega)))
      refine call_is (w_Words (Mw_up r (by decide)) rfl) ?_
      repeat (first
       | (with_reducible first | refine pv_seq fun K hK => ?_ | refine pv_skip ?_ | refine pv_block ?_ | refine pv_scope ?_ | refine pv_label ?_)
       | (with_reducible refine pv_reg ?_; simp -implicitDefEqProofs only [comp_nil, comp_cons, compD_nil, compD_cons, gsl_none, gsl_some, List.getElem?_cons_zero, List.getElem?_cons_succ, Option.map_some, Option.bind_some, lapp_cons, lapp_nil])
       | (fail)
       | (with_reducible refine pv_condT ?_ ?_; · simp -implicitDefEqProofs only [l0, eq_self, bne_self_eq_false, true_and, go_sem, seval] <;> rfl)
       | (with_reducible refine pv_condF ?_ ?_; · simp -implicitDefEqProofs only [l0, eq_self, bne_self_eq_false, true_and, go_sem, seval] <;> rfl)
       | (with_reducible refine pv_exit ?_; simp only [↓reduceIte, Nat.reduceEqDiff])
       | (with_reducible refine pv_ret ?_; simp -implicitDefEqProofs only [retC, retS, retR, resD, oneD, coeDs_nil, coeDs_cons, coeD_agg, coeD_g, coeD_nil, coeD_own, coeCs_nil, coeCs_cons, coeC_g, coeC_nil, coeC_own, l0, eq_self, bne_self_eq_false, true_and, go_sem, seval])
       | ((with_reducible first | refine hK _ _ ?_ | (clear hK; refine hK _ _ ?_) | (clear hK; clear hK; refine hK _ _ ?_)); clear hK; try clear K)
       | (simp -implicitDefEqProofs only [l0, eq_self, bne_self_eq_false, true_and, go_sem, seval])
       | (with_reducible intro b)
       | (with_reducible refine And.intro ?_ ?_; · first | assumption | omega | (unfold R64; omega)))
  · have hf : decide (∀ l ∈ [xs, ys], l.length ≤ 40) = false := by simpa using hl
    rw [hf]
    repeat (first
     | (with_reducible first | refine pv_seq fun K hK => ?_ | refine pv_skip ?_ | refine pv_block ?_ | refine pv_scope ?_ | refine pv_label ?_)
     | (with_reducible refine pv_reg ?_; simp -implicitDefEqProofs only [comp_nil, comp_cons, compD_nil, compD_cons, gsl_none, gsl_some, List.getElem?_cons_zero, List.getElem?_cons_succ, Option.map_some, Option.bind_some, lapp_cons, lapp_nil])
     | (fail)
     | (with_reducible refine pv_condT ?_ ?_; · simp -implicitDefEqProofs only [true_and, go_sem, seval] <;> rfl)
     | (with_reducible refine pv_condF ?_ ?_; · simp -implicitDefEqProofs only [true_and, go_sem, seval] <;> rfl)
     | (with_reducible refine pv_exit ?_; simp only [↓reduceIte, Nat.reduceEqDiff])
     | (with_reducible refine pv_ret ?_; simp -implicitDefEqProofs only [retC, retS, retR, resD, oneD, coeDs_nil, coeDs_cons, coeD_agg, coeD_g, coeD_nil, coeD_own, coeCs_nil, coeCs_cons, coeC_g, coeC_nil, coeC_own, true_and, go_sem, seval])
     | ((with_reducible first | refine hK _ _ ?_ | (clear hK; refine hK _ _ ?_) | (clear hK; clear hK; refine hK _ _ ?_)); clear hK; try clear K)
     | (simp -implicitDefEqProofs only [true_and, go_sem, seval])
     | (with_reducible intro b)
     | (with_reducible refine And.intro ?_ ?_; · first | assumption | omega | (unfold R64; omega)))

end Go.V

/- The statements' own small functions: known. -/
import Derived.Test.YtilnmcabjkpohaaDoorB2
set_option linter.unusedSimpArgs false
set_option linter.unusedVariables false
set_option maxRecDepth 100000
namespace Go.V
open Go Go.RowKit Go.Proofs

theorem D64_is {n : Nat} {xs : List Nat} (h : N64 xs = n) (hb : B64 xs) (ht : ∀ x, xs.getLast? = some x → x ≠ 0) : D64 n = xs := by rw [← h]; exact digs_nval two64 xs hb ht

set_option maxHeartbeats 1000000 in
theorem p_known : PC Tryd.prog 10 [] fun d => d = bl true := by
  refine PC.body (args := []) (rs := [.tmp 0]) mixed Tryd.func10 rfl (by kernel_rfl) (by kernel_rfl) (Nat.le_of_ble_eq_true rfl) rfl ?_
  repeat (first
   | (with_reducible first | refine pv_seq fun K hK => ?_ | refine pv_skip ?_ | refine pv_block ?_ | refine pv_scope ?_ | refine pv_label ?_)
   | (with_reducible refine pv_reg ?_; simp -implicitDefEqProofs only [comp_nil, comp_cons, compD_nil, compD_cons, gsl_none, gsl_some, List.getElem?_cons_zero, List.getElem?_cons_succ, Option.map_some, Option.bind_some, lapp_cons, lapp_nil])
   | (fail)
   | (with_reducible refine pv_condT ?_ ?_; · simp -implicitDefEqProofs only [true_and, go_sem, seval] <;> rfl)
   | (with_reducible refine pv_condF ?_ ?_; · simp -implicitDefEqProofs only [true_and, go_sem, seval] <;> rfl)
   | (with_reducible refine pv_exit ?_; simp only [↓reduceIte, Nat.reduceEqDiff])
   | (with_reducible refine pv_ret ?_; simp -implicitDefEqProofs only [retC, retS, retR, resD, oneD, coeDs_nil, coeDs_cons, coeD_agg, coeD_g, coeD_nil, coeD_own, coeCs_nil, coeCs_cons, coeC_g, coeC_nil, coeC_own, true_and, go_sem, seval])
   | ((with_reducible first | refine hK _ _ ?_ | (clear hK; refine hK _ _ ?_) | (clear hK; clear hK; refine hK _ _ ?_)); clear hK; try clear K)
   | (simp -implicitDefEqProofs only [true_and, go_sem, seval])
   | (with_reducible intro b)
   | (with_reducible refine And.intro ?_ ?_; · first | assumption | omega | (unfold R64; omega)))
  refine PFC.coe ?_
  simp -implicitDefEqProofs only [coeDs_nil, coeDs_cons, coeD_agg, coeD_g, coeD_nil, coeD_own, coeCs_nil, coeCs_cons, coeC_g, coeC_nil, coeC_own, pureLL, pureL, tg_g, tg_nil, Nat.zero_add, Nat.le_refl, W64_l1, W64_l2, W32_l1, toG_W64, WW_1, WW_2, WW_3, true_and, go_sem, seval]
  refine call_is (r := .tup [W64 [3], W64 [1], bl true]) ((p_DivH (xs := [7]) (ys := [2]) (by decide) (by decide) (by decide) (by decide) (.inl (by rw [D64_is (n := N64 [2]) (xs := [2]) rfl (by decide) (by simp)]; decide))).mono fun d hd => hd.trans (by rw [if_neg (by decide), D64_is (n := N64 [7] / N64 [2]) (xs := [3]) (by decide) (by decide) (by simp), D64_is (n := N64 [7] % N64 [2]) (xs := [1]) (by decide) (by decide) (by simp)])) ?_
  repeat (first
   | (with_reducible first | refine pv_seq fun K hK => ?_ | refine pv_skip ?_ | refine pv_block ?_ | refine pv_scope ?_ | refine pv_label ?_)
   | (with_reducible refine pv_reg ?_; simp -implicitDefEqProofs only [comp_nil, comp_cons, compD_nil, compD_cons, gsl_none, gsl_some, List.getElem?_cons_zero, List.getElem?_cons_succ, Option.map_some, Option.bind_some, lapp_cons, lapp_nil])
   | (fail)
   | (with_reducible refine pv_condT ?_ ?_; · simp -implicitDefEqProofs only [true_and, go_sem, seval] <;> rfl)
   | (with_reducible refine pv_condF ?_ ?_; · simp -implicitDefEqProofs only [true_and, go_sem, seval] <;> rfl)
   | (with_reducible refine pv_exit ?_; simp only [↓reduceIte, Nat.reduceEqDiff])
   | (with_reducible refine pv_ret ?_; simp -implicitDefEqProofs only [retC, retS, retR, resD, oneD, coeDs_nil, coeDs_cons, coeD_agg, coeD_g, coeD_nil, coeD_own, coeCs_nil, coeCs_cons, coeC_g, coeC_nil, coeC_own, true_and, go_sem, seval])
   | ((with_reducible first | refine hK _ _ ?_ | (clear hK; refine hK _ _ ?_) | (clear hK; clear hK; refine hK _ _ ?_)); clear hK; try clear K)
   | (simp -implicitDefEqProofs only [true_and, go_sem, seval])
   | (with_reducible intro b)
   | (with_reducible refine And.intro ?_ ?_; · first | assumption | omega | (unfold R64; omega)))
  refine PFC.coe ?_
  simp -implicitDefEqProofs only [coeDs_nil, coeDs_cons, coeD_agg, coeD_g, coeD_nil, coeD_own, coeCs_nil, coeCs_cons, coeC_g, coeC_nil, coeC_own, pureLL, pureL, tg_g, tg_nil, Nat.zero_add, Nat.le_refl, W64_l1, W64_l2, W32_l1, toG_W64, WW_1, WW_2, WW_3, true_and, go_sem, seval]
  refine call_is (r := .tup [W64 [2], bl true]) ((p_Sub (xs := [5]) (ys := [3]) (by decide) (by decide) (by decide) (by decide)).mono fun d hd => hd.trans (by rw [if_pos (by decide), D64_is (n := N64 [5] - N64 [3]) (xs := [2]) (by decide) (by decide) (by simp)])) ?_
  repeat (first
   | (with_reducible first | refine pv_seq fun K hK => ?_ | refine pv_skip ?_ | refine pv_block ?_ | refine pv_scope ?_ | refine pv_label ?_)
   | (with_reducible refine pv_reg ?_; simp -implicitDefEqProofs only [comp_nil, comp_cons, compD_nil, compD_cons, gsl_none, gsl_some, List.getElem?_cons_zero, List.getElem?_cons_succ, Option.map_some, Option.bind_some, lapp_cons, lapp_nil])
   | (fail)
   | (with_reducible refine pv_condT ?_ ?_; · simp -implicitDefEqProofs only [true_and, go_sem, seval] <;> rfl)
   | (with_reducible refine pv_condF ?_ ?_; · simp -implicitDefEqProofs only [true_and, go_sem, seval] <;> rfl)
   | (with_reducible refine pv_exit ?_; simp only [↓reduceIte, Nat.reduceEqDiff])
   | (with_reducible refine pv_ret ?_; simp -implicitDefEqProofs only [retC, retS, retR, resD, oneD, coeDs_nil, coeDs_cons, coeD_agg, coeD_g, coeD_nil, coeD_own, coeCs_nil, coeCs_cons, coeC_g, coeC_nil, coeC_own, true_and, go_sem, seval])
   | ((with_reducible first | refine hK _ _ ?_ | (clear hK; refine hK _ _ ?_) | (clear hK; clear hK; refine hK _ _ ?_)); clear hK; try clear K)
   | (simp -implicitDefEqProofs only [true_and, go_sem, seval])
   | (with_reducible intro b)
   | (with_reducible refine And.intro ?_ ?_; · first | assumption | omega | (unfold R64; omega)))
  refine PFC.coe ?_
  simp -implicitDefEqProofs only [coeDs_nil, coeDs_cons, coeD_agg, coeD_g, coeD_nil, coeD_own, coeCs_nil, coeCs_cons, coeC_g, coeC_nil, coeC_own, pureLL, pureL, tg_g, tg_nil, Nat.zero_add, Nat.le_refl, W64_l1, W64_l2, W32_l1, toG_W64, WW_1, WW_2, WW_3, true_and, go_sem, seval]
  refine call_is (r := W64 [0, 1]) ((p_Add (xs := [18446744073709551615]) (ys := [1]) (by decide) (by decide) (by decide) (by decide)).mono fun d hd => hd.trans (by rw [D64_is (n := N64 [18446744073709551615] + N64 [1]) (xs := [0, 1]) (by decide) (by decide) (by simp)])) ?_
  repeat (first
   | (with_reducible first | refine pv_seq fun K hK => ?_ | refine pv_skip ?_ | refine pv_block ?_ | refine pv_scope ?_ | refine pv_label ?_)
   | (with_reducible refine pv_reg ?_; simp -implicitDefEqProofs only [comp_nil, comp_cons, compD_nil, compD_cons, gsl_none, gsl_some, List.getElem?_cons_zero, List.getElem?_cons_succ, Option.map_some, Option.bind_some, lapp_cons, lapp_nil])
   | (fail)
   | (with_reducible refine pv_condT ?_ ?_; · simp -implicitDefEqProofs only [true_and, go_sem, seval] <;> rfl)
   | (with_reducible refine pv_condF ?_ ?_; · simp -implicitDefEqProofs only [true_and, go_sem, seval] <;> rfl)
   | (with_reducible refine pv_exit ?_; simp only [↓reduceIte, Nat.reduceEqDiff])
   | (with_reducible refine pv_ret ?_; simp -implicitDefEqProofs only [retC, retS, retR, resD, oneD, coeDs_nil, coeDs_cons, coeD_agg, coeD_g, coeD_nil, coeD_own, coeCs_nil, coeCs_cons, coeC_g, coeC_nil, coeC_own, true_and, go_sem, seval])
   | ((with_reducible first | refine hK _ _ ?_ | (clear hK; refine hK _ _ ?_) | (clear hK; clear hK; refine hK _ _ ?_)); clear hK; try clear K)
   | (simp -implicitDefEqProofs only [true_and, go_sem, seval])
   | (with_reducible intro b)
   | (with_reducible refine And.intro ?_ ?_; · first | assumption | omega | (unfold R64; omega)))
  refine PFC.coe ?_
  simp -implicitDefEqProofs only [coeDs_nil, coeDs_cons, coeD_agg, coeD_g, coeD_nil, coeD_own, coeCs_nil, coeCs_cons, coeC_g, coeC_nil, coeC_own, pureLL, pureL, tg_g, tg_nil, Nat.zero_add, Nat.le_refl, W64_l1, W64_l2, W32_l1, toG_W64, WW_1, WW_2, WW_3, true_and, go_sem, seval]
  refine call_is (r := bl true) ((p_hWords (xs := [0, 1]) (ys := [0, 1]) (by decide) (by decide) (by decide) (by decide)).mono fun d hd => hd) ?_
  repeat (first
   | (with_reducible first | refine pv_seq fun K hK => ?_ | refine pv_skip ?_ | refine pv_block ?_ | refine pv_scope ?_ | refine pv_label ?_)
   | (with_reducible refine pv_reg ?_; simp -implicitDefEqProofs only [comp_nil, comp_cons, compD_nil, compD_cons, gsl_none, gsl_some, List.getElem?_cons_zero, List.getElem?_cons_succ, Option.map_some, Option.bind_some, lapp_cons, lapp_nil])
   | (fail)
   | (with_reducible refine pv_condT ?_ ?_; · simp -implicitDefEqProofs only [true_and, go_sem, seval] <;> rfl)
   | (with_reducible refine pv_condF ?_ ?_; · simp -implicitDefEqProofs only [true_and, go_sem, seval] <;> rfl)
   | (with_reducible refine pv_exit ?_; simp only [↓reduceIte, Nat.reduceEqDiff])
   | (with_reducible refine pv_ret ?_; simp -implicitDefEqProofs only [retC, retS, retR, resD, oneD, coeDs_nil, coeDs_cons, coeD_agg, coeD_g, coeD_nil, coeD_own, coeCs_nil, coeCs_cons, coeC_g, coeC_nil, coeC_own, true_and, go_sem, seval])
   | ((with_reducible first | refine hK _ _ ?_ | (clear hK; refine hK _ _ ?_) | (clear hK; clear hK; refine hK _ _ ?_)); clear hK; try clear K)
   | (simp -implicitDefEqProofs only [true_and, go_sem, seval])
   | (with_reducible intro b)
   | (with_reducible refine And.intro ?_ ?_; · first | assumption | omega | (unfold R64; omega)))
  refine PFC.coe ?_
  simp -implicitDefEqProofs only [coeDs_nil, coeDs_cons, coeD_agg, coeD_g, coeD_nil, coeD_own, coeCs_nil, coeCs_cons, coeC_g, coeC_nil, coeC_own, pureLL, pureL, tg_g, tg_nil, Nat.zero_add, Nat.le_refl, W64_l1, W64_l2, W32_l1, toG_W64, WW_1, WW_2, WW_3, true_and, go_sem, seval]
  refine call_is (r := W64 [2]) ((p_Shift (xs := [5]) (n := -1) (by decide) (by decide)).mono fun d hd => hd.trans (by rw [D64_is (n := shiftN (N64 [5]) (-1)) (xs := [2]) (by decide) (by decide) (by simp)])) ?_
  repeat (first
   | (with_reducible first | refine pv_seq fun K hK => ?_ | refine pv_skip ?_ | refine pv_block ?_ | refine pv_scope ?_ | refine pv_label ?_)
   | (with_reducible refine pv_reg ?_; simp -implicitDefEqProofs only [comp_nil, comp_cons, compD_nil, compD_cons, gsl_none, gsl_some, List.getElem?_cons_zero, List.getElem?_cons_succ, Option.map_some, Option.bind_some, lapp_cons, lapp_nil])
   | (fail)
   | (with_reducible refine pv_condT ?_ ?_; · simp -implicitDefEqProofs only [true_and, go_sem, seval] <;> rfl)
   | (with_reducible refine pv_condF ?_ ?_; · simp -implicitDefEqProofs only [true_and, go_sem, seval] <;> rfl)
   | (with_reducible refine pv_exit ?_; simp only [↓reduceIte, Nat.reduceEqDiff])
   | (with_reducible refine pv_ret ?_; simp -implicitDefEqProofs only [retC, retS, retR, resD, oneD, coeDs_nil, coeDs_cons, coeD_agg, coeD_g, coeD_nil, coeD_own, coeCs_nil, coeCs_cons, coeC_g, coeC_nil, coeC_own, true_and, go_sem, seval])
   | ((with_reducible first | refine hK _ _ ?_ | (clear hK; refine hK _ _ ?_) | (clear hK; clear hK; refine hK _ _ ?_)); clear hK; try clear K)
   | (simp -implicitDefEqProofs only [true_and, go_sem, seval])
   | (with_reducible intro b)
   | (with_reducible refine And.intro ?_ ?_; · first | assumption | omega | (unfold R64; omega)))
  refine PFC.coe ?_
  simp -implicitDefEqProofs only [coeDs_nil, coeDs_cons, coeD_agg, coeD_g, coeD_nil, coeD_own, coeCs_nil, coeCs_cons, coeC_g, coeC_nil, coeC_own, pureLL, pureL, tg_g, tg_nil, Nat.zero_add, Nat.le_refl, W64_l1, W64_l2, W32_l1, toG_W64, WW_1, WW_2, WW_3, true_and, go_sem, seval]
  refine call_is (r := bl true) ((p_hWords (xs := [2]) (ys := [2]) (by decide) (by decide) (by decide) (by decide)).mono fun d hd => hd) ?_
  repeat (first
   | (with_reducible first | refine pv_seq fun K hK => ?_ | refine pv_skip ?_ | refine pv_block ?_ | refine pv_scope ?_ | refine pv_label ?_)
   | (with_reducible refine pv_reg ?_; simp -implicitDefEqProofs only [comp_nil, comp_cons, compD_nil, compD_cons, gsl_none, gsl_some, List.getElem?_cons_zero, List.getElem?_cons_succ, Option.map_some, Option.bind_some, lapp_cons, lapp_nil])
   | (fail)
   | (with_reducible refine pv_condT ?_ ?_; · simp -implicitDefEqProofs only [true_and, go_sem, seval] <;> rfl)
   | (with_reducible refine pv_condF ?_ ?_; · simp -implicitDefEqProofs only [true_and, go_sem, seval] <;> rfl)
   | (with_reducible refine pv_exit ?_; simp only [↓reduceIte, Nat.reduceEqDiff])
   | (with_reducible refine pv_ret ?_; simp -implicitDefEqProofs only [retC, retS, retR, resD, oneD, coeDs_nil, coeDs_cons, coeD_agg, coeD_g, coeD_nil, coeD_own, coeCs_nil, coeCs_cons, coeC_g, coeC_nil, coeC_own, true_and, go_sem, seval])
   | ((with_reducible first | refine hK _ _ ?_ | (clear hK; refine hK _ _ ?_) | (clear hK; clear hK; refine hK _ _ ?_)); clear hK; try clear K)
   | (simp -implicitDefEqProofs only [true_and, go_sem, seval])
   | (with_reducible intro b)
   | (with_reducible refine And.intro ?_ ?_; · first | assumption | omega | (unfold R64; omega)))
  refine PFC.coe ?_
  simp -implicitDefEqProofs only [coeDs_nil, coeDs_cons, coeD_agg, coeD_g, coeD_nil, coeD_own, coeCs_nil, coeCs_cons, coeC_g, coeC_nil, coeC_own, pureLL, pureL, tg_g, tg_nil, Nat.zero_add, Nat.le_refl, W64_l1, W64_l2, W32_l1, toG_W64, WW_1, WW_2, WW_3, true_and, go_sem, seval]
  refine call_is (r := bl true) ((p_hWords (xs := [3]) (ys := [3]) (by decide) (by decide) (by decide) (by decide)).mono fun d hd => hd) ?_
  repeat (first
   | (with_reducible first | refine pv_seq fun K hK => ?_ | refine pv_skip ?_ | refine pv_block ?_ | refine pv_scope ?_ | refine pv_label ?_)
   | (with_reducible refine pv_reg ?_; simp -implicitDefEqProofs only [comp_nil, comp_cons, compD_nil, compD_cons, gsl_none, gsl_some, List.getElem?_cons_zero, List.getElem?_cons_succ, Option.map_some, Option.bind_some, lapp_cons, lapp_nil])
   | (fail)
   | (with_reducible refine pv_condT ?_ ?_; · simp -implicitDefEqProofs only [true_and, go_sem, seval] <;> rfl)
   | (with_reducible refine pv_condF ?_ ?_; · simp -implicitDefEqProofs only [true_and, go_sem, seval] <;> rfl)
   | (with_reducible refine pv_exit ?_; simp only [↓reduceIte, Nat.reduceEqDiff])
   | (with_reducible refine pv_ret ?_; simp -implicitDefEqProofs only [retC, retS, retR, resD, oneD, coeDs_nil, coeDs_cons, coeD_agg, coeD_g, coeD_nil, coeD_own, coeCs_nil, coeCs_cons, coeC_g, coeC_nil, coeC_own, true_and, go_sem, seval])
   | ((with_reducible first | refine hK _ _ ?_ | (clear hK; refine hK _ _ ?_) | (clear hK; clear hK; refine hK _ _ ?_)); clear hK; try clear K)
   | (simp -implicitDefEqProofs only [true_and, go_sem, seval])
   | (with_reducible intro b)
   | (with_reducible refine And.intro ?_ ?_; · first | assumption | omega | (unfold R64; omega)))
  refine PFC.coe ?_
  simp -implicitDefEqProofs only [coeDs_nil, coeDs_cons, coeD_agg, coeD_g, coeD_nil, coeD_own, coeCs_nil, coeCs_cons, coeC_g, coeC_nil, coeC_own, pureLL, pureL, tg_g, tg_nil, Nat.zero_add, Nat.le_refl, W64_l1, W64_l2, W32_l1, toG_W64, WW_1, WW_2, WW_3, true_and, go_sem, seval]
  refine call_is (r := bl true) ((p_hWords (xs := [1]) (ys := [1]) (by decide) (by decide) (by decide) (by decide)).mono fun d hd => hd) ?_
  repeat (first
   | (with_reducible first | refine pv_seq fun K hK => ?_ | refine pv_skip ?_ | refine pv_block ?_ | refine pv_scope ?_ | refine pv_label ?_)
   | (with_reducible refine pv_reg ?_; simp -implicitDefEqProofs only [comp_nil, comp_cons, compD_nil, compD_cons, gsl_none, gsl_some, List.getElem?_cons_zero, List.getElem?_cons_succ, Option.map_some, Option.bind_some, lapp_cons, lapp_nil])
   | (fail)
   | (with_reducible refine pv_condT ?_ ?_; · simp -implicitDefEqProofs only [true_and, go_sem, seval] <;> rfl)
   | (with_reducible refine pv_condF ?_ ?_; · simp -implicitDefEqProofs only [true_and, go_sem, seval] <;> rfl)
   | (with_reducible refine pv_exit ?_; simp only [↓reduceIte, Nat.reduceEqDiff])
   | (with_reducible refine pv_ret ?_; simp -implicitDefEqProofs only [retC, retS, retR, resD, oneD, coeDs_nil, coeDs_cons, coeD_agg, coeD_g, coeD_nil, coeD_own, coeCs_nil, coeCs_cons, coeC_g, coeC_nil, coeC_own, true_and, go_sem, seval])
   | ((with_reducible first | refine hK _ _ ?_ | (clear hK; refine hK _ _ ?_) | (clear hK; clear hK; refine hK _ _ ?_)); clear hK; try clear K)
   | (simp -implicitDefEqProofs only [true_and, go_sem, seval])
   | (with_reducible intro b)
   | (with_reducible refine And.intro ?_ ?_; · first | assumption | omega | (unfold R64; omega)))
  refine PFC.coe ?_
  simp -implicitDefEqProofs only [coeDs_nil, coeDs_cons, coeD_agg, coeD_g, coeD_nil, coeD_own, coeCs_nil, coeCs_cons, coeC_g, coeC_nil, coeC_own, pureLL, pureL, tg_g, tg_nil, Nat.zero_add, Nat.le_refl, W64_l1, W64_l2, W32_l1, toG_W64, WW_1, WW_2, WW_3, true_and, go_sem, seval]
  refine call_is (r := bl true) ((p_hWords (xs := [2]) (ys := [2]) (by decide) (by decide) (by decide) (by decide)).mono fun d hd => hd) ?_
  repeat (first
   | (with_reducible first | refine pv_seq fun K hK => ?_ | refine pv_skip ?_ | refine pv_block ?_ | refine pv_scope ?_ | refine pv_label ?_)
   | (with_reducible refine pv_reg ?_; simp -implicitDefEqProofs only [comp_nil, comp_cons, compD_nil, compD_cons, gsl_none, gsl_some, List.getElem?_cons_zero, List.getElem?_cons_succ, Option.map_some, Option.bind_some, lapp_cons, lapp_nil])
   | (fail)
   | (with_reducible refine pv_condT ?_ ?_; · simp -implicitDefEqProofs only [true_and, go_sem, seval] <;> rfl)
   | (with_reducible refine pv_condF ?_ ?_; · simp -implicitDefEqProofs only [true_and, go_sem, seval] <;> rfl)
   | (with_reducible refine pv_exit ?_; simp only [↓reduceIte, Nat.reduceEqDiff])
   | (with_reducible refine pv_ret ?_; simp -implicitDefEqProofs only [retC, retS, retR, resD, oneD, coeDs_nil, coeDs_cons, coeD_agg, coeD_g, coeD_nil, coeD_own, coeCs_nil, coeCs_cons, coeC_g, coeC_nil, coeC_own, true_and, go_sem, seval])
   | ((with_reducible first | refine hK _ _ ?_ | (clear hK; refine hK _ _ ?_) | (clear hK; clear hK; refine hK _ _ ?_)); clear hK; try clear K)
   | (simp -implicitDefEqProofs only [true_and, go_sem, seval])
   | (with_reducible intro b)
   | (with_reducible refine And.intro ?_ ?_; · first | assumption | omega | (unfold R64; omega)))
  refine PFC.coe ?_
  simp -implicitDefEqProofs only [coeDs_nil, coeDs_cons, coeD_agg, coeD_g, coeD_nil, coeD_own, coeCs_nil, coeCs_cons, coeC_g, coeC_nil, coeC_own, pureLL, pureL, tg_g, tg_nil, Nat.zero_add, Nat.le_refl, W64_l1, W64_l2, W32_l1, toG_W64, WW_1, WW_2, WW_3, true_and, go_sem, seval]
  refine call_is (r := W64 [12]) ((p_Mul (xs := [3]) (ys := [4]) (by decide) (by decide) (by decide) (by decide)).mono fun d hd => hd.trans (by rw [D64_is (n := N64 [3] * N64 [4]) (xs := [12]) (by decide) (by decide) (by simp)])) ?_
  repeat (first
   | (with_reducible first | refine pv_seq fun K hK => ?_ | refine pv_skip ?_ | refine pv_block ?_ | refine pv_scope ?_ | refine pv_label ?_)
   | (with_reducible refine pv_reg ?_; simp -implicitDefEqProofs only [comp_nil, comp_cons, compD_nil, compD_cons, gsl_none, gsl_some, List.getElem?_cons_zero, List.getElem?_cons_succ, Option.map_some, Option.bind_some, lapp_cons, lapp_nil])
   | (fail)
   | (with_reducible refine pv_condT ?_ ?_; · simp -implicitDefEqProofs only [true_and, go_sem, seval] <;> rfl)
   | (with_reducible refine pv_condF ?_ ?_; · simp -implicitDefEqProofs only [true_and, go_sem, seval] <;> rfl)
   | (with_reducible refine pv_exit ?_; simp only [↓reduceIte, Nat.reduceEqDiff])
   | (with_reducible refine pv_ret ?_; simp -implicitDefEqProofs only [retC, retS, retR, resD, oneD, coeDs_nil, coeDs_cons, coeD_agg, coeD_g, coeD_nil, coeD_own, coeCs_nil, coeCs_cons, coeC_g, coeC_nil, coeC_own, true_and, go_sem, seval])
   | ((with_reducible first | refine hK _ _ ?_ | (clear hK; refine hK _ _ ?_) | (clear hK; clear hK; refine hK _ _ ?_)); clear hK; try clear K)
   | (simp -implicitDefEqProofs only [true_and, go_sem, seval])
   | (with_reducible intro b)
   | (with_reducible refine And.intro ?_ ?_; · first | assumption | omega | (unfold R64; omega)))
  refine PFC.coe ?_
  simp -implicitDefEqProofs only [coeDs_nil, coeDs_cons, coeD_agg, coeD_g, coeD_nil, coeD_own, coeCs_nil, coeCs_cons, coeC_g, coeC_nil, coeC_own, pureLL, pureL, tg_g, tg_nil, Nat.zero_add, Nat.le_refl, W64_l1, W64_l2, W32_l1, toG_W64, WW_1, WW_2, WW_3, true_and, go_sem, seval]
  refine call_is (r := bl true) ((p_hWords (xs := [12]) (ys := [12]) (by decide) (by decide) (by decide) (by decide)).mono fun d hd => hd) ?_
  repeat (first
   | (with_reducible first | refine pv_seq fun K hK => ?_ | refine pv_skip ?_ | refine pv_block ?_ | refine pv_scope ?_ | refine pv_label ?_)
   | (with_reducible refine pv_reg ?_; simp -implicitDefEqProofs only [comp_nil, comp_cons, compD_nil, compD_cons, gsl_none, gsl_some, List.getElem?_cons_zero, List.getElem?_cons_succ, Option.map_some, Option.bind_some, lapp_cons, lapp_nil])
   | (fail)
   | (with_reducible refine pv_condT ?_ ?_; · simp -implicitDefEqProofs only [true_and, go_sem, seval] <;> rfl)
   | (with_reducible refine pv_condF ?_ ?_; · simp -implicitDefEqProofs only [true_and, go_sem, seval] <;> rfl)
   | (with_reducible refine pv_exit ?_; simp only [↓reduceIte, Nat.reduceEqDiff])
   | (with_reducible refine pv_ret ?_; simp -implicitDefEqProofs only [retC, retS, retR, resD, oneD, coeDs_nil, coeDs_cons, coeD_agg, coeD_g, coeD_nil, coeD_own, coeCs_nil, coeCs_cons, coeC_g, coeC_nil, coeC_own, true_and, go_sem, seval])
   | ((with_reducible first | refine hK _ _ ?_ | (clear hK; refine hK _ _ ?_) | (clear hK; clear hK; refine hK _ _ ?_)); clear hK; try clear K)
   | (simp -implicitDefEqProofs only [true_and, go_sem, seval])
   | (with_reducible intro b)
   | (with_reducible refine And.intro ?_ ?_; · first | assumption | omega | (unfold R64; omega)))
  refine PFC.coe ?_
  simp -implicitDefEqProofs only [coeDs_nil, coeDs_cons, coeD_agg, coeD_g, coeD_nil, coeD_own, coeCs_nil, coeCs_cons, coeC_g, coeC_nil, coeC_own, pureLL, pureL, tg_g, tg_nil, Nat.zero_add, Nat.le_refl, W64_l1, W64_l2, W32_l1, toG_W64, WW_1, WW_2, WW_3, true_and, go_sem, seval]
  refine call_is (r := i64 1) ((p_Cmp (xs := [2]) (ys := [1]) (by decide) (by decide) (by decide) (by decide)).mono fun d hd => hd.trans (congrArg i64 (by decide))) ?_
  repeat (first
   | (with_reducible first | refine pv_seq fun K hK => ?_ | refine pv_skip ?_ | refine pv_block ?_ | refine pv_scope ?_ | refine pv_label ?_)
   | (with_reducible refine pv_reg ?_; simp -implicitDefEqProofs only [comp_nil, comp_cons, compD_nil, compD_cons, gsl_none, gsl_some, List.getElem?_cons_zero, List.getElem?_cons_succ, Option.map_some, Option.bind_some, lapp_cons, lapp_nil])
   | (fail)
   | (with_reducible refine pv_condT ?_ ?_; · simp -implicitDefEqProofs only [true_and, go_sem, seval] <;> rfl)
   | (with_reducible refine pv_condF ?_ ?_; · simp -implicitDefEqProofs only [true_and, go_sem, seval] <;> rfl)
   | (with_reducible refine pv_exit ?_; simp only [↓reduceIte, Nat.reduceEqDiff])
   | (with_reducible refine pv_ret ?_; simp -implicitDefEqProofs only [retC, retS, retR, resD, oneD, coeDs_nil, coeDs_cons, coeD_agg, coeD_g, coeD_nil, coeD_own, coeCs_nil, coeCs_cons, coeC_g, coeC_nil, coeC_own, true_and, go_sem, seval])
   | ((with_reducible first | refine hK _ _ ?_ | (clear hK; refine hK _ _ ?_) | (clear hK; clear hK; refine hK _ _ ?_)); clear hK; try clear K)
   | (simp -implicitDefEqProofs only [true_and, go_sem, seval])
   | (with_reducible intro b)
   | (with_reducible refine And.intro ?_ ?_; · first | assumption | omega | (unfold R64; omega)))
  refine PFC.coe ?_
  simp -implicitDefEqProofs only [coeDs_nil, coeDs_cons, coeD_agg, coeD_g, coeD_nil, coeD_own, coeCs_nil, coeCs_cons, coeC_g, coeC_nil, coeC_own, pureLL, pureL, tg_g, tg_nil, Nat.zero_add, Nat.le_refl, W64_l1, W64_l2, W32_l1, toG_W64, WW_1, WW_2, WW_3, true_and, go_sem, seval]
  refine call_is (r := i64 3) ((p_Bits (xs := [4]) (by decide) (by decide)).mono fun d hd => hd.trans (by rw [show bitLen (N64 [4]) = 3 from by decide]; rfl)) ?_
  repeat (first
   | (with_reducible first | refine pv_seq fun K hK => ?_ | refine pv_skip ?_ | refine pv_block ?_ | refine pv_scope ?_ | refine pv_label ?_)
   | (with_reducible refine pv_reg ?_; simp -implicitDefEqProofs only [comp_nil, comp_cons, compD_nil, compD_cons, gsl_none, gsl_some, List.getElem?_cons_zero, List.getElem?_cons_succ, Option.map_some, Option.bind_some, lapp_cons, lapp_nil])
   | (fail)
   | (with_reducible refine pv_condT ?_ ?_; · simp -implicitDefEqProofs only [true_and, go_sem, seval] <;> rfl)
   | (with_reducible refine pv_condF ?_ ?_; · simp -implicitDefEqProofs only [true_and, go_sem, seval] <;> rfl)
   | (with_reducible refine pv_exit ?_; simp only [↓reduceIte, Nat.reduceEqDiff])
   | (with_reducible refine pv_ret ?_; simp -implicitDefEqProofs only [retC, retS, retR, resD, oneD, coeDs_nil, coeDs_cons, coeD_agg, coeD_g, coeD_nil, coeD_own, coeCs_nil, coeCs_cons, coeC_g, coeC_nil, coeC_own, true_and, go_sem, seval])
   | ((with_reducible first | refine hK _ _ ?_ | (clear hK; refine hK _ _ ?_) | (clear hK; clear hK; refine hK _ _ ?_)); clear hK; try clear K)
   | (simp -implicitDefEqProofs only [true_and, go_sem, seval])
   | (with_reducible intro b)
   | (with_reducible refine And.intro ?_ ?_; · first | assumption | omega | (unfold R64; omega)))
  refine PFC.coe ?_
  simp -implicitDefEqProofs only [coeDs_nil, coeDs_cons, coeD_agg, coeD_g, coeD_nil, coeD_own, coeCs_nil, coeCs_cons, coeC_g, coeC_nil, coeC_own, pureLL, pureL, tg_g, tg_nil, Nat.zero_add, Nat.le_refl, W64_l1, W64_l2, W32_l1, toG_W64, WW_1, WW_2, WW_3, true_and, go_sem, seval]
  refine call_is (r := i64 2) ((p_Zeros (xs := [4]) (by decide) (by decide)).mono fun d hd => hd.trans (by rw [show tz (N64 [4]) = 2 from tz_form (k := 2) (m := 0)]; rfl)) ?_
  repeat (first
   | (with_reducible first | refine pv_seq fun K hK => ?_ | refine pv_skip ?_ | refine pv_block ?_ | refine pv_scope ?_ | refine pv_label ?_)
   | (with_reducible refine pv_reg ?_; simp -implicitDefEqProofs only [comp_nil, comp_cons, compD_nil, compD_cons, gsl_none, gsl_some, List.getElem?_cons_zero, List.getElem?_cons_succ, Option.map_some, Option.bind_some, lapp_cons, lapp_nil])
   | (fail)
   | (with_reducible refine pv_condT ?_ ?_; · simp -implicitDefEqProofs only [true_and, go_sem, seval] <;> rfl)
   | (with_reducible refine pv_condF ?_ ?_; · simp -implicitDefEqProofs only [true_and, go_sem, seval] <;> rfl)
   | (with_reducible refine pv_exit ?_; simp only [↓reduceIte, Nat.reduceEqDiff])
   | (with_reducible refine pv_ret ?_; simp -implicitDefEqProofs only [retC, retS, retR, resD, oneD, coeDs_nil, coeDs_cons, coeD_agg, coeD_g, coeD_nil, coeD_own, coeCs_nil, coeCs_cons, coeC_g, coeC_nil, coeC_own, true_and, go_sem, seval])
   | ((with_reducible first | refine hK _ _ ?_ | (clear hK; refine hK _ _ ?_) | (clear hK; clear hK; refine hK _ _ ?_)); clear hK; try clear K)
   | (simp -implicitDefEqProofs only [true_and, go_sem, seval])
   | (with_reducible intro b)
   | (with_reducible refine And.intro ?_ ?_; · first | assumption | omega | (unfold R64; omega)))
  refine PFC.coe ?_
  simp -implicitDefEqProofs only [coeDs_nil, coeDs_cons, coeD_agg, coeD_g, coeD_nil, coeD_own, coeCs_nil, coeCs_cons, coeC_g, coeC_nil, coeC_own, pureLL, pureL, tg_g, tg_nil, Nat.zero_add, Nat.le_refl, W64_l1, W64_l2, W32_l1, toG_W64, WW_1, WW_2, WW_3, true_and, go_sem, seval]
  refine call_is (r := bl true) ((p_Right (xs := [1]) (by decide)).mono fun d hd => hd.trans (by rw [D64_is (n := N64 [1]) (xs := [1]) rfl (by decide) (by simp)]; rfl)) ?_
  repeat (first
   | (with_reducible first | refine pv_seq fun K hK => ?_ | refine pv_skip ?_ | refine pv_block ?_ | refine pv_scope ?_ | refine pv_label ?_)
   | (with_reducible refine pv_reg ?_; simp -implicitDefEqProofs only [comp_nil, comp_cons, compD_nil, compD_cons, gsl_none, gsl_some, List.getElem?_cons_zero, List.getElem?_cons_succ, Option.map_some, Option.bind_some, lapp_cons, lapp_nil])
   | (fail)
   | (with_reducible refine pv_condT ?_ ?_; · simp -implicitDefEqProofs only [true_and, go_sem, seval] <;> rfl)
   | (with_reducible refine pv_condF ?_ ?_; · simp -implicitDefEqProofs only [true_and, go_sem, seval] <;> rfl)
   | (with_reducible refine pv_exit ?_; simp only [↓reduceIte, Nat.reduceEqDiff])
   | (with_reducible refine pv_ret ?_; simp -implicitDefEqProofs only [retC, retS, retR, resD, oneD, coeDs_nil, coeDs_cons, coeD_agg, coeD_g, coeD_nil, coeD_own, coeCs_nil, coeCs_cons, coeC_g, coeC_nil, coeC_own, true_and, go_sem, seval])
   | ((with_reducible first | refine hK _ _ ?_ | (clear hK; refine hK _ _ ?_) | (clear hK; clear hK; refine hK _ _ ?_)); clear hK; try clear K)
   | (simp -implicitDefEqProofs only [true_and, go_sem, seval])
   | (with_reducible intro b)
   | (with_reducible refine And.intro ?_ ?_; · first | assumption | omega | (unfold R64; omega)))
  refine PFC.coe ?_
  simp -implicitDefEqProofs only [coeDs_nil, coeDs_cons, coeD_agg, coeD_g, coeD_nil, coeD_own, coeCs_nil, coeCs_cons, coeC_g, coeC_nil, coeC_own, pureLL, pureL, tg_g, tg_nil, Nat.zero_add, Nat.le_refl, W64_l1, W64_l2, W32_l1, toG_W64, WW_1, WW_2, WW_3, true_and, go_sem, seval]
  refine call_is (r := W64 [1]) ((p_Trim (xs := [1, 0]) (by decide) (by decide)).mono fun d hd => hd.trans (by rw [D64_is (n := N64 [1, 0]) (xs := [1]) (by decide) (by decide) (by simp)])) ?_
  repeat (first
   | (with_reducible first | refine pv_seq fun K hK => ?_ | refine pv_skip ?_ | refine pv_block ?_ | refine pv_scope ?_ | refine pv_label ?_)
   | (with_reducible refine pv_reg ?_; simp -implicitDefEqProofs only [comp_nil, comp_cons, compD_nil, compD_cons, gsl_none, gsl_some, List.getElem?_cons_zero, List.getElem?_cons_succ, Option.map_some, Option.bind_some, lapp_cons, lapp_nil])
   | (fail)
   | (with_reducible refine pv_condT ?_ ?_; · simp -implicitDefEqProofs only [true_and, go_sem, seval] <;> rfl)
   | (with_reducible refine pv_condF ?_ ?_; · simp -implicitDefEqProofs only [true_and, go_sem, seval] <;> rfl)
   | (with_reducible refine pv_exit ?_; simp only [↓reduceIte, Nat.reduceEqDiff])
   | (with_reducible refine pv_ret ?_; simp -implicitDefEqProofs only [retC, retS, retR, resD, oneD, coeDs_nil, coeDs_cons, coeD_agg, coeD_g, coeD_nil, coeD_own, coeCs_nil, coeCs_cons, coeC_g, coeC_nil, coeC_own, true_and, go_sem, seval])
   | ((with_reducible first | refine hK _ _ ?_ | (clear hK; refine hK _ _ ?_) | (clear hK; clear hK; refine hK _ _ ?_)); clear hK; try clear K)
   | (simp -implicitDefEqProofs only [true_and, go_sem, seval])
   | (with_reducible intro b)
   | (with_reducible refine And.intro ?_ ?_; · first | assumption | omega | (unfold R64; omega)))
  refine PFC.coe ?_
  simp -implicitDefEqProofs only [coeDs_nil, coeDs_cons, coeD_agg, coeD_g, coeD_nil, coeD_own, coeCs_nil, coeCs_cons, coeC_g, coeC_nil, coeC_own, pureLL, pureL, tg_g, tg_nil, Nat.zero_add, Nat.le_refl, W64_l1, W64_l2, W32_l1, toG_W64, WW_1, WW_2, WW_3, true_and, go_sem, seval]
  refine call_is (r := bl true) ((p_hWords (xs := [1]) (ys := [1]) (by decide) (by decide) (by decide) (by decide)).mono fun d hd => hd) ?_
  repeat (first
   | (with_reducible first | refine pv_seq fun K hK => ?_ | refine pv_skip ?_ | refine pv_block ?_ | refine pv_scope ?_ | refine pv_label ?_)
   | (with_reducible refine pv_reg ?_; simp -implicitDefEqProofs only [comp_nil, comp_cons, compD_nil, compD_cons, gsl_none, gsl_some, List.getElem?_cons_zero, List.getElem?_cons_succ, Option.map_some, Option.bind_some, lapp_cons, lapp_nil])
   | (fail)
   | (with_reducible refine pv_condT ?_ ?_; · simp -implicitDefEqProofs only [true_and, go_sem, seval] <;> rfl)
   | (with_reducible refine pv_condF ?_ ?_; · simp -implicitDefEqProofs only [true_and, go_sem, seval] <;> rfl)
   | (with_reducible refine pv_exit ?_; simp only [↓reduceIte, Nat.reduceEqDiff])
   | (with_reducible refine pv_ret ?_; simp -implicitDefEqProofs only [retC, retS, retR, resD, oneD, coeDs_nil, coeDs_cons, coeD_agg, coeD_g, coeD_nil, coeD_own, coeCs_nil, coeCs_cons, coeC_g, coeC_nil, coeC_own, true_and, go_sem, seval])
   | ((with_reducible first | refine hK _ _ ?_ | (clear hK; refine hK _ _ ?_) | (clear hK; clear hK; refine hK _ _ ?_)); clear hK; try clear K)
   | (simp -implicitDefEqProofs only [true_and, go_sem, seval])
   | (with_reducible intro b)
   | (with_reducible refine And.intro ?_ ?_; · first | assumption | omega | (unfold R64; omega)))

end Go.V

/- The statements' own small functions: NatShifts. -/
import Derived.Test.YtilnmcabjkpohaaDoorM
import Derived.Test.YtilnmcabjkpohaaDoorR7
set_option linter.unusedSimpArgs false
set_option linter.unusedVariables false
set_option maxRecDepth 100000
namespace Go.V
open Go Go.RowKit Go.Proofs

theorem Mw_pow {k : Nat} : (2 : Nat) ^ (64 * k) = Mw k := by unfold Mw; rw [Nat.pow_mul]
theorem Mw_succ {k : Nat} : Mw k < Mw (k + 1) := Nat.pow_lt_pow_right (by decide) (Nat.lt_succ_self k)
theorem pow_le_Mw {a k : Nat} (h : a ≤ 64 * k) : 2 ^ a ≤ Mw k := by rw [← Mw_pow]; exact Nat.pow_le_pow_right (by decide) h
theorem shift_lt {m : Nat} (n : Int) (hm : m < Mw 40) : shiftN m n < Mw 4137 := by
  unfold shiftN
  split
  · exact Mw_up (Nat.lt_of_le_of_lt (Nat.div_le_self _ _) hm) (by decide)
  · have h1 : (2 : Nat) ^ (min n.toNat 262144) ≤ Mw 4096 := pow_le_Mw (by omega)
    have h2 : Mw 4096 < Mw 4097 := Mw_succ
    exact Mw_mul hm (Nat.lt_of_le_of_lt h1 h2)
theorem D32L {n k : Nat} (h : n < Mw k) (hk : k ≤ 100000) : (D32 n).length ≤ 1099511627776 := by
  have e : Mw k = 4294967296 ^ (2 * k) := by unfold Mw; rw [Nat.pow_mul]
  rw [e] at h
  exact Nat.le_trans (digs_len_le two32 h) (by omega)
theorem D64L {n k : Nat} (h : n < Mw k) (hk : k ≤ 100000) : (D64 n).length ≤ 1099511627776 := Nat.le_trans (digs_len_le two64 h) (by omega)

theorem p_NatShifts {xs : List Nat} {n : Int} (hx : B64 xs) (_ : (Lit.int .i64 n).wf = true) : PC Tryd.prog 6 [W64 xs, i64 n] fun d => d = bl true := by
  refine PC.body (args := [W64 xs, i64 n]) (rs := [.tmp 4]) mixed Tryd.func6 rfl (by kernel_rfl) (by kernel_rfl) (Nat.le_of_ble_eq_true rfl) rfl ?_
  repeat (first
    | (with_reducible refine pv_seq fun K hK => ?_)
    | (with_reducible refine pv_reg ?_; simp -implicitDefEqProofs only [comp_nil, comp_cons, compD_nil, compD_cons, gsl_none, gsl_some, List.getElem?_cons_zero, List.getElem?_cons_succ, Option.map_some, Option.bind_some, lapp_cons, lapp_nil])
    | (fail)
    | (with_reducible refine pv_skip ?_)
    | (with_reducible refine pv_block ?_)
    | (with_reducible refine pv_scope ?_)
    | (with_reducible refine pv_label ?_)
    | (with_reducible refine pv_condT ?_ ?_; · simp -implicitDefEqProofs only [true_and, go_sem, Nat.reduceBEq, Nat.reduceEqDiff, ↓reduceIte, reduceCtorEq, Int.reduceToNat, Nat.reduceLeDiff, Int.reduceLE, Int.reduceLT, Int.reducePow, Int.reduceNeg, Int.reduceAdd, Int.reduceSub, Nat.reduceAdd, Nat.reduceMul, Nat.reducePow, Nat.reduceLT] <;> rfl)
    | (with_reducible refine pv_condF ?_ ?_; · simp -implicitDefEqProofs only [true_and, go_sem, Nat.reduceBEq, Nat.reduceEqDiff, ↓reduceIte, reduceCtorEq, Int.reduceToNat, Nat.reduceLeDiff, Int.reduceLE, Int.reduceLT, Int.reducePow, Int.reduceNeg, Int.reduceAdd, Int.reduceSub, Nat.reduceAdd, Nat.reduceMul, Nat.reducePow, Nat.reduceLT] <;> rfl)
    | (with_reducible refine pv_exit ?_; simp only [↓reduceIte, Nat.reduceEqDiff])
    | (with_reducible refine pv_ret ?_; simp -implicitDefEqProofs only [retC, resD, oneD, coeDs_nil, coeDs_cons, coeD_agg, coeD_g, coeD_nil, coeD_own, coeCs_nil, coeCs_cons, coeC_g, coeC_nil, coeC_own, true_and, go_sem, Nat.reduceBEq, Nat.reduceEqDiff, ↓reduceIte, reduceCtorEq, Int.reduceToNat, Nat.reduceLeDiff, Int.reduceLE, Int.reduceLT, Int.reducePow, Int.reduceNeg, Int.reduceAdd, Int.reduceSub, Nat.reduceAdd, Nat.reduceMul, Nat.reducePow, Nat.reduceLT])
    | (with_reducible refine hK _ _ ?_; clear hK; try clear K)
    | (clear hK; with_reducible refine hK _ _ ?_; clear hK; try clear K)
    | (clear hK; clear hK; with_reducible refine hK _ _ ?_; clear hK; try clear K)
    | (simp -implicitDefEqProofs only [true_and, go_sem, Nat.reduceBEq, Nat.reduceEqDiff, ↓reduceIte, reduceCtorEq, Int.reduceToNat, Nat.reduceLeDiff, Int.reduceLE, Int.reduceLT, Int.reducePow, Int.reduceNeg, Int.reduceAdd, Int.reduceSub, Nat.reduceAdd, Nat.reduceMul, Nat.reducePow, Nat.reduceLT])
    | (with_reducible intro b)
    | (with_reducible refine And.intro ?_ ?_; · first | assumption | omega | (unfold R64; omega)))
  refine call_is p_known ?_
  repeat (first
    | (with_reducible refine pv_seq fun K hK => ?_)
    | (with_reducible refine pv_reg ?_; simp -implicitDefEqProofs only [comp_nil, comp_cons, compD_nil, compD_cons, gsl_none, gsl_some, List.getElem?_cons_zero, List.getElem?_cons_succ, Option.map_some, Option.bind_some, lapp_cons, lapp_nil])
    | (fail)
    | (with_reducible refine pv_skip ?_)
    | (with_reducible refine pv_block ?_)
    | (with_reducible refine pv_scope ?_)
    | (with_reducible refine pv_label ?_)
    | (with_reducible refine pv_condT ?_ ?_; · simp -implicitDefEqProofs only [true_and, go_sem, Nat.reduceBEq, Nat.reduceEqDiff, ↓reduceIte, reduceCtorEq, Int.reduceToNat, Nat.reduceLeDiff, Int.reduceLE, Int.reduceLT, Int.reducePow, Int.reduceNeg, Int.reduceAdd, Int.reduceSub, Nat.reduceAdd, Nat.reduceMul, Nat.reducePow, Nat.reduceLT] <;> rfl)
    | (with_reducible refine pv_condF ?_ ?_; · simp -implicitDefEqProofs only [true_and, go_sem, Nat.reduceBEq, Nat.reduceEqDiff, ↓reduceIte, reduceCtorEq, Int.reduceToNat, Nat.reduceLeDiff, Int.reduceLE, Int.reduceLT, Int.reducePow, Int.reduceNeg, Int.reduceAdd, Int.reduceSub, Nat.reduceAdd, Nat.reduceMul, Nat.reducePow, Nat.reduceLT] <;> rfl)
    | (with_reducible refine pv_exit ?_; simp only [↓reduceIte, Nat.reduceEqDiff])
    | (with_reducible refine pv_ret ?_; simp -implicitDefEqProofs only [retC, resD, oneD, coeDs_nil, coeDs_cons, coeD_agg, coeD_g, coeD_nil, coeD_own, coeCs_nil, coeCs_cons, coeC_g, coeC_nil, coeC_own, true_and, go_sem, Nat.reduceBEq, Nat.reduceEqDiff, ↓reduceIte, reduceCtorEq, Int.reduceToNat, Nat.reduceLeDiff, Int.reduceLE, Int.reduceLT, Int.reducePow, Int.reduceNeg, Int.reduceAdd, Int.reduceSub, Nat.reduceAdd, Nat.reduceMul, Nat.reducePow, Nat.reduceLT])
    | (with_reducible refine hK _ _ ?_; clear hK; try clear K)
    | (clear hK; with_reducible refine hK _ _ ?_; clear hK; try clear K)
    | (clear hK; clear hK; with_reducible refine hK _ _ ?_; clear hK; try clear K)
    | (simp -implicitDefEqProofs only [true_and, go_sem, Nat.reduceBEq, Nat.reduceEqDiff, ↓reduceIte, reduceCtorEq, Int.reduceToNat, Nat.reduceLeDiff, Int.reduceLE, Int.reduceLT, Int.reducePow, Int.reduceNeg, Int.reduceAdd, Int.reduceSub, Nat.reduceAdd, Nat.reduceMul, Nat.reducePow, Nat.reduceLT])
    | (with_reducible intro b)
    | (with_reducible refine And.intro ?_ ?_; · first | assumption | omega | (unfold R64; omega)))
  refine PFC.coe ?_
  simp -implicitDefEqProofs only [coeDs_nil, coeDs_cons, coeD_agg, coeD_g, coeD_nil, coeD_own, coeCs_nil, coeCs_cons, coeC_g, coeC_nil, coeC_own, pureLL, pureL, tg_g, tg_nil, Nat.zero_add, Nat.le_refl, W64_l1, W64_l2, W32_l1, toG_W64, WW_1, WW_2, WW_3, true_and, go_sem, Nat.reduceBEq, Nat.reduceEqDiff, ↓reduceIte, reduceCtorEq, Int.reduceToNat, Nat.reduceLeDiff, Int.reduceLE, Int.reduceLT, Int.reducePow, Int.reduceNeg, Int.reduceAdd, Int.reduceSub, Nat.reduceAdd, Nat.reduceMul, Nat.reducePow, Nat.reduceLT]
  refine call_is (p_few (xss := [xs]) (by simp)) ?_
  by_cases hl : xs.length ≤ 40
  · have hf : decide (∀ l ∈ [xs], l.length ≤ 40) = true := by simpa using hl
    rw [hf]
    have X := Wd.x hx hl
    have x := nlt hx hl
    have s := shift_lt n x
    have lx := D32L x (by decide)
    have pS := p_rShift (n := n) (digs_lt two32 (N64 xs)) lx
    rw [show N32 (D32 (N64 xs)) = N64 xs from nval_digs two32 _] at pS
    repeat (first
      | (with_reducible refine pv_seq fun K hK => ?_)
      | (with_reducible refine pv_reg ?_; simp -implicitDefEqProofs only [comp_nil, comp_cons, compD_nil, compD_cons, gsl_none, gsl_some, List.getElem?_cons_zero, List.getElem?_cons_succ, Option.map_some, Option.bind_some, lapp_cons, lapp_nil])
      | (fail)
      | (with_reducible refine pv_skip ?_)
      | (with_reducible refine pv_block ?_)
      | (with_reducible refine pv_scope ?_)
      | (with_reducible refine pv_label ?_)
      | (with_reducible refine pv_condT ?_ ?_; · simp -implicitDefEqProofs only [true_and, go_sem, Nat.reduceBEq, Nat.reduceEqDiff, ↓reduceIte, reduceCtorEq, Int.reduceToNat, Nat.reduceLeDiff, Int.reduceLE, Int.reduceLT, Int.reducePow, Int.reduceNeg, Int.reduceAdd, Int.reduceSub, Nat.reduceAdd, Nat.reduceMul, Nat.reducePow, Nat.reduceLT] <;> rfl)
      | (with_reducible refine pv_condF ?_ ?_; · simp -implicitDefEqProofs only [true_and, go_sem, Nat.reduceBEq, Nat.reduceEqDiff, ↓reduceIte, reduceCtorEq, Int.reduceToNat, Nat.reduceLeDiff, Int.reduceLE, Int.reduceLT, Int.reducePow, Int.reduceNeg, Int.reduceAdd, Int.reduceSub, Nat.reduceAdd, Nat.reduceMul, Nat.reducePow, Nat.reduceLT] <;> rfl)
      | (with_reducible refine pv_exit ?_; simp only [↓reduceIte, Nat.reduceEqDiff])
      | (with_reducible refine pv_ret ?_; simp -implicitDefEqProofs only [retC, resD, oneD, coeDs_nil, coeDs_cons, coeD_agg, coeD_g, coeD_nil, coeD_own, coeCs_nil, coeCs_cons, coeC_g, coeC_nil, coeC_own, true_and, go_sem, Nat.reduceBEq, Nat.reduceEqDiff, ↓reduceIte, reduceCtorEq, Int.reduceToNat, Nat.reduceLeDiff, Int.reduceLE, Int.reduceLT, Int.reducePow, Int.reduceNeg, Int.reduceAdd, Int.reduceSub, Nat.reduceAdd, Nat.reduceMul, Nat.reducePow, Nat.reduceLT])
      | (with_reducible refine hK _ _ ?_; clear hK; try clear K)
      | (clear hK; with_reducible refine hK _ _ ?_; clear hK; try clear K)
      | (clear hK; clear hK; with_reducible refine hK _ _ ?_; clear hK; try clear K)
      | (simp -implicitDefEqProofs only [true_and, go_sem, Nat.reduceBEq, Nat.reduceEqDiff, ↓reduceIte, reduceCtorEq, Int.reduceToNat, Nat.reduceLeDiff, Int.reduceLE, Int.reduceLT, Int.reducePow, Int.reduceNeg, Int.reduceAdd, Int.reduceSub, Nat.reduceAdd, Nat.reduceMul, Nat.reducePow, Nat.reduceLT])
      | (with_reducible intro b)
      | (with_reducible refine And.intro ?_ ?_; · first | assumption | omega | (unfold R64; omega)))
    refine call_is (p_Shift hx X.2.2) ?_
    repeat (first
      | (with_reducible refine pv_seq fun K hK => ?_)
      | (with_reducible refine pv_reg ?_; simp -implicitDefEqProofs only [comp_nil, comp_cons, compD_nil, compD_cons, gsl_none, gsl_some, List.getElem?_cons_zero, List.getElem?_cons_succ, Option.map_some, Option.bind_some, lapp_cons, lapp_nil])
      | (fail)
      | (with_reducible refine pv_skip ?_)
      | (with_reducible refine pv_block ?_)
      | (with_reducible refine pv_scope ?_)
      | (with_reducible refine pv_label ?_)
      | (with_reducible refine pv_condT ?_ ?_; · simp -implicitDefEqProofs only [true_and, go_sem, Nat.reduceBEq, Nat.reduceEqDiff, ↓reduceIte, reduceCtorEq, Int.reduceToNat, Nat.reduceLeDiff, Int.reduceLE, Int.reduceLT, Int.reducePow, Int.reduceNeg, Int.reduceAdd, Int.reduceSub, Nat.reduceAdd, Nat.reduceMul, Nat.reducePow, Nat.reduceLT] <;> rfl)
      | (with_reducible refine pv_condF ?_ ?_; · simp -implicitDefEqProofs only [true_and, go_sem, Nat.reduceBEq, Nat.reduceEqDiff, ↓reduceIte, reduceCtorEq, Int.reduceToNat, Nat.reduceLeDiff, Int.reduceLE, Int.reduceLT, Int.reducePow, Int.reduceNeg, Int.reduceAdd, Int.reduceSub, Nat.reduceAdd, Nat.reduceMul, Nat.reducePow, Nat.reduceLT] <;> rfl)
      | (with_reducible refine pv_exit ?_; simp only [↓reduceIte, Nat.reduceEqDiff])
      | (with_reducible refine pv_ret ?_; simp -implicitDefEqProofs only [retC, resD, oneD, coeDs_nil, coeDs_cons, coeD_agg, coeD_g, coeD_nil, coeD_own, coeCs_nil, coeCs_cons, coeC_g, coeC_nil, coeC_own, true_and, go_sem, Nat.reduceBEq, Nat.reduceEqDiff, ↓reduceIte, reduceCtorEq, Int.reduceToNat, Nat.reduceLeDiff, Int.reduceLE, Int.reduceLT, Int.reducePow, Int.reduceNeg, Int.reduceAdd, Int.reduceSub, Nat.reduceAdd, Nat.reduceMul, Nat.reducePow, Nat.reduceLT])
      | (with_reducible refine hK _ _ ?_; clear hK; try clear K)
      | (clear hK; with_reducible refine hK _ _ ?_; clear hK; try clear K)
      | (clear hK; clear hK; with_reducible refine hK _ _ ?_; clear hK; try clear K)
      | (simp -implicitDefEqProofs only [true_and, go_sem, Nat.reduceBEq, Nat.reduceEqDiff, ↓reduceIte, reduceCtorEq, Int.reduceToNat, Nat.reduceLeDiff, Int.reduceLE, Int.reduceLT, Int.reducePow, Int.reduceNeg, Int.reduceAdd, Int.reduceSub, Nat.reduceAdd, Nat.reduceMul, Nat.reducePow, Nat.reduceLT])
      | (with_reducible intro b)
      | (with_reducible refine And.intro ?_ ?_; · first | assumption | omega | (unfold R64; omega)))
    refine call_is (p_Part hx X.2.2) ?_
    repeat (first
      | (with_reducible refine pv_seq fun K hK => ?_)
      | (with_reducible refine pv_reg ?_; simp -implicitDefEqProofs only [comp_nil, comp_cons, compD_nil, compD_cons, gsl_none, gsl_some, List.getElem?_cons_zero, List.getElem?_cons_succ, Option.map_some, Option.bind_some, lapp_cons, lapp_nil])
      | (fail)
      | (with_reducible refine pv_skip ?_)
      | (with_reducible refine pv_block ?_)
      | (with_reducible refine pv_scope ?_)
      | (with_reducible refine pv_label ?_)
      | (with_reducible refine pv_condT ?_ ?_; · simp -implicitDefEqProofs only [true_and, go_sem, Nat.reduceBEq, Nat.reduceEqDiff, ↓reduceIte, reduceCtorEq, Int.reduceToNat, Nat.reduceLeDiff, Int.reduceLE, Int.reduceLT, Int.reducePow, Int.reduceNeg, Int.reduceAdd, Int.reduceSub, Nat.reduceAdd, Nat.reduceMul, Nat.reducePow, Nat.reduceLT] <;> rfl)
      | (with_reducible refine pv_condF ?_ ?_; · simp -implicitDefEqProofs only [true_and, go_sem, Nat.reduceBEq, Nat.reduceEqDiff, ↓reduceIte, reduceCtorEq, Int.reduceToNat, Nat.reduceLeDiff, Int.reduceLE, Int.reduceLT, Int.reducePow, Int.reduceNeg, Int.reduceAdd, Int.reduceSub, Nat.reduceAdd, Nat.reduceMul, Nat.reducePow, Nat.reduceLT] <;> rfl)
      | (with_reducible refine pv_exit ?_; simp only [↓reduceIte, Nat.reduceEqDiff])
      | (with_reducible refine pv_ret ?_; simp -implicitDefEqProofs only [retC, resD, oneD, coeDs_nil, coeDs_cons, coeD_agg, coeD_g, coeD_nil, coeD_own, coeCs_nil, coeCs_cons, coeC_g, coeC_nil, coeC_own, true_and, go_sem, Nat.reduceBEq, Nat.reduceEqDiff, ↓reduceIte, reduceCtorEq, Int.reduceToNat, Nat.reduceLeDiff, Int.reduceLE, Int.reduceLT, Int.reducePow, Int.reduceNeg, Int.reduceAdd, Int.reduceSub, Nat.reduceAdd, Nat.reduceMul, Nat.reducePow, Nat.reduceLT])
      | (with_reducible refine hK _ _ ?_; clear hK; try clear K)
      | (clear hK; with_reducible refine hK _ _ ?_; clear hK; try clear K)
      | (clear hK; clear hK; with_reducible refine hK _ _ ?_; clear hK; try clear K)
      | (simp -implicitDefEqProofs only [true_and, go_sem, Nat.reduceBEq, Nat.reduceEqDiff, ↓reduceIte, reduceCtorEq, Int.reduceToNat, Nat.reduceLeDiff, Int.reduceLE, Int.reduceLT, Int.reducePow, Int.reduceNeg, Int.reduceAdd, Int.reduceSub, Nat.reduceAdd, Nat.reduceMul, Nat.reducePow, Nat.reduceLT])
      | (with_reducible intro b)
      | (with_reducible refine And.intro ?_ ?_; · first | assumption | omega | (unfold R64; omega)))
    refine call_is pS ?_
    repeat (first
      | (with_reducible refine pv_seq fun K hK => ?_)
      | (with_reducible refine pv_reg ?_; simp -implicitDefEqProofs only [comp_nil, comp_cons, compD_nil, compD_cons, gsl_none, gsl_some, List.getElem?_cons_zero, List.getElem?_cons_succ, Option.map_some, Option.bind_some, lapp_cons, lapp_nil])
      | (fail)
      | (with_reducible refine pv_skip ?_)
      | (with_reducible refine pv_block ?_)
      | (with_reducible refine pv_scope ?_)
      | (with_reducible refine pv_label ?_)
      | (with_reducible refine pv_condT ?_ ?_; · simp -implicitDefEqProofs only [true_and, go_sem, Nat.reduceBEq, Nat.reduceEqDiff, ↓reduceIte, reduceCtorEq, Int.reduceToNat, Nat.reduceLeDiff, Int.reduceLE, Int.reduceLT, Int.reducePow, Int.reduceNeg, Int.reduceAdd, Int.reduceSub, Nat.reduceAdd, Nat.reduceMul, Nat.reducePow, Nat.reduceLT] <;> rfl)
      | (with_reducible refine pv_condF ?_ ?_; · simp -implicitDefEqProofs only [true_and, go_sem, Nat.reduceBEq, Nat.reduceEqDiff, ↓reduceIte, reduceCtorEq, Int.reduceToNat, Nat.reduceLeDiff, Int.reduceLE, Int.reduceLT, Int.reducePow, Int.reduceNeg, Int.reduceAdd, Int.reduceSub, Nat.reduceAdd, Nat.reduceMul, Nat.reducePow, Nat.reduceLT] <;> rfl)
      | (with_reducible refine pv_exit ?_; simp only [↓reduceIte, Nat.reduceEqDiff])
      | (with_reducible refine pv_ret ?_; simp -implicitDefEqProofs only [retC, resD, oneD, coeDs_nil, coeDs_cons, coeD_agg, coeD_g, coeD_nil, coeD_own, coeCs_nil, coeCs_cons, coeC_g, coeC_nil, coeC_own, true_and, go_sem, Nat.reduceBEq, Nat.reduceEqDiff, ↓reduceIte, reduceCtorEq, Int.reduceToNat, Nat.reduceLeDiff, Int.reduceLE, Int.reduceLT, Int.reducePow, Int.reduceNeg, Int.reduceAdd, Int.reduceSub, Nat.reduceAdd, Nat.reduceMul, Nat.reducePow, Nat.reduceLT])
      | (with_reducible refine hK _ _ ?_; clear hK; try clear K)
      | (clear hK; with_reducible refine hK _ _ ?_; clear hK; try clear K)
      | (clear hK; clear hK; with_reducible refine hK _ _ ?_; clear hK; try clear K)
      | (simp -implicitDefEqProofs only [true_and, go_sem, Nat.reduceBEq, Nat.reduceEqDiff, ↓reduceIte, reduceCtorEq, Int.reduceToNat, Nat.reduceLeDiff, Int.reduceLE, Int.reduceLT, Int.reducePow, Int.reduceNeg, Int.reduceAdd, Int.reduceSub, Nat.reduceAdd, Nat.reduceMul, Nat.reducePow, Nat.reduceLT])
      | (with_reducible intro b)
      | (with_reducible refine And.intro ?_ ?_; · first | assumption | omega | (unfold R64; omega)))
    refine call_is (p_Words (D32L s (by decide))) ?_
    repeat (first
      | (with_reducible refine pv_seq fun K hK => ?_)
      | (with_reducible refine pv_reg ?_; simp -implicitDefEqProofs only [comp_nil, comp_cons, compD_nil, compD_cons, gsl_none, gsl_some, List.getElem?_cons_zero, List.getElem?_cons_succ, Option.map_some, Option.bind_some, lapp_cons, lapp_nil])
      | (fail)
      | (with_reducible refine pv_skip ?_)
      | (with_reducible refine pv_block ?_)
      | (with_reducible refine pv_scope ?_)
      | (with_reducible refine pv_label ?_)
      | (with_reducible refine pv_condT ?_ ?_; · simp -implicitDefEqProofs only [true_and, go_sem, Nat.reduceBEq, Nat.reduceEqDiff, ↓reduceIte, reduceCtorEq, Int.reduceToNat, Nat.reduceLeDiff, Int.reduceLE, Int.reduceLT, Int.reducePow, Int.reduceNeg, Int.reduceAdd, Int.reduceSub, Nat.reduceAdd, Nat.reduceMul, Nat.reducePow, Nat.reduceLT] <;> rfl)
      | (with_reducible refine pv_condF ?_ ?_; · simp -implicitDefEqProofs only [true_and, go_sem, Nat.reduceBEq, Nat.reduceEqDiff, ↓reduceIte, reduceCtorEq, Int.reduceToNat, Nat.reduceLeDiff, Int.reduceLE, Int.reduceLT, Int.reducePow, Int.reduceNeg, Int.reduceAdd, Int.reduceSub, Nat.reduceAdd, Nat.reduceMul, Nat.reducePow, Nat.reduceLT] <;> rfl)
      | (with_reducible refine pv_exit ?_; simp only [↓reduceIte, Nat.reduceEqDiff])
      | (with_reducible refine pv_ret ?_; simp -implicitDefEqProofs only [retC, resD, oneD, coeDs_nil, coeDs_cons, coeD_agg, coeD_g, coeD_nil, coeD_own, coeCs_nil, coeCs_cons, coeC_g, coeC_nil, coeC_own, true_and, go_sem, Nat.reduceBEq, Nat.reduceEqDiff, ↓reduceIte, reduceCtorEq, Int.reduceToNat, Nat.reduceLeDiff, Int.reduceLE, Int.reduceLT, Int.reducePow, Int.reduceNeg, Int.reduceAdd, Int.reduceSub, Nat.reduceAdd, Nat.reduceMul, Nat.reducePow, Nat.reduceLT])
      | (with_reducible refine hK _ _ ?_; clear hK; try clear K)
      | (clear hK; with_reducible refine hK _ _ ?_; clear hK; try clear K)
      | (clear hK; clear hK; with_reducible refine hK _ _ ?_; clear hK; try clear K)
      | (simp -implicitDefEqProofs only [true_and, go_sem, Nat.reduceBEq, Nat.reduceEqDiff, ↓reduceIte, reduceCtorEq, Int.reduceToNat, Nat.reduceLeDiff, Int.reduceLE, Int.reduceLT, Int.reducePow, Int.reduceNeg, Int.reduceAdd, Int.reduceSub, Nat.reduceAdd, Nat.reduceMul, Nat.reducePow, Nat.reduceLT])
      | (with_reducible intro b)
      | (with_reducible refine And.intro ?_ ?_; · first | assumption | omega | (unfold R64; omega)))
    refine call_is ((p_hWords (digs_lt two64 _) (digs_lt two64 _) (D64L s (by decide)) (D64L s (by decide))).mono fun d hd => hd.trans (congrArg bl (decide_eq_true rfl))) ?_
    repeat (first
      | (with_reducible refine pv_seq fun K hK => ?_)
      | (with_reducible refine pv_reg ?_; simp -implicitDefEqProofs only [comp_nil, comp_cons, compD_nil, compD_cons, gsl_none, gsl_some, List.getElem?_cons_zero, List.getElem?_cons_succ, Option.map_some, Option.bind_some, lapp_cons, lapp_nil])
      | (fail)
      | (with_reducible refine pv_skip ?_)
      | (with_reducible refine pv_block ?_)
      | (with_reducible refine pv_scope ?_)
      | (with_reducible refine pv_label ?_)
      | (with_reducible refine pv_condT ?_ ?_; · simp -implicitDefEqProofs only [true_and, go_sem, Nat.reduceBEq, Nat.reduceEqDiff, ↓reduceIte, reduceCtorEq, Int.reduceToNat, Nat.reduceLeDiff, Int.reduceLE, Int.reduceLT, Int.reducePow, Int.reduceNeg, Int.reduceAdd, Int.reduceSub, Nat.reduceAdd, Nat.reduceMul, Nat.reducePow, Nat.reduceLT] <;> rfl)
      | (with_reducible refine pv_condF ?_ ?_; · simp -implicitDefEqProofs only [true_and, go_sem, Nat.reduceBEq, Nat.reduceEqDiff, ↓reduceIte, reduceCtorEq, Int.reduceToNat, Nat.reduceLeDiff, Int.reduceLE, Int.reduceLT, Int.reducePow, Int.reduceNeg, Int.reduceAdd, Int.reduceSub, Nat.reduceAdd, Nat.reduceMul, Nat.reducePow, Nat.reduceLT] <;> rfl)
      | (with_reducible refine pv_exit ?_; simp only [↓reduceIte, Nat.reduceEqDiff])
      | (with_reducible refine pv_ret ?_; simp -implicitDefEqProofs only [retC, resD, oneD, coeDs_nil, coeDs_cons, coeD_agg, coeD_g, coeD_nil, coeD_own, coeCs_nil, coeCs_cons, coeC_g, coeC_nil, coeC_own, true_and, go_sem, Nat.reduceBEq, Nat.reduceEqDiff, ↓reduceIte, reduceCtorEq, Int.reduceToNat, Nat.reduceLeDiff, Int.reduceLE, Int.reduceLT, Int.reducePow, Int.reduceNeg, Int.reduceAdd, Int.reduceSub, Nat.reduceAdd, Nat.reduceMul, Nat.reducePow, Nat.reduceLT])
      | (with_reducible refine hK _ _ ?_; clear hK; try clear K)
      | (clear hK; with_reducible refine hK _ _ ?_; clear hK; try clear K)
      | (clear hK; clear hK; with_reducible refine hK _ _ ?_; clear hK; try clear K)
      | (simp -implicitDefEqProofs only [true_and, go_sem, Nat.reduceBEq, Nat.reduceEqDiff, ↓reduceIte, reduceCtorEq, Int.reduceToNat, Nat.reduceLeDiff, Int.reduceLE, Int.reduceLT, Int.reducePow, Int.reduceNeg, Int.reduceAdd, Int.reduceSub, Nat.reduceAdd, Nat.reduceMul, Nat.reducePow, Nat.reduceLT])
      | (with_reducible intro b)
      | (with_reducible refine And.intro ?_ ?_; · first | assumption | omega | (unfold R64; omega)))
  · have hf : decide (∀ l ∈ [xs], l.length ≤ 40) = false := by simpa using hl
    rw [hf]
    repeat (first
      | (with_reducible refine pv_seq fun K hK => ?_)
      | (with_reducible refine pv_reg ?_; simp -implicitDefEqProofs only [comp_nil, comp_cons, compD_nil, compD_cons, gsl_none, gsl_some, List.getElem?_cons_zero, List.getElem?_cons_succ, Option.map_some, Option.bind_some, lapp_cons, lapp_nil])
      | (fail)
      | (with_reducible refine pv_skip ?_)
      | (with_reducible refine pv_block ?_)
      | (with_reducible refine pv_scope ?_)
      | (with_reducible refine pv_label ?_)
      | (with_reducible refine pv_condT ?_ ?_; · simp -implicitDefEqProofs only [true_and, go_sem, Nat.reduceBEq, Nat.reduceEqDiff, ↓reduceIte, reduceCtorEq, Int.reduceToNat, Nat.reduceLeDiff, Int.reduceLE, Int.reduceLT, Int.reducePow, Int.reduceNeg, Int.reduceAdd, Int.reduceSub, Nat.reduceAdd, Nat.reduceMul, Nat.reducePow, Nat.reduceLT] <;> rfl)
      | (with_reducible refine pv_condF ?_ ?_; · simp -implicitDefEqProofs only [true_and, go_sem, Nat.reduceBEq, Nat.reduceEqDiff, ↓reduceIte, reduceCtorEq, Int.reduceToNat, Nat.reduceLeDiff, Int.reduceLE, Int.reduceLT, Int.reducePow, Int.reduceNeg, Int.reduceAdd, Int.reduceSub, Nat.reduceAdd, Nat.reduceMul, Nat.reducePow, Nat.reduceLT] <;> rfl)
      | (with_reducible refine pv_exit ?_; simp only [↓reduceIte, Nat.reduceEqDiff])
      | (with_reducible refine pv_ret ?_; simp -implicitDefEqProofs only [retC, resD, oneD, coeDs_nil, coeDs_cons, coeD_agg, coeD_g, coeD_nil, coeD_own, coeCs_nil, coeCs_cons, coeC_g, coeC_nil, coeC_own, true_and, go_sem, Nat.reduceBEq, Nat.reduceEqDiff, ↓reduceIte, reduceCtorEq, Int.reduceToNat, Nat.reduceLeDiff, Int.reduceLE, Int.reduceLT, Int.reducePow, Int.reduceNeg, Int.reduceAdd, Int.reduceSub, Nat.reduceAdd, Nat.reduceMul, Nat.reducePow, Nat.reduceLT])
      | (with_reducible refine hK _ _ ?_; clear hK; try clear K)
      | (clear hK; with_reducible refine hK _ _ ?_; clear hK; try clear K)
      | (clear hK; clear hK; with_reducible refine hK _ _ ?_; clear hK; try clear K)
      | (simp -implicitDefEqProofs only [true_and, go_sem, Nat.reduceBEq, Nat.reduceEqDiff, ↓reduceIte, reduceCtorEq, Int.reduceToNat, Nat.reduceLeDiff, Int.reduceLE, Int.reduceLT, Int.reducePow, Int.reduceNeg, Int.reduceAdd, Int.reduceSub, Nat.reduceAdd, Nat.reduceMul, Nat.reducePow, Nat.reduceLT])
      | (with_reducible intro b)
      | (with_reducible refine And.intro ?_ ?_; · first | assumption | omega | (unfold R64; omega)))

end Go.V

/- The statements' own small functions: few; NatWords. -/
import Derived.Test.YtilnmcabjkpohaaDoorA2
set_option linter.unusedSimpArgs false
set_option linter.unusedVariables false
set_option maxRecDepth 100000
namespace Go.V
open Go Go.RowKit Go.Proofs

theorem p_few {xss : List (List Nat)} (hl : xss.length ≤ 1000) : PC Tryd.prog 11 [WW xss] fun d => d = bl (decide (∀ xs ∈ xss, xs.length ≤ 40)) := by
  refine PC.body (args := [WW xss]) (rs := [.tmp 2]) mixed Tryd.func11 rfl (by kernel_rfl) (by kernel_rfl) (Nat.le_of_ble_eq_true rfl) rfl ?_
  repeat (first
    | (with_reducible refine pv_seq fun K hK => ?_)
    | (with_reducible refine pv_reg ?_; simp -implicitDefEqProofs only [comp_nil, comp_cons, compD_nil, compD_cons, gsl_none, gsl_some, List.getElem?_cons_zero, List.getElem?_cons_succ, Option.map_some, Option.bind_some, lapp_cons, lapp_nil])
    | (fail)
    | (with_reducible refine pv_skip ?_)
    | (with_reducible refine pv_block ?_)
    | (with_reducible refine pv_scope ?_)
    | (with_reducible refine pv_label ?_)
    | (with_reducible refine pv_condT ?_ ?_; · simp -implicitDefEqProofs only [true_and, ↓ty_c_22, ty_c_22, ↓rv_slice ty_l_22, ↓rd0_slice ty_l_22, ↓rv_ixaddr ty_l_22, ↓rd0_ixaddr ty_l_22, ↓rv_len ty_l_22, ↓rd0_len ty_l_22, ↓rv_slice ty_l_50, ↓rd0_slice ty_l_50, ↓rv_ixaddr ty_l_50, ↓rd0_ixaddr ty_l_50, ↓rv_len ty_l_50, ↓rd0_len ty_l_50, go_sem, Nat.reduceBEq, Nat.reduceEqDiff, ↓reduceIte, reduceCtorEq, Int.reduceToNat, Nat.reduceLeDiff, Int.reduceLE, Int.reduceLT, Int.reducePow, Int.reduceNeg, Int.reduceAdd, Int.reduceSub, Nat.reduceAdd, Nat.reduceMul, Nat.reducePow, Nat.reduceLT] <;> rfl)
    | (with_reducible refine pv_condF ?_ ?_; · simp -implicitDefEqProofs only [true_and, ↓ty_c_22, ty_c_22, ↓rv_slice ty_l_22, ↓rd0_slice ty_l_22, ↓rv_ixaddr ty_l_22, ↓rd0_ixaddr ty_l_22, ↓rv_len ty_l_22, ↓rd0_len ty_l_22, ↓rv_slice ty_l_50, ↓rd0_slice ty_l_50, ↓rv_ixaddr ty_l_50, ↓rd0_ixaddr ty_l_50, ↓rv_len ty_l_50, ↓rd0_len ty_l_50, go_sem, Nat.reduceBEq, Nat.reduceEqDiff, ↓reduceIte, reduceCtorEq, Int.reduceToNat, Nat.reduceLeDiff, Int.reduceLE, Int.reduceLT, Int.reducePow, Int.reduceNeg, Int.reduceAdd, Int.reduceSub, Nat.reduceAdd, Nat.reduceMul, Nat.reducePow, Nat.reduceLT] <;> rfl)
    | (with_reducible refine pv_exit ?_; simp only [↓reduceIte, Nat.reduceEqDiff])
    | (with_reducible refine pv_ret ?_; simp -implicitDefEqProofs only [retC, resD, oneD, coeDs_nil, coeDs_cons, coeD_agg, coeD_g, coeD_nil, coeD_own, coeCs_nil, coeCs_cons, coeC_g, coeC_nil, coeC_own, true_and, ↓ty_c_22, ty_c_22, ↓rv_slice ty_l_22, ↓rd0_slice ty_l_22, ↓rv_ixaddr ty_l_22, ↓rd0_ixaddr ty_l_22, ↓rv_len ty_l_22, ↓rd0_len ty_l_22, ↓rv_slice ty_l_50, ↓rd0_slice ty_l_50, ↓rv_ixaddr ty_l_50, ↓rd0_ixaddr ty_l_50, ↓rv_len ty_l_50, ↓rd0_len ty_l_50, go_sem, Nat.reduceBEq, Nat.reduceEqDiff, ↓reduceIte, reduceCtorEq, Int.reduceToNat, Nat.reduceLeDiff, Int.reduceLE, Int.reduceLT, Int.reducePow, Int.reduceNeg, Int.reduceAdd, Int.reduceSub, Nat.reduceAdd, Nat.reduceMul, Nat.reducePow, Nat.reduceLT])
    | (with_reducible refine hK _ _ ?_; clear hK; try clear K)
    | (clear hK; with_reducible refine hK _ _ ?_; clear hK; try clear K)
    | (clear hK; clear hK; with_reducible refine hK _ _ ?_; clear hK; try clear K)
    | (simp -implicitDefEqProofs only [true_and, ↓ty_c_22, ty_c_22, ↓rv_slice ty_l_22, ↓rd0_slice ty_l_22, ↓rv_ixaddr ty_l_22, ↓rd0_ixaddr ty_l_22, ↓rv_len ty_l_22, ↓rd0_len ty_l_22, ↓rv_slice ty_l_50, ↓rd0_slice ty_l_50, ↓rv_ixaddr ty_l_50, ↓rd0_ixaddr ty_l_50, ↓rv_len ty_l_50, ↓rd0_len ty_l_50, go_sem, Nat.reduceBEq, Nat.reduceEqDiff, ↓reduceIte, reduceCtorEq, Int.reduceToNat, Nat.reduceLeDiff, Int.reduceLE, Int.reduceLT, Int.reducePow, Int.reduceNeg, Int.reduceAdd, Int.reduceSub, Nat.reduceAdd, Nat.reduceMul, Nat.reducePow, Nat.reduceLT])
    | (with_reducible intro b)
    | (with_reducible refine And.intro ?_ ?_; · first | assumption | omega | (unfold R64; omega)))
  have J : ∀ (e : DEnv) (S : Store), (∀ xs ∈ xss, xs.length ≤ 40) → K e S := by
    intro e S h
    repeat (first
      | (with_reducible refine pv_seq fun K hK => ?_)
      | (with_reducible refine pv_reg ?_; simp -implicitDefEqProofs only [comp_nil, comp_cons, compD_nil, compD_cons, gsl_none, gsl_some, List.getElem?_cons_zero, List.getElem?_cons_succ, Option.map_some, Option.bind_some, lapp_cons, lapp_nil])
      | (fail)
      | (with_reducible refine pv_skip ?_)
      | (with_reducible refine pv_block ?_)
      | (with_reducible refine pv_scope ?_)
      | (with_reducible refine pv_label ?_)
      | (with_reducible refine pv_condT ?_ ?_; · simp -implicitDefEqProofs only [true_and, ↓ty_c_22, ty_c_22, ↓rv_slice ty_l_22, ↓rd0_slice ty_l_22, ↓rv_ixaddr ty_l_22, ↓rd0_ixaddr ty_l_22, ↓rv_len ty_l_22, ↓rd0_len ty_l_22, ↓rv_slice ty_l_50, ↓rd0_slice ty_l_50, ↓rv_ixaddr ty_l_50, ↓rd0_ixaddr ty_l_50, ↓rv_len ty_l_50, ↓rd0_len ty_l_50, go_sem, Nat.reduceBEq, Nat.reduceEqDiff, ↓reduceIte, reduceCtorEq, Int.reduceToNat, Nat.reduceLeDiff, Int.reduceLE, Int.reduceLT, Int.reducePow, Int.reduceNeg, Int.reduceAdd, Int.reduceSub, Nat.reduceAdd, Nat.reduceMul, Nat.reducePow, Nat.reduceLT] <;> rfl)
      | (with_reducible refine pv_condF ?_ ?_; · simp -implicitDefEqProofs only [true_and, ↓ty_c_22, ty_c_22, ↓rv_slice ty_l_22, ↓rd0_slice ty_l_22, ↓rv_ixaddr ty_l_22, ↓rd0_ixaddr ty_l_22, ↓rv_len ty_l_22, ↓rd0_len ty_l_22, ↓rv_slice ty_l_50, ↓rd0_slice ty_l_50, ↓rv_ixaddr ty_l_50, ↓rd0_ixaddr ty_l_50, ↓rv_len ty_l_50, ↓rd0_len ty_l_50, go_sem, Nat.reduceBEq, Nat.reduceEqDiff, ↓reduceIte, reduceCtorEq, Int.reduceToNat, Nat.reduceLeDiff, Int.reduceLE, Int.reduceLT, Int.reducePow, Int.reduceNeg, Int.reduceAdd, Int.reduceSub, Nat.reduceAdd, Nat.reduceMul, Nat.reducePow, Nat.reduceLT] <;> rfl)
      | (with_reducible refine pv_exit ?_; simp only [↓reduceIte, Nat.reduceEqDiff])
      | (with_reducible refine pv_ret ?_; simp -implicitDefEqProofs only [retC, resD, oneD, coeDs_nil, coeDs_cons, coeD_agg, coeD_g, coeD_nil, coeD_own, coeCs_nil, coeCs_cons, coeC_g, coeC_nil, coeC_own, true_and, ↓ty_c_22, ty_c_22, ↓rv_slice ty_l_22, ↓rd0_slice ty_l_22, ↓rv_ixaddr ty_l_22, ↓rd0_ixaddr ty_l_22, ↓rv_len ty_l_22, ↓rd0_len ty_l_22, ↓rv_slice ty_l_50, ↓rd0_slice ty_l_50, ↓rv_ixaddr ty_l_50, ↓rd0_ixaddr ty_l_50, ↓rv_len ty_l_50, ↓rd0_len ty_l_50, go_sem, Nat.reduceBEq, Nat.reduceEqDiff, ↓reduceIte, reduceCtorEq, Int.reduceToNat, Nat.reduceLeDiff, Int.reduceLE, Int.reduceLT, Int.reducePow, Int.reduceNeg, Int.reduceAdd, Int.reduceSub, Nat.reduceAdd, Nat.reduceMul, Nat.reducePow, Nat.reduceLT])
      | (with_reducible refine hK _ _ ?_; clear hK; try clear K)
      | (clear hK; with_reducible refine hK _ _ ?_; clear hK; try clear K)
      | (clear hK; clear hK; with_reducible refine hK _ _ ?_; clear hK; try clear K)
      | (simp -implicitDefEqProofs only [true_and, ↓ty_c_22, ty_c_22, ↓rv_slice ty_l_22, ↓rd0_slice ty_l_22, ↓rv_ixaddr ty_l_22, ↓rd0_ixaddr ty_l_22, ↓rv_len ty_l_22, ↓rd0_len ty_l_22, ↓rv_slice ty_l_50, ↓rd0_slice ty_l_50, ↓rv_ixaddr ty_l_50, ↓rd0_ixaddr ty_l_50, ↓rv_len ty_l_50, ↓rd0_len ty_l_50, go_sem, Nat.reduceBEq, Nat.reduceEqDiff, ↓reduceIte, reduceCtorEq, Int.reduceToNat, Nat.reduceLeDiff, Int.reduceLE, Int.reduceLT, Int.reducePow, Int.reduceNeg, Int.reduceAdd, Int.reduceSub, Nat.reduceAdd, Nat.reduceMul, Nat.reducePow, Nat.reduceLT])
      | (with_reducible intro b)
      | (with_reducible refine And.intro ?_ ?_; · first | assumption | omega | (unfold R64; omega)))
    rw [decide_eq_true h]
  clear hK
  refine pv_loop (fun e S => ∃ i : Nat, i ≤ xss.length ∧ e 0 = WW xss ∧ e 3 = i64 i ∧ ∀ j, j < i → (xss.getD j []).length ≤ 40) (fun e _ => xss.length - (intD (e 3)).toNat) ?_ ?_
  · exact ⟨0, Nat.zero_le _, (by simp -implicitDefEqProofs only [true_and, ↓ty_c_22, ty_c_22, ↓rv_slice ty_l_22, ↓rd0_slice ty_l_22, ↓rv_ixaddr ty_l_22, ↓rd0_ixaddr ty_l_22, ↓rv_len ty_l_22, ↓rd0_len ty_l_22, ↓rv_slice ty_l_50, ↓rd0_slice ty_l_50, ↓rv_ixaddr ty_l_50, ↓rd0_ixaddr ty_l_50, ↓rv_len ty_l_50, ↓rd0_len ty_l_50, go_sem, Nat.reduceBEq, Nat.reduceEqDiff, ↓reduceIte, reduceCtorEq, Int.reduceToNat, Nat.reduceLeDiff, Int.reduceLE, Int.reduceLT, Int.reducePow, Int.reduceNeg, Int.reduceAdd, Int.reduceSub, Nat.reduceAdd, Nat.reduceMul, Nat.reducePow, Nat.reduceLT]), (by simp -implicitDefEqProofs only [true_and, ↓ty_c_22, ty_c_22, ↓rv_slice ty_l_22, ↓rd0_slice ty_l_22, ↓rv_ixaddr ty_l_22, ↓rd0_ixaddr ty_l_22, ↓rv_len ty_l_22, ↓rd0_len ty_l_22, ↓rv_slice ty_l_50, ↓rd0_slice ty_l_50, ↓rv_ixaddr ty_l_50, ↓rd0_ixaddr ty_l_50, ↓rv_len ty_l_50, ↓rd0_len ty_l_50, go_sem, Nat.reduceBEq, Nat.reduceEqDiff, ↓reduceIte, reduceCtorEq, Int.reduceToNat, Nat.reduceLeDiff, Int.reduceLE, Int.reduceLT, Int.reducePow, Int.reduceNeg, Int.reduceAdd, Int.reduceSub, Nat.reduceAdd, Nat.reduceMul, Nat.reducePow, Nat.reduceLT]), fun j hj => by omega⟩
  · rintro e S ⟨i, hi, g0, g3, hz⟩
    repeat (first
      | (with_reducible refine pv_seq fun K hK => ?_)
      | (with_reducible refine pv_reg ?_; simp -implicitDefEqProofs only [comp_nil, comp_cons, compD_nil, compD_cons, gsl_none, gsl_some, List.getElem?_cons_zero, List.getElem?_cons_succ, Option.map_some, Option.bind_some, lapp_cons, lapp_nil])
      | (fail)
      | (with_reducible refine pv_skip ?_)
      | (with_reducible refine pv_block ?_)
      | (with_reducible refine pv_scope ?_)
      | (with_reducible refine pv_label ?_)
      | (with_reducible refine pv_condT ?_ ?_; · simp -implicitDefEqProofs only [g0, g3, true_and, ↓ty_c_22, ty_c_22, ↓rv_slice ty_l_22, ↓rd0_slice ty_l_22, ↓rv_ixaddr ty_l_22, ↓rd0_ixaddr ty_l_22, ↓rv_len ty_l_22, ↓rd0_len ty_l_22, ↓rv_slice ty_l_50, ↓rd0_slice ty_l_50, ↓rv_ixaddr ty_l_50, ↓rd0_ixaddr ty_l_50, ↓rv_len ty_l_50, ↓rd0_len ty_l_50, go_sem, Nat.reduceBEq, Nat.reduceEqDiff, ↓reduceIte, reduceCtorEq, Int.reduceToNat, Nat.reduceLeDiff, Int.reduceLE, Int.reduceLT, Int.reducePow, Int.reduceNeg, Int.reduceAdd, Int.reduceSub, Nat.reduceAdd, Nat.reduceMul, Nat.reducePow, Nat.reduceLT] <;> rfl)
      | (with_reducible refine pv_condF ?_ ?_; · simp -implicitDefEqProofs only [g0, g3, true_and, ↓ty_c_22, ty_c_22, ↓rv_slice ty_l_22, ↓rd0_slice ty_l_22, ↓rv_ixaddr ty_l_22, ↓rd0_ixaddr ty_l_22, ↓rv_len ty_l_22, ↓rd0_len ty_l_22, ↓rv_slice ty_l_50, ↓rd0_slice ty_l_50, ↓rv_ixaddr ty_l_50, ↓rd0_ixaddr ty_l_50, ↓rv_len ty_l_50, ↓rd0_len ty_l_50, go_sem, Nat.reduceBEq, Nat.reduceEqDiff, ↓reduceIte, reduceCtorEq, Int.reduceToNat, Nat.reduceLeDiff, Int.reduceLE, Int.reduceLT, Int.reducePow, Int.reduceNeg, Int.reduceAdd, Int.reduceSub, Nat.reduceAdd, Nat.reduceMul, Nat.reducePow, Nat.reduceLT] <;> rfl)
      | (with_reducible refine pv_exit ?_; simp only [↓reduceIte, Nat.reduceEqDiff])
      | (with_reducible refine pv_ret ?_; simp -implicitDefEqProofs only [retC, resD, oneD, coeDs_nil, coeDs_cons, coeD_agg, coeD_g, coeD_nil, coeD_own, coeCs_nil, coeCs_cons, coeC_g, coeC_nil, coeC_own, g0, g3, true_and, ↓ty_c_22, ty_c_22, ↓rv_slice ty_l_22, ↓rd0_slice ty_l_22, ↓rv_ixaddr ty_l_22, ↓rd0_ixaddr ty_l_22, ↓rv_len ty_l_22, ↓rd0_len ty_l_22, ↓rv_slice ty_l_50, ↓rd0_slice ty_l_50, ↓rv_ixaddr ty_l_50, ↓rd0_ixaddr ty_l_50, ↓rv_len ty_l_50, ↓rd0_len ty_l_50, go_sem, Nat.reduceBEq, Nat.reduceEqDiff, ↓reduceIte, reduceCtorEq, Int.reduceToNat, Nat.reduceLeDiff, Int.reduceLE, Int.reduceLT, Int.reducePow, Int.reduceNeg, Int.reduceAdd, Int.reduceSub, Nat.reduceAdd, Nat.reduceMul, Nat.reducePow, Nat.reduceLT])
      | (with_reducible refine hK _ _ ?_; clear hK; try clear K)
      | (clear hK; with_reducible refine hK _ _ ?_; clear hK; try clear K)
      | (clear hK; clear hK; with_reducible refine hK _ _ ?_; clear hK; try clear K)
      | (simp -implicitDefEqProofs only [g0, g3, true_and, ↓ty_c_22, ty_c_22, ↓rv_slice ty_l_22, ↓rd0_slice ty_l_22, ↓rv_ixaddr ty_l_22, ↓rd0_ixaddr ty_l_22, ↓rv_len ty_l_22, ↓rd0_len ty_l_22, ↓rv_slice ty_l_50, ↓rd0_slice ty_l_50, ↓rv_ixaddr ty_l_50, ↓rd0_ixaddr ty_l_50, ↓rv_len ty_l_50, ↓rd0_len ty_l_50, go_sem, Nat.reduceBEq, Nat.reduceEqDiff, ↓reduceIte, reduceCtorEq, Int.reduceToNat, Nat.reduceLeDiff, Int.reduceLE, Int.reduceLT, Int.reducePow, Int.reduceNeg, Int.reduceAdd, Int.reduceSub, Nat.reduceAdd, Nat.reduceMul, Nat.reducePow, Nat.reduceLT])
      | (with_reducible intro b)
      | (with_reducible refine And.intro ?_ ?_; · first | assumption | omega | (unfold R64; omega)))
    refine pv_condD (by simp -implicitDefEqProofs only [g0, g3, true_and, ↓ty_c_22, ty_c_22, ↓rv_slice ty_l_22, ↓rd0_slice ty_l_22, ↓rv_ixaddr ty_l_22, ↓rd0_ixaddr ty_l_22, ↓rv_len ty_l_22, ↓rd0_len ty_l_22, ↓rv_slice ty_l_50, ↓rd0_slice ty_l_50, ↓rv_ixaddr ty_l_50, ↓rd0_ixaddr ty_l_50, ↓rv_len ty_l_50, ↓rd0_len ty_l_50, go_sem, Nat.reduceBEq, Nat.reduceEqDiff, ↓reduceIte, reduceCtorEq, Int.reduceToNat, Nat.reduceLeDiff, Int.reduceLE, Int.reduceLT, Int.reducePow, Int.reduceNeg, Int.reduceAdd, Int.reduceSub, Nat.reduceAdd, Nat.reduceMul, Nat.reducePow, Nat.reduceLT] <;> rfl) (fun ht1 => ?_) (fun ht => ?_)
    · repeat (first
        | (with_reducible refine pv_seq fun K hK => ?_)
        | (with_reducible refine pv_reg ?_; simp -implicitDefEqProofs only [comp_nil, comp_cons, compD_nil, compD_cons, gsl_none, gsl_some, List.getElem?_cons_zero, List.getElem?_cons_succ, Option.map_some, Option.bind_some, lapp_cons, lapp_nil])
        | (fail)
        | (with_reducible refine pv_skip ?_)
        | (with_reducible refine pv_block ?_)
        | (with_reducible refine pv_scope ?_)
        | (with_reducible refine pv_label ?_)
        | (with_reducible refine pv_condT ?_ ?_; · simp -implicitDefEqProofs only [g0, g3, true_and, ↓ty_c_22, ty_c_22, ↓rv_slice ty_l_22, ↓rd0_slice ty_l_22, ↓rv_ixaddr ty_l_22, ↓rd0_ixaddr ty_l_22, ↓rv_len ty_l_22, ↓rd0_len ty_l_22, ↓rv_slice ty_l_50, ↓rd0_slice ty_l_50, ↓rv_ixaddr ty_l_50, ↓rd0_ixaddr ty_l_50, ↓rv_len ty_l_50, ↓rd0_len ty_l_50, go_sem, Nat.reduceBEq, Nat.reduceEqDiff, ↓reduceIte, reduceCtorEq, Int.reduceToNat, Nat.reduceLeDiff, Int.reduceLE, Int.reduceLT, Int.reducePow, Int.reduceNeg, Int.reduceAdd, Int.reduceSub, Nat.reduceAdd, Nat.reduceMul, Nat.reducePow, Nat.reduceLT] <;> rfl)
        | (with_reducible refine pv_condF ?_ ?_; · simp -implicitDefEqProofs only [g0, g3, true_and, ↓ty_c_22, ty_c_22, ↓rv_slice ty_l_22, ↓rd0_slice ty_l_22, ↓rv_ixaddr ty_l_22, ↓rd0_ixaddr ty_l_22, ↓rv_len ty_l_22, ↓rd0_len ty_l_22, ↓rv_slice ty_l_50, ↓rd0_slice ty_l_50, ↓rv_ixaddr ty_l_50, ↓rd0_ixaddr ty_l_50, ↓rv_len ty_l_50, ↓rd0_len ty_l_50, go_sem, Nat.reduceBEq, Nat.reduceEqDiff, ↓reduceIte, reduceCtorEq, Int.reduceToNat, Nat.reduceLeDiff, Int.reduceLE, Int.reduceLT, Int.reducePow, Int.reduceNeg, Int.reduceAdd, Int.reduceSub, Nat.reduceAdd, Nat.reduceMul, Nat.reducePow, Nat.reduceLT] <;> rfl)
        | (with_reducible refine pv_exit ?_; simp only [↓reduceIte, Nat.reduceEqDiff])
        | (with_reducible refine pv_ret ?_; simp -implicitDefEqProofs only [retC, resD, oneD, coeDs_nil, coeDs_cons, coeD_agg, coeD_g, coeD_nil, coeD_own, coeCs_nil, coeCs_cons, coeC_g, coeC_nil, coeC_own, g0, g3, true_and, ↓ty_c_22, ty_c_22, ↓rv_slice ty_l_22, ↓rd0_slice ty_l_22, ↓rv_ixaddr ty_l_22, ↓rd0_ixaddr ty_l_22, ↓rv_len ty_l_22, ↓rd0_len ty_l_22, ↓rv_slice ty_l_50, ↓rd0_slice ty_l_50, ↓rv_ixaddr ty_l_50, ↓rd0_ixaddr ty_l_50, ↓rv_len ty_l_50, ↓rd0_len ty_l_50, go_sem, Nat.reduceBEq, Nat.reduceEqDiff, ↓reduceIte, reduceCtorEq, Int.reduceToNat, Nat.reduceLeDiff, Int.reduceLE, Int.reduceLT, Int.reducePow, Int.reduceNeg, Int.reduceAdd, Int.reduceSub, Nat.reduceAdd, Nat.reduceMul, Nat.reducePow, Nat.reduceLT])
        | (with_reducible refine hK _ _ ?_; clear hK; try clear K)
        | (clear hK; with_reducible refine hK _ _ ?_; clear hK; try clear K)
        | (clear hK; clear hK; with_reducible refine hK _ _ ?_; clear hK; try clear K)
        | (simp -implicitDefEqProofs only [g0, g3, true_and, ↓ty_c_22, ty_c_22, ↓rv_slice ty_l_22, ↓rd0_slice ty_l_22, ↓rv_ixaddr ty_l_22, ↓rd0_ixaddr ty_l_22, ↓rv_len ty_l_22, ↓rd0_len ty_l_22, ↓rv_slice ty_l_50, ↓rd0_slice ty_l_50, ↓rv_ixaddr ty_l_50, ↓rd0_ixaddr ty_l_50, ↓rv_len ty_l_50, ↓rd0_len ty_l_50, go_sem, Nat.reduceBEq, Nat.reduceEqDiff, ↓reduceIte, reduceCtorEq, Int.reduceToNat, Nat.reduceLeDiff, Int.reduceLE, Int.reduceLT, Int.reducePow, Int.reduceNeg, Int.reduceAdd, Int.reduceSub, Nat.reduceAdd, Nat.reduceMul, Nat.reducePow, Nat.reduceLT])
        | (with_reducible intro b)
        | (with_reducible refine And.intro ?_ ?_; · first | assumption | omega | (unfold R64; omega)))
      refine pv_condD (by simp -implicitDefEqProofs only [g0, g3, true_and, ↓ty_c_22, ty_c_22, ↓rv_slice ty_l_22, ↓rd0_slice ty_l_22, ↓rv_ixaddr ty_l_22, ↓rd0_ixaddr ty_l_22, ↓rv_len ty_l_22, ↓rd0_len ty_l_22, ↓rv_slice ty_l_50, ↓rd0_slice ty_l_50, ↓rv_ixaddr ty_l_50, ↓rd0_ixaddr ty_l_50, ↓rv_len ty_l_50, ↓rd0_len ty_l_50, go_sem, Nat.reduceBEq, Nat.reduceEqDiff, ↓reduceIte, reduceCtorEq, Int.reduceToNat, Nat.reduceLeDiff, Int.reduceLE, Int.reduceLT, Int.reducePow, Int.reduceNeg, Int.reduceAdd, Int.reduceSub, Nat.reduceAdd, Nat.reduceMul, Nat.reducePow, Nat.reduceLT] <;> rfl) (fun ht => ?_) (fun ht => ?_)
      · repeat (first
          | (with_reducible refine pv_seq fun K hK => ?_)
          | (with_reducible refine pv_reg ?_; simp -implicitDefEqProofs only [comp_nil, comp_cons, compD_nil, compD_cons, gsl_none, gsl_some, List.getElem?_cons_zero, List.getElem?_cons_succ, Option.map_some, Option.bind_some, lapp_cons, lapp_nil])
          | (fail)
          | (with_reducible refine pv_skip ?_)
          | (with_reducible refine pv_block ?_)
          | (with_reducible refine pv_scope ?_)
          | (with_reducible refine pv_label ?_)
          | (with_reducible refine pv_condT ?_ ?_; · simp -implicitDefEqProofs only [g0, g3, true_and, ↓ty_c_22, ty_c_22, ↓rv_slice ty_l_22, ↓rd0_slice ty_l_22, ↓rv_ixaddr ty_l_22, ↓rd0_ixaddr ty_l_22, ↓rv_len ty_l_22, ↓rd0_len ty_l_22, ↓rv_slice ty_l_50, ↓rd0_slice ty_l_50, ↓rv_ixaddr ty_l_50, ↓rd0_ixaddr ty_l_50, ↓rv_len ty_l_50, ↓rd0_len ty_l_50, go_sem, Nat.reduceBEq, Nat.reduceEqDiff, ↓reduceIte, reduceCtorEq, Int.reduceToNat, Nat.reduceLeDiff, Int.reduceLE, Int.reduceLT, Int.reducePow, Int.reduceNeg, Int.reduceAdd, Int.reduceSub, Nat.reduceAdd, Nat.reduceMul, Nat.reducePow, Nat.reduceLT] <;> rfl)
          | (with_reducible refine pv_condF ?_ ?_; · simp -implicitDefEqProofs only [g0, g3, true_and, ↓ty_c_22, ty_c_22, ↓rv_slice ty_l_22, ↓rd0_slice ty_l_22, ↓rv_ixaddr ty_l_22, ↓rd0_ixaddr ty_l_22, ↓rv_len ty_l_22, ↓rd0_len ty_l_22, ↓rv_slice ty_l_50, ↓rd0_slice ty_l_50, ↓rv_ixaddr ty_l_50, ↓rd0_ixaddr ty_l_50, ↓rv_len ty_l_50, ↓rd0_len ty_l_50, go_sem, Nat.reduceBEq, Nat.reduceEqDiff, ↓reduceIte, reduceCtorEq, Int.reduceToNat, Nat.reduceLeDiff, Int.reduceLE, Int.reduceLT, Int.reducePow, Int.reduceNeg, Int.reduceAdd, Int.reduceSub, Nat.reduceAdd, Nat.reduceMul, Nat.reducePow, Nat.reduceLT] <;> rfl)
          | (with_reducible refine pv_exit ?_; simp only [↓reduceIte, Nat.reduceEqDiff])
          | (with_reducible refine pv_ret ?_; simp -implicitDefEqProofs only [retC, resD, oneD, coeDs_nil, coeDs_cons, coeD_agg, coeD_g, coeD_nil, coeD_own, coeCs_nil, coeCs_cons, coeC_g, coeC_nil, coeC_own, g0, g3, true_and, ↓ty_c_22, ty_c_22, ↓rv_slice ty_l_22, ↓rd0_slice ty_l_22, ↓rv_ixaddr ty_l_22, ↓rd0_ixaddr ty_l_22, ↓rv_len ty_l_22, ↓rd0_len ty_l_22, ↓rv_slice ty_l_50, ↓rd0_slice ty_l_50, ↓rv_ixaddr ty_l_50, ↓rd0_ixaddr ty_l_50, ↓rv_len ty_l_50, ↓rd0_len ty_l_50, go_sem, Nat.reduceBEq, Nat.reduceEqDiff, ↓reduceIte, reduceCtorEq, Int.reduceToNat, Nat.reduceLeDiff, Int.reduceLE, Int.reduceLT, Int.reducePow, Int.reduceNeg, Int.reduceAdd, Int.reduceSub, Nat.reduceAdd, Nat.reduceMul, Nat.reducePow, Nat.reduceLT])
          | (with_reducible refine hK _ _ ?_; clear hK; try clear K)
          | (clear hK; with_reducible refine hK _ _ ?_; clear hK; try clear K)
          | (clear hK; clear hK; with_reducible refine hK _ _ ?_; clear hK; try clear K)
          | (simp -implicitDefEqProofs only [g0, g3, true_and, ↓ty_c_22, ty_c_22, ↓rv_slice ty_l_22, ↓rd0_slice ty_l_22, ↓rv_ixaddr ty_l_22, ↓rd0_ixaddr ty_l_22, ↓rv_len ty_l_22, ↓rd0_len ty_l_22, ↓rv_slice ty_l_50, ↓rd0_slice ty_l_50, ↓rv_ixaddr ty_l_50, ↓rd0_ixaddr ty_l_50, ↓rv_len ty_l_50, ↓rd0_len ty_l_50, go_sem, Nat.reduceBEq, Nat.reduceEqDiff, ↓reduceIte, reduceCtorEq, Int.reduceToNat, Nat.reduceLeDiff, Int.reduceLE, Int.reduceLT, Int.reducePow, Int.reduceNeg, Int.reduceAdd, Int.reduceSub, Nat.reduceAdd, Nat.reduceMul, Nat.reducePow, Nat.reduceLT])
          | (with_reducible intro b)
          | (with_reducible refine And.intro ?_ ?_; · first | assumption | omega | (unfold R64; omega)))
        rw [decide_eq_false]
        intro h
        have hm : xss.getD i [] ∈ xss := by simp [List.getD, List.getElem?_eq_getElem ht1]
        have := h _ hm
        omega
      · repeat (first
          | (with_reducible refine pv_seq fun K hK => ?_)
          | (with_reducible refine pv_reg ?_; simp -implicitDefEqProofs only [comp_nil, comp_cons, compD_nil, compD_cons, gsl_none, gsl_some, List.getElem?_cons_zero, List.getElem?_cons_succ, Option.map_some, Option.bind_some, lapp_cons, lapp_nil])
          | (fail)
          | (with_reducible refine pv_skip ?_)
          | (with_reducible refine pv_block ?_)
          | (with_reducible refine pv_scope ?_)
          | (with_reducible refine pv_label ?_)
          | (with_reducible refine pv_condT ?_ ?_; · simp -implicitDefEqProofs only [g0, g3, true_and, ↓ty_c_22, ty_c_22, ↓rv_slice ty_l_22, ↓rd0_slice ty_l_22, ↓rv_ixaddr ty_l_22, ↓rd0_ixaddr ty_l_22, ↓rv_len ty_l_22, ↓rd0_len ty_l_22, ↓rv_slice ty_l_50, ↓rd0_slice ty_l_50, ↓rv_ixaddr ty_l_50, ↓rd0_ixaddr ty_l_50, ↓rv_len ty_l_50, ↓rd0_len ty_l_50, go_sem, Nat.reduceBEq, Nat.reduceEqDiff, ↓reduceIte, reduceCtorEq, Int.reduceToNat, Nat.reduceLeDiff, Int.reduceLE, Int.reduceLT, Int.reducePow, Int.reduceNeg, Int.reduceAdd, Int.reduceSub, Nat.reduceAdd, Nat.reduceMul, Nat.reducePow, Nat.reduceLT] <;> rfl)
          | (with_reducible refine pv_condF ?_ ?_; · simp -implicitDefEqProofs only [g0, g3, true_and, ↓ty_c_22, ty_c_22, ↓rv_slice ty_l_22, ↓rd0_slice ty_l_22, ↓rv_ixaddr ty_l_22, ↓rd0_ixaddr ty_l_22, ↓rv_len ty_l_22, ↓rd0_len ty_l_22, ↓rv_slice ty_l_50, ↓rd0_slice ty_l_50, ↓rv_ixaddr ty_l_50, ↓rd0_ixaddr ty_l_50, ↓rv_len ty_l_50, ↓rd0_len ty_l_50, go_sem, Nat.reduceBEq, Nat.reduceEqDiff, ↓reduceIte, reduceCtorEq, Int.reduceToNat, Nat.reduceLeDiff, Int.reduceLE, Int.reduceLT, Int.reducePow, Int.reduceNeg, Int.reduceAdd, Int.reduceSub, Nat.reduceAdd, Nat.reduceMul, Nat.reducePow, Nat.reduceLT] <;> rfl)
          | (with_reducible refine pv_exit ?_; simp only [↓reduceIte, Nat.reduceEqDiff])
          | (with_reducible refine pv_ret ?_; simp -implicitDefEqProofs only [retC, resD, oneD, coeDs_nil, coeDs_cons, coeD_agg, coeD_g, coeD_nil, coeD_own, coeCs_nil, coeCs_cons, coeC_g, coeC_nil, coeC_own, g0, g3, true_and, ↓ty_c_22, ty_c_22, ↓rv_slice ty_l_22, ↓rd0_slice ty_l_22, ↓rv_ixaddr ty_l_22, ↓rd0_ixaddr ty_l_22, ↓rv_len ty_l_22, ↓rd0_len ty_l_22, ↓rv_slice ty_l_50, ↓rd0_slice ty_l_50, ↓rv_ixaddr ty_l_50, ↓rd0_ixaddr ty_l_50, ↓rv_len ty_l_50, ↓rd0_len ty_l_50, go_sem, Nat.reduceBEq, Nat.reduceEqDiff, ↓reduceIte, reduceCtorEq, Int.reduceToNat, Nat.reduceLeDiff, Int.reduceLE, Int.reduceLT, Int.reducePow, Int.reduceNeg, Int.reduceAdd, Int.reduceSub, Nat.reduceAdd, Nat.reduceMul, Nat.reducePow, Nat.reduceLT])
          | (with_reducible refine hK _ _ ?_; clear hK; try clear K)
          | (clear hK; with_reducible refine hK _ _ ?_; clear hK; try clear K)
          | (clear hK; clear hK; with_reducible refine hK _ _ ?_; clear hK; try clear K)
          | (simp -implicitDefEqProofs only [g0, g3, true_and, ↓ty_c_22, ty_c_22, ↓rv_slice ty_l_22, ↓rd0_slice ty_l_22, ↓rv_ixaddr ty_l_22, ↓rd0_ixaddr ty_l_22, ↓rv_len ty_l_22, ↓rd0_len ty_l_22, ↓rv_slice ty_l_50, ↓rd0_slice ty_l_50, ↓rv_ixaddr ty_l_50, ↓rd0_ixaddr ty_l_50, ↓rv_len ty_l_50, ↓rd0_len ty_l_50, go_sem, Nat.reduceBEq, Nat.reduceEqDiff, ↓reduceIte, reduceCtorEq, Int.reduceToNat, Nat.reduceLeDiff, Int.reduceLE, Int.reduceLT, Int.reducePow, Int.reduceNeg, Int.reduceAdd, Int.reduceSub, Nat.reduceAdd, Nat.reduceMul, Nat.reducePow, Nat.reduceLT])
          | (with_reducible intro b)
          | (with_reducible refine And.intro ?_ ?_; · first | assumption | omega | (unfold R64; omega)))
        refine ⟨⟨i + 1, by omega, rfl, fun j hj => ?_⟩, by simp only [intD]; omega⟩
        rcases Nat.lt_or_ge j i with h | h
        · exact hz j h
        · obtain rfl : j = i := by omega
          omega
    · repeat (first
        | (with_reducible refine pv_seq fun K hK => ?_)
        | (with_reducible refine pv_reg ?_; simp -implicitDefEqProofs only [comp_nil, comp_cons, compD_nil, compD_cons, gsl_none, gsl_some, List.getElem?_cons_zero, List.getElem?_cons_succ, Option.map_some, Option.bind_some, lapp_cons, lapp_nil])
        | (fail)
        | (with_reducible refine pv_skip ?_)
        | (with_reducible refine pv_block ?_)
        | (with_reducible refine pv_scope ?_)
        | (with_reducible refine pv_label ?_)
        | (with_reducible refine pv_condT ?_ ?_; · simp -implicitDefEqProofs only [g0, g3, true_and, ↓ty_c_22, ty_c_22, ↓rv_slice ty_l_22, ↓rd0_slice ty_l_22, ↓rv_ixaddr ty_l_22, ↓rd0_ixaddr ty_l_22, ↓rv_len ty_l_22, ↓rd0_len ty_l_22, ↓rv_slice ty_l_50, ↓rd0_slice ty_l_50, ↓rv_ixaddr ty_l_50, ↓rd0_ixaddr ty_l_50, ↓rv_len ty_l_50, ↓rd0_len ty_l_50, go_sem, Nat.reduceBEq, Nat.reduceEqDiff, ↓reduceIte, reduceCtorEq, Int.reduceToNat, Nat.reduceLeDiff, Int.reduceLE, Int.reduceLT, Int.reducePow, Int.reduceNeg, Int.reduceAdd, Int.reduceSub, Nat.reduceAdd, Nat.reduceMul, Nat.reducePow, Nat.reduceLT] <;> rfl)
        | (with_reducible refine pv_condF ?_ ?_; · simp -implicitDefEqProofs only [g0, g3, true_and, ↓ty_c_22, ty_c_22, ↓rv_slice ty_l_22, ↓rd0_slice ty_l_22, ↓rv_ixaddr ty_l_22, ↓rd0_ixaddr ty_l_22, ↓rv_len ty_l_22, ↓rd0_len ty_l_22, ↓rv_slice ty_l_50, ↓rd0_slice ty_l_50, ↓rv_ixaddr ty_l_50, ↓rd0_ixaddr ty_l_50, ↓rv_len ty_l_50, ↓rd0_len ty_l_50, go_sem, Nat.reduceBEq, Nat.reduceEqDiff, ↓reduceIte, reduceCtorEq, Int.reduceToNat, Nat.reduceLeDiff, Int.reduceLE, Int.reduceLT, Int.reducePow, Int.reduceNeg, Int.reduceAdd, Int.reduceSub, Nat.reduceAdd, Nat.reduceMul, Nat.reducePow, Nat.reduceLT] <;> rfl)
        | (with_reducible refine pv_exit ?_; simp only [↓reduceIte, Nat.reduceEqDiff])
        | (with_reducible refine pv_ret ?_; simp -implicitDefEqProofs only [retC, resD, oneD, coeDs_nil, coeDs_cons, coeD_agg, coeD_g, coeD_nil, coeD_own, coeCs_nil, coeCs_cons, coeC_g, coeC_nil, coeC_own, g0, g3, true_and, ↓ty_c_22, ty_c_22, ↓rv_slice ty_l_22, ↓rd0_slice ty_l_22, ↓rv_ixaddr ty_l_22, ↓rd0_ixaddr ty_l_22, ↓rv_len ty_l_22, ↓rd0_len ty_l_22, ↓rv_slice ty_l_50, ↓rd0_slice ty_l_50, ↓rv_ixaddr ty_l_50, ↓rd0_ixaddr ty_l_50, ↓rv_len ty_l_50, ↓rd0_len ty_l_50, go_sem, Nat.reduceBEq, Nat.reduceEqDiff, ↓reduceIte, reduceCtorEq, Int.reduceToNat, Nat.reduceLeDiff, Int.reduceLE, Int.reduceLT, Int.reducePow, Int.reduceNeg, Int.reduceAdd, Int.reduceSub, Nat.reduceAdd, Nat.reduceMul, Nat.reducePow, Nat.reduceLT])
        | (with_reducible refine hK _ _ ?_; clear hK; try clear K)
        | (clear hK; with_reducible refine hK _ _ ?_; clear hK; try clear K)
        | (clear hK; clear hK; with_reducible refine hK _ _ ?_; clear hK; try clear K)
        | (simp -implicitDefEqProofs only [g0, g3, true_and, ↓ty_c_22, ty_c_22, ↓rv_slice ty_l_22, ↓rd0_slice ty_l_22, ↓rv_ixaddr ty_l_22, ↓rd0_ixaddr ty_l_22, ↓rv_len ty_l_22, ↓rd0_len ty_l_22, ↓rv_slice ty_l_50, ↓rd0_slice ty_l_50, ↓rv_ixaddr ty_l_50, ↓rd0_ixaddr ty_l_50, ↓rv_len ty_l_50, ↓rd0_len ty_l_50, go_sem, Nat.reduceBEq, Nat.reduceEqDiff, ↓reduceIte, reduceCtorEq, Int.reduceToNat, Nat.reduceLeDiff, Int.reduceLE, Int.reduceLT, Int.reducePow, Int.reduceNeg, Int.reduceAdd, Int.reduceSub, Nat.reduceAdd, Nat.reduceMul, Nat.reducePow, Nat.reduceLT])
        | (with_reducible intro b)
        | (with_reducible refine And.intro ?_ ?_; · first | assumption | omega | (unfold R64; omega)))
      refine J _ _ fun xs hx => ?_
      obtain ⟨j, hj⟩ := List.mem_iff_getElem?.1 hx
      have hjl : j < xss.length := (List.getElem?_eq_some_iff.1 hj).1
      have := hz j (by omega)
      simpa [List.getD, hj] using this

theorem p_NatWords {xs : List Nat} (hx : B64 xs) : PC Tryd.prog 3 [W64 xs] fun d => d = bl true := by
  refine PC.body (args := [W64 xs]) (rs := [.tmp 2]) mixed Tryd.func3 rfl (by kernel_rfl) (by kernel_rfl) (Nat.le_of_ble_eq_true rfl) rfl ?_
  repeat (first
    | (with_reducible refine pv_seq fun K hK => ?_)
    | (with_reducible refine pv_reg ?_; simp -implicitDefEqProofs only [comp_nil, comp_cons, compD_nil, compD_cons, gsl_none, gsl_some, List.getElem?_cons_zero, List.getElem?_cons_succ, Option.map_some, Option.bind_some, lapp_cons, lapp_nil])
    | (fail)
    | (with_reducible refine pv_skip ?_)
    | (with_reducible refine pv_block ?_)
    | (with_reducible refine pv_scope ?_)
    | (with_reducible refine pv_label ?_)
    | (with_reducible refine pv_condT ?_ ?_; · simp -implicitDefEqProofs only [true_and, ty_b_4, ↓ty_c_27, ty_c_27, ↓rv_slice ty_l_22, ↓rd0_slice ty_l_22, ↓rv_ixaddr ty_l_22, ↓rd0_ixaddr ty_l_22, ↓rv_len ty_l_22, ↓rd0_len ty_l_22, ↓rv_lit ty_q_50, ↓rd3_lit ty_q_50, ↓rd4_lit ty_q_50, ↓rv_make ty_q_50, ↓rd3_make ty_q_50, ↓rd4_make ty_q_50, ↓rv_app ty_q_50, ↓rd3_app ty_q_50, go_sem, Nat.reduceBEq, Nat.reduceEqDiff, ↓reduceIte, reduceCtorEq, Int.reduceToNat, Nat.reduceLeDiff, Int.reduceLE, Int.reduceLT, Int.reducePow, Int.reduceNeg, Int.reduceAdd, Int.reduceSub, Nat.reduceAdd, Nat.reduceMul, Nat.reducePow, Nat.reduceLT] <;> rfl)
    | (with_reducible refine pv_condF ?_ ?_; · simp -implicitDefEqProofs only [true_and, ty_b_4, ↓ty_c_27, ty_c_27, ↓rv_slice ty_l_22, ↓rd0_slice ty_l_22, ↓rv_ixaddr ty_l_22, ↓rd0_ixaddr ty_l_22, ↓rv_len ty_l_22, ↓rd0_len ty_l_22, ↓rv_lit ty_q_50, ↓rd3_lit ty_q_50, ↓rd4_lit ty_q_50, ↓rv_make ty_q_50, ↓rd3_make ty_q_50, ↓rd4_make ty_q_50, ↓rv_app ty_q_50, ↓rd3_app ty_q_50, go_sem, Nat.reduceBEq, Nat.reduceEqDiff, ↓reduceIte, reduceCtorEq, Int.reduceToNat, Nat.reduceLeDiff, Int.reduceLE, Int.reduceLT, Int.reducePow, Int.reduceNeg, Int.reduceAdd, Int.reduceSub, Nat.reduceAdd, Nat.reduceMul, Nat.reducePow, Nat.reduceLT] <;> rfl)
    | (with_reducible refine pv_exit ?_; simp only [↓reduceIte, Nat.reduceEqDiff])
    | (with_reducible refine pv_ret ?_; simp -implicitDefEqProofs only [retC, resD, oneD, coeDs_nil, coeDs_cons, coeD_agg, coeD_g, coeD_nil, coeD_own, coeCs_nil, coeCs_cons, coeC_g, coeC_nil, coeC_own, true_and, ty_b_4, ↓ty_c_27, ty_c_27, ↓rv_slice ty_l_22, ↓rd0_slice ty_l_22, ↓rv_ixaddr ty_l_22, ↓rd0_ixaddr ty_l_22, ↓rv_len ty_l_22, ↓rd0_len ty_l_22, ↓rv_lit ty_q_50, ↓rd3_lit ty_q_50, ↓rd4_lit ty_q_50, ↓rv_make ty_q_50, ↓rd3_make ty_q_50, ↓rd4_make ty_q_50, ↓rv_app ty_q_50, ↓rd3_app ty_q_50, go_sem, Nat.reduceBEq, Nat.reduceEqDiff, ↓reduceIte, reduceCtorEq, Int.reduceToNat, Nat.reduceLeDiff, Int.reduceLE, Int.reduceLT, Int.reducePow, Int.reduceNeg, Int.reduceAdd, Int.reduceSub, Nat.reduceAdd, Nat.reduceMul, Nat.reducePow, Nat.reduceLT])
    | (with_reducible refine hK _ _ ?_; clear hK; try clear K)
    | (clear hK; with_reducible refine hK _ _ ?_; clear hK; try clear K)
    | (clear hK; clear hK; with_reducible refine hK _ _ ?_; clear hK; try clear K)
    | (simp -implicitDefEqProofs only [true_and, ty_b_4, ↓ty_c_27, ty_c_27, ↓rv_slice ty_l_22, ↓rd0_slice ty_l_22, ↓rv_ixaddr ty_l_22, ↓rd0_ixaddr ty_l_22, ↓rv_len ty_l_22, ↓rd0_len ty_l_22, ↓rv_lit ty_q_50, ↓rd3_lit ty_q_50, ↓rd4_lit ty_q_50, ↓rv_make ty_q_50, ↓rd3_make ty_q_50, ↓rd4_make ty_q_50, ↓rv_app ty_q_50, ↓rd3_app ty_q_50, go_sem, Nat.reduceBEq, Nat.reduceEqDiff, ↓reduceIte, reduceCtorEq, Int.reduceToNat, Nat.reduceLeDiff, Int.reduceLE, Int.reduceLT, Int.reducePow, Int.reduceNeg, Int.reduceAdd, Int.reduceSub, Nat.reduceAdd, Nat.reduceMul, Nat.reducePow, Nat.reduceLT])
    | (with_reducible intro b)
    | (with_reducible refine And.intro ?_ ?_; · first | assumption | omega | (unfold R64; omega)))
  refine call_is p_known ?_
  repeat (first
    | (with_reducible refine pv_seq fun K hK => ?_)
    | (with_reducible refine pv_reg ?_; simp -implicitDefEqProofs only [comp_nil, comp_cons, compD_nil, compD_cons, gsl_none, gsl_some, List.getElem?_cons_zero, List.getElem?_cons_succ, Option.map_some, Option.bind_some, lapp_cons, lapp_nil])
    | (fail)
    | (with_reducible refine pv_skip ?_)
    | (with_reducible refine pv_block ?_)
    | (with_reducible refine pv_scope ?_)
    | (with_reducible refine pv_label ?_)
    | (with_reducible refine pv_condT ?_ ?_; · simp -implicitDefEqProofs only [true_and, ty_b_4, ↓ty_c_27, ty_c_27, ↓rv_slice ty_l_22, ↓rd0_slice ty_l_22, ↓rv_ixaddr ty_l_22, ↓rd0_ixaddr ty_l_22, ↓rv_len ty_l_22, ↓rd0_len ty_l_22, ↓rv_lit ty_q_50, ↓rd3_lit ty_q_50, ↓rd4_lit ty_q_50, ↓rv_make ty_q_50, ↓rd3_make ty_q_50, ↓rd4_make ty_q_50, ↓rv_app ty_q_50, ↓rd3_app ty_q_50, go_sem, Nat.reduceBEq, Nat.reduceEqDiff, ↓reduceIte, reduceCtorEq, Int.reduceToNat, Nat.reduceLeDiff, Int.reduceLE, Int.reduceLT, Int.reducePow, Int.reduceNeg, Int.reduceAdd, Int.reduceSub, Nat.reduceAdd, Nat.reduceMul, Nat.reducePow, Nat.reduceLT] <;> rfl)
    | (with_reducible refine pv_condF ?_ ?_; · simp -implicitDefEqProofs only [true_and, ty_b_4, ↓ty_c_27, ty_c_27, ↓rv_slice ty_l_22, ↓rd0_slice ty_l_22, ↓rv_ixaddr ty_l_22, ↓rd0_ixaddr ty_l_22, ↓rv_len ty_l_22, ↓rd0_len ty_l_22, ↓rv_lit ty_q_50, ↓rd3_lit ty_q_50, ↓rd4_lit ty_q_50, ↓rv_make ty_q_50, ↓rd3_make ty_q_50, ↓rd4_make ty_q_50, ↓rv_app ty_q_50, ↓rd3_app ty_q_50, go_sem, Nat.reduceBEq, Nat.reduceEqDiff, ↓reduceIte, reduceCtorEq, Int.reduceToNat, Nat.reduceLeDiff, Int.reduceLE, Int.reduceLT, Int.reducePow, Int.reduceNeg, Int.reduceAdd, Int.reduceSub, Nat.reduceAdd, Nat.reduceMul, Nat.reducePow, Nat.reduceLT] <;> rfl)
    | (with_reducible refine pv_exit ?_; simp only [↓reduceIte, Nat.reduceEqDiff])
    | (with_reducible refine pv_ret ?_; simp -implicitDefEqProofs only [retC, resD, oneD, coeDs_nil, coeDs_cons, coeD_agg, coeD_g, coeD_nil, coeD_own, coeCs_nil, coeCs_cons, coeC_g, coeC_nil, coeC_own, true_and, ty_b_4, ↓ty_c_27, ty_c_27, ↓rv_slice ty_l_22, ↓rd0_slice ty_l_22, ↓rv_ixaddr ty_l_22, ↓rd0_ixaddr ty_l_22, ↓rv_len ty_l_22, ↓rd0_len ty_l_22, ↓rv_lit ty_q_50, ↓rd3_lit ty_q_50, ↓rd4_lit ty_q_50, ↓rv_make ty_q_50, ↓rd3_make ty_q_50, ↓rd4_make ty_q_50, ↓rv_app ty_q_50, ↓rd3_app ty_q_50, go_sem, Nat.reduceBEq, Nat.reduceEqDiff, ↓reduceIte, reduceCtorEq, Int.reduceToNat, Nat.reduceLeDiff, Int.reduceLE, Int.reduceLT, Int.reducePow, Int.reduceNeg, Int.reduceAdd, Int.reduceSub, Nat.reduceAdd, Nat.reduceMul, Nat.reducePow, Nat.reduceLT])
    | (with_reducible refine hK _ _ ?_; clear hK; try clear K)
    | (clear hK; with_reducible refine hK _ _ ?_; clear hK; try clear K)
    | (clear hK; clear hK; with_reducible refine hK _ _ ?_; clear hK; try clear K)
    | (simp -implicitDefEqProofs only [true_and, ty_b_4, ↓ty_c_27, ty_c_27, ↓rv_slice ty_l_22, ↓rd0_slice ty_l_22, ↓rv_ixaddr ty_l_22, ↓rd0_ixaddr ty_l_22, ↓rv_len ty_l_22, ↓rd0_len ty_l_22, ↓rv_lit ty_q_50, ↓rd3_lit ty_q_50, ↓rd4_lit ty_q_50, ↓rv_make ty_q_50, ↓rd3_make ty_q_50, ↓rd4_make ty_q_50, ↓rv_app ty_q_50, ↓rd3_app ty_q_50, go_sem, Nat.reduceBEq, Nat.reduceEqDiff, ↓reduceIte, reduceCtorEq, Int.reduceToNat, Nat.reduceLeDiff, Int.reduceLE, Int.reduceLT, Int.reducePow, Int.reduceNeg, Int.reduceAdd, Int.reduceSub, Nat.reduceAdd, Nat.reduceMul, Nat.reducePow, Nat.reduceLT])
    | (with_reducible intro b)
    | (with_reducible refine And.intro ?_ ?_; · first | assumption | omega | (unfold R64; omega)))
  refine PFC.coe ?_
  simp -implicitDefEqProofs only [coeDs_nil, coeDs_cons, coeD_agg, coeD_g, coeD_nil, coeD_own, coeCs_nil, coeCs_cons, coeC_g, coeC_nil, coeC_own, pureLL, pureL, tg_g, tg_nil, Nat.zero_add, Nat.le_refl, W64_l1, W64_l2, W32_l1, toG_W64, WW_1, WW_2, WW_3, true_and, ty_b_4, ↓ty_c_27, ty_c_27, ↓rv_slice ty_l_22, ↓rd0_slice ty_l_22, ↓rv_ixaddr ty_l_22, ↓rd0_ixaddr ty_l_22, ↓rv_len ty_l_22, ↓rd0_len ty_l_22, ↓rv_lit ty_q_50, ↓rd3_lit ty_q_50, ↓rd4_lit ty_q_50, ↓rv_make ty_q_50, ↓rd3_make ty_q_50, ↓rd4_make ty_q_50, ↓rv_app ty_q_50, ↓rd3_app ty_q_50, go_sem, Nat.reduceBEq, Nat.reduceEqDiff, ↓reduceIte, reduceCtorEq, Int.reduceToNat, Nat.reduceLeDiff, Int.reduceLE, Int.reduceLT, Int.reducePow, Int.reduceNeg, Int.reduceAdd, Int.reduceSub, Nat.reduceAdd, Nat.reduceMul, Nat.reducePow, Nat.reduceLT]
  refine call_is (p_few (by simp)) ?_
  by_cases hl : xs.length ≤ 40
  · have hf : decide (∀ ys ∈ [xs], ys.length ≤ 40) = true := by simpa using hl
    rw [hf]
    repeat (first
      | (with_reducible refine pv_seq fun K hK => ?_)
      | (with_reducible refine pv_reg ?_; simp -implicitDefEqProofs only [comp_nil, comp_cons, compD_nil, compD_cons, gsl_none, gsl_some, List.getElem?_cons_zero, List.getElem?_cons_succ, Option.map_some, Option.bind_some, lapp_cons, lapp_nil])
      | (fail)
      | (with_reducible refine pv_skip ?_)
      | (with_reducible refine pv_block ?_)
      | (with_reducible refine pv_scope ?_)
      | (with_reducible refine pv_label ?_)
      | (with_reducible refine pv_condT ?_ ?_; · simp -implicitDefEqProofs only [true_and, ty_b_4, ↓ty_c_27, ty_c_27, ↓rv_slice ty_l_22, ↓rd0_slice ty_l_22, ↓rv_ixaddr ty_l_22, ↓rd0_ixaddr ty_l_22, ↓rv_len ty_l_22, ↓rd0_len ty_l_22, ↓rv_lit ty_q_50, ↓rd3_lit ty_q_50, ↓rd4_lit ty_q_50, ↓rv_make ty_q_50, ↓rd3_make ty_q_50, ↓rd4_make ty_q_50, ↓rv_app ty_q_50, ↓rd3_app ty_q_50, go_sem, Nat.reduceBEq, Nat.reduceEqDiff, ↓reduceIte, reduceCtorEq, Int.reduceToNat, Nat.reduceLeDiff, Int.reduceLE, Int.reduceLT, Int.reducePow, Int.reduceNeg, Int.reduceAdd, Int.reduceSub, Nat.reduceAdd, Nat.reduceMul, Nat.reducePow, Nat.reduceLT] <;> rfl)
      | (with_reducible refine pv_condF ?_ ?_; · simp -implicitDefEqProofs only [true_and, ty_b_4, ↓ty_c_27, ty_c_27, ↓rv_slice ty_l_22, ↓rd0_slice ty_l_22, ↓rv_ixaddr ty_l_22, ↓rd0_ixaddr ty_l_22, ↓rv_len ty_l_22, ↓rd0_len ty_l_22, ↓rv_lit ty_q_50, ↓rd3_lit ty_q_50, ↓rd4_lit ty_q_50, ↓rv_make ty_q_50, ↓rd3_make ty_q_50, ↓rd4_make ty_q_50, ↓rv_app ty_q_50, ↓rd3_app ty_q_50, go_sem, Nat.reduceBEq, Nat.reduceEqDiff, ↓reduceIte, reduceCtorEq, Int.reduceToNat, Nat.reduceLeDiff, Int.reduceLE, Int.reduceLT, Int.reducePow, Int.reduceNeg, Int.reduceAdd, Int.reduceSub, Nat.reduceAdd, Nat.reduceMul, Nat.reducePow, Nat.reduceLT] <;> rfl)
      | (with_reducible refine pv_exit ?_; simp only [↓reduceIte, Nat.reduceEqDiff])
      | (with_reducible refine pv_ret ?_; simp -implicitDefEqProofs only [retC, resD, oneD, coeDs_nil, coeDs_cons, coeD_agg, coeD_g, coeD_nil, coeD_own, coeCs_nil, coeCs_cons, coeC_g, coeC_nil, coeC_own, true_and, ty_b_4, ↓ty_c_27, ty_c_27, ↓rv_slice ty_l_22, ↓rd0_slice ty_l_22, ↓rv_ixaddr ty_l_22, ↓rd0_ixaddr ty_l_22, ↓rv_len ty_l_22, ↓rd0_len ty_l_22, ↓rv_lit ty_q_50, ↓rd3_lit ty_q_50, ↓rd4_lit ty_q_50, ↓rv_make ty_q_50, ↓rd3_make ty_q_50, ↓rd4_make ty_q_50, ↓rv_app ty_q_50, ↓rd3_app ty_q_50, go_sem, Nat.reduceBEq, Nat.reduceEqDiff, ↓reduceIte, reduceCtorEq, Int.reduceToNat, Nat.reduceLeDiff, Int.reduceLE, Int.reduceLT, Int.reducePow, Int.reduceNeg, Int.reduceAdd, Int.reduceSub, Nat.reduceAdd, Nat.reduceMul, Nat.reducePow, Nat.reduceLT])
      | (with_reducible refine hK _ _ ?_; clear hK; try clear K)
      | (clear hK; with_reducible refine hK _ _ ?_; clear hK; try clear K)
      | (clear hK; clear hK; with_reducible refine hK _ _ ?_; clear hK; try clear K)
      | (simp -implicitDefEqProofs only [true_and, ty_b_4, ↓ty_c_27, ty_c_27, ↓rv_slice ty_l_22, ↓rd0_slice ty_l_22, ↓rv_ixaddr ty_l_22, ↓rd0_ixaddr ty_l_22, ↓rv_len ty_l_22, ↓rd0_len ty_l_22, ↓rv_lit ty_q_50, ↓rd3_lit ty_q_50, ↓rd4_lit ty_q_50, ↓rv_make ty_q_50, ↓rd3_make ty_q_50, ↓rd4_make ty_q_50, ↓rv_app ty_q_50, ↓rd3_app ty_q_50, go_sem, Nat.reduceBEq, Nat.reduceEqDiff, ↓reduceIte, reduceCtorEq, Int.reduceToNat, Nat.reduceLeDiff, Int.reduceLE, Int.reduceLT, Int.reducePow, Int.reduceNeg, Int.reduceAdd, Int.reduceSub, Nat.reduceAdd, Nat.reduceMul, Nat.reducePow, Nat.reduceLT])
      | (with_reducible intro b)
      | (with_reducible refine And.intro ?_ ?_; · first | assumption | omega | (unfold R64; omega)))
    refine call_is (p_Part hx (by omega)) ?_
    try simp -implicitDefEqProofs only [true_and, ty_b_4, ↓ty_c_27, ty_c_27, ↓rv_slice ty_l_22, ↓rd0_slice ty_l_22, ↓rv_ixaddr ty_l_22, ↓rd0_ixaddr ty_l_22, ↓rv_len ty_l_22, ↓rd0_len ty_l_22, ↓rv_lit ty_q_50, ↓rd3_lit ty_q_50, ↓rd4_lit ty_q_50, ↓rv_make ty_q_50, ↓rd3_make ty_q_50, ↓rd4_make ty_q_50, ↓rv_app ty_q_50, ↓rd3_app ty_q_50, go_sem, Nat.reduceBEq, Nat.reduceEqDiff, ↓reduceIte, reduceCtorEq, Int.reduceToNat, Nat.reduceLeDiff, Int.reduceLE, Int.reduceLT, Int.reducePow, Int.reduceNeg, Int.reduceAdd, Int.reduceSub, Nat.reduceAdd, Nat.reduceMul, Nat.reducePow, Nat.reduceLT]
    refine hK _ _ ?_
    clear hK K
    refine pv_seq fun K hK => ?_
    have hd := digs_le hx
    have hL : (D32 (N64 xs)).length ≤ 1099511627776 := by
      have hp : N64 xs = nval 4294967296 (parts xs) := (parts_val xs).symm
      rw [hp]
      refine Nat.le_trans (digs_len_le two32 (nval_lt (by decide) (parts xs) (parts_lt hx))) ?_
      rw [parts_len]
      omega
    have hD : (D64 (N64 xs)).length ≤ 1099511627776 := by omega
    have fin : ∀ (e : DEnv) (S : Store) (b1 : Bool), e 0 = W64 xs → e 3 = W32 (D32 (N64 xs)) → e 4 = bl b1 → b1 = decide ((D64 (N64 xs)).length = xs.length) → K e S := by
      intro e S b1 g0 g3 g4 hb
      repeat (first
        | (with_reducible refine pv_seq fun K hK => ?_)
        | (with_reducible refine pv_reg ?_; simp -implicitDefEqProofs only [comp_nil, comp_cons, compD_nil, compD_cons, gsl_none, gsl_some, List.getElem?_cons_zero, List.getElem?_cons_succ, Option.map_some, Option.bind_some, lapp_cons, lapp_nil])
        | (fail)
        | (with_reducible refine pv_skip ?_)
        | (with_reducible refine pv_block ?_)
        | (with_reducible refine pv_scope ?_)
        | (with_reducible refine pv_label ?_)
        | (with_reducible refine pv_condT ?_ ?_; · simp -implicitDefEqProofs only [g0, g3, g4, true_and, ty_b_4, ↓ty_c_27, ty_c_27, ↓rv_slice ty_l_22, ↓rd0_slice ty_l_22, ↓rv_ixaddr ty_l_22, ↓rd0_ixaddr ty_l_22, ↓rv_len ty_l_22, ↓rd0_len ty_l_22, ↓rv_lit ty_q_50, ↓rd3_lit ty_q_50, ↓rd4_lit ty_q_50, ↓rv_make ty_q_50, ↓rd3_make ty_q_50, ↓rd4_make ty_q_50, ↓rv_app ty_q_50, ↓rd3_app ty_q_50, go_sem, Nat.reduceBEq, Nat.reduceEqDiff, ↓reduceIte, reduceCtorEq, Int.reduceToNat, Nat.reduceLeDiff, Int.reduceLE, Int.reduceLT, Int.reducePow, Int.reduceNeg, Int.reduceAdd, Int.reduceSub, Nat.reduceAdd, Nat.reduceMul, Nat.reducePow, Nat.reduceLT] <;> rfl)
        | (with_reducible refine pv_condF ?_ ?_; · simp -implicitDefEqProofs only [g0, g3, g4, true_and, ty_b_4, ↓ty_c_27, ty_c_27, ↓rv_slice ty_l_22, ↓rd0_slice ty_l_22, ↓rv_ixaddr ty_l_22, ↓rd0_ixaddr ty_l_22, ↓rv_len ty_l_22, ↓rd0_len ty_l_22, ↓rv_lit ty_q_50, ↓rd3_lit ty_q_50, ↓rd4_lit ty_q_50, ↓rv_make ty_q_50, ↓rd3_make ty_q_50, ↓rd4_make ty_q_50, ↓rv_app ty_q_50, ↓rd3_app ty_q_50, go_sem, Nat.reduceBEq, Nat.reduceEqDiff, ↓reduceIte, reduceCtorEq, Int.reduceToNat, Nat.reduceLeDiff, Int.reduceLE, Int.reduceLT, Int.reducePow, Int.reduceNeg, Int.reduceAdd, Int.reduceSub, Nat.reduceAdd, Nat.reduceMul, Nat.reducePow, Nat.reduceLT] <;> rfl)
        | (with_reducible refine pv_exit ?_; simp only [↓reduceIte, Nat.reduceEqDiff])
        | (with_reducible refine pv_ret ?_; simp -implicitDefEqProofs only [retC, resD, oneD, coeDs_nil, coeDs_cons, coeD_agg, coeD_g, coeD_nil, coeD_own, coeCs_nil, coeCs_cons, coeC_g, coeC_nil, coeC_own, g0, g3, g4, true_and, ty_b_4, ↓ty_c_27, ty_c_27, ↓rv_slice ty_l_22, ↓rd0_slice ty_l_22, ↓rv_ixaddr ty_l_22, ↓rd0_ixaddr ty_l_22, ↓rv_len ty_l_22, ↓rd0_len ty_l_22, ↓rv_lit ty_q_50, ↓rd3_lit ty_q_50, ↓rd4_lit ty_q_50, ↓rv_make ty_q_50, ↓rd3_make ty_q_50, ↓rd4_make ty_q_50, ↓rv_app ty_q_50, ↓rd3_app ty_q_50, go_sem, Nat.reduceBEq, Nat.reduceEqDiff, ↓reduceIte, reduceCtorEq, Int.reduceToNat, Nat.reduceLeDiff, Int.reduceLE, Int.reduceLT, Int.reducePow, Int.reduceNeg, Int.reduceAdd, Int.reduceSub, Nat.reduceAdd, Nat.reduceMul, Nat.reducePow, Nat.reduceLT])
        | (with_reducible refine hK _ _ ?_; clear hK; try clear K)
        | (clear hK; with_reducible refine hK _ _ ?_; clear hK; try clear K)
        | (clear hK; clear hK; with_reducible refine hK _ _ ?_; clear hK; try clear K)
        | (simp -implicitDefEqProofs only [g0, g3, g4, true_and, ty_b_4, ↓ty_c_27, ty_c_27, ↓rv_slice ty_l_22, ↓rd0_slice ty_l_22, ↓rv_ixaddr ty_l_22, ↓rd0_ixaddr ty_l_22, ↓rv_len ty_l_22, ↓rd0_len ty_l_22, ↓rv_lit ty_q_50, ↓rd3_lit ty_q_50, ↓rd4_lit ty_q_50, ↓rv_make ty_q_50, ↓rd3_make ty_q_50, ↓rd4_make ty_q_50, ↓rv_app ty_q_50, ↓rd3_app ty_q_50, go_sem, Nat.reduceBEq, Nat.reduceEqDiff, ↓reduceIte, reduceCtorEq, Int.reduceToNat, Nat.reduceLeDiff, Int.reduceLE, Int.reduceLT, Int.reducePow, Int.reduceNeg, Int.reduceAdd, Int.reduceSub, Nat.reduceAdd, Nat.reduceMul, Nat.reducePow, Nat.reduceLT])
        | (with_reducible intro b)
        | (with_reducible refine And.intro ?_ ?_; · first | assumption | omega | (unfold R64; omega)))
      refine call_is (p_Right hx) ?_
      rw [← hb]
      simp -implicitDefEqProofs only [g0, g3, g4, true_and, ty_b_4, ↓ty_c_27, ty_c_27, ↓rv_slice ty_l_22, ↓rd0_slice ty_l_22, ↓rv_ixaddr ty_l_22, ↓rd0_ixaddr ty_l_22, ↓rv_len ty_l_22, ↓rd0_len ty_l_22, ↓rv_lit ty_q_50, ↓rd3_lit ty_q_50, ↓rd4_lit ty_q_50, ↓rv_make ty_q_50, ↓rd3_make ty_q_50, ↓rd4_make ty_q_50, ↓rv_app ty_q_50, ↓rd3_app ty_q_50, go_sem, Nat.reduceBEq, Nat.reduceEqDiff, ↓reduceIte, reduceCtorEq, Int.reduceToNat, Nat.reduceLeDiff, Int.reduceLE, Int.reduceLT, Int.reducePow, Int.reduceNeg, Int.reduceAdd, Int.reduceSub, Nat.reduceAdd, Nat.reduceMul, Nat.reducePow, Nat.reduceLT, beq_self_eq_true]
      refine call_is (p_Trim hx (by omega)) ?_
      repeat (first
        | (with_reducible refine pv_seq fun K hK => ?_)
        | (with_reducible refine pv_reg ?_; simp -implicitDefEqProofs only [comp_nil, comp_cons, compD_nil, compD_cons, gsl_none, gsl_some, List.getElem?_cons_zero, List.getElem?_cons_succ, Option.map_some, Option.bind_some, lapp_cons, lapp_nil])
        | (fail)
        | (with_reducible refine pv_skip ?_)
        | (with_reducible refine pv_block ?_)
        | (with_reducible refine pv_scope ?_)
        | (with_reducible refine pv_label ?_)
        | (with_reducible refine pv_condT ?_ ?_; · simp -implicitDefEqProofs only [g0, g3, g4, true_and, ty_b_4, ↓ty_c_27, ty_c_27, ↓rv_slice ty_l_22, ↓rd0_slice ty_l_22, ↓rv_ixaddr ty_l_22, ↓rd0_ixaddr ty_l_22, ↓rv_len ty_l_22, ↓rd0_len ty_l_22, ↓rv_lit ty_q_50, ↓rd3_lit ty_q_50, ↓rd4_lit ty_q_50, ↓rv_make ty_q_50, ↓rd3_make ty_q_50, ↓rd4_make ty_q_50, ↓rv_app ty_q_50, ↓rd3_app ty_q_50, go_sem, Nat.reduceBEq, Nat.reduceEqDiff, ↓reduceIte, reduceCtorEq, Int.reduceToNat, Nat.reduceLeDiff, Int.reduceLE, Int.reduceLT, Int.reducePow, Int.reduceNeg, Int.reduceAdd, Int.reduceSub, Nat.reduceAdd, Nat.reduceMul, Nat.reducePow, Nat.reduceLT] <;> rfl)
        | (with_reducible refine pv_condF ?_ ?_; · simp -implicitDefEqProofs only [g0, g3, g4, true_and, ty_b_4, ↓ty_c_27, ty_c_27, ↓rv_slice ty_l_22, ↓rd0_slice ty_l_22, ↓rv_ixaddr ty_l_22, ↓rd0_ixaddr ty_l_22, ↓rv_len ty_l_22, ↓rd0_len ty_l_22, ↓rv_lit ty_q_50, ↓rd3_lit ty_q_50, ↓rd4_lit ty_q_50, ↓rv_make ty_q_50, ↓rd3_make ty_q_50, ↓rd4_make ty_q_50, ↓rv_app ty_q_50, ↓rd3_app ty_q_50, go_sem, Nat.reduceBEq, Nat.reduceEqDiff, ↓reduceIte, reduceCtorEq, Int.reduceToNat, Nat.reduceLeDiff, Int.reduceLE, Int.reduceLT, Int.reducePow, Int.reduceNeg, Int.reduceAdd, Int.reduceSub, Nat.reduceAdd, Nat.reduceMul, Nat.reducePow, Nat.reduceLT] <;> rfl)
        | (with_reducible refine pv_exit ?_; simp only [↓reduceIte, Nat.reduceEqDiff])
        | (with_reducible refine pv_ret ?_; simp -implicitDefEqProofs only [retC, resD, oneD, coeDs_nil, coeDs_cons, coeD_agg, coeD_g, coeD_nil, coeD_own, coeCs_nil, coeCs_cons, coeC_g, coeC_nil, coeC_own, g0, g3, g4, true_and, ty_b_4, ↓ty_c_27, ty_c_27, ↓rv_slice ty_l_22, ↓rd0_slice ty_l_22, ↓rv_ixaddr ty_l_22, ↓rd0_ixaddr ty_l_22, ↓rv_len ty_l_22, ↓rd0_len ty_l_22, ↓rv_lit ty_q_50, ↓rd3_lit ty_q_50, ↓rd4_lit ty_q_50, ↓rv_make ty_q_50, ↓rd3_make ty_q_50, ↓rd4_make ty_q_50, ↓rv_app ty_q_50, ↓rd3_app ty_q_50, go_sem, Nat.reduceBEq, Nat.reduceEqDiff, ↓reduceIte, reduceCtorEq, Int.reduceToNat, Nat.reduceLeDiff, Int.reduceLE, Int.reduceLT, Int.reducePow, Int.reduceNeg, Int.reduceAdd, Int.reduceSub, Nat.reduceAdd, Nat.reduceMul, Nat.reducePow, Nat.reduceLT])
        | (with_reducible refine hK _ _ ?_; clear hK; try clear K)
        | (clear hK; with_reducible refine hK _ _ ?_; clear hK; try clear K)
        | (clear hK; clear hK; with_reducible refine hK _ _ ?_; clear hK; try clear K)
        | (simp -implicitDefEqProofs only [g0, g3, g4, true_and, ty_b_4, ↓ty_c_27, ty_c_27, ↓rv_slice ty_l_22, ↓rd0_slice ty_l_22, ↓rv_ixaddr ty_l_22, ↓rd0_ixaddr ty_l_22, ↓rv_len ty_l_22, ↓rd0_len ty_l_22, ↓rv_lit ty_q_50, ↓rd3_lit ty_q_50, ↓rd4_lit ty_q_50, ↓rv_make ty_q_50, ↓rd3_make ty_q_50, ↓rd4_make ty_q_50, ↓rv_app ty_q_50, ↓rd3_app ty_q_50, go_sem, Nat.reduceBEq, Nat.reduceEqDiff, ↓reduceIte, reduceCtorEq, Int.reduceToNat, Nat.reduceLeDiff, Int.reduceLE, Int.reduceLT, Int.reducePow, Int.reduceNeg, Int.reduceAdd, Int.reduceSub, Nat.reduceAdd, Nat.reduceMul, Nat.reducePow, Nat.reduceLT])
        | (with_reducible intro b)
        | (with_reducible refine And.intro ?_ ?_; · first | assumption | omega | (unfold R64; omega)))
      refine call_is (p_Words hL) ?_
      repeat (first
        | (with_reducible refine pv_seq fun K hK => ?_)
        | (with_reducible refine pv_reg ?_; simp -implicitDefEqProofs only [comp_nil, comp_cons, compD_nil, compD_cons, gsl_none, gsl_some, List.getElem?_cons_zero, List.getElem?_cons_succ, Option.map_some, Option.bind_some, lapp_cons, lapp_nil])
        | (fail)
        | (with_reducible refine pv_skip ?_)
        | (with_reducible refine pv_block ?_)
        | (with_reducible refine pv_scope ?_)
        | (with_reducible refine pv_label ?_)
        | (with_reducible refine pv_condT ?_ ?_; · simp -implicitDefEqProofs only [g0, g3, g4, true_and, ty_b_4, ↓ty_c_27, ty_c_27, ↓rv_slice ty_l_22, ↓rd0_slice ty_l_22, ↓rv_ixaddr ty_l_22, ↓rd0_ixaddr ty_l_22, ↓rv_len ty_l_22, ↓rd0_len ty_l_22, ↓rv_lit ty_q_50, ↓rd3_lit ty_q_50, ↓rd4_lit ty_q_50, ↓rv_make ty_q_50, ↓rd3_make ty_q_50, ↓rd4_make ty_q_50, ↓rv_app ty_q_50, ↓rd3_app ty_q_50, go_sem, Nat.reduceBEq, Nat.reduceEqDiff, ↓reduceIte, reduceCtorEq, Int.reduceToNat, Nat.reduceLeDiff, Int.reduceLE, Int.reduceLT, Int.reducePow, Int.reduceNeg, Int.reduceAdd, Int.reduceSub, Nat.reduceAdd, Nat.reduceMul, Nat.reducePow, Nat.reduceLT] <;> rfl)
        | (with_reducible refine pv_condF ?_ ?_; · simp -implicitDefEqProofs only [g0, g3, g4, true_and, ty_b_4, ↓ty_c_27, ty_c_27, ↓rv_slice ty_l_22, ↓rd0_slice ty_l_22, ↓rv_ixaddr ty_l_22, ↓rd0_ixaddr ty_l_22, ↓rv_len ty_l_22, ↓rd0_len ty_l_22, ↓rv_lit ty_q_50, ↓rd3_lit ty_q_50, ↓rd4_lit ty_q_50, ↓rv_make ty_q_50, ↓rd3_make ty_q_50, ↓rd4_make ty_q_50, ↓rv_app ty_q_50, ↓rd3_app ty_q_50, go_sem, Nat.reduceBEq, Nat.reduceEqDiff, ↓reduceIte, reduceCtorEq, Int.reduceToNat, Nat.reduceLeDiff, Int.reduceLE, Int.reduceLT, Int.reducePow, Int.reduceNeg, Int.reduceAdd, Int.reduceSub, Nat.reduceAdd, Nat.reduceMul, Nat.reducePow, Nat.reduceLT] <;> rfl)
        | (with_reducible refine pv_exit ?_; simp only [↓reduceIte, Nat.reduceEqDiff])
        | (with_reducible refine pv_ret ?_; simp -implicitDefEqProofs only [retC, resD, oneD, coeDs_nil, coeDs_cons, coeD_agg, coeD_g, coeD_nil, coeD_own, coeCs_nil, coeCs_cons, coeC_g, coeC_nil, coeC_own, g0, g3, g4, true_and, ty_b_4, ↓ty_c_27, ty_c_27, ↓rv_slice ty_l_22, ↓rd0_slice ty_l_22, ↓rv_ixaddr ty_l_22, ↓rd0_ixaddr ty_l_22, ↓rv_len ty_l_22, ↓rd0_len ty_l_22, ↓rv_lit ty_q_50, ↓rd3_lit ty_q_50, ↓rd4_lit ty_q_50, ↓rv_make ty_q_50, ↓rd3_make ty_q_50, ↓rd4_make ty_q_50, ↓rv_app ty_q_50, ↓rd3_app ty_q_50, go_sem, Nat.reduceBEq, Nat.reduceEqDiff, ↓reduceIte, reduceCtorEq, Int.reduceToNat, Nat.reduceLeDiff, Int.reduceLE, Int.reduceLT, Int.reducePow, Int.reduceNeg, Int.reduceAdd, Int.reduceSub, Nat.reduceAdd, Nat.reduceMul, Nat.reducePow, Nat.reduceLT])
        | (with_reducible refine hK _ _ ?_; clear hK; try clear K)
        | (clear hK; with_reducible refine hK _ _ ?_; clear hK; try clear K)
        | (clear hK; clear hK; with_reducible refine hK _ _ ?_; clear hK; try clear K)
        | (simp -implicitDefEqProofs only [g0, g3, g4, true_and, ty_b_4, ↓ty_c_27, ty_c_27, ↓rv_slice ty_l_22, ↓rd0_slice ty_l_22, ↓rv_ixaddr ty_l_22, ↓rd0_ixaddr ty_l_22, ↓rv_len ty_l_22, ↓rd0_len ty_l_22, ↓rv_lit ty_q_50, ↓rd3_lit ty_q_50, ↓rd4_lit ty_q_50, ↓rv_make ty_q_50, ↓rd3_make ty_q_50, ↓rd4_make ty_q_50, ↓rv_app ty_q_50, ↓rd3_app ty_q_50, go_sem, Nat.reduceBEq, Nat.reduceEqDiff, ↓reduceIte, reduceCtorEq, Int.reduceToNat, Nat.reduceLeDiff, Int.reduceLE, Int.reduceLT, Int.reducePow, Int.reduceNeg, Int.reduceAdd, Int.reduceSub, Nat.reduceAdd, Nat.reduceMul, Nat.reducePow, Nat.reduceLT])
        | (with_reducible intro b)
        | (with_reducible refine And.intro ?_ ?_; · first | assumption | omega | (unfold R64; omega)))
      refine call_is ((p_hWords (digs_lt two64 _) (digs_lt two64 _) hD hD).mono fun d hd => hd.trans (congrArg bl (decide_eq_true rfl))) ?_
      repeat (first
        | (with_reducible refine pv_seq fun K hK => ?_)
        | (with_reducible refine pv_reg ?_; simp -implicitDefEqProofs only [comp_nil, comp_cons, compD_nil, compD_cons, gsl_none, gsl_some, List.getElem?_cons_zero, List.getElem?_cons_succ, Option.map_some, Option.bind_some, lapp_cons, lapp_nil])
        | (fail)
        | (with_reducible refine pv_skip ?_)
        | (with_reducible refine pv_block ?_)
        | (with_reducible refine pv_scope ?_)
        | (with_reducible refine pv_label ?_)
        | (with_reducible refine pv_condT ?_ ?_; · simp -implicitDefEqProofs only [g0, g3, g4, true_and, ty_b_4, ↓ty_c_27, ty_c_27, ↓rv_slice ty_l_22, ↓rd0_slice ty_l_22, ↓rv_ixaddr ty_l_22, ↓rd0_ixaddr ty_l_22, ↓rv_len ty_l_22, ↓rd0_len ty_l_22, ↓rv_lit ty_q_50, ↓rd3_lit ty_q_50, ↓rd4_lit ty_q_50, ↓rv_make ty_q_50, ↓rd3_make ty_q_50, ↓rd4_make ty_q_50, ↓rv_app ty_q_50, ↓rd3_app ty_q_50, go_sem, Nat.reduceBEq, Nat.reduceEqDiff, ↓reduceIte, reduceCtorEq, Int.reduceToNat, Nat.reduceLeDiff, Int.reduceLE, Int.reduceLT, Int.reducePow, Int.reduceNeg, Int.reduceAdd, Int.reduceSub, Nat.reduceAdd, Nat.reduceMul, Nat.reducePow, Nat.reduceLT] <;> rfl)
        | (with_reducible refine pv_condF ?_ ?_; · simp -implicitDefEqProofs only [g0, g3, g4, true_and, ty_b_4, ↓ty_c_27, ty_c_27, ↓rv_slice ty_l_22, ↓rd0_slice ty_l_22, ↓rv_ixaddr ty_l_22, ↓rd0_ixaddr ty_l_22, ↓rv_len ty_l_22, ↓rd0_len ty_l_22, ↓rv_lit ty_q_50, ↓rd3_lit ty_q_50, ↓rd4_lit ty_q_50, ↓rv_make ty_q_50, ↓rd3_make ty_q_50, ↓rd4_make ty_q_50, ↓rv_app ty_q_50, ↓rd3_app ty_q_50, go_sem, Nat.reduceBEq, Nat.reduceEqDiff, ↓reduceIte, reduceCtorEq, Int.reduceToNat, Nat.reduceLeDiff, Int.reduceLE, Int.reduceLT, Int.reducePow, Int.reduceNeg, Int.reduceAdd, Int.reduceSub, Nat.reduceAdd, Nat.reduceMul, Nat.reducePow, Nat.reduceLT] <;> rfl)
        | (with_reducible refine pv_exit ?_; simp only [↓reduceIte, Nat.reduceEqDiff])
        | (with_reducible refine pv_ret ?_; simp -implicitDefEqProofs only [retC, resD, oneD, coeDs_nil, coeDs_cons, coeD_agg, coeD_g, coeD_nil, coeD_own, coeCs_nil, coeCs_cons, coeC_g, coeC_nil, coeC_own, g0, g3, g4, true_and, ty_b_4, ↓ty_c_27, ty_c_27, ↓rv_slice ty_l_22, ↓rd0_slice ty_l_22, ↓rv_ixaddr ty_l_22, ↓rd0_ixaddr ty_l_22, ↓rv_len ty_l_22, ↓rd0_len ty_l_22, ↓rv_lit ty_q_50, ↓rd3_lit ty_q_50, ↓rd4_lit ty_q_50, ↓rv_make ty_q_50, ↓rd3_make ty_q_50, ↓rd4_make ty_q_50, ↓rv_app ty_q_50, ↓rd3_app ty_q_50, go_sem, Nat.reduceBEq, Nat.reduceEqDiff, ↓reduceIte, reduceCtorEq, Int.reduceToNat, Nat.reduceLeDiff, Int.reduceLE, Int.reduceLT, Int.reducePow, Int.reduceNeg, Int.reduceAdd, Int.reduceSub, Nat.reduceAdd, Nat.reduceMul, Nat.reducePow, Nat.reduceLT])
        | (with_reducible refine hK _ _ ?_; clear hK; try clear K)
        | (clear hK; with_reducible refine hK _ _ ?_; clear hK; try clear K)
        | (clear hK; clear hK; with_reducible refine hK _ _ ?_; clear hK; try clear K)
        | (simp -implicitDefEqProofs only [g0, g3, g4, true_and, ty_b_4, ↓ty_c_27, ty_c_27, ↓rv_slice ty_l_22, ↓rd0_slice ty_l_22, ↓rv_ixaddr ty_l_22, ↓rd0_ixaddr ty_l_22, ↓rv_len ty_l_22, ↓rd0_len ty_l_22, ↓rv_lit ty_q_50, ↓rd3_lit ty_q_50, ↓rd4_lit ty_q_50, ↓rv_make ty_q_50, ↓rd3_make ty_q_50, ↓rd4_make ty_q_50, ↓rv_app ty_q_50, ↓rd3_app ty_q_50, go_sem, Nat.reduceBEq, Nat.reduceEqDiff, ↓reduceIte, reduceCtorEq, Int.reduceToNat, Nat.reduceLeDiff, Int.reduceLE, Int.reduceLT, Int.reducePow, Int.reduceNeg, Int.reduceAdd, Int.reduceSub, Nat.reduceAdd, Nat.reduceMul, Nat.reducePow, Nat.reduceLT])
        | (with_reducible intro b)
        | (with_reducible refine And.intro ?_ ?_; · first | assumption | omega | (unfold R64; omega)))
      refine call_is (p_Bits hx (by omega)) ?_
      repeat (first
        | (with_reducible refine pv_seq fun K hK => ?_)
        | (with_reducible refine pv_reg ?_; simp -implicitDefEqProofs only [comp_nil, comp_cons, compD_nil, compD_cons, gsl_none, gsl_some, List.getElem?_cons_zero, List.getElem?_cons_succ, Option.map_some, Option.bind_some, lapp_cons, lapp_nil])
        | (fail)
        | (with_reducible refine pv_skip ?_)
        | (with_reducible refine pv_block ?_)
        | (with_reducible refine pv_scope ?_)
        | (with_reducible refine pv_label ?_)
        | (with_reducible refine pv_condT ?_ ?_; · simp -implicitDefEqProofs only [g0, g3, g4, true_and, ty_b_4, ↓ty_c_27, ty_c_27, ↓rv_slice ty_l_22, ↓rd0_slice ty_l_22, ↓rv_ixaddr ty_l_22, ↓rd0_ixaddr ty_l_22, ↓rv_len ty_l_22, ↓rd0_len ty_l_22, ↓rv_lit ty_q_50, ↓rd3_lit ty_q_50, ↓rd4_lit ty_q_50, ↓rv_make ty_q_50, ↓rd3_make ty_q_50, ↓rd4_make ty_q_50, ↓rv_app ty_q_50, ↓rd3_app ty_q_50, go_sem, Nat.reduceBEq, Nat.reduceEqDiff, ↓reduceIte, reduceCtorEq, Int.reduceToNat, Nat.reduceLeDiff, Int.reduceLE, Int.reduceLT, Int.reducePow, Int.reduceNeg, Int.reduceAdd, Int.reduceSub, Nat.reduceAdd, Nat.reduceMul, Nat.reducePow, Nat.reduceLT] <;> rfl)
        | (with_reducible refine pv_condF ?_ ?_; · simp -implicitDefEqProofs only [g0, g3, g4, true_and, ty_b_4, ↓ty_c_27, ty_c_27, ↓rv_slice ty_l_22, ↓rd0_slice ty_l_22, ↓rv_ixaddr ty_l_22, ↓rd0_ixaddr ty_l_22, ↓rv_len ty_l_22, ↓rd0_len ty_l_22, ↓rv_lit ty_q_50, ↓rd3_lit ty_q_50, ↓rd4_lit ty_q_50, ↓rv_make ty_q_50, ↓rd3_make ty_q_50, ↓rd4_make ty_q_50, ↓rv_app ty_q_50, ↓rd3_app ty_q_50, go_sem, Nat.reduceBEq, Nat.reduceEqDiff, ↓reduceIte, reduceCtorEq, Int.reduceToNat, Nat.reduceLeDiff, Int.reduceLE, Int.reduceLT, Int.reducePow, Int.reduceNeg, Int.reduceAdd, Int.reduceSub, Nat.reduceAdd, Nat.reduceMul, Nat.reducePow, Nat.reduceLT] <;> rfl)
        | (with_reducible refine pv_exit ?_; simp only [↓reduceIte, Nat.reduceEqDiff])
        | (with_reducible refine pv_ret ?_; simp -implicitDefEqProofs only [retC, resD, oneD, coeDs_nil, coeDs_cons, coeD_agg, coeD_g, coeD_nil, coeD_own, coeCs_nil, coeCs_cons, coeC_g, coeC_nil, coeC_own, g0, g3, g4, true_and, ty_b_4, ↓ty_c_27, ty_c_27, ↓rv_slice ty_l_22, ↓rd0_slice ty_l_22, ↓rv_ixaddr ty_l_22, ↓rd0_ixaddr ty_l_22, ↓rv_len ty_l_22, ↓rd0_len ty_l_22, ↓rv_lit ty_q_50, ↓rd3_lit ty_q_50, ↓rd4_lit ty_q_50, ↓rv_make ty_q_50, ↓rd3_make ty_q_50, ↓rd4_make ty_q_50, ↓rv_app ty_q_50, ↓rd3_app ty_q_50, go_sem, Nat.reduceBEq, Nat.reduceEqDiff, ↓reduceIte, reduceCtorEq, Int.reduceToNat, Nat.reduceLeDiff, Int.reduceLE, Int.reduceLT, Int.reducePow, Int.reduceNeg, Int.reduceAdd, Int.reduceSub, Nat.reduceAdd, Nat.reduceMul, Nat.reducePow, Nat.reduceLT])
        | (with_reducible refine hK _ _ ?_; clear hK; try clear K)
        | (clear hK; with_reducible refine hK _ _ ?_; clear hK; try clear K)
        | (clear hK; clear hK; with_reducible refine hK _ _ ?_; clear hK; try clear K)
        | (simp -implicitDefEqProofs only [g0, g3, g4, true_and, ty_b_4, ↓ty_c_27, ty_c_27, ↓rv_slice ty_l_22, ↓rd0_slice ty_l_22, ↓rv_ixaddr ty_l_22, ↓rd0_ixaddr ty_l_22, ↓rv_len ty_l_22, ↓rd0_len ty_l_22, ↓rv_lit ty_q_50, ↓rd3_lit ty_q_50, ↓rd4_lit ty_q_50, ↓rv_make ty_q_50, ↓rd3_make ty_q_50, ↓rd4_make ty_q_50, ↓rv_app ty_q_50, ↓rd3_app ty_q_50, go_sem, Nat.reduceBEq, Nat.reduceEqDiff, ↓reduceIte, reduceCtorEq, Int.reduceToNat, Nat.reduceLeDiff, Int.reduceLE, Int.reduceLT, Int.reducePow, Int.reduceNeg, Int.reduceAdd, Int.reduceSub, Nat.reduceAdd, Nat.reduceMul, Nat.reducePow, Nat.reduceLT])
        | (with_reducible intro b)
        | (with_reducible refine And.intro ?_ ?_; · first | assumption | omega | (unfold R64; omega)))
      refine call_is (p_rBits hL) ?_
      repeat (first
        | (with_reducible refine pv_seq fun K hK => ?_)
        | (with_reducible refine pv_reg ?_; simp -implicitDefEqProofs only [comp_nil, comp_cons, compD_nil, compD_cons, gsl_none, gsl_some, List.getElem?_cons_zero, List.getElem?_cons_succ, Option.map_some, Option.bind_some, lapp_cons, lapp_nil])
        | (fail)
        | (with_reducible refine pv_skip ?_)
        | (with_reducible refine pv_block ?_)
        | (with_reducible refine pv_scope ?_)
        | (with_reducible refine pv_label ?_)
        | (with_reducible refine pv_condT ?_ ?_; · simp -implicitDefEqProofs only [g0, g3, g4, true_and, ty_b_4, ↓ty_c_27, ty_c_27, ↓rv_slice ty_l_22, ↓rd0_slice ty_l_22, ↓rv_ixaddr ty_l_22, ↓rd0_ixaddr ty_l_22, ↓rv_len ty_l_22, ↓rd0_len ty_l_22, ↓rv_lit ty_q_50, ↓rd3_lit ty_q_50, ↓rd4_lit ty_q_50, ↓rv_make ty_q_50, ↓rd3_make ty_q_50, ↓rd4_make ty_q_50, ↓rv_app ty_q_50, ↓rd3_app ty_q_50, go_sem, Nat.reduceBEq, Nat.reduceEqDiff, ↓reduceIte, reduceCtorEq, Int.reduceToNat, Nat.reduceLeDiff, Int.reduceLE, Int.reduceLT, Int.reducePow, Int.reduceNeg, Int.reduceAdd, Int.reduceSub, Nat.reduceAdd, Nat.reduceMul, Nat.reducePow, Nat.reduceLT] <;> rfl)
        | (with_reducible refine pv_condF ?_ ?_; · simp -implicitDefEqProofs only [g0, g3, g4, true_and, ty_b_4, ↓ty_c_27, ty_c_27, ↓rv_slice ty_l_22, ↓rd0_slice ty_l_22, ↓rv_ixaddr ty_l_22, ↓rd0_ixaddr ty_l_22, ↓rv_len ty_l_22, ↓rd0_len ty_l_22, ↓rv_lit ty_q_50, ↓rd3_lit ty_q_50, ↓rd4_lit ty_q_50, ↓rv_make ty_q_50, ↓rd3_make ty_q_50, ↓rd4_make ty_q_50, ↓rv_app ty_q_50, ↓rd3_app ty_q_50, go_sem, Nat.reduceBEq, Nat.reduceEqDiff, ↓reduceIte, reduceCtorEq, Int.reduceToNat, Nat.reduceLeDiff, Int.reduceLE, Int.reduceLT, Int.reducePow, Int.reduceNeg, Int.reduceAdd, Int.reduceSub, Nat.reduceAdd, Nat.reduceMul, Nat.reducePow, Nat.reduceLT] <;> rfl)
        | (with_reducible refine pv_exit ?_; simp only [↓reduceIte, Nat.reduceEqDiff])
        | (with_reducible refine pv_ret ?_; simp -implicitDefEqProofs only [retC, resD, oneD, coeDs_nil, coeDs_cons, coeD_agg, coeD_g, coeD_nil, coeD_own, coeCs_nil, coeCs_cons, coeC_g, coeC_nil, coeC_own, g0, g3, g4, true_and, ty_b_4, ↓ty_c_27, ty_c_27, ↓rv_slice ty_l_22, ↓rd0_slice ty_l_22, ↓rv_ixaddr ty_l_22, ↓rd0_ixaddr ty_l_22, ↓rv_len ty_l_22, ↓rd0_len ty_l_22, ↓rv_lit ty_q_50, ↓rd3_lit ty_q_50, ↓rd4_lit ty_q_50, ↓rv_make ty_q_50, ↓rd3_make ty_q_50, ↓rd4_make ty_q_50, ↓rv_app ty_q_50, ↓rd3_app ty_q_50, go_sem, Nat.reduceBEq, Nat.reduceEqDiff, ↓reduceIte, reduceCtorEq, Int.reduceToNat, Nat.reduceLeDiff, Int.reduceLE, Int.reduceLT, Int.reducePow, Int.reduceNeg, Int.reduceAdd, Int.reduceSub, Nat.reduceAdd, Nat.reduceMul, Nat.reducePow, Nat.reduceLT])
        | (with_reducible refine hK _ _ ?_; clear hK; try clear K)
        | (clear hK; with_reducible refine hK _ _ ?_; clear hK; try clear K)
        | (clear hK; clear hK; with_reducible refine hK _ _ ?_; clear hK; try clear K)
        | (simp -implicitDefEqProofs only [g0, g3, g4, true_and, ty_b_4, ↓ty_c_27, ty_c_27, ↓rv_slice ty_l_22, ↓rd0_slice ty_l_22, ↓rv_ixaddr ty_l_22, ↓rd0_ixaddr ty_l_22, ↓rv_len ty_l_22, ↓rd0_len ty_l_22, ↓rv_lit ty_q_50, ↓rd3_lit ty_q_50, ↓rd4_lit ty_q_50, ↓rv_make ty_q_50, ↓rd3_make ty_q_50, ↓rd4_make ty_q_50, ↓rv_app ty_q_50, ↓rd3_app ty_q_50, go_sem, Nat.reduceBEq, Nat.reduceEqDiff, ↓reduceIte, reduceCtorEq, Int.reduceToNat, Nat.reduceLeDiff, Int.reduceLE, Int.reduceLT, Int.reducePow, Int.reduceNeg, Int.reduceAdd, Int.reduceSub, Nat.reduceAdd, Nat.reduceMul, Nat.reducePow, Nat.reduceLT])
        | (with_reducible intro b)
        | (with_reducible refine And.intro ?_ ?_; · first | assumption | omega | (unfold R64; omega)))
      refine call_is (p_Zeros hx (by omega)) ?_
      repeat (first
        | (with_reducible refine pv_seq fun K hK => ?_)
        | (with_reducible refine pv_reg ?_; simp -implicitDefEqProofs only [comp_nil, comp_cons, compD_nil, compD_cons, gsl_none, gsl_some, List.getElem?_cons_zero, List.getElem?_cons_succ, Option.map_some, Option.bind_some, lapp_cons, lapp_nil])
        | (fail)
        | (with_reducible refine pv_skip ?_)
        | (with_reducible refine pv_block ?_)
        | (with_reducible refine pv_scope ?_)
        | (with_reducible refine pv_label ?_)
        | (with_reducible refine pv_condT ?_ ?_; · simp -implicitDefEqProofs only [g0, g3, g4, true_and, ty_b_4, ↓ty_c_27, ty_c_27, ↓rv_slice ty_l_22, ↓rd0_slice ty_l_22, ↓rv_ixaddr ty_l_22, ↓rd0_ixaddr ty_l_22, ↓rv_len ty_l_22, ↓rd0_len ty_l_22, ↓rv_lit ty_q_50, ↓rd3_lit ty_q_50, ↓rd4_lit ty_q_50, ↓rv_make ty_q_50, ↓rd3_make ty_q_50, ↓rd4_make ty_q_50, ↓rv_app ty_q_50, ↓rd3_app ty_q_50, go_sem, Nat.reduceBEq, Nat.reduceEqDiff, ↓reduceIte, reduceCtorEq, Int.reduceToNat, Nat.reduceLeDiff, Int.reduceLE, Int.reduceLT, Int.reducePow, Int.reduceNeg, Int.reduceAdd, Int.reduceSub, Nat.reduceAdd, Nat.reduceMul, Nat.reducePow, Nat.reduceLT] <;> rfl)
        | (with_reducible refine pv_condF ?_ ?_; · simp -implicitDefEqProofs only [g0, g3, g4, true_and, ty_b_4, ↓ty_c_27, ty_c_27, ↓rv_slice ty_l_22, ↓rd0_slice ty_l_22, ↓rv_ixaddr ty_l_22, ↓rd0_ixaddr ty_l_22, ↓rv_len ty_l_22, ↓rd0_len ty_l_22, ↓rv_lit ty_q_50, ↓rd3_lit ty_q_50, ↓rd4_lit ty_q_50, ↓rv_make ty_q_50, ↓rd3_make ty_q_50, ↓rd4_make ty_q_50, ↓rv_app ty_q_50, ↓rd3_app ty_q_50, go_sem, Nat.reduceBEq, Nat.reduceEqDiff, ↓reduceIte, reduceCtorEq, Int.reduceToNat, Nat.reduceLeDiff, Int.reduceLE, Int.reduceLT, Int.reducePow, Int.reduceNeg, Int.reduceAdd, Int.reduceSub, Nat.reduceAdd, Nat.reduceMul, Nat.reducePow, Nat.reduceLT] <;> rfl)
        | (with_reducible refine pv_exit ?_; simp only [↓reduceIte, Nat.reduceEqDiff])
        | (with_reducible refine pv_ret ?_; simp -implicitDefEqProofs only [retC, resD, oneD, coeDs_nil, coeDs_cons, coeD_agg, coeD_g, coeD_nil, coeD_own, coeCs_nil, coeCs_cons, coeC_g, coeC_nil, coeC_own, g0, g3, g4, true_and, ty_b_4, ↓ty_c_27, ty_c_27, ↓rv_slice ty_l_22, ↓rd0_slice ty_l_22, ↓rv_ixaddr ty_l_22, ↓rd0_ixaddr ty_l_22, ↓rv_len ty_l_22, ↓rd0_len ty_l_22, ↓rv_lit ty_q_50, ↓rd3_lit ty_q_50, ↓rd4_lit ty_q_50, ↓rv_make ty_q_50, ↓rd3_make ty_q_50, ↓rd4_make ty_q_50, ↓rv_app ty_q_50, ↓rd3_app ty_q_50, go_sem, Nat.reduceBEq, Nat.reduceEqDiff, ↓reduceIte, reduceCtorEq, Int.reduceToNat, Nat.reduceLeDiff, Int.reduceLE, Int.reduceLT, Int.reducePow, Int.reduceNeg, Int.reduceAdd, Int.reduceSub, Nat.reduceAdd, Nat.reduceMul, Nat.reducePow, Nat.reduceLT])
        | (with_reducible refine hK _ _ ?_; clear hK; try clear K)
        | (clear hK; with_reducible refine hK _ _ ?_; clear hK; try clear K)
        | (clear hK; clear hK; with_reducible refine hK _ _ ?_; clear hK; try clear K)
        | (simp -implicitDefEqProofs only [g0, g3, g4, true_and, ty_b_4, ↓ty_c_27, ty_c_27, ↓rv_slice ty_l_22, ↓rd0_slice ty_l_22, ↓rv_ixaddr ty_l_22, ↓rd0_ixaddr ty_l_22, ↓rv_len ty_l_22, ↓rd0_len ty_l_22, ↓rv_lit ty_q_50, ↓rd3_lit ty_q_50, ↓rd4_lit ty_q_50, ↓rv_make ty_q_50, ↓rd3_make ty_q_50, ↓rd4_make ty_q_50, ↓rv_app ty_q_50, ↓rd3_app ty_q_50, go_sem, Nat.reduceBEq, Nat.reduceEqDiff, ↓reduceIte, reduceCtorEq, Int.reduceToNat, Nat.reduceLeDiff, Int.reduceLE, Int.reduceLT, Int.reducePow, Int.reduceNeg, Int.reduceAdd, Int.reduceSub, Nat.reduceAdd, Nat.reduceMul, Nat.reducePow, Nat.reduceLT])
        | (with_reducible intro b)
        | (with_reducible refine And.intro ?_ ?_; · first | assumption | omega | (unfold R64; omega)))
      refine call_is (p_rZeros hL) ?_
      repeat (first
        | (with_reducible refine pv_seq fun K hK => ?_)
        | (with_reducible refine pv_reg ?_; simp -implicitDefEqProofs only [comp_nil, comp_cons, compD_nil, compD_cons, gsl_none, gsl_some, List.getElem?_cons_zero, List.getElem?_cons_succ, Option.map_some, Option.bind_some, lapp_cons, lapp_nil])
        | (fail)
        | (with_reducible refine pv_skip ?_)
        | (with_reducible refine pv_block ?_)
        | (with_reducible refine pv_scope ?_)
        | (with_reducible refine pv_label ?_)
        | (with_reducible refine pv_condT ?_ ?_; · simp -implicitDefEqProofs only [g0, g3, g4, true_and, ty_b_4, ↓ty_c_27, ty_c_27, ↓rv_slice ty_l_22, ↓rd0_slice ty_l_22, ↓rv_ixaddr ty_l_22, ↓rd0_ixaddr ty_l_22, ↓rv_len ty_l_22, ↓rd0_len ty_l_22, ↓rv_lit ty_q_50, ↓rd3_lit ty_q_50, ↓rd4_lit ty_q_50, ↓rv_make ty_q_50, ↓rd3_make ty_q_50, ↓rd4_make ty_q_50, ↓rv_app ty_q_50, ↓rd3_app ty_q_50, go_sem, Nat.reduceBEq, Nat.reduceEqDiff, ↓reduceIte, reduceCtorEq, Int.reduceToNat, Nat.reduceLeDiff, Int.reduceLE, Int.reduceLT, Int.reducePow, Int.reduceNeg, Int.reduceAdd, Int.reduceSub, Nat.reduceAdd, Nat.reduceMul, Nat.reducePow, Nat.reduceLT] <;> rfl)
        | (with_reducible refine pv_condF ?_ ?_; · simp -implicitDefEqProofs only [g0, g3, g4, true_and, ty_b_4, ↓ty_c_27, ty_c_27, ↓rv_slice ty_l_22, ↓rd0_slice ty_l_22, ↓rv_ixaddr ty_l_22, ↓rd0_ixaddr ty_l_22, ↓rv_len ty_l_22, ↓rd0_len ty_l_22, ↓rv_lit ty_q_50, ↓rd3_lit ty_q_50, ↓rd4_lit ty_q_50, ↓rv_make ty_q_50, ↓rd3_make ty_q_50, ↓rd4_make ty_q_50, ↓rv_app ty_q_50, ↓rd3_app ty_q_50, go_sem, Nat.reduceBEq, Nat.reduceEqDiff, ↓reduceIte, reduceCtorEq, Int.reduceToNat, Nat.reduceLeDiff, Int.reduceLE, Int.reduceLT, Int.reducePow, Int.reduceNeg, Int.reduceAdd, Int.reduceSub, Nat.reduceAdd, Nat.reduceMul, Nat.reducePow, Nat.reduceLT] <;> rfl)
        | (with_reducible refine pv_exit ?_; simp only [↓reduceIte, Nat.reduceEqDiff])
        | (with_reducible refine pv_ret ?_; simp -implicitDefEqProofs only [retC, resD, oneD, coeDs_nil, coeDs_cons, coeD_agg, coeD_g, coeD_nil, coeD_own, coeCs_nil, coeCs_cons, coeC_g, coeC_nil, coeC_own, g0, g3, g4, true_and, ty_b_4, ↓ty_c_27, ty_c_27, ↓rv_slice ty_l_22, ↓rd0_slice ty_l_22, ↓rv_ixaddr ty_l_22, ↓rd0_ixaddr ty_l_22, ↓rv_len ty_l_22, ↓rd0_len ty_l_22, ↓rv_lit ty_q_50, ↓rd3_lit ty_q_50, ↓rd4_lit ty_q_50, ↓rv_make ty_q_50, ↓rd3_make ty_q_50, ↓rd4_make ty_q_50, ↓rv_app ty_q_50, ↓rd3_app ty_q_50, go_sem, Nat.reduceBEq, Nat.reduceEqDiff, ↓reduceIte, reduceCtorEq, Int.reduceToNat, Nat.reduceLeDiff, Int.reduceLE, Int.reduceLT, Int.reducePow, Int.reduceNeg, Int.reduceAdd, Int.reduceSub, Nat.reduceAdd, Nat.reduceMul, Nat.reducePow, Nat.reduceLT])
        | (with_reducible refine hK _ _ ?_; clear hK; try clear K)
        | (clear hK; with_reducible refine hK _ _ ?_; clear hK; try clear K)
        | (clear hK; clear hK; with_reducible refine hK _ _ ?_; clear hK; try clear K)
        | (simp -implicitDefEqProofs only [g0, g3, g4, true_and, ty_b_4, ↓ty_c_27, ty_c_27, ↓rv_slice ty_l_22, ↓rd0_slice ty_l_22, ↓rv_ixaddr ty_l_22, ↓rd0_ixaddr ty_l_22, ↓rv_len ty_l_22, ↓rd0_len ty_l_22, ↓rv_lit ty_q_50, ↓rd3_lit ty_q_50, ↓rd4_lit ty_q_50, ↓rv_make ty_q_50, ↓rd3_make ty_q_50, ↓rd4_make ty_q_50, ↓rv_app ty_q_50, ↓rd3_app ty_q_50, go_sem, Nat.reduceBEq, Nat.reduceEqDiff, ↓reduceIte, reduceCtorEq, Int.reduceToNat, Nat.reduceLeDiff, Int.reduceLE, Int.reduceLT, Int.reducePow, Int.reduceNeg, Int.reduceAdd, Int.reduceSub, Nat.reduceAdd, Nat.reduceMul, Nat.reducePow, Nat.reduceLT])
        | (with_reducible intro b)
        | (with_reducible refine And.intro ?_ ?_; · first | assumption | omega | (unfold R64; omega)))
    have hN := digs_len_eq two64 hx
    have hK2 := fin
    clear fin hK
    rcases Nat.eq_zero_or_pos xs.length with h0 | h0
    · obtain rfl : xs = [] := List.eq_nil_of_length_eq_zero h0
      repeat (first
        | (with_reducible refine pv_seq fun K hK => ?_)
        | (with_reducible refine pv_reg ?_; simp -implicitDefEqProofs only [comp_nil, comp_cons, compD_nil, compD_cons, gsl_none, gsl_some, List.getElem?_cons_zero, List.getElem?_cons_succ, Option.map_some, Option.bind_some, lapp_cons, lapp_nil])
        | (fail)
        | (with_reducible refine pv_skip ?_)
        | (with_reducible refine pv_block ?_)
        | (with_reducible refine pv_scope ?_)
        | (with_reducible refine pv_label ?_)
        | (with_reducible refine pv_condT ?_ ?_; · simp -implicitDefEqProofs only [true_and, ty_b_4, ↓ty_c_27, ty_c_27, ↓rv_slice ty_l_22, ↓rd0_slice ty_l_22, ↓rv_ixaddr ty_l_22, ↓rd0_ixaddr ty_l_22, ↓rv_len ty_l_22, ↓rd0_len ty_l_22, ↓rv_lit ty_q_50, ↓rd3_lit ty_q_50, ↓rd4_lit ty_q_50, ↓rv_make ty_q_50, ↓rd3_make ty_q_50, ↓rd4_make ty_q_50, ↓rv_app ty_q_50, ↓rd3_app ty_q_50, go_sem, Nat.reduceBEq, Nat.reduceEqDiff, ↓reduceIte, reduceCtorEq, Int.reduceToNat, Nat.reduceLeDiff, Int.reduceLE, Int.reduceLT, Int.reducePow, Int.reduceNeg, Int.reduceAdd, Int.reduceSub, Nat.reduceAdd, Nat.reduceMul, Nat.reducePow, Nat.reduceLT] <;> rfl)
        | (with_reducible refine pv_condF ?_ ?_; · simp -implicitDefEqProofs only [true_and, ty_b_4, ↓ty_c_27, ty_c_27, ↓rv_slice ty_l_22, ↓rd0_slice ty_l_22, ↓rv_ixaddr ty_l_22, ↓rd0_ixaddr ty_l_22, ↓rv_len ty_l_22, ↓rd0_len ty_l_22, ↓rv_lit ty_q_50, ↓rd3_lit ty_q_50, ↓rd4_lit ty_q_50, ↓rv_make ty_q_50, ↓rd3_make ty_q_50, ↓rd4_make ty_q_50, ↓rv_app ty_q_50, ↓rd3_app ty_q_50, go_sem, Nat.reduceBEq, Nat.reduceEqDiff, ↓reduceIte, reduceCtorEq, Int.reduceToNat, Nat.reduceLeDiff, Int.reduceLE, Int.reduceLT, Int.reducePow, Int.reduceNeg, Int.reduceAdd, Int.reduceSub, Nat.reduceAdd, Nat.reduceMul, Nat.reducePow, Nat.reduceLT] <;> rfl)
        | (with_reducible refine pv_exit ?_; simp only [↓reduceIte, Nat.reduceEqDiff])
        | (with_reducible refine pv_ret ?_; simp -implicitDefEqProofs only [retC, resD, oneD, coeDs_nil, coeDs_cons, coeD_agg, coeD_g, coeD_nil, coeD_own, coeCs_nil, coeCs_cons, coeC_g, coeC_nil, coeC_own, true_and, ty_b_4, ↓ty_c_27, ty_c_27, ↓rv_slice ty_l_22, ↓rd0_slice ty_l_22, ↓rv_ixaddr ty_l_22, ↓rd0_ixaddr ty_l_22, ↓rv_len ty_l_22, ↓rd0_len ty_l_22, ↓rv_lit ty_q_50, ↓rd3_lit ty_q_50, ↓rd4_lit ty_q_50, ↓rv_make ty_q_50, ↓rd3_make ty_q_50, ↓rd4_make ty_q_50, ↓rv_app ty_q_50, ↓rd3_app ty_q_50, go_sem, Nat.reduceBEq, Nat.reduceEqDiff, ↓reduceIte, reduceCtorEq, Int.reduceToNat, Nat.reduceLeDiff, Int.reduceLE, Int.reduceLT, Int.reducePow, Int.reduceNeg, Int.reduceAdd, Int.reduceSub, Nat.reduceAdd, Nat.reduceMul, Nat.reducePow, Nat.reduceLT])
        | (with_reducible refine hK _ _ ?_; clear hK; try clear K)
        | (clear hK; with_reducible refine hK _ _ ?_; clear hK; try clear K)
        | (clear hK; clear hK; with_reducible refine hK _ _ ?_; clear hK; try clear K)
        | (simp -implicitDefEqProofs only [true_and, ty_b_4, ↓ty_c_27, ty_c_27, ↓rv_slice ty_l_22, ↓rd0_slice ty_l_22, ↓rv_ixaddr ty_l_22, ↓rd0_ixaddr ty_l_22, ↓rv_len ty_l_22, ↓rd0_len ty_l_22, ↓rv_lit ty_q_50, ↓rd3_lit ty_q_50, ↓rd4_lit ty_q_50, ↓rv_make ty_q_50, ↓rd3_make ty_q_50, ↓rd4_make ty_q_50, ↓rv_app ty_q_50, ↓rd3_app ty_q_50, go_sem, Nat.reduceBEq, Nat.reduceEqDiff, ↓reduceIte, reduceCtorEq, Int.reduceToNat, Nat.reduceLeDiff, Int.reduceLE, Int.reduceLT, Int.reducePow, Int.reduceNeg, Int.reduceAdd, Int.reduceSub, Nat.reduceAdd, Nat.reduceMul, Nat.reducePow, Nat.reduceLT])
        | (with_reducible intro b)
        | (with_reducible refine And.intro ?_ ?_; · first | assumption | omega | (unfold R64; omega)))
      refine hK2 _ _ true (by simp -implicitDefEqProofs only [true_and, ty_b_4, ↓ty_c_27, ty_c_27, ↓rv_slice ty_l_22, ↓rd0_slice ty_l_22, ↓rv_ixaddr ty_l_22, ↓rd0_ixaddr ty_l_22, ↓rv_len ty_l_22, ↓rd0_len ty_l_22, ↓rv_lit ty_q_50, ↓rd3_lit ty_q_50, ↓rd4_lit ty_q_50, ↓rv_make ty_q_50, ↓rd3_make ty_q_50, ↓rd4_make ty_q_50, ↓rv_app ty_q_50, ↓rd3_app ty_q_50, go_sem, Nat.reduceBEq, Nat.reduceEqDiff, ↓reduceIte, reduceCtorEq, Int.reduceToNat, Nat.reduceLeDiff, Int.reduceLE, Int.reduceLT, Int.reducePow, Int.reduceNeg, Int.reduceAdd, Int.reduceSub, Nat.reduceAdd, Nat.reduceMul, Nat.reducePow, Nat.reduceLT]) (by simp -implicitDefEqProofs only [true_and, ty_b_4, ↓ty_c_27, ty_c_27, ↓rv_slice ty_l_22, ↓rd0_slice ty_l_22, ↓rv_ixaddr ty_l_22, ↓rd0_ixaddr ty_l_22, ↓rv_len ty_l_22, ↓rd0_len ty_l_22, ↓rv_lit ty_q_50, ↓rd3_lit ty_q_50, ↓rd4_lit ty_q_50, ↓rv_make ty_q_50, ↓rd3_make ty_q_50, ↓rd4_make ty_q_50, ↓rv_app ty_q_50, ↓rd3_app ty_q_50, go_sem, Nat.reduceBEq, Nat.reduceEqDiff, ↓reduceIte, reduceCtorEq, Int.reduceToNat, Nat.reduceLeDiff, Int.reduceLE, Int.reduceLT, Int.reducePow, Int.reduceNeg, Int.reduceAdd, Int.reduceSub, Nat.reduceAdd, Nat.reduceMul, Nat.reducePow, Nat.reduceLT]) (by simp -implicitDefEqProofs only [true_and, ty_b_4, ↓ty_c_27, ty_c_27, ↓rv_slice ty_l_22, ↓rd0_slice ty_l_22, ↓rv_ixaddr ty_l_22, ↓rd0_ixaddr ty_l_22, ↓rv_len ty_l_22, ↓rd0_len ty_l_22, ↓rv_lit ty_q_50, ↓rd3_lit ty_q_50, ↓rd4_lit ty_q_50, ↓rv_make ty_q_50, ↓rd3_make ty_q_50, ↓rd4_make ty_q_50, ↓rv_app ty_q_50, ↓rd3_app ty_q_50, go_sem, Nat.reduceBEq, Nat.reduceEqDiff, ↓reduceIte, reduceCtorEq, Int.reduceToNat, Nat.reduceLeDiff, Int.reduceLE, Int.reduceLT, Int.reducePow, Int.reduceNeg, Int.reduceAdd, Int.reduceSub, Nat.reduceAdd, Nat.reduceMul, Nat.reducePow, Nat.reduceLT]) ?_
      rw [show D64 (N64 []) = [] from digs_zero _]; rfl
    · obtain ⟨m, hm⟩ : ∃ m, xs.length = m + 1 := ⟨xs.length - 1, by omega⟩
      repeat (first
        | (with_reducible refine pv_seq fun K hK => ?_)
        | (with_reducible refine pv_reg ?_; simp -implicitDefEqProofs only [comp_nil, comp_cons, compD_nil, compD_cons, gsl_none, gsl_some, List.getElem?_cons_zero, List.getElem?_cons_succ, Option.map_some, Option.bind_some, lapp_cons, lapp_nil])
        | (fail)
        | (with_reducible refine pv_skip ?_)
        | (with_reducible refine pv_block ?_)
        | (with_reducible refine pv_scope ?_)
        | (with_reducible refine pv_label ?_)
        | (with_reducible refine pv_condT ?_ ?_; · simp -implicitDefEqProofs only [hm, true_and, ty_b_4, ↓ty_c_27, ty_c_27, ↓rv_slice ty_l_22, ↓rd0_slice ty_l_22, ↓rv_ixaddr ty_l_22, ↓rd0_ixaddr ty_l_22, ↓rv_len ty_l_22, ↓rd0_len ty_l_22, ↓rv_lit ty_q_50, ↓rd3_lit ty_q_50, ↓rd4_lit ty_q_50, ↓rv_make ty_q_50, ↓rd3_make ty_q_50, ↓rd4_make ty_q_50, ↓rv_app ty_q_50, ↓rd3_app ty_q_50, go_sem, Nat.reduceBEq, Nat.reduceEqDiff, ↓reduceIte, reduceCtorEq, Int.reduceToNat, Nat.reduceLeDiff, Int.reduceLE, Int.reduceLT, Int.reducePow, Int.reduceNeg, Int.reduceAdd, Int.reduceSub, Nat.reduceAdd, Nat.reduceMul, Nat.reducePow, Nat.reduceLT] <;> rfl)
        | (with_reducible refine pv_condF ?_ ?_; · simp -implicitDefEqProofs only [hm, true_and, ty_b_4, ↓ty_c_27, ty_c_27, ↓rv_slice ty_l_22, ↓rd0_slice ty_l_22, ↓rv_ixaddr ty_l_22, ↓rd0_ixaddr ty_l_22, ↓rv_len ty_l_22, ↓rd0_len ty_l_22, ↓rv_lit ty_q_50, ↓rd3_lit ty_q_50, ↓rd4_lit ty_q_50, ↓rv_make ty_q_50, ↓rd3_make ty_q_50, ↓rd4_make ty_q_50, ↓rv_app ty_q_50, ↓rd3_app ty_q_50, go_sem, Nat.reduceBEq, Nat.reduceEqDiff, ↓reduceIte, reduceCtorEq, Int.reduceToNat, Nat.reduceLeDiff, Int.reduceLE, Int.reduceLT, Int.reducePow, Int.reduceNeg, Int.reduceAdd, Int.reduceSub, Nat.reduceAdd, Nat.reduceMul, Nat.reducePow, Nat.reduceLT] <;> rfl)
        | (with_reducible refine pv_exit ?_; simp only [↓reduceIte, Nat.reduceEqDiff])
        | (with_reducible refine pv_ret ?_; simp -implicitDefEqProofs only [retC, resD, oneD, coeDs_nil, coeDs_cons, coeD_agg, coeD_g, coeD_nil, coeD_own, coeCs_nil, coeCs_cons, coeC_g, coeC_nil, coeC_own, hm, true_and, ty_b_4, ↓ty_c_27, ty_c_27, ↓rv_slice ty_l_22, ↓rd0_slice ty_l_22, ↓rv_ixaddr ty_l_22, ↓rd0_ixaddr ty_l_22, ↓rv_len ty_l_22, ↓rd0_len ty_l_22, ↓rv_lit ty_q_50, ↓rd3_lit ty_q_50, ↓rd4_lit ty_q_50, ↓rv_make ty_q_50, ↓rd3_make ty_q_50, ↓rd4_make ty_q_50, ↓rv_app ty_q_50, ↓rd3_app ty_q_50, go_sem, Nat.reduceBEq, Nat.reduceEqDiff, ↓reduceIte, reduceCtorEq, Int.reduceToNat, Nat.reduceLeDiff, Int.reduceLE, Int.reduceLT, Int.reducePow, Int.reduceNeg, Int.reduceAdd, Int.reduceSub, Nat.reduceAdd, Nat.reduceMul, Nat.reducePow, Nat.reduceLT])
        | (with_reducible refine hK _ _ ?_; clear hK; try clear K)
        | (clear hK; with_reducible refine hK _ _ ?_; clear hK; try clear K)
        | (clear hK; clear hK; with_reducible refine hK _ _ ?_; clear hK; try clear K)
        | (simp -implicitDefEqProofs only [hm, true_and, ty_b_4, ↓ty_c_27, ty_c_27, ↓rv_slice ty_l_22, ↓rd0_slice ty_l_22, ↓rv_ixaddr ty_l_22, ↓rd0_ixaddr ty_l_22, ↓rv_len ty_l_22, ↓rd0_len ty_l_22, ↓rv_lit ty_q_50, ↓rd3_lit ty_q_50, ↓rd4_lit ty_q_50, ↓rv_make ty_q_50, ↓rd3_make ty_q_50, ↓rd4_make ty_q_50, ↓rv_app ty_q_50, ↓rd3_app ty_q_50, go_sem, Nat.reduceBEq, Nat.reduceEqDiff, ↓reduceIte, reduceCtorEq, Int.reduceToNat, Nat.reduceLeDiff, Int.reduceLE, Int.reduceLT, Int.reducePow, Int.reduceNeg, Int.reduceAdd, Int.reduceSub, Nat.reduceAdd, Nat.reduceMul, Nat.reducePow, Nat.reduceLT])
        | (with_reducible intro b)
        | (with_reducible refine And.intro ?_ ?_; · first | assumption | omega | (unfold R64; omega)))
      refine hK2 _ _ (decide (¬ xs.getD m 0 = 0)) (by simp -implicitDefEqProofs only [hm, true_and, ty_b_4, ↓ty_c_27, ty_c_27, ↓rv_slice ty_l_22, ↓rd0_slice ty_l_22, ↓rv_ixaddr ty_l_22, ↓rd0_ixaddr ty_l_22, ↓rv_len ty_l_22, ↓rd0_len ty_l_22, ↓rv_lit ty_q_50, ↓rd3_lit ty_q_50, ↓rd4_lit ty_q_50, ↓rv_make ty_q_50, ↓rd3_make ty_q_50, ↓rd4_make ty_q_50, ↓rv_app ty_q_50, ↓rd3_app ty_q_50, go_sem, Nat.reduceBEq, Nat.reduceEqDiff, ↓reduceIte, reduceCtorEq, Int.reduceToNat, Nat.reduceLeDiff, Int.reduceLE, Int.reduceLT, Int.reducePow, Int.reduceNeg, Int.reduceAdd, Int.reduceSub, Nat.reduceAdd, Nat.reduceMul, Nat.reducePow, Nat.reduceLT]) (by simp -implicitDefEqProofs only [hm, true_and, ty_b_4, ↓ty_c_27, ty_c_27, ↓rv_slice ty_l_22, ↓rd0_slice ty_l_22, ↓rv_ixaddr ty_l_22, ↓rd0_ixaddr ty_l_22, ↓rv_len ty_l_22, ↓rd0_len ty_l_22, ↓rv_lit ty_q_50, ↓rd3_lit ty_q_50, ↓rd4_lit ty_q_50, ↓rv_make ty_q_50, ↓rd3_make ty_q_50, ↓rd4_make ty_q_50, ↓rv_app ty_q_50, ↓rd3_app ty_q_50, go_sem, Nat.reduceBEq, Nat.reduceEqDiff, ↓reduceIte, reduceCtorEq, Int.reduceToNat, Nat.reduceLeDiff, Int.reduceLE, Int.reduceLT, Int.reducePow, Int.reduceNeg, Int.reduceAdd, Int.reduceSub, Nat.reduceAdd, Nat.reduceMul, Nat.reducePow, Nat.reduceLT]) (by simp -implicitDefEqProofs only [hm, true_and, ty_b_4, ↓ty_c_27, ty_c_27, ↓rv_slice ty_l_22, ↓rd0_slice ty_l_22, ↓rv_ixaddr ty_l_22, ↓rd0_ixaddr ty_l_22, ↓rv_len ty_l_22, ↓rd0_len ty_l_22, ↓rv_lit ty_q_50, ↓rd3_lit ty_q_50, ↓rd4_lit ty_q_50, ↓rv_make ty_q_50, ↓rd3_make ty_q_50, ↓rd4_make ty_q_50, ↓rv_app ty_q_50, ↓rd3_app ty_q_50, go_sem, Nat.reduceBEq, Nat.reduceEqDiff, ↓reduceIte, reduceCtorEq, Int.reduceToNat, Nat.reduceLeDiff, Int.reduceLE, Int.reduceLT, Int.reducePow, Int.reduceNeg, Int.reduceAdd, Int.reduceSub, Nat.reduceAdd, Nat.reduceMul, Nat.reducePow, Nat.reduceLT]) ?_
      rw [decide_eq_decide]
      refine Iff.trans ?_ hN.symm
      have hlast : xs.getLast? = some (xs.getD m 0) := by
        rw [List.getLast?_eq_getElem?, hm, Nat.add_sub_cancel]
        exact getD_some (by omega)
      unfold NoTail
      rw [hlast]
      constructor
      · intro h x hx; injection hx with hx; subst hx; exact h
      · intro h; exact h _ rfl
  · have hf : decide (∀ ys ∈ [xs], ys.length ≤ 40) = false := by simpa using hl
    rw [hf]
    repeat (first
      | (with_reducible refine pv_seq fun K hK => ?_)
      | (with_reducible refine pv_reg ?_; simp -implicitDefEqProofs only [comp_nil, comp_cons, compD_nil, compD_cons, gsl_none, gsl_some, List.getElem?_cons_zero, List.getElem?_cons_succ, Option.map_some, Option.bind_some, lapp_cons, lapp_nil])
      | (fail)
      | (with_reducible refine pv_skip ?_)
      | (with_reducible refine pv_block ?_)
      | (with_reducible refine pv_scope ?_)
      | (with_reducible refine pv_label ?_)
      | (with_reducible refine pv_condT ?_ ?_; · simp -implicitDefEqProofs only [true_and, ty_b_4, ↓ty_c_27, ty_c_27, ↓rv_slice ty_l_22, ↓rd0_slice ty_l_22, ↓rv_ixaddr ty_l_22, ↓rd0_ixaddr ty_l_22, ↓rv_len ty_l_22, ↓rd0_len ty_l_22, ↓rv_lit ty_q_50, ↓rd3_lit ty_q_50, ↓rd4_lit ty_q_50, ↓rv_make ty_q_50, ↓rd3_make ty_q_50, ↓rd4_make ty_q_50, ↓rv_app ty_q_50, ↓rd3_app ty_q_50, go_sem, Nat.reduceBEq, Nat.reduceEqDiff, ↓reduceIte, reduceCtorEq, Int.reduceToNat, Nat.reduceLeDiff, Int.reduceLE, Int.reduceLT, Int.reducePow, Int.reduceNeg, Int.reduceAdd, Int.reduceSub, Nat.reduceAdd, Nat.reduceMul, Nat.reducePow, Nat.reduceLT] <;> rfl)
      | (with_reducible refine pv_condF ?_ ?_; · simp -implicitDefEqProofs only [true_and, ty_b_4, ↓ty_c_27, ty_c_27, ↓rv_slice ty_l_22, ↓rd0_slice ty_l_22, ↓rv_ixaddr ty_l_22, ↓rd0_ixaddr ty_l_22, ↓rv_len ty_l_22, ↓rd0_len ty_l_22, ↓rv_lit ty_q_50, ↓rd3_lit ty_q_50, ↓rd4_lit ty_q_50, ↓rv_make ty_q_50, ↓rd3_make ty_q_50, ↓rd4_make ty_q_50, ↓rv_app ty_q_50, ↓rd3_app ty_q_50, go_sem, Nat.reduceBEq, Nat.reduceEqDiff, ↓reduceIte, reduceCtorEq, Int.reduceToNat, Nat.reduceLeDiff, Int.reduceLE, Int.reduceLT, Int.reducePow, Int.reduceNeg, Int.reduceAdd, Int.reduceSub, Nat.reduceAdd, Nat.reduceMul, Nat.reducePow, Nat.reduceLT] <;> rfl)
      | (with_reducible refine pv_exit ?_; simp only [↓reduceIte, Nat.reduceEqDiff])
      | (with_reducible refine pv_ret ?_; simp -implicitDefEqProofs only [retC, resD, oneD, coeDs_nil, coeDs_cons, coeD_agg, coeD_g, coeD_nil, coeD_own, coeCs_nil, coeCs_cons, coeC_g, coeC_nil, coeC_own, true_and, ty_b_4, ↓ty_c_27, ty_c_27, ↓rv_slice ty_l_22, ↓rd0_slice ty_l_22, ↓rv_ixaddr ty_l_22, ↓rd0_ixaddr ty_l_22, ↓rv_len ty_l_22, ↓rd0_len ty_l_22, ↓rv_lit ty_q_50, ↓rd3_lit ty_q_50, ↓rd4_lit ty_q_50, ↓rv_make ty_q_50, ↓rd3_make ty_q_50, ↓rd4_make ty_q_50, ↓rv_app ty_q_50, ↓rd3_app ty_q_50, go_sem, Nat.reduceBEq, Nat.reduceEqDiff, ↓reduceIte, reduceCtorEq, Int.reduceToNat, Nat.reduceLeDiff, Int.reduceLE, Int.reduceLT, Int.reducePow, Int.reduceNeg, Int.reduceAdd, Int.reduceSub, Nat.reduceAdd, Nat.reduceMul, Nat.reducePow, Nat.reduceLT])
      | (with_reducible refine hK _ _ ?_; clear hK; try clear K)
      | (clear hK; with_reducible refine hK _ _ ?_; clear hK; try clear K)
      | (clear hK; clear hK; with_reducible refine hK _ _ ?_; clear hK; try clear K)
      | (simp -implicitDefEqProofs only [true_and, ty_b_4, ↓ty_c_27, ty_c_27, ↓rv_slice ty_l_22, ↓rd0_slice ty_l_22, ↓rv_ixaddr ty_l_22, ↓rd0_ixaddr ty_l_22, ↓rv_len ty_l_22, ↓rd0_len ty_l_22, ↓rv_lit ty_q_50, ↓rd3_lit ty_q_50, ↓rd4_lit ty_q_50, ↓rv_make ty_q_50, ↓rd3_make ty_q_50, ↓rd4_make ty_q_50, ↓rv_app ty_q_50, ↓rd3_app ty_q_50, go_sem, Nat.reduceBEq, Nat.reduceEqDiff, ↓reduceIte, reduceCtorEq, Int.reduceToNat, Nat.reduceLeDiff, Int.reduceLE, Int.reduceLT, Int.reducePow, Int.reduceNeg, Int.reduceAdd, Int.reduceSub, Nat.reduceAdd, Nat.reduceMul, Nat.reducePow, Nat.reduceLT])
      | (with_reducible intro b)
      | (with_reducible refine And.intro ?_ ?_; · first | assumption | omega | (unfold R64; omega)))

end Go.V

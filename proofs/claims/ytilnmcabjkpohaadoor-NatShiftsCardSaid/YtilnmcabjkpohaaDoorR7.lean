/- The document's numbers: by any power of two, over values as data. -/
import Derived.Test.YtilnmcabjkpohaaDoorR6
import Derived.Test.YtilnmcabjkpohaaDoorN8
set_option linter.unusedSimpArgs false
set_option linter.unusedVariables false
set_option maxRecDepth 100000
namespace Go.V
open Go Go.RowKit Go.Proofs

theorem p_rShift {A : List Nat} {n : Int} (hbA : B32 A) (hlA : A.length ≤ 1099511627776) : PC Tryd.prog 32 [W32 A, i64 n] fun d => d = W32 (D32 (shiftN (N32 A) n)) := by
  obtain ⟨m1, hm1⟩ : ∃ m, (if n < -262144 then -262144 else n) = m := ⟨_, rfl⟩
  obtain ⟨m, hm2⟩ : ∃ m, (if 262144 < m1 then 262144 else m1) = m := ⟨_, rfl⟩
  have hm : m = min (max n (-262144)) 262144 := by rw [← hm2, ← hm1]; split <;> split <;> omega
  rcases Int.lt_or_le m 0 with h0 | h0
  · obtain ⟨k, hk⟩ : ∃ k : Nat, m = -(k : Int) := ⟨(-m).toNat, by omega⟩
    have hk2 : shiftN (N32 A) n = N32 A / 2 ^ k := by
      unfold shiftN
      rw [if_pos (by omega), show min (-n).toNat 262144 = k by omega]
    rw [hk] at hm2
    have hneg : ¬ 0 ≤ -(k : Int) := by omega
    have hzk : (0 : Int) - -(k : Int) = (k : Int) := by omega
    refine PC.body (args := [W32 A, i64 n]) (rs := [.tmp 4]) mixed Tryd.func32 rfl (by kernel_rfl) (by kernel_rfl) (Nat.le_of_ble_eq_true rfl) rfl ?_
    repeat (first
      | (with_reducible refine pv_seq fun K hK => ?_)
      | (with_reducible refine pv_reg ?_; simp -implicitDefEqProofs only [comp_nil, comp_cons, compD_nil, compD_cons, gsl_none, gsl_some, List.getElem?_cons_zero, List.getElem?_cons_succ, Option.map_some, Option.bind_some, lapp_cons, lapp_nil])
      | (fail)
      | (with_reducible refine pv_skip ?_)
      | (with_reducible refine pv_block ?_)
      | (with_reducible refine pv_scope ?_)
      | (with_reducible refine pv_label ?_)
      | (with_reducible refine pv_condT ?_ ?_; · simp -implicitDefEqProofs only [hm1, hm2, hneg, arith, hzk, true_and, go_sem, Nat.reduceBEq, Nat.reduceEqDiff, ↓reduceIte, reduceCtorEq, Int.reduceToNat, Nat.reduceLeDiff, Int.reduceLE, Int.reduceLT, Int.reducePow, Int.reduceNeg, Int.reduceAdd, Int.reduceSub, Nat.reduceAdd, Nat.reduceMul, Nat.reducePow, Nat.reduceLT] <;> rfl)
      | (with_reducible refine pv_condF ?_ ?_; · simp -implicitDefEqProofs only [hm1, hm2, hneg, arith, hzk, true_and, go_sem, Nat.reduceBEq, Nat.reduceEqDiff, ↓reduceIte, reduceCtorEq, Int.reduceToNat, Nat.reduceLeDiff, Int.reduceLE, Int.reduceLT, Int.reducePow, Int.reduceNeg, Int.reduceAdd, Int.reduceSub, Nat.reduceAdd, Nat.reduceMul, Nat.reducePow, Nat.reduceLT] <;> rfl)
      | (with_reducible refine pv_exit ?_; simp only [↓reduceIte, Nat.reduceEqDiff])
      | (with_reducible refine pv_ret ?_; simp -implicitDefEqProofs only [retC, resD, oneD, coeDs_nil, coeDs_cons, coeD_agg, coeD_g, coeD_nil, coeD_own, coeCs_nil, coeCs_cons, coeC_g, coeC_nil, coeC_own, hm1, hm2, hneg, arith, hzk, true_and, go_sem, Nat.reduceBEq, Nat.reduceEqDiff, ↓reduceIte, reduceCtorEq, Int.reduceToNat, Nat.reduceLeDiff, Int.reduceLE, Int.reduceLT, Int.reducePow, Int.reduceNeg, Int.reduceAdd, Int.reduceSub, Nat.reduceAdd, Nat.reduceMul, Nat.reducePow, Nat.reduceLT])
      | (with_reducible refine hK _ _ ?_; clear hK; try clear K)
      | (clear hK; with_reducible refine hK _ _ ?_; clear hK; try clear K)
      | (clear hK; clear hK; with_reducible refine hK _ _ ?_; clear hK; try clear K)
      | (simp -implicitDefEqProofs only [hm1, hm2, hneg, arith, hzk, true_and, go_sem, Nat.reduceBEq, Nat.reduceEqDiff, ↓reduceIte, reduceCtorEq, Int.reduceToNat, Nat.reduceLeDiff, Int.reduceLE, Int.reduceLT, Int.reducePow, Int.reduceNeg, Int.reduceAdd, Int.reduceSub, Nat.reduceAdd, Nat.reduceMul, Nat.reducePow, Nat.reduceLT])
      | (with_reducible intro b)
      | (with_reducible refine And.intro ?_ ?_; · first | assumption | omega | (unfold R64; omega)))
    refine call_pc (p_rDown (n := k) hbA hlA (by omega)) fun d hd => ?_
    obtain ⟨b, rfl⟩ := hd
    rw [← hk2]
    repeat (first
      | (with_reducible refine pv_seq fun K hK => ?_)
      | (with_reducible refine pv_reg ?_; simp -implicitDefEqProofs only [comp_nil, comp_cons, compD_nil, compD_cons, gsl_none, gsl_some, List.getElem?_cons_zero, List.getElem?_cons_succ, Option.map_some, Option.bind_some, lapp_cons, lapp_nil])
      | (fail)
      | (with_reducible refine pv_skip ?_)
      | (with_reducible refine pv_block ?_)
      | (with_reducible refine pv_scope ?_)
      | (with_reducible refine pv_label ?_)
      | (with_reducible refine pv_condT ?_ ?_; · simp -implicitDefEqProofs only [hm1, hm2, hneg, arith, hzk, true_and, go_sem, Nat.reduceBEq, Nat.reduceEqDiff, ↓reduceIte, reduceCtorEq, Int.reduceToNat, Nat.reduceLeDiff, Int.reduceLE, Int.reduceLT, Int.reducePow, Int.reduceNeg, Int.reduceAdd, Int.reduceSub, Nat.reduceAdd, Nat.reduceMul, Nat.reducePow, Nat.reduceLT] <;> rfl)
      | (with_reducible refine pv_condF ?_ ?_; · simp -implicitDefEqProofs only [hm1, hm2, hneg, arith, hzk, true_and, go_sem, Nat.reduceBEq, Nat.reduceEqDiff, ↓reduceIte, reduceCtorEq, Int.reduceToNat, Nat.reduceLeDiff, Int.reduceLE, Int.reduceLT, Int.reducePow, Int.reduceNeg, Int.reduceAdd, Int.reduceSub, Nat.reduceAdd, Nat.reduceMul, Nat.reducePow, Nat.reduceLT] <;> rfl)
      | (with_reducible refine pv_exit ?_; simp only [↓reduceIte, Nat.reduceEqDiff])
      | (with_reducible refine pv_ret ?_; simp -implicitDefEqProofs only [retC, resD, oneD, coeDs_nil, coeDs_cons, coeD_agg, coeD_g, coeD_nil, coeD_own, coeCs_nil, coeCs_cons, coeC_g, coeC_nil, coeC_own, hm1, hm2, hneg, arith, hzk, true_and, go_sem, Nat.reduceBEq, Nat.reduceEqDiff, ↓reduceIte, reduceCtorEq, Int.reduceToNat, Nat.reduceLeDiff, Int.reduceLE, Int.reduceLT, Int.reducePow, Int.reduceNeg, Int.reduceAdd, Int.reduceSub, Nat.reduceAdd, Nat.reduceMul, Nat.reducePow, Nat.reduceLT])
      | (with_reducible refine hK _ _ ?_; clear hK; try clear K)
      | (clear hK; with_reducible refine hK _ _ ?_; clear hK; try clear K)
      | (clear hK; clear hK; with_reducible refine hK _ _ ?_; clear hK; try clear K)
      | (simp -implicitDefEqProofs only [hm1, hm2, hneg, arith, hzk, true_and, go_sem, Nat.reduceBEq, Nat.reduceEqDiff, ↓reduceIte, reduceCtorEq, Int.reduceToNat, Nat.reduceLeDiff, Int.reduceLE, Int.reduceLT, Int.reducePow, Int.reduceNeg, Int.reduceAdd, Int.reduceSub, Nat.reduceAdd, Nat.reduceMul, Nat.reducePow, Nat.reduceLT])
      | (with_reducible intro b)
      | (with_reducible refine And.intro ?_ ?_; · first | assumption | omega | (unfold R64; omega)))
  · obtain ⟨k, hk⟩ : ∃ k : Nat, m = (k : Int) := ⟨m.toNat, by omega⟩
    have hk2 : shiftN (N32 A) n = N32 A * 2 ^ k := by
      unfold shiftN
      rw [if_neg (by omega), show min n.toNat 262144 = k by omega]
    rw [hk] at hm2
    refine PC.body (args := [W32 A, i64 n]) (rs := [.tmp 4]) mixed Tryd.func32 rfl (by kernel_rfl) (by kernel_rfl) (Nat.le_of_ble_eq_true rfl) rfl ?_
    repeat (first
      | (with_reducible refine pv_seq fun K hK => ?_)
      | (with_reducible refine pv_reg ?_; simp -implicitDefEqProofs only [comp_nil, comp_cons, compD_nil, compD_cons, gsl_none, gsl_some, List.getElem?_cons_zero, List.getElem?_cons_succ, Option.map_some, Option.bind_some, lapp_cons, lapp_nil])
      | (fail)
      | (with_reducible refine pv_skip ?_)
      | (with_reducible refine pv_block ?_)
      | (with_reducible refine pv_scope ?_)
      | (with_reducible refine pv_label ?_)
      | (with_reducible refine pv_condT ?_ ?_; · simp -implicitDefEqProofs only [hm1, hm2, true_and, go_sem, Nat.reduceBEq, Nat.reduceEqDiff, ↓reduceIte, reduceCtorEq, Int.reduceToNat, Nat.reduceLeDiff, Int.reduceLE, Int.reduceLT, Int.reducePow, Int.reduceNeg, Int.reduceAdd, Int.reduceSub, Nat.reduceAdd, Nat.reduceMul, Nat.reducePow, Nat.reduceLT] <;> rfl)
      | (with_reducible refine pv_condF ?_ ?_; · simp -implicitDefEqProofs only [hm1, hm2, true_and, go_sem, Nat.reduceBEq, Nat.reduceEqDiff, ↓reduceIte, reduceCtorEq, Int.reduceToNat, Nat.reduceLeDiff, Int.reduceLE, Int.reduceLT, Int.reducePow, Int.reduceNeg, Int.reduceAdd, Int.reduceSub, Nat.reduceAdd, Nat.reduceMul, Nat.reducePow, Nat.reduceLT] <;> rfl)
      | (with_reducible refine pv_exit ?_; simp only [↓reduceIte, Nat.reduceEqDiff])
      | (with_reducible refine pv_ret ?_; simp -implicitDefEqProofs only [retC, resD, oneD, coeDs_nil, coeDs_cons, coeD_agg, coeD_g, coeD_nil, coeD_own, coeCs_nil, coeCs_cons, coeC_g, coeC_nil, coeC_own, hm1, hm2, true_and, go_sem, Nat.reduceBEq, Nat.reduceEqDiff, ↓reduceIte, reduceCtorEq, Int.reduceToNat, Nat.reduceLeDiff, Int.reduceLE, Int.reduceLT, Int.reducePow, Int.reduceNeg, Int.reduceAdd, Int.reduceSub, Nat.reduceAdd, Nat.reduceMul, Nat.reducePow, Nat.reduceLT])
      | (with_reducible refine hK _ _ ?_; clear hK; try clear K)
      | (clear hK; with_reducible refine hK _ _ ?_; clear hK; try clear K)
      | (clear hK; clear hK; with_reducible refine hK _ _ ?_; clear hK; try clear K)
      | (simp -implicitDefEqProofs only [hm1, hm2, true_and, go_sem, Nat.reduceBEq, Nat.reduceEqDiff, ↓reduceIte, reduceCtorEq, Int.reduceToNat, Nat.reduceLeDiff, Int.reduceLE, Int.reduceLT, Int.reducePow, Int.reduceNeg, Int.reduceAdd, Int.reduceSub, Nat.reduceAdd, Nat.reduceMul, Nat.reducePow, Nat.reduceLT])
      | (with_reducible intro b)
      | (with_reducible refine And.intro ?_ ?_; · first | assumption | omega | (unfold R64; omega)))
    refine call_is (p_rLeft (n := k) hbA hlA (by omega)) ?_
    rw [← hk2]
    repeat (first
      | (with_reducible refine pv_seq fun K hK => ?_)
      | (with_reducible refine pv_reg ?_; simp -implicitDefEqProofs only [comp_nil, comp_cons, compD_nil, compD_cons, gsl_none, gsl_some, List.getElem?_cons_zero, List.getElem?_cons_succ, Option.map_some, Option.bind_some, lapp_cons, lapp_nil])
      | (fail)
      | (with_reducible refine pv_skip ?_)
      | (with_reducible refine pv_block ?_)
      | (with_reducible refine pv_scope ?_)
      | (with_reducible refine pv_label ?_)
      | (with_reducible refine pv_condT ?_ ?_; · simp -implicitDefEqProofs only [hm1, hm2, true_and, go_sem, Nat.reduceBEq, Nat.reduceEqDiff, ↓reduceIte, reduceCtorEq, Int.reduceToNat, Nat.reduceLeDiff, Int.reduceLE, Int.reduceLT, Int.reducePow, Int.reduceNeg, Int.reduceAdd, Int.reduceSub, Nat.reduceAdd, Nat.reduceMul, Nat.reducePow, Nat.reduceLT] <;> rfl)
      | (with_reducible refine pv_condF ?_ ?_; · simp -implicitDefEqProofs only [hm1, hm2, true_and, go_sem, Nat.reduceBEq, Nat.reduceEqDiff, ↓reduceIte, reduceCtorEq, Int.reduceToNat, Nat.reduceLeDiff, Int.reduceLE, Int.reduceLT, Int.reducePow, Int.reduceNeg, Int.reduceAdd, Int.reduceSub, Nat.reduceAdd, Nat.reduceMul, Nat.reducePow, Nat.reduceLT] <;> rfl)
      | (with_reducible refine pv_exit ?_; simp only [↓reduceIte, Nat.reduceEqDiff])
      | (with_reducible refine pv_ret ?_; simp -implicitDefEqProofs only [retC, resD, oneD, coeDs_nil, coeDs_cons, coeD_agg, coeD_g, coeD_nil, coeD_own, coeCs_nil, coeCs_cons, coeC_g, coeC_nil, coeC_own, hm1, hm2, true_and, go_sem, Nat.reduceBEq, Nat.reduceEqDiff, ↓reduceIte, reduceCtorEq, Int.reduceToNat, Nat.reduceLeDiff, Int.reduceLE, Int.reduceLT, Int.reducePow, Int.reduceNeg, Int.reduceAdd, Int.reduceSub, Nat.reduceAdd, Nat.reduceMul, Nat.reducePow, Nat.reduceLT])
      | (with_reducible refine hK _ _ ?_; clear hK; try clear K)
      | (clear hK; with_reducible refine hK _ _ ?_; clear hK; try clear K)
      | (clear hK; clear hK; with_reducible refine hK _ _ ?_; clear hK; try clear K)
      | (simp -implicitDefEqProofs only [hm1, hm2, true_and, go_sem, Nat.reduceBEq, Nat.reduceEqDiff, ↓reduceIte, reduceCtorEq, Int.reduceToNat, Nat.reduceLeDiff, Int.reduceLE, Int.reduceLT, Int.reducePow, Int.reduceNeg, Int.reduceAdd, Int.reduceSub, Nat.reduceAdd, Nat.reduceMul, Nat.reducePow, Nat.reduceLT])
      | (with_reducible intro b)
      | (with_reducible refine And.intro ?_ ?_; · first | assumption | omega | (unfold R64; omega)))

end Go.V

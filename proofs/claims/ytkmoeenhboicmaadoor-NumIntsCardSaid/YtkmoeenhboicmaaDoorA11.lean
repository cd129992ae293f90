/- The statement NumInts of layer 2. -/
import Derived.Test.YtkmoeenhboicmaaDoorC6
set_option linter.unusedSimpArgs false
set_option linter.unusedVariables false
set_option maxRecDepth 100000
namespace Go.V
open Go Go.RowKit Go.Proofs

theorem dI_owp (n : Int) : dy (decide (n < 0)) n.natAbs 0 = .ofIntWithPrec n 0 := by
  unfold dy
  rw [show sg (decide (n < 0)) n.natAbs = n by
    unfold sg
    by_cases h : n < 0
    · rw [decide_eq_true h, if_pos rfl]; omega
    · rw [decide_eq_false h, if_neg (by decide)]; omega]
  rfl
theorem dI_cmp (m n : Int) : cmpD (dy (decide (m < 0)) m.natAbs 0) (dy (decide (n < 0)) n.natAbs 0) = if m < n then -1 else if n < m then 1 else 0 := by
  unfold cmpD
  simp only [dI_owp, owp_lt]
theorem dI_same (m n : Int) : decide (nuOf (dy (decide (m < 0)) m.natAbs 0) = nuOf (dy (decide (n < 0)) n.natAbs 0)) = decide (m = n) := by
  by_cases h : m = n
  · subst h; rw [decide_eq_true rfl, decide_eq_true rfl]
  · rw [decide_eq_false h, decide_eq_false]
    intro h2
    have := nuOf_inj h2
    rw [dI_owp, dI_owp, owp_inj] at this
    exact h this

theorem p_NumInts {m n : Int} (hm : (Lit.int .i64 m).wf = true) (hn : (Lit.int .i64 n).wf = true) : PC Tryd.prog 5 [i64 m, i64 n] fun d => d = bl true := by
  have rm : R64 m := by unfold R64; simp [Lit.wf, IntKind.min, IntKind.max, IntKind.signed, IntKind.bits] at hm; omega
  have rn : R64 n := by unfold R64; simp [Lit.wf, IntKind.min, IntKind.max, IntKind.signed, IntKind.bits] at hn; omega
  have om : OkD (dy (decide (m < 0)) m.natAbs 0) := OkD_word (by unfold R64 at rm; omega) (by decide) (by decide)
  have on : OkD (dy (decide (n < 0)) n.natAbs 0) := OkD_word (by unfold R64 at rn; omega) (by decide) (by decide)
  have lm : (nuOf (dy (decide (m < 0)) m.natAbs 0)).w.length ≤ 1099511627776 := by have := om.len; omega
  have wm : ∀ x ∈ (nuOf (dy (decide (m < 0)) m.natAbs 0)).w, x < 18446744073709551616 := by rw [nuOf_f]; exact digs_lt (by decide) _
  have wn : ∀ x ∈ (nuOf (dy (decide (n < 0)) n.natAbs 0)).w, x < 18446744073709551616 := by rw [nuOf_f]; exact digs_lt (by decide) _
  have r1 : rightB (nuOf (dy (decide (m < 0)) m.natAbs 0)) = true := by rw [rightB_nuOf, decide_eq_true om]
  have r2 : rightB (nuOf (dy (decide (n < 0)) n.natAbs 0)) = true := by rw [rightB_nuOf, decide_eq_true on]
  have pA := p_nInt rm
  have pB := p_nInt rn
  have qA := p_rWhole rm
  have qN := p_rNum om.bd (by decide)
  rw [numR_ok om] at qN
  have pS : PC Tryd.prog 17 [NU (nuOf (dy (decide (m < 0)) m.natAbs 0)), NU (nuOf (dy (decide (m < 0)) m.natAbs 0))] fun d => d = bl true := (p_rSame lm).mono fun d hd => hd.trans (by rw [decide_eq_true rfl])
  have pC := p_nCmp (right_sz wm r1).wl (right_sz wn r2).wl (by decide)
  rw [r1, r2, if_pos (by rfl), val_nuOf, val_nuOf, dI_cmp] at pC
  have pE := p_nSame (x := nuOf (dy (decide (m < 0)) m.natAbs 0)) (y := nuOf (dy (decide (n < 0)) n.natAbs 0)) lm
  rw [dI_same] at pE
  generalize hz : dy (decide (m < 0)) m.natAbs 0 = z at *
  generalize nuOf z = u at *
  generalize nuOf (dy (decide (n < 0)) n.natAbs 0) = v at *
  obtain ⟨s1, e1, w1⟩ := u
  obtain ⟨s2, e2, w2⟩ := v
  unfold VA at qA qN
  rcases Int.lt_trichotomy m n with h | h | h
  · rw [if_pos h] at pC
    rw [decide_eq_false (by omega)] at pE
    have k1 : (m < n) = True := eq_true h
    have k2 : (n < m) = False := eq_false (by omega)
    have k3 : (m = n) = False := eq_false (by omega)
    refine PC.body (args := [i64 m, i64 n]) (rs := [.tmp 4]) mixed Tryd.func5 rfl (by kernel_rfl) (by kernel_rfl) (Nat.le_of_ble_eq_true rfl) rfl ?_
    repeat (first | (with_reducible refine pv_seq fun K hK => ?_) | (with_reducible refine pv_reg ?_; simp -implicitDefEqProofs only [cmpB]) | (fail) | ((with_reducible first | refine hK _ _ ?_ | (clear hK; refine hK _ _ ?_) | (clear hK; clear hK; refine hK _ _ ?_)); clear hK; try clear K) | (simp -implicitDefEqProofs only [k1, k2, k3, true_and, go_sem, seval]) | (with_reducible intro b) | (with_reducible refine And.intro ?_ ?_; · first | assumption | omega | (unfold R64; omega)))
    refine call_is p_known2 ?_
    repeat (first | (with_reducible refine pv_seq fun K hK => ?_) | (with_reducible refine pv_reg ?_; simp -implicitDefEqProofs only [cmpB]) | (fail) | ((with_reducible first | refine hK _ _ ?_ | (clear hK; refine hK _ _ ?_) | (clear hK; clear hK; refine hK _ _ ?_)); clear hK; try clear K) | (simp -implicitDefEqProofs only [k1, k2, k3, true_and, go_sem, seval]) | (with_reducible intro b) | (with_reducible refine And.intro ?_ ?_; · first | assumption | omega | (unfold R64; omega)))
    refine call_is pA ?_
    repeat (first | (with_reducible refine pv_seq fun K hK => ?_) | (with_reducible refine pv_reg ?_; simp -implicitDefEqProofs only [cmpB]) | (fail) | ((with_reducible first | refine hK _ _ ?_ | (clear hK; refine hK _ _ ?_) | (clear hK; clear hK; refine hK _ _ ?_)); clear hK; try clear K) | (simp -implicitDefEqProofs only [k1, k2, k3, true_and, go_sem, seval]) | (with_reducible intro b) | (with_reducible refine And.intro ?_ ?_; · first | assumption | omega | (unfold R64; omega)))
    refine call_is pB ?_
    repeat (first | (with_reducible refine pv_seq fun K hK => ?_) | (with_reducible refine pv_reg ?_; simp -implicitDefEqProofs only [cmpB]) | (fail) | ((with_reducible first | refine hK _ _ ?_ | (clear hK; refine hK _ _ ?_) | (clear hK; clear hK; refine hK _ _ ?_)); clear hK; try clear K) | (simp -implicitDefEqProofs only [k1, k2, k3, true_and, go_sem, seval]) | (with_reducible intro b) | (with_reducible refine And.intro ?_ ?_; · first | assumption | omega | (unfold R64; omega)))
    refine call_is qA ?_
    repeat (first | (with_reducible refine pv_seq fun K hK => ?_) | (with_reducible refine pv_reg ?_; simp -implicitDefEqProofs only [cmpB]) | (fail) | ((with_reducible first | refine hK _ _ ?_ | (clear hK; refine hK _ _ ?_) | (clear hK; clear hK; refine hK _ _ ?_)); clear hK; try clear K) | (simp -implicitDefEqProofs only [k1, k2, k3, true_and, go_sem, seval]) | (with_reducible intro b) | (with_reducible refine And.intro ?_ ?_; · first | assumption | omega | (unfold R64; omega)))
    refine call_is qN ?_
    repeat (first | (with_reducible refine pv_seq fun K hK => ?_) | (with_reducible refine pv_reg ?_; simp -implicitDefEqProofs only [cmpB]) | (fail) | ((with_reducible first | refine hK _ _ ?_ | (clear hK; refine hK _ _ ?_) | (clear hK; clear hK; refine hK _ _ ?_)); clear hK; try clear K) | (simp -implicitDefEqProofs only [k1, k2, k3, true_and, go_sem, seval]) | (with_reducible intro b) | (with_reducible refine And.intro ?_ ?_; · first | assumption | omega | (unfold R64; omega)))
    refine call_is pS ?_
    repeat (first | (with_reducible refine pv_seq fun K hK => ?_) | (with_reducible refine pv_reg ?_; simp -implicitDefEqProofs only [cmpB]) | (fail) | ((with_reducible first | refine hK _ _ ?_ | (clear hK; refine hK _ _ ?_) | (clear hK; clear hK; refine hK _ _ ?_)); clear hK; try clear K) | (simp -implicitDefEqProofs only [k1, k2, k3, true_and, go_sem, seval]) | (with_reducible intro b) | (with_reducible refine And.intro ?_ ?_; · first | assumption | omega | (unfold R64; omega)))
    refine call_is pC ?_
    repeat (first | (with_reducible refine pv_seq fun K hK => ?_) | (with_reducible refine pv_reg ?_; simp -implicitDefEqProofs only [cmpB]) | (fail) | ((with_reducible first | refine hK _ _ ?_ | (clear hK; refine hK _ _ ?_) | (clear hK; clear hK; refine hK _ _ ?_)); clear hK; try clear K) | (simp -implicitDefEqProofs only [k1, k2, k3, true_and, go_sem, seval]) | (with_reducible intro b) | (with_reducible refine And.intro ?_ ?_; · first | assumption | omega | (unfold R64; omega)))
    refine call_is pE ?_
    repeat (first | (with_reducible refine pv_seq fun K hK => ?_) | (with_reducible refine pv_reg ?_; simp -implicitDefEqProofs only [cmpB]) | (fail) | ((with_reducible first | refine hK _ _ ?_ | (clear hK; refine hK _ _ ?_) | (clear hK; clear hK; refine hK _ _ ?_)); clear hK; try clear K) | (simp -implicitDefEqProofs only [k1, k2, k3, true_and, go_sem, seval]) | (with_reducible intro b) | (with_reducible refine And.intro ?_ ?_; · first | assumption | omega | (unfold R64; omega)))
    rfl
  · rw [if_neg (by omega), if_neg (by omega)] at pC
    rw [decide_eq_true h] at pE
    have k1 : (m < n) = False := eq_false (by omega)
    have k2 : (n < m) = False := eq_false (by omega)
    have k3 : (m = n) = True := eq_true h
    refine PC.body (args := [i64 m, i64 n]) (rs := [.tmp 4]) mixed Tryd.func5 rfl (by kernel_rfl) (by kernel_rfl) (Nat.le_of_ble_eq_true rfl) rfl ?_
    repeat (first | (with_reducible refine pv_seq fun K hK => ?_) | (with_reducible refine pv_reg ?_; simp -implicitDefEqProofs only [cmpB]) | (fail) | ((with_reducible first | refine hK _ _ ?_ | (clear hK; refine hK _ _ ?_) | (clear hK; clear hK; refine hK _ _ ?_)); clear hK; try clear K) | (simp -implicitDefEqProofs only [k1, k2, k3, true_and, go_sem, seval]) | (with_reducible intro b) | (with_reducible refine And.intro ?_ ?_; · first | assumption | omega | (unfold R64; omega)))
    refine call_is p_known2 ?_
    repeat (first | (with_reducible refine pv_seq fun K hK => ?_) | (with_reducible refine pv_reg ?_; simp -implicitDefEqProofs only [cmpB]) | (fail) | ((with_reducible first | refine hK _ _ ?_ | (clear hK; refine hK _ _ ?_) | (clear hK; clear hK; refine hK _ _ ?_)); clear hK; try clear K) | (simp -implicitDefEqProofs only [k1, k2, k3, true_and, go_sem, seval]) | (with_reducible intro b) | (with_reducible refine And.intro ?_ ?_; · first | assumption | omega | (unfold R64; omega)))
    refine call_is pA ?_
    repeat (first | (with_reducible refine pv_seq fun K hK => ?_) | (with_reducible refine pv_reg ?_; simp -implicitDefEqProofs only [cmpB]) | (fail) | ((with_reducible first | refine hK _ _ ?_ | (clear hK; refine hK _ _ ?_) | (clear hK; clear hK; refine hK _ _ ?_)); clear hK; try clear K) | (simp -implicitDefEqProofs only [k1, k2, k3, true_and, go_sem, seval]) | (with_reducible intro b) | (with_reducible refine And.intro ?_ ?_; · first | assumption | omega | (unfold R64; omega)))
    refine call_is pB ?_
    repeat (first | (with_reducible refine pv_seq fun K hK => ?_) | (with_reducible refine pv_reg ?_; simp -implicitDefEqProofs only [cmpB]) | (fail) | ((with_reducible first | refine hK _ _ ?_ | (clear hK; refine hK _ _ ?_) | (clear hK; clear hK; refine hK _ _ ?_)); clear hK; try clear K) | (simp -implicitDefEqProofs only [k1, k2, k3, true_and, go_sem, seval]) | (with_reducible intro b) | (with_reducible refine And.intro ?_ ?_; · first | assumption | omega | (unfold R64; omega)))
    refine call_is qA ?_
    repeat (first | (with_reducible refine pv_seq fun K hK => ?_) | (with_reducible refine pv_reg ?_; simp -implicitDefEqProofs only [cmpB]) | (fail) | ((with_reducible first | refine hK _ _ ?_ | (clear hK; refine hK _ _ ?_) | (clear hK; clear hK; refine hK _ _ ?_)); clear hK; try clear K) | (simp -implicitDefEqProofs only [k1, k2, k3, true_and, go_sem, seval]) | (with_reducible intro b) | (with_reducible refine And.intro ?_ ?_; · first | assumption | omega | (unfold R64; omega)))
    refine call_is qN ?_
    repeat (first | (with_reducible refine pv_seq fun K hK => ?_) | (with_reducible refine pv_reg ?_; simp -implicitDefEqProofs only [cmpB]) | (fail) | ((with_reducible first | refine hK _ _ ?_ | (clear hK; refine hK _ _ ?_) | (clear hK; clear hK; refine hK _ _ ?_)); clear hK; try clear K) | (simp -implicitDefEqProofs only [k1, k2, k3, true_and, go_sem, seval]) | (with_reducible intro b) | (with_reducible refine And.intro ?_ ?_; · first | assumption | omega | (unfold R64; omega)))
    refine call_is pS ?_
    repeat (first | (with_reducible refine pv_seq fun K hK => ?_) | (with_reducible refine pv_reg ?_; simp -implicitDefEqProofs only [cmpB]) | (fail) | ((with_reducible first | refine hK _ _ ?_ | (clear hK; refine hK _ _ ?_) | (clear hK; clear hK; refine hK _ _ ?_)); clear hK; try clear K) | (simp -implicitDefEqProofs only [k1, k2, k3, true_and, go_sem, seval]) | (with_reducible intro b) | (with_reducible refine And.intro ?_ ?_; · first | assumption | omega | (unfold R64; omega)))
    refine call_is pC ?_
    repeat (first | (with_reducible refine pv_seq fun K hK => ?_) | (with_reducible refine pv_reg ?_; simp -implicitDefEqProofs only [cmpB]) | (fail) | ((with_reducible first | refine hK _ _ ?_ | (clear hK; refine hK _ _ ?_) | (clear hK; clear hK; refine hK _ _ ?_)); clear hK; try clear K) | (simp -implicitDefEqProofs only [k1, k2, k3, true_and, go_sem, seval]) | (with_reducible intro b) | (with_reducible refine And.intro ?_ ?_; · first | assumption | omega | (unfold R64; omega)))
    refine call_is pE ?_
    repeat (first | (with_reducible refine pv_seq fun K hK => ?_) | (with_reducible refine pv_reg ?_; simp -implicitDefEqProofs only [cmpB]) | (fail) | ((with_reducible first | refine hK _ _ ?_ | (clear hK; refine hK _ _ ?_) | (clear hK; clear hK; refine hK _ _ ?_)); clear hK; try clear K) | (simp -implicitDefEqProofs only [k1, k2, k3, true_and, go_sem, seval]) | (with_reducible intro b) | (with_reducible refine And.intro ?_ ?_; · first | assumption | omega | (unfold R64; omega)))
    rfl
  · rw [if_neg (by omega), if_pos h] at pC
    rw [decide_eq_false (by omega)] at pE
    have k1 : (m < n) = False := eq_false (by omega)
    have k2 : (n < m) = True := eq_true h
    have k3 : (m = n) = False := eq_false (by omega)
    refine PC.body (args := [i64 m, i64 n]) (rs := [.tmp 4]) mixed Tryd.func5 rfl (by kernel_rfl) (by kernel_rfl) (Nat.le_of_ble_eq_true rfl) rfl ?_
    repeat (first | (with_reducible refine pv_seq fun K hK => ?_) | (with_reducible refine pv_reg ?_; simp -implicitDefEqProofs only [cmpB]) | (fail) | ((with_reducible first | refine hK _ _ ?_ | (clear hK; refine hK _ _ ?_) | (clear hK; clear hK; refine hK _ _ ?_)); clear hK; try clear K) | (simp -implicitDefEqProofs only [k1, k2, k3, true_and, go_sem, seval]) | (with_reducible intro b) | (with_reducible refine And.intro ?_ ?_; · first | assumption | omega | (unfold R64; omega)))
    refine call_is p_known2 ?_
    repeat (first | (with_reducible refine pv_seq fun K hK => ?_) | (with_reducible refine pv_reg ?_; simp -implicitDefEqProofs only [cmpB]) | (fail) | ((with_reducible first | refine hK _ _ ?_ | (clear hK; refine hK _ _ ?_) | (clear hK; clear hK; refine hK _ _ ?_)); clear hK; try clear K) | (simp -implicitDefEqProofs only [k1, k2, k3, true_and, go_sem, seval]) | (with_reducible intro b) | (with_reducible refine And.intro ?_ ?_; · first | assumption | omega | (unfold R64; omega)))
    refine call_is pA ?_
    repeat (first | (with_reducible refine pv_seq fun K hK => ?_) | (with_reducible refine pv_reg ?_; simp -implicitDefEqProofs only [cmpB]) | (fail) | ((with_reducible first | refine hK _ _ ?_ | (clear hK; refine hK _ _ ?_) | (clear hK; clear hK; refine hK _ _ ?_)); clear hK; try clear K) | (simp -implicitDefEqProofs only [k1, k2, k3, true_and, go_sem, seval]) | (with_reducible intro b) | (with_reducible refine And.intro ?_ ?_; · first | assumption | omega | (unfold R64; omega)))
    refine call_is pB ?_
    repeat (first | (with_reducible refine pv_seq fun K hK => ?_) | (with_reducible refine pv_reg ?_; simp -implicitDefEqProofs only [cmpB]) | (fail) | ((with_reducible first | refine hK _ _ ?_ | (clear hK; refine hK _ _ ?_) | (clear hK; clear hK; refine hK _ _ ?_)); clear hK; try clear K) | (simp -implicitDefEqProofs only [k1, k2, k3, true_and, go_sem, seval]) | (with_reducible intro b) | (with_reducible refine And.intro ?_ ?_; · first | assumption | omega | (unfold R64; omega)))
    refine call_is qA ?_
    repeat (first | (with_reducible refine pv_seq fun K hK => ?_) | (with_reducible refine pv_reg ?_; simp -implicitDefEqProofs only [cmpB]) | (fail) | ((with_reducible first | refine hK _ _ ?_ | (clear hK; refine hK _ _ ?_) | (clear hK; clear hK; refine hK _ _ ?_)); clear hK; try clear K) | (simp -implicitDefEqProofs only [k1, k2, k3, true_and, go_sem, seval]) | (with_reducible intro b) | (with_reducible refine And.intro ?_ ?_; · first | assumption | omega | (unfold R64; omega)))
    refine call_is qN ?_
    repeat (first | (with_reducible refine pv_seq fun K hK => ?_) | (with_reducible refine pv_reg ?_; simp -implicitDefEqProofs only [cmpB]) | (fail) | ((with_reducible first | refine hK _ _ ?_ | (clear hK; refine hK _ _ ?_) | (clear hK; clear hK; refine hK _ _ ?_)); clear hK; try clear K) | (simp -implicitDefEqProofs only [k1, k2, k3, true_and, go_sem, seval]) | (with_reducible intro b) | (with_reducible refine And.intro ?_ ?_; · first | assumption | omega | (unfold R64; omega)))
    refine call_is pS ?_
    repeat (first | (with_reducible refine pv_seq fun K hK => ?_) | (with_reducible refine pv_reg ?_; simp -implicitDefEqProofs only [cmpB]) | (fail) | ((with_reducible first | refine hK _ _ ?_ | (clear hK; refine hK _ _ ?_) | (clear hK; clear hK; refine hK _ _ ?_)); clear hK; try clear K) | (simp -implicitDefEqProofs only [k1, k2, k3, true_and, go_sem, seval]) | (with_reducible intro b) | (with_reducible refine And.intro ?_ ?_; · first | assumption | omega | (unfold R64; omega)))
    refine call_is pC ?_
    repeat (first | (with_reducible refine pv_seq fun K hK => ?_) | (with_reducible refine pv_reg ?_; simp -implicitDefEqProofs only [cmpB]) | (fail) | ((with_reducible first | refine hK _ _ ?_ | (clear hK; refine hK _ _ ?_) | (clear hK; clear hK; refine hK _ _ ?_)); clear hK; try clear K) | (simp -implicitDefEqProofs only [k1, k2, k3, true_and, go_sem, seval]) | (with_reducible intro b) | (with_reducible refine And.intro ?_ ?_; · first | assumption | omega | (unfold R64; omega)))
    refine call_is pE ?_
    repeat (first | (with_reducible refine pv_seq fun K hK => ?_) | (with_reducible refine pv_reg ?_; simp -implicitDefEqProofs only [cmpB]) | (fail) | ((with_reducible first | refine hK _ _ ?_ | (clear hK; refine hK _ _ ?_) | (clear hK; clear hK; refine hK _ _ ?_)); clear hK; try clear K) | (simp -implicitDefEqProofs only [k1, k2, k3, true_and, go_sem, seval]) | (with_reducible intro b) | (with_reducible refine And.intro ?_ ?_; · first | assumption | omega | (unfold R64; omega)))
    rfl

end Go.V

/- Numbers over values as data: package exact. -/
import Derived.Test.YtkmoeenhboicmaaDoorC1
import Derived.Test.YtkmoeenhboicmaaDoorDN3
set_option linter.unusedSimpArgs false
set_option linter.unusedVariables false
set_option maxRecDepth 100000
namespace Go.V
open Go Go.RowKit Go.Proofs

theorem cmpI_is {a b : Int} : cmpI a b = if a < b then -1 else if b < a then 1 else 0 := rfl

theorem p_isNaN64 {a : Int} : PC Tryd.prog 94 [i64 a] fun d => d = bl false := by
  refine PC.body (args := [i64 a]) (rs := [.tmp 2]) mixed Tryd.func94 rfl (by kernel_rfl) (by kernel_rfl) (Nat.le_of_ble_eq_true rfl) rfl ?_
  repeat (first | (with_reducible refine pv_seq fun K hK => ?_) | (with_reducible refine pv_reg ?_; simp -implicitDefEqProofs only [cmpB]) | (fail) | ((with_reducible first | refine hK _ _ ?_ | (clear hK; refine hK _ _ ?_) | (clear hK; clear hK; refine hK _ _ ?_)); clear hK; try clear K) | (simp -implicitDefEqProofs only [true_and, true_and, go_sem, seval]) | (with_reducible intro b) | (with_reducible refine And.intro ?_ ?_; · first | assumption | omega | (unfold R64; omega)))
theorem p_cmp64 {a b : Int} : PC Tryd.prog 82 [i64 a, i64 b] fun d => d = i64 (cmpI a b) := by
  refine PC.body (args := [i64 a, i64 b]) (rs := [.tmp 4]) mixed Tryd.func82 rfl (by kernel_rfl) (by kernel_rfl) (Nat.le_of_ble_eq_true rfl) rfl ?_
  repeat (first | (with_reducible refine pv_seq fun K hK => ?_) | (with_reducible refine pv_reg ?_; simp -implicitDefEqProofs only [cmpB]) | (fail) | ((with_reducible first | refine hK _ _ ?_ | (clear hK; refine hK _ _ ?_) | (clear hK; clear hK; refine hK _ _ ?_)); clear hK; try clear K) | (simp -implicitDefEqProofs only [true_and, true_and, go_sem, seval]) | (with_reducible intro b) | (with_reducible refine And.intro ?_ ?_; · first | assumption | omega | (unfold R64; omega)))
  refine call_is p_isNaN64 ?_
  repeat (first | (with_reducible refine pv_seq fun K hK => ?_) | (with_reducible refine pv_reg ?_; simp -implicitDefEqProofs only [cmpB]) | (fail) | ((with_reducible first | refine hK _ _ ?_ | (clear hK; refine hK _ _ ?_) | (clear hK; clear hK; refine hK _ _ ?_)); clear hK; try clear K) | (simp -implicitDefEqProofs only [true_and, true_and, go_sem, seval]) | (with_reducible intro b) | (with_reducible refine And.intro ?_ ?_; · first | assumption | omega | (unfold R64; omega)))
  refine call_is p_isNaN64 ?_
  repeat (first | (with_reducible refine pv_seq fun K hK => ?_) | (with_reducible refine pv_reg ?_; simp -implicitDefEqProofs only [cmpB]) | (fail) | ((with_reducible first | refine hK _ _ ?_ | (clear hK; refine hK _ _ ?_) | (clear hK; clear hK; refine hK _ _ ?_)); clear hK; try clear K) | (simp -implicitDefEqProofs only [true_and, true_and, go_sem, seval]) | (with_reducible intro b) | (with_reducible refine And.intro ?_ ?_; · first | assumption | omega | (unfold R64; omega)))
  refine pv_cdD (fun h1 => ?_) (fun h1 => ?_)
  · repeat (first | (with_reducible refine pv_seq fun K hK => ?_) | (with_reducible refine pv_reg ?_; simp -implicitDefEqProofs only [cmpB]) | (fail) | ((with_reducible first | refine hK _ _ ?_ | (clear hK; refine hK _ _ ?_) | (clear hK; clear hK; refine hK _ _ ?_)); clear hK; try clear K) | (simp -implicitDefEqProofs only [true_and, true_and, go_sem, seval]) | (with_reducible intro b) | (with_reducible refine And.intro ?_ ?_; · first | assumption | omega | (unfold R64; omega)))
    rw [cmpI, if_pos h1]
  · repeat (first | (with_reducible refine pv_seq fun K hK => ?_) | (with_reducible refine pv_reg ?_; simp -implicitDefEqProofs only [cmpB]) | (fail) | ((with_reducible first | refine hK _ _ ?_ | (clear hK; refine hK _ _ ?_) | (clear hK; clear hK; refine hK _ _ ?_)); clear hK; try clear K) | (simp -implicitDefEqProofs only [true_and, true_and, go_sem, seval]) | (with_reducible intro b) | (with_reducible refine And.intro ?_ ?_; · first | assumption | omega | (unfold R64; omega)))
    refine pv_cdD (fun h2 => ?_) (fun h2 => ?_)
    · repeat (first | (with_reducible refine pv_seq fun K hK => ?_) | (with_reducible refine pv_reg ?_; simp -implicitDefEqProofs only [cmpB]) | (fail) | ((with_reducible first | refine hK _ _ ?_ | (clear hK; refine hK _ _ ?_) | (clear hK; clear hK; refine hK _ _ ?_)); clear hK; try clear K) | (simp -implicitDefEqProofs only [true_and, true_and, go_sem, seval]) | (with_reducible intro b) | (with_reducible refine And.intro ?_ ?_; · first | assumption | omega | (unfold R64; omega)))
      rw [cmpI, if_neg h1, if_pos h2]
    · repeat (first | (with_reducible refine pv_seq fun K hK => ?_) | (with_reducible refine pv_reg ?_; simp -implicitDefEqProofs only [cmpB]) | (fail) | ((with_reducible first | refine hK _ _ ?_ | (clear hK; refine hK _ _ ?_) | (clear hK; clear hK; refine hK _ _ ?_)); clear hK; try clear K) | (simp -implicitDefEqProofs only [true_and, true_and, go_sem, seval]) | (with_reducible intro b) | (with_reducible refine And.intro ?_ ?_; · first | assumption | omega | (unfold R64; omega)))
      rw [cmpI, if_neg h1, if_neg h2]
theorem p_isNaNint {a : Int} : PC Tryd.prog 81 [i64 a] fun d => d = bl false := by
  refine PC.body (args := [i64 a]) (rs := [.tmp 2]) mixed Tryd.func81 rfl (by kernel_rfl) (by kernel_rfl) (Nat.le_of_ble_eq_true rfl) rfl ?_
  repeat (first | (with_reducible refine pv_seq fun K hK => ?_) | (with_reducible refine pv_reg ?_; simp -implicitDefEqProofs only [cmpB]) | (fail) | ((with_reducible first | refine hK _ _ ?_ | (clear hK; refine hK _ _ ?_) | (clear hK; clear hK; refine hK _ _ ?_)); clear hK; try clear K) | (simp -implicitDefEqProofs only [true_and, true_and, go_sem, seval]) | (with_reducible intro b) | (with_reducible refine And.intro ?_ ?_; · first | assumption | omega | (unfold R64; omega)))
theorem p_cmpint {a b : Int} : PC Tryd.prog 69 [i64 a, i64 b] fun d => d = i64 (cmpI a b) := by
  refine PC.body (args := [i64 a, i64 b]) (rs := [.tmp 4]) mixed Tryd.func69 rfl (by kernel_rfl) (by kernel_rfl) (Nat.le_of_ble_eq_true rfl) rfl ?_
  repeat (first | (with_reducible refine pv_seq fun K hK => ?_) | (with_reducible refine pv_reg ?_; simp -implicitDefEqProofs only [cmpB]) | (fail) | ((with_reducible first | refine hK _ _ ?_ | (clear hK; refine hK _ _ ?_) | (clear hK; clear hK; refine hK _ _ ?_)); clear hK; try clear K) | (simp -implicitDefEqProofs only [true_and, true_and, go_sem, seval]) | (with_reducible intro b) | (with_reducible refine And.intro ?_ ?_; · first | assumption | omega | (unfold R64; omega)))
  refine call_is p_isNaNint ?_
  repeat (first | (with_reducible refine pv_seq fun K hK => ?_) | (with_reducible refine pv_reg ?_; simp -implicitDefEqProofs only [cmpB]) | (fail) | ((with_reducible first | refine hK _ _ ?_ | (clear hK; refine hK _ _ ?_) | (clear hK; clear hK; refine hK _ _ ?_)); clear hK; try clear K) | (simp -implicitDefEqProofs only [true_and, true_and, go_sem, seval]) | (with_reducible intro b) | (with_reducible refine And.intro ?_ ?_; · first | assumption | omega | (unfold R64; omega)))
  refine call_is p_isNaNint ?_
  repeat (first | (with_reducible refine pv_seq fun K hK => ?_) | (with_reducible refine pv_reg ?_; simp -implicitDefEqProofs only [cmpB]) | (fail) | ((with_reducible first | refine hK _ _ ?_ | (clear hK; refine hK _ _ ?_) | (clear hK; clear hK; refine hK _ _ ?_)); clear hK; try clear K) | (simp -implicitDefEqProofs only [true_and, true_and, go_sem, seval]) | (with_reducible intro b) | (with_reducible refine And.intro ?_ ?_; · first | assumption | omega | (unfold R64; omega)))
  refine pv_cdD (fun h1 => ?_) (fun h1 => ?_)
  · repeat (first | (with_reducible refine pv_seq fun K hK => ?_) | (with_reducible refine pv_reg ?_; simp -implicitDefEqProofs only [cmpB]) | (fail) | ((with_reducible first | refine hK _ _ ?_ | (clear hK; refine hK _ _ ?_) | (clear hK; clear hK; refine hK _ _ ?_)); clear hK; try clear K) | (simp -implicitDefEqProofs only [true_and, true_and, go_sem, seval]) | (with_reducible intro b) | (with_reducible refine And.intro ?_ ?_; · first | assumption | omega | (unfold R64; omega)))
    rw [cmpI, if_pos h1]
  · repeat (first | (with_reducible refine pv_seq fun K hK => ?_) | (with_reducible refine pv_reg ?_; simp -implicitDefEqProofs only [cmpB]) | (fail) | ((with_reducible first | refine hK _ _ ?_ | (clear hK; refine hK _ _ ?_) | (clear hK; clear hK; refine hK _ _ ?_)); clear hK; try clear K) | (simp -implicitDefEqProofs only [true_and, true_and, go_sem, seval]) | (with_reducible intro b) | (with_reducible refine And.intro ?_ ?_; · first | assumption | omega | (unfold R64; omega)))
    refine pv_cdD (fun h2 => ?_) (fun h2 => ?_)
    · repeat (first | (with_reducible refine pv_seq fun K hK => ?_) | (with_reducible refine pv_reg ?_; simp -implicitDefEqProofs only [cmpB]) | (fail) | ((with_reducible first | refine hK _ _ ?_ | (clear hK; refine hK _ _ ?_) | (clear hK; clear hK; refine hK _ _ ?_)); clear hK; try clear K) | (simp -implicitDefEqProofs only [true_and, true_and, go_sem, seval]) | (with_reducible intro b) | (with_reducible refine And.intro ?_ ?_; · first | assumption | omega | (unfold R64; omega)))
      rw [cmpI, if_neg h1, if_pos h2]
    · repeat (first | (with_reducible refine pv_seq fun K hK => ?_) | (with_reducible refine pv_reg ?_; simp -implicitDefEqProofs only [cmpB]) | (fail) | ((with_reducible first | refine hK _ _ ?_ | (clear hK; refine hK _ _ ?_) | (clear hK; clear hK; refine hK _ _ ?_)); clear hK; try clear K) | (simp -implicitDefEqProofs only [true_and, true_and, go_sem, seval]) | (with_reducible intro b) | (with_reducible refine And.intro ?_ ?_; · first | assumption | omega | (unfold R64; omega)))
      rw [cmpI, if_neg h1, if_neg h2]

theorem p_eSign {k : Nat} {x : Nu} (h : Sz k x) (hk : k ≤ 1073741824) : PC Tryd.prog 52 [NU x] fun d => d = i64 (sgnD x.val) := by
  obtain ⟨neg, exp, w⟩ := x
  have hl := h.len
  have hb := h.b
  simp only at hl hb
  refine PC.body (args := [NU ⟨neg, exp, w⟩]) (rs := [.tmp 2]) mixed Tryd.func52 rfl (by kernel_rfl) (by kernel_rfl) (Nat.le_of_ble_eq_true rfl) rfl ?_
  unfold Nu.val
  rw [sgnD_dy]
  repeat (first | (with_reducible refine pv_seq fun K hK => ?_) | (with_reducible refine pv_reg ?_; simp -implicitDefEqProofs only [cmpB]) | (fail) | ((with_reducible first | refine hK _ _ ?_ | (clear hK; refine hK _ _ ?_) | (clear hK; clear hK; refine hK _ _ ?_)); clear hK; try clear K) | (simp -implicitDefEqProofs only [true_and, true_and, go_sem, seval]) | (with_reducible intro b) | (with_reducible refine And.intro ?_ ?_; · first | assumption | omega | (unfold R64; omega)))
  refine call_is (p_Bits hb (by omega)) ?_
  repeat (first | (with_reducible refine pv_seq fun K hK => ?_) | (with_reducible refine pv_reg ?_; simp -implicitDefEqProofs only [cmpB]) | (fail) | ((with_reducible first | refine hK _ _ ?_ | (clear hK; refine hK _ _ ?_) | (clear hK; clear hK; refine hK _ _ ?_)); clear hK; try clear K) | (simp -implicitDefEqProofs only [true_and, true_and, go_sem, seval]) | (with_reducible intro b) | (with_reducible refine And.intro ?_ ?_; · first | assumption | omega | (unfold R64; omega)))
  refine pv_cdD (fun h1 => ?_) (fun h1 => ?_)
  · have h0 : N64 w = 0 := by
      rcases Nat.eq_zero_or_pos (N64 w) with h0 | h0
      · exact h0
      · have := bitLen_pos (n := N64 w) (by omega); omega
    repeat (first | (with_reducible refine pv_seq fun K hK => ?_) | (with_reducible refine pv_reg ?_; simp -implicitDefEqProofs only [cmpB]) | (fail) | ((with_reducible first | refine hK _ _ ?_ | (clear hK; refine hK _ _ ?_) | (clear hK; clear hK; refine hK _ _ ?_)); clear hK; try clear K) | (simp -implicitDefEqProofs only [true_and, true_and, go_sem, seval]) | (with_reducible intro b) | (with_reducible refine And.intro ?_ ?_; · first | assumption | omega | (unfold R64; omega)))
    rw [if_pos h0]
  · have h0 : ¬ N64 w = 0 := fun h0 => h1 (by rw [h0]; rfl)
    cases neg
    · repeat (first | (with_reducible refine pv_seq fun K hK => ?_) | (with_reducible refine pv_reg ?_; simp -implicitDefEqProofs only [cmpB]) | (fail) | ((with_reducible first | refine hK _ _ ?_ | (clear hK; refine hK _ _ ?_) | (clear hK; clear hK; refine hK _ _ ?_)); clear hK; try clear K) | (simp -implicitDefEqProofs only [true_and, true_and, go_sem, seval]) | (with_reducible intro b) | (with_reducible refine And.intro ?_ ?_; · first | assumption | omega | (unfold R64; omega)))
      rw [if_neg h0]
    · repeat (first | (with_reducible refine pv_seq fun K hK => ?_) | (with_reducible refine pv_reg ?_; simp -implicitDefEqProofs only [cmpB]) | (fail) | ((with_reducible first | refine hK _ _ ?_ | (clear hK; refine hK _ _ ?_) | (clear hK; clear hK; refine hK _ _ ?_)); clear hK; try clear K) | (simp -implicitDefEqProofs only [true_and, true_and, go_sem, seval]) | (with_reducible intro b) | (with_reducible refine And.intro ?_ ?_; · first | assumption | omega | (unfold R64; omega)))
      rw [if_neg h0]

theorem p_eNeg {x : Nu} : PC Tryd.prog 76 [NU x] fun d => d = NU ⟨!x.neg, x.exp, x.w⟩ := by
  obtain ⟨neg, exp, w⟩ := x
  refine PC.body (args := [NU ⟨neg, exp, w⟩]) (rs := [.cell 2 24]) mixed Tryd.func76 rfl (by kernel_rfl) (by kernel_rfl) (Nat.le_of_ble_eq_true rfl) rfl ?_
  repeat (first | (with_reducible refine pv_seq fun K hK => ?_) | (with_reducible refine pv_reg ?_; simp -implicitDefEqProofs only [cmpB]) | (fail) | ((with_reducible first | refine hK _ _ ?_ | (clear hK; refine hK _ _ ?_) | (clear hK; clear hK; refine hK _ _ ?_)); clear hK; try clear K) | (simp -implicitDefEqProofs only [true_and, true_and, go_sem, seval]) | (with_reducible intro b) | (with_reducible refine And.intro ?_ ?_; · first | assumption | omega | (unfold R64; omega)))
theorem p_eAbs {x : Nu} : PC Tryd.prog 54 [NU x] fun d => d = NU ⟨false, x.exp, x.w⟩ := by
  obtain ⟨neg, exp, w⟩ := x
  refine PC.body (args := [NU ⟨neg, exp, w⟩]) (rs := [.cell 2 24]) mixed Tryd.func54 rfl (by kernel_rfl) (by kernel_rfl) (Nat.le_of_ble_eq_true rfl) rfl ?_
  repeat (first | (with_reducible refine pv_seq fun K hK => ?_) | (with_reducible refine pv_reg ?_; simp -implicitDefEqProofs only [cmpB]) | (fail) | ((with_reducible first | refine hK _ _ ?_ | (clear hK; refine hK _ _ ?_) | (clear hK; clear hK; refine hK _ _ ?_)); clear hK; try clear K) | (simp -implicitDefEqProofs only [true_and, true_and, go_sem, seval]) | (with_reducible intro b) | (with_reducible refine And.intro ?_ ?_; · first | assumption | omega | (unfold R64; omega)))

theorem p_eMul {k : Nat} {a b : Nu} (ha : Sz k a) (hb : Sz k b) (hk : k ≤ 268435456) : PC Tryd.prog 59 [NU a, NU b] fun d => ∃ z, d = NU z ∧ Sz (2 * k) z ∧ z.val = a.val * b.val := by
  obtain ⟨neg, exp, w⟩ := a
  obtain ⟨neg', exp', w'⟩ := b
  have l1 := ha.lo; have l2 := ha.hi; have l3 := hb.lo; have l4 := hb.hi
  have l5 := ha.len; have l6 := hb.len; have m1 := ha.lt; have m2 := hb.lt
  have hxb := ha.b; have hyb := hb.b
  simp only at l1 l2 l3 l4 l5 l6 m1 m2 hxb hyb
  have hz : Sz (2 * k) ⟨neg != neg', exp + exp', D64 (N64 w * N64 w')⟩ := by
    refine Sz.mk' ?_ (by omega) (by omega)
    rw [Nat.two_mul, Nat.pow_add]
    exact Nat.mul_lt_mul_of_lt_of_le m1 (Nat.le_of_lt m2) (Nat.pow_pos (by decide))
  have hv : (⟨neg != neg', exp + exp', D64 (N64 w * N64 w')⟩ : Nu).val = Nu.val ⟨neg, exp, w⟩ * Nu.val ⟨neg', exp', w'⟩ := by
    rw [val_mk]; exact (dy_mul _ _ _ _ _ _).symm
  refine PC.body (args := [NU ⟨neg, exp, w⟩, NU ⟨neg', exp', w'⟩]) (rs := [.cell 4 24]) mixed Tryd.func59 rfl (by kernel_rfl) (by kernel_rfl) (Nat.le_of_ble_eq_true rfl) rfl ?_
  repeat (first | (with_reducible refine pv_seq fun K hK => ?_) | (with_reducible refine pv_reg ?_; simp -implicitDefEqProofs only [cmpB]) | (with_reducible refine pv_draw (id := 1) [(0, 0), (1, 2), (2, 0), (3, 2), (4, 0), (5, 0), (6, 2), (7, 0), (8, 2), (9, 0), (10, 0), (11, 1), (12, 0), (13, 1), (14, 4), (15, 0), (16, 3)] (by kernel_rfl) ?_; simp -implicitDefEqProofs only [cmpB]) | ((with_reducible first | refine hK _ _ ?_ | (clear hK; refine hK _ _ ?_) | (clear hK; clear hK; refine hK _ _ ?_)); clear hK; try clear K) | (simp -implicitDefEqProofs only [true_and, true_and, go_sem, seval]) | (with_reducible intro b) | (with_reducible refine And.intro ?_ ?_; · first | assumption | omega | (unfold R64; omega)))
  refine ExtC_is ?_
  simp -implicitDefEqProofs only [true_and, true_and, go_sem, seval]
  refine ext_is (p_Mul hxb hyb (by omega) (by omega)) ?_
  repeat (first | (with_reducible refine pv_seq fun K hK => ?_) | (with_reducible refine pv_reg ?_; simp -implicitDefEqProofs only [cmpB]) | (with_reducible refine pv_draw (id := 1) [(0, 0), (1, 2), (2, 0), (3, 2), (4, 0), (5, 0), (6, 2), (7, 0), (8, 2), (9, 0), (10, 0), (11, 1), (12, 0), (13, 1), (14, 4), (15, 0), (16, 3)] (by kernel_rfl) ?_; simp -implicitDefEqProofs only [cmpB]) | ((with_reducible first | refine hK _ _ ?_ | (clear hK; refine hK _ _ ?_) | (clear hK; clear hK; refine hK _ _ ?_)); clear hK; try clear K) | (simp -implicitDefEqProofs only [true_and, true_and, go_sem, seval]) | (with_reducible intro b) | (with_reducible refine And.intro ?_ ?_; · first | assumption | omega | (unfold R64; omega)))
  exact ⟨_, rfl, hz, hv⟩

set_option maxHeartbeats 1000000 in
theorem p_eAdd {k : Nat} {a b : Nu} (ha : Sz k a) (hb : Sz k b) (hk : k ≤ 67108864) : PC Tryd.prog 57 [NU a, NU b] fun d => ∃ z, d = NU z ∧ Sz (4 * k + 1) z ∧ z.val = a.val + b.val := by
  obtain ⟨neg, exp, w⟩ := a
  obtain ⟨neg', exp', w'⟩ := b
  have l1 := ha.lo; have l2 := ha.hi; have l3 := hb.lo; have l4 := hb.hi
  have l5 := ha.len; have l6 := hb.len
  simp only at l1 l2 l3 l4 l5 l6
  refine PC.body (args := [NU ⟨neg, exp, w⟩, NU ⟨neg', exp', w'⟩]) (rs := [.cell 4 24]) mixed Tryd.func57 rfl (by kernel_rfl) (by kernel_rfl) (Nat.le_of_ble_eq_true rfl) rfl ?_
  repeat (first | (with_reducible refine pv_seq fun K hK => ?_) | (with_reducible refine pv_reg ?_; simp -implicitDefEqProofs only [cmpB]) | (with_reducible refine pv_draw (id := 9) [(0, 0), (1, 2), (2, 0), (3, 2), (4, 0), (5, 1), (6, 0), (7, 4), (8, 0), (9, 3)] (by kernel_rfl) ?_; simp -implicitDefEqProofs only [cmpB]) | ((with_reducible first | refine hK _ _ ?_ | (clear hK; refine hK _ _ ?_) | (clear hK; clear hK; refine hK _ _ ?_)); clear hK; try clear K) | (simp -implicitDefEqProofs only [true_and, true_and, go_sem, seval]) | (with_reducible intro b) | (with_reducible refine And.intro ?_ ?_; · first | assumption | omega | (unfold R64; omega)))
  refine call_is (p_eSign ha (by omega)) ?_
  by_cases za : Nu.val ⟨neg, exp, w⟩ = 0
  · have z1 := eq_true (sgnD_zero.2 za)
    repeat (first | (with_reducible refine pv_seq fun K hK => ?_) | (with_reducible refine pv_reg ?_; simp -implicitDefEqProofs only [cmpB]) | (with_reducible refine pv_draw (id := 9) [(0, 0), (1, 2), (2, 0), (3, 2), (4, 0), (5, 1), (6, 0), (7, 4), (8, 0), (9, 3)] (by kernel_rfl) ?_; simp -implicitDefEqProofs only [cmpB]) | ((with_reducible first | refine hK _ _ ?_ | (clear hK; refine hK _ _ ?_) | (clear hK; clear hK; refine hK _ _ ?_)); clear hK; try clear K) | (simp -implicitDefEqProofs only [z1, true_and, go_sem, seval]) | (with_reducible intro b) | (with_reducible refine And.intro ?_ ?_; · first | assumption | omega | (unfold R64; omega)))
    exact ⟨⟨neg', exp', w'⟩, rfl, hb.mono (by omega), by rw [za, Dyadic.zero_add]⟩
  · have z1 := eq_false (mt sgnD_zero.1 za)
    repeat (first | (with_reducible refine pv_seq fun K hK => ?_) | (with_reducible refine pv_reg ?_; simp -implicitDefEqProofs only [cmpB]) | (with_reducible refine pv_draw (id := 9) [(0, 0), (1, 2), (2, 0), (3, 2), (4, 0), (5, 1), (6, 0), (7, 4), (8, 0), (9, 3)] (by kernel_rfl) ?_; simp -implicitDefEqProofs only [cmpB]) | ((with_reducible first | refine hK _ _ ?_ | (clear hK; refine hK _ _ ?_) | (clear hK; clear hK; refine hK _ _ ?_)); clear hK; try clear K) | (simp -implicitDefEqProofs only [z1, true_and, go_sem, seval]) | (with_reducible intro b) | (with_reducible refine And.intro ?_ ?_; · first | assumption | omega | (unfold R64; omega)))
    refine call_is (p_eSign hb (by omega)) ?_
    by_cases zb : Nu.val ⟨neg', exp', w'⟩ = 0
    · have z2 := eq_true (sgnD_zero.2 zb)
      repeat (first | (with_reducible refine pv_seq fun K hK => ?_) | (with_reducible refine pv_reg ?_; simp -implicitDefEqProofs only [cmpB]) | (with_reducible refine pv_draw (id := 9) [(0, 0), (1, 2), (2, 0), (3, 2), (4, 0), (5, 1), (6, 0), (7, 4), (8, 0), (9, 3)] (by kernel_rfl) ?_; simp -implicitDefEqProofs only [cmpB]) | ((with_reducible first | refine hK _ _ ?_ | (clear hK; refine hK _ _ ?_) | (clear hK; clear hK; refine hK _ _ ?_)); clear hK; try clear K) | (simp -implicitDefEqProofs only [z2, true_and, go_sem, seval]) | (with_reducible intro b) | (with_reducible refine And.intro ?_ ?_; · first | assumption | omega | (unfold R64; omega)))
      exact ⟨⟨neg, exp, w⟩, rfl, ha.mono (by omega), by rw [zb, Dyadic.add_zero]⟩
    · have z2 := eq_false (mt sgnD_zero.1 zb)
      repeat (first | (with_reducible refine pv_seq fun K hK => ?_) | (with_reducible refine pv_reg ?_; simp -implicitDefEqProofs only [cmpB]) | (with_reducible refine pv_draw (id := 9) [(0, 0), (1, 2), (2, 0), (3, 2), (4, 0), (5, 1), (6, 0), (7, 4), (8, 0), (9, 3)] (by kernel_rfl) ?_; simp -implicitDefEqProofs only [cmpB]) | ((with_reducible first | refine hK _ _ ?_ | (clear hK; refine hK _ _ ?_) | (clear hK; clear hK; refine hK _ _ ?_)); clear hK; try clear K) | (simp -implicitDefEqProofs only [z2, true_and, go_sem, seval]) | (with_reducible intro b) | (with_reducible refine And.intro ?_ ?_; · first | assumption | omega | (unfold R64; omega)))
      have J : ∀ (e : DEnv) (S : Store) (n n' : Bool) (p q : Int) (u v : List Nat), Sz k ⟨n, p, u⟩ → Sz k ⟨n', q, v⟩ → p ≤ q → Nu.val ⟨n, p, u⟩ + Nu.val ⟨n', q, v⟩ = Nu.val ⟨neg, exp, w⟩ + Nu.val ⟨neg', exp', w'⟩ →
          (∃ b2 b3 b4, e 2 = .ptr (.l 2) b2 0 0 3 ∧ e 3 = .ptr (.l 3) b3 0 0 3 ∧ e 4 = .ptr (.l 4) b4 0 0 3 ∧ S (.l 2) = some ⟨b2, 3, 0, [[bl n, i64 p, W64 u]]⟩ ∧ S (.l 3) = some ⟨b3, 3, 0, [[bl n', i64 q, W64 v]]⟩ ∧ S (.l 4) = some ⟨b4, 3, 0, [[bl false, i64 0, .nil]]⟩) → K e S := by
        rintro e S n n' p q u v hu hv hpq hval ⟨b2, b3, b4, f2, f3, f4, s2, s3, s4⟩
        have m1 := hu.lo; have m2 := hu.hi; have m3 := hv.lo; have m4 := hv.hi; have m5 := hu.len; have m6 := hv.len
        have hub := hu.b; have hvb := hv.b; have hul := hu.lt; have hvl := hv.lt
        simp only at m1 m2 m3 m4 m5 m6 hub hvb hul hvl
        obtain ⟨m, hm⟩ : ∃ m : Nat, q - p = m := ⟨(q - p).toNat, by omega⟩
        have hmk : m ≤ 2 * k := by omega
        have hvv : Nu.val ⟨n', q, v⟩ = dy n' (N64 v * 2 ^ m) p := by
          rw [← dy_up]
          show dy n' (N64 v) q = _
          rw [show q = p + (m : Int) by omega]
        have hvl2 : N64 v * 2 ^ m < 18446744073709551616 ^ (3 * k) := Nat.lt_of_lt_of_le (pow_up (m := m) hvl) (Nat.pow_le_pow_right (by decide) (by omega))
        have hul2 : N64 u < 18446744073709551616 ^ (3 * k) := Nat.lt_of_lt_of_le hul (Nat.pow_le_pow_right (by decide) (by omega))
        have hDb : B64 (D64 (N64 v * 2 ^ m)) := digs_lt (by decide) _
        have hDl : (D64 (N64 v * 2 ^ m)).length ≤ 3 * k := digs_len_le (by decide) hvl2
        have hDn : N64 (D64 (N64 v * 2 ^ m)) = N64 v * 2 ^ m := nval_digs (by decide) _
        rw [hvv] at hval
        repeat (first | (with_reducible refine pv_seq fun K hK => ?_) | (with_reducible refine pv_reg ?_; simp -implicitDefEqProofs only [cmpB]) | (with_reducible refine pv_draw (id := 9) [(0, 0), (1, 2), (2, 0), (3, 2), (4, 0), (5, 1), (6, 0), (7, 4), (8, 0), (9, 3)] (by kernel_rfl) ?_; simp -implicitDefEqProofs only [cmpB]) | ((with_reducible first | refine hK _ _ ?_ | (clear hK; refine hK _ _ ?_) | (clear hK; clear hK; refine hK _ _ ?_)); clear hK; try clear K) | (simp -implicitDefEqProofs only [f2, f3, f4, s2, s3, s4, hm, true_and, go_sem, seval]) | (with_reducible intro b) | (with_reducible refine And.intro ?_ ?_; · first | assumption | omega | (unfold R64; omega)))
        refine call_is (p_Up (n := m) hvb (by omega) (by omega)) ?_
        repeat (first | (with_reducible refine pv_seq fun K hK => ?_) | (with_reducible refine pv_reg ?_; simp -implicitDefEqProofs only [cmpB]) | (with_reducible refine pv_draw (id := 9) [(0, 0), (1, 2), (2, 0), (3, 2), (4, 0), (5, 1), (6, 0), (7, 4), (8, 0), (9, 3)] (by kernel_rfl) ?_; simp -implicitDefEqProofs only [cmpB]) | ((with_reducible first | refine hK _ _ ?_ | (clear hK; refine hK _ _ ?_) | (clear hK; clear hK; refine hK _ _ ?_)); clear hK; try clear K) | (simp -implicitDefEqProofs only [f2, f3, f4, s2, s3, s4, hm, true_and, go_sem, seval]) | (with_reducible intro b) | (with_reducible refine And.intro ?_ ?_; · first | assumption | omega | (unfold R64; omega)))
        have hu0 : Nu.val ⟨n, p, u⟩ = dy n (N64 u) p := rfl
        rw [hu0] at hval
        by_cases hn : n = n'
        · subst hn
          repeat (first | (with_reducible refine pv_seq fun K hK => ?_) | (with_reducible refine pv_reg ?_; simp -implicitDefEqProofs only [cmpB]) | (with_reducible refine pv_draw (id := 9) [(0, 0), (1, 2), (2, 0), (3, 2), (4, 0), (5, 1), (6, 0), (7, 4), (8, 0), (9, 3)] (by kernel_rfl) ?_; simp -implicitDefEqProofs only [cmpB]) | ((with_reducible first | refine hK _ _ ?_ | (clear hK; refine hK _ _ ?_) | (clear hK; clear hK; refine hK _ _ ?_)); clear hK; try clear K) | (simp -implicitDefEqProofs only [f2, f3, f4, s2, s3, s4, beq_self_eq_true, true_and, go_sem, seval]) | (with_reducible intro b) | (with_reducible refine And.intro ?_ ?_; · first | assumption | omega | (unfold R64; omega)))
          refine ExtC_is ?_
          simp -implicitDefEqProofs only [f2, f3, f4, s2, s3, s4, beq_self_eq_true, true_and, go_sem, seval]
          refine ext_is (p_Add hub hDb (by omega) (by omega)) ?_
          rw [hDn]
          repeat (first | (with_reducible refine pv_seq fun K hK => ?_) | (with_reducible refine pv_reg ?_; simp -implicitDefEqProofs only [cmpB]) | (with_reducible refine pv_draw (id := 9) [(0, 0), (1, 2), (2, 0), (3, 2), (4, 0), (5, 1), (6, 0), (7, 4), (8, 0), (9, 3)] (by kernel_rfl) ?_; simp -implicitDefEqProofs only [cmpB]) | ((with_reducible first | refine hK _ _ ?_ | (clear hK; refine hK _ _ ?_) | (clear hK; clear hK; refine hK _ _ ?_)); clear hK; try clear K) | (simp -implicitDefEqProofs only [f2, f3, f4, s2, s3, s4, beq_self_eq_true, true_and, go_sem, seval]) | (with_reducible intro b) | (with_reducible refine And.intro ?_ ?_; · first | assumption | omega | (unfold R64; omega)))
          refine ⟨⟨n, p, _⟩, rfl, Sz.mk' (Nat.lt_of_lt_of_le (show N64 u + N64 v * 2 ^ m < 18446744073709551616 ^ (3 * k + 1) by rw [Nat.pow_succ]; omega) (Nat.pow_le_pow_right (by decide) (by omega))) (by omega) (by omega), ?_⟩
          rw [val_mk, ← hval, dy_add]
        · have hb : (n == n') = false := by cases n <;> cases n' <;> simp at hn ⊢
          have pS := p_Sub hub hDb (by omega) (by omega)
          rw [hDn] at pS
          by_cases hle : N64 v * 2 ^ m ≤ N64 u
          · rw [if_pos hle] at pS
            repeat (first | (with_reducible refine pv_seq fun K hK => ?_) | (with_reducible refine pv_reg ?_; simp -implicitDefEqProofs only [cmpB]) | (with_reducible refine pv_draw (id := 9) [(0, 0), (1, 2), (2, 0), (3, 2), (4, 0), (5, 1), (6, 0), (7, 4), (8, 0), (9, 3)] (by kernel_rfl) ?_; simp -implicitDefEqProofs only [cmpB]) | ((with_reducible first | refine hK _ _ ?_ | (clear hK; refine hK _ _ ?_) | (clear hK; clear hK; refine hK _ _ ?_)); clear hK; try clear K) | (simp -implicitDefEqProofs only [f2, f3, f4, s2, s3, s4, hb, true_and, go_sem, seval]) | (with_reducible intro b) | (with_reducible refine And.intro ?_ ?_; · first | assumption | omega | (unfold R64; omega)))
            refine call_is pS ?_
            repeat (first | (with_reducible refine pv_seq fun K hK => ?_) | (with_reducible refine pv_reg ?_; simp -implicitDefEqProofs only [cmpB]) | (with_reducible refine pv_draw (id := 9) [(0, 0), (1, 2), (2, 0), (3, 2), (4, 0), (5, 1), (6, 0), (7, 4), (8, 0), (9, 3)] (by kernel_rfl) ?_; simp -implicitDefEqProofs only [cmpB]) | ((with_reducible first | refine hK _ _ ?_ | (clear hK; refine hK _ _ ?_) | (clear hK; clear hK; refine hK _ _ ?_)); clear hK; try clear K) | (simp -implicitDefEqProofs only [f2, f3, f4, s2, s3, s4, hb, true_and, go_sem, seval]) | (with_reducible intro b) | (with_reducible refine And.intro ?_ ?_; · first | assumption | omega | (unfold R64; omega)))
            refine ⟨⟨n, p, _⟩, rfl, Sz.mk' (Nat.lt_of_lt_of_le (show N64 u - N64 v * 2 ^ m < 18446744073709551616 ^ (3 * k) by omega) (Nat.pow_le_pow_right (by decide) (by omega))) (by omega) (by omega), ?_⟩
            rw [val_mk, ← hval, dy_sub hn hle]
          · rw [if_neg hle] at pS
            have pT := p_Sub hDb hub (by omega) (by omega)
            rw [hDn, if_pos (by omega)] at pT
            repeat (first | (with_reducible refine pv_seq fun K hK => ?_) | (with_reducible refine pv_reg ?_; simp -implicitDefEqProofs only [cmpB]) | (with_reducible refine pv_draw (id := 9) [(0, 0), (1, 2), (2, 0), (3, 2), (4, 0), (5, 1), (6, 0), (7, 4), (8, 0), (9, 3)] (by kernel_rfl) ?_; simp -implicitDefEqProofs only [cmpB]) | ((with_reducible first | refine hK _ _ ?_ | (clear hK; refine hK _ _ ?_) | (clear hK; clear hK; refine hK _ _ ?_)); clear hK; try clear K) | (simp -implicitDefEqProofs only [f2, f3, f4, s2, s3, s4, hb, true_and, go_sem, seval]) | (with_reducible intro b) | (with_reducible refine And.intro ?_ ?_; · first | assumption | omega | (unfold R64; omega)))
            refine call_is pS ?_
            repeat (first | (with_reducible refine pv_seq fun K hK => ?_) | (with_reducible refine pv_reg ?_; simp -implicitDefEqProofs only [cmpB]) | (with_reducible refine pv_draw (id := 9) [(0, 0), (1, 2), (2, 0), (3, 2), (4, 0), (5, 1), (6, 0), (7, 4), (8, 0), (9, 3)] (by kernel_rfl) ?_; simp -implicitDefEqProofs only [cmpB]) | ((with_reducible first | refine hK _ _ ?_ | (clear hK; refine hK _ _ ?_) | (clear hK; clear hK; refine hK _ _ ?_)); clear hK; try clear K) | (simp -implicitDefEqProofs only [f2, f3, f4, s2, s3, s4, hb, true_and, go_sem, seval]) | (with_reducible intro b) | (with_reducible refine And.intro ?_ ?_; · first | assumption | omega | (unfold R64; omega)))
            refine call_is pT ?_
            repeat (first | (with_reducible refine pv_seq fun K hK => ?_) | (with_reducible refine pv_reg ?_; simp -implicitDefEqProofs only [cmpB]) | (with_reducible refine pv_draw (id := 9) [(0, 0), (1, 2), (2, 0), (3, 2), (4, 0), (5, 1), (6, 0), (7, 4), (8, 0), (9, 3)] (by kernel_rfl) ?_; simp -implicitDefEqProofs only [cmpB]) | ((with_reducible first | refine hK _ _ ?_ | (clear hK; refine hK _ _ ?_) | (clear hK; clear hK; refine hK _ _ ?_)); clear hK; try clear K) | (simp -implicitDefEqProofs only [f2, f3, f4, s2, s3, s4, hb, true_and, go_sem, seval]) | (with_reducible intro b) | (with_reducible refine And.intro ?_ ?_; · first | assumption | omega | (unfold R64; omega)))
            refine ⟨⟨n', p, _⟩, rfl, Sz.mk' (Nat.lt_of_lt_of_le (show N64 v * 2 ^ m - N64 u < 18446744073709551616 ^ (3 * k) by omega) (Nat.pow_le_pow_right (by decide) (by omega))) (by omega) (by omega), ?_⟩
            rw [val_mk, ← hval, Dyadic.add_comm, dy_sub (Ne.symm hn) (by omega)]
      clear hK
      refine pv_cdD (fun ht => ?_) (fun ht => ?_)
      · repeat (first | (with_reducible refine pv_seq fun K hK => ?_) | (with_reducible refine pv_reg ?_; simp -implicitDefEqProofs only [cmpB]) | (with_reducible refine pv_draw (id := 9) [(0, 0), (1, 2), (2, 0), (3, 2), (4, 0), (5, 1), (6, 0), (7, 4), (8, 0), (9, 3)] (by kernel_rfl) ?_; simp -implicitDefEqProofs only [cmpB]) | ((with_reducible first | refine hK _ _ ?_ | (clear hK; refine hK _ _ ?_) | (clear hK; clear hK; refine hK _ _ ?_)); clear hK; try clear K) | (simp -implicitDefEqProofs only [z2, true_and, go_sem, seval]) | (with_reducible intro b) | (with_reducible refine And.intro ?_ ?_; · first | assumption | omega | (unfold R64; omega)))
        exact J _ _ neg' neg exp' exp w' w hb ha (by omega) (Dyadic.add_comm _ _) ⟨_, _, _, rfl, rfl, rfl, rfl, rfl, rfl⟩
      · repeat (first | (with_reducible refine pv_seq fun K hK => ?_) | (with_reducible refine pv_reg ?_; simp -implicitDefEqProofs only [cmpB]) | (with_reducible refine pv_draw (id := 9) [(0, 0), (1, 2), (2, 0), (3, 2), (4, 0), (5, 1), (6, 0), (7, 4), (8, 0), (9, 3)] (by kernel_rfl) ?_; simp -implicitDefEqProofs only [cmpB]) | ((with_reducible first | refine hK _ _ ?_ | (clear hK; refine hK _ _ ?_) | (clear hK; clear hK; refine hK _ _ ?_)); clear hK; try clear K) | (simp -implicitDefEqProofs only [z2, true_and, go_sem, seval]) | (with_reducible intro b) | (with_reducible refine And.intro ?_ ?_; · first | assumption | omega | (unfold R64; omega)))
        exact J _ _ neg neg' exp exp' w w' ha hb (by omega) rfl ⟨_, _, _, rfl, rfl, rfl, rfl, rfl, rfl⟩

theorem p_eSub {k : Nat} {a b : Nu} (ha : Sz k a) (hb : Sz k b) (hk : k ≤ 67108864) : PC Tryd.prog 58 [NU a, NU b] fun d => ∃ z, d = NU z ∧ Sz (4 * k + 1) z ∧ z.val = a.val - b.val := by
  obtain ⟨neg, exp, w⟩ := a
  obtain ⟨neg', exp', w'⟩ := b
  have hb2 : Sz k ⟨!neg', exp', w'⟩ := ⟨hb.b, hb.len, hb.lo, hb.hi⟩
  have hv : Nu.val ⟨!neg', exp', w'⟩ = - Nu.val ⟨neg', exp', w'⟩ := (dy_neg neg' (N64 w') exp').symm
  refine PC.body (args := [NU ⟨neg, exp, w⟩, NU ⟨neg', exp', w'⟩]) (rs := [.cell 4 24]) mixed Tryd.func58 rfl (by kernel_rfl) (by kernel_rfl) (Nat.le_of_ble_eq_true rfl) rfl ?_
  repeat (first | (with_reducible refine pv_seq fun K hK => ?_) | (with_reducible refine pv_reg ?_; simp -implicitDefEqProofs only [cmpB]) | (with_reducible refine pv_draw (id := 1) [(0, 2), (1, 1), (2, 4), (3, 3), (4, 3)] (by kernel_rfl) ?_; simp -implicitDefEqProofs only [cmpB]) | ((with_reducible first | refine hK _ _ ?_ | (clear hK; refine hK _ _ ?_) | (clear hK; clear hK; refine hK _ _ ?_)); clear hK; try clear K) | (simp -implicitDefEqProofs only [true_and, true_and, go_sem, seval]) | (with_reducible intro b) | (with_reducible refine And.intro ?_ ?_; · first | assumption | omega | (unfold R64; omega)))
  refine ExtC_is ?_
  simp -implicitDefEqProofs only [true_and, true_and, go_sem, seval]
  refine ext_is (p_eNeg (x := ⟨neg', exp', w'⟩)) ?_
  repeat (first | (with_reducible refine pv_seq fun K hK => ?_) | (with_reducible refine pv_reg ?_; simp -implicitDefEqProofs only [cmpB]) | (with_reducible refine pv_draw (id := 1) [(0, 2), (1, 1), (2, 4), (3, 3), (4, 3)] (by kernel_rfl) ?_; simp -implicitDefEqProofs only [cmpB]) | ((with_reducible first | refine hK _ _ ?_ | (clear hK; refine hK _ _ ?_) | (clear hK; clear hK; refine hK _ _ ?_)); clear hK; try clear K) | (simp -implicitDefEqProofs only [true_and, true_and, go_sem, seval]) | (with_reducible intro b) | (with_reducible refine And.intro ?_ ?_; · first | assumption | omega | (unfold R64; omega)))
  refine call_pc (p_eAdd ha hb2 hk) ?_
  rintro d ⟨z, rfl, hz, hzv⟩
  rw [hv] at hzv
  repeat (first | (with_reducible refine pv_seq fun K hK => ?_) | (with_reducible refine pv_reg ?_; simp -implicitDefEqProofs only [cmpB]) | (with_reducible refine pv_draw (id := 1) [(0, 2), (1, 1), (2, 4), (3, 3), (4, 3)] (by kernel_rfl) ?_; simp -implicitDefEqProofs only [cmpB]) | ((with_reducible first | refine hK _ _ ?_ | (clear hK; refine hK _ _ ?_) | (clear hK; clear hK; refine hK _ _ ?_)); clear hK; try clear K) | (simp -implicitDefEqProofs only [true_and, true_and, go_sem, seval]) | (with_reducible intro b) | (with_reducible refine And.intro ?_ ?_; · first | assumption | omega | (unfold R64; omega)))
  exact ⟨z, rfl, hz, hzv⟩

set_option maxHeartbeats 1000000 in
theorem p_eSize {k : Nat} {a b : Nu} (ha : Sz k a) (hb : Sz k b) (hk : k ≤ 67108864) (a0 : N64 a.w ≠ 0) (b0 : N64 b.w ≠ 0) : PC Tryd.prog 70 [NU a, NU b] fun d => d = i64 (cmpD (dy false (N64 a.w) a.exp) (dy false (N64 b.w) b.exp)) := by
  obtain ⟨neg, exp, w⟩ := a
  obtain ⟨neg', exp', w'⟩ := b
  have l1 := ha.lo; have l2 := ha.hi; have l3 := hb.lo; have l4 := hb.hi
  have l5 := ha.len; have l6 := hb.len; have hwb := ha.b; have hwb' := hb.b; have hwl := ha.lt; have hwl' := hb.lt
  simp only at l1 l2 l3 l4 l5 l6 a0 b0 hwb hwb' hwl hwl'
  have bl1 : bitLen (N64 w) ≤ 64 * k := bitLen_le (by rw [Nat.pow_mul]; exact hwl)
  have bl2 : bitLen (N64 w') ≤ 64 * k := bitLen_le (by rw [Nat.pow_mul]; exact hwl')
  refine PC.body (args := [NU ⟨neg, exp, w⟩, NU ⟨neg', exp', w'⟩]) (rs := [.tmp 4]) mixed Tryd.func70 rfl (by kernel_rfl) (by kernel_rfl) (Nat.le_of_ble_eq_true rfl) rfl ?_
  repeat (first | (with_reducible refine pv_seq fun K hK => ?_) | (with_reducible refine pv_reg ?_; simp -implicitDefEqProofs only [cmpB]) | (with_reducible refine pv_draw (id := 1) [(0, 0), (1, 1), (3, 0), (4, 2), (6, 0), (7, 2), (9, 0), (10, 2), (2, 4), (5, 0), (8, 4), (11, 0), (12, 0), (13, 0)] (by kernel_rfl) ?_; simp -implicitDefEqProofs only [cmpB]) | (with_reducible refine pv_draw (id := 5) [(0, 0), (1, 1), (2, 0), (3, 1), (4, 0), (5, 1), (6, 0), (8, 0), (9, 2), (7, 4), (10, 3), (11, 0)] (by kernel_rfl) ?_; simp -implicitDefEqProofs only [cmpB]) | (with_reducible refine pv_draw (id := 6) [(0, 0), (1, 2), (2, 0), (3, 1), (4, 0), (5, 1), (6, 0), (7, 1), (8, 0), (9, 4), (10, 3), (11, 0)] (by kernel_rfl) ?_; simp -implicitDefEqProofs only [cmpB]) | ((with_reducible first | refine hK _ _ ?_ | (clear hK; refine hK _ _ ?_) | (clear hK; clear hK; refine hK _ _ ?_)); clear hK; try clear K) | (simp -implicitDefEqProofs only [true_and, true_and, go_sem, seval]) | (with_reducible intro b) | (with_reducible refine And.intro ?_ ?_; · first | assumption | omega | (unfold R64; omega)))
  refine ExtC_is ?_
  simp -implicitDefEqProofs only [true_and, true_and, go_sem, seval]
  refine ext_is (p_Bits hwb (by omega)) ?_
  repeat (first | (with_reducible refine pv_seq fun K hK => ?_) | (with_reducible refine pv_reg ?_; simp -implicitDefEqProofs only [cmpB]) | (with_reducible refine pv_draw (id := 1) [(0, 0), (1, 1), (3, 0), (4, 2), (6, 0), (7, 2), (9, 0), (10, 2), (2, 4), (5, 0), (8, 4), (11, 0), (12, 0), (13, 0)] (by kernel_rfl) ?_; simp -implicitDefEqProofs only [cmpB]) | (with_reducible refine pv_draw (id := 5) [(0, 0), (1, 1), (2, 0), (3, 1), (4, 0), (5, 1), (6, 0), (8, 0), (9, 2), (7, 4), (10, 3), (11, 0)] (by kernel_rfl) ?_; simp -implicitDefEqProofs only [cmpB]) | (with_reducible refine pv_draw (id := 6) [(0, 0), (1, 2), (2, 0), (3, 1), (4, 0), (5, 1), (6, 0), (7, 1), (8, 0), (9, 4), (10, 3), (11, 0)] (by kernel_rfl) ?_; simp -implicitDefEqProofs only [cmpB]) | ((with_reducible first | refine hK _ _ ?_ | (clear hK; refine hK _ _ ?_) | (clear hK; clear hK; refine hK _ _ ?_)); clear hK; try clear K) | (simp -implicitDefEqProofs only [true_and, true_and, go_sem, seval]) | (with_reducible intro b) | (with_reducible refine And.intro ?_ ?_; · first | assumption | omega | (unfold R64; omega)))
  refine ExtC_is ?_
  simp -implicitDefEqProofs only [true_and, true_and, go_sem, seval]
  refine ext_is (p_Bits hwb' (by omega)) ?_
  repeat (first | (with_reducible refine pv_seq fun K hK => ?_) | (with_reducible refine pv_reg ?_; simp -implicitDefEqProofs only [cmpB]) | (with_reducible refine pv_draw (id := 1) [(0, 0), (1, 1), (3, 0), (4, 2), (6, 0), (7, 2), (9, 0), (10, 2), (2, 4), (5, 0), (8, 4), (11, 0), (12, 0), (13, 0)] (by kernel_rfl) ?_; simp -implicitDefEqProofs only [cmpB]) | (with_reducible refine pv_draw (id := 5) [(0, 0), (1, 1), (2, 0), (3, 1), (4, 0), (5, 1), (6, 0), (8, 0), (9, 2), (7, 4), (10, 3), (11, 0)] (by kernel_rfl) ?_; simp -implicitDefEqProofs only [cmpB]) | (with_reducible refine pv_draw (id := 6) [(0, 0), (1, 2), (2, 0), (3, 1), (4, 0), (5, 1), (6, 0), (7, 1), (8, 0), (9, 4), (10, 3), (11, 0)] (by kernel_rfl) ?_; simp -implicitDefEqProofs only [cmpB]) | ((with_reducible first | refine hK _ _ ?_ | (clear hK; refine hK _ _ ?_) | (clear hK; clear hK; refine hK _ _ ?_)); clear hK; try clear K) | (simp -implicitDefEqProofs only [true_and, true_and, go_sem, seval]) | (with_reducible intro b) | (with_reducible refine And.intro ?_ ?_; · first | assumption | omega | (unfold R64; omega)))
  refine pv_cdD (fun h1 => ?_) (fun h1 => ?_)
  · repeat (first | (with_reducible refine pv_seq fun K hK => ?_) | (with_reducible refine pv_reg ?_; simp -implicitDefEqProofs only [cmpB]) | (with_reducible refine pv_draw (id := 1) [(0, 0), (1, 1), (3, 0), (4, 2), (6, 0), (7, 2), (9, 0), (10, 2), (2, 4), (5, 0), (8, 4), (11, 0), (12, 0), (13, 0)] (by kernel_rfl) ?_; simp -implicitDefEqProofs only [cmpB]) | (with_reducible refine pv_draw (id := 5) [(0, 0), (1, 1), (2, 0), (3, 1), (4, 0), (5, 1), (6, 0), (8, 0), (9, 2), (7, 4), (10, 3), (11, 0)] (by kernel_rfl) ?_; simp -implicitDefEqProofs only [cmpB]) | (with_reducible refine pv_draw (id := 6) [(0, 0), (1, 2), (2, 0), (3, 1), (4, 0), (5, 1), (6, 0), (7, 1), (8, 0), (9, 4), (10, 3), (11, 0)] (by kernel_rfl) ?_; simp -implicitDefEqProofs only [cmpB]) | ((with_reducible first | refine hK _ _ ?_ | (clear hK; refine hK _ _ ?_) | (clear hK; clear hK; refine hK _ _ ?_)); clear hK; try clear K) | (simp -implicitDefEqProofs only [true_and, true_and, go_sem, seval]) | (with_reducible intro b) | (with_reducible refine And.intro ?_ ?_; · first | assumption | omega | (unfold R64; omega)))
    refine call_is p_cmp64 ?_
    rw [show cmpI ((bitLen (N64 w) : Int) + exp) ((bitLen (N64 w') : Int) + exp') = cmpD (dy false (N64 w) exp) (dy false (N64 w') exp') by
      unfold cmpI
      split
      · rename_i h; exact (cmpD_lt (size_lt b0 h)).symm
      · rw [if_pos (by omega)]; exact (cmpD_gt (size_lt a0 (by omega))).symm]
    repeat (first | (with_reducible refine pv_seq fun K hK => ?_) | (with_reducible refine pv_reg ?_; simp -implicitDefEqProofs only [cmpB]) | (with_reducible refine pv_draw (id := 1) [(0, 0), (1, 1), (3, 0), (4, 2), (6, 0), (7, 2), (9, 0), (10, 2), (2, 4), (5, 0), (8, 4), (11, 0), (12, 0), (13, 0)] (by kernel_rfl) ?_; simp -implicitDefEqProofs only [cmpB]) | (with_reducible refine pv_draw (id := 5) [(0, 0), (1, 1), (2, 0), (3, 1), (4, 0), (5, 1), (6, 0), (8, 0), (9, 2), (7, 4), (10, 3), (11, 0)] (by kernel_rfl) ?_; simp -implicitDefEqProofs only [cmpB]) | (with_reducible refine pv_draw (id := 6) [(0, 0), (1, 2), (2, 0), (3, 1), (4, 0), (5, 1), (6, 0), (7, 1), (8, 0), (9, 4), (10, 3), (11, 0)] (by kernel_rfl) ?_; simp -implicitDefEqProofs only [cmpB]) | ((with_reducible first | refine hK _ _ ?_ | (clear hK; refine hK _ _ ?_) | (clear hK; clear hK; refine hK _ _ ?_)); clear hK; try clear K) | (simp -implicitDefEqProofs only [true_and, true_and, go_sem, seval]) | (with_reducible intro b) | (with_reducible refine And.intro ?_ ?_; · first | assumption | omega | (unfold R64; omega)))
  · repeat (first | (with_reducible refine pv_seq fun K hK => ?_) | (with_reducible refine pv_reg ?_; simp -implicitDefEqProofs only [cmpB]) | (with_reducible refine pv_draw (id := 1) [(0, 0), (1, 1), (3, 0), (4, 2), (6, 0), (7, 2), (9, 0), (10, 2), (2, 4), (5, 0), (8, 4), (11, 0), (12, 0), (13, 0)] (by kernel_rfl) ?_; simp -implicitDefEqProofs only [cmpB]) | (with_reducible refine pv_draw (id := 5) [(0, 0), (1, 1), (2, 0), (3, 1), (4, 0), (5, 1), (6, 0), (8, 0), (9, 2), (7, 4), (10, 3), (11, 0)] (by kernel_rfl) ?_; simp -implicitDefEqProofs only [cmpB]) | (with_reducible refine pv_draw (id := 6) [(0, 0), (1, 2), (2, 0), (3, 1), (4, 0), (5, 1), (6, 0), (7, 1), (8, 0), (9, 4), (10, 3), (11, 0)] (by kernel_rfl) ?_; simp -implicitDefEqProofs only [cmpB]) | ((with_reducible first | refine hK _ _ ?_ | (clear hK; refine hK _ _ ?_) | (clear hK; clear hK; refine hK _ _ ?_)); clear hK; try clear K) | (simp -implicitDefEqProofs only [true_and, true_and, go_sem, seval]) | (with_reducible intro b) | (with_reducible refine And.intro ?_ ?_; · first | assumption | omega | (unfold R64; omega)))
    refine pv_cdD (fun h2 => ?_) (fun h2 => ?_)
    · obtain ⟨m, hm⟩ : ∃ m : Nat, exp - exp' = m := ⟨(exp - exp').toNat, by omega⟩
      have hmk : m ≤ 2 * k := by omega
      have hDl : (D64 (N64 w * 2 ^ m)).length ≤ 3 * k := digs_len_le (by decide) (Nat.lt_of_lt_of_le (pow_up (m := m) hwl) (Nat.pow_le_pow_right (by decide) (by omega)))
      have hDn : N64 (D64 (N64 w * 2 ^ m)) = N64 w * 2 ^ m := nval_digs (by decide) _
      repeat (first | (with_reducible refine pv_seq fun K hK => ?_) | (with_reducible refine pv_reg ?_; simp -implicitDefEqProofs only [cmpB]) | (with_reducible refine pv_draw (id := 1) [(0, 0), (1, 1), (3, 0), (4, 2), (6, 0), (7, 2), (9, 0), (10, 2), (2, 4), (5, 0), (8, 4), (11, 0), (12, 0), (13, 0)] (by kernel_rfl) ?_; simp -implicitDefEqProofs only [cmpB]) | (with_reducible refine pv_draw (id := 5) [(0, 0), (1, 1), (2, 0), (3, 1), (4, 0), (5, 1), (6, 0), (8, 0), (9, 2), (7, 4), (10, 3), (11, 0)] (by kernel_rfl) ?_; simp -implicitDefEqProofs only [cmpB]) | (with_reducible refine pv_draw (id := 6) [(0, 0), (1, 2), (2, 0), (3, 1), (4, 0), (5, 1), (6, 0), (7, 1), (8, 0), (9, 4), (10, 3), (11, 0)] (by kernel_rfl) ?_; simp -implicitDefEqProofs only [cmpB]) | ((with_reducible first | refine hK _ _ ?_ | (clear hK; refine hK _ _ ?_) | (clear hK; clear hK; refine hK _ _ ?_)); clear hK; try clear K) | (simp -implicitDefEqProofs only [hm, true_and, go_sem, seval]) | (with_reducible intro b) | (with_reducible refine And.intro ?_ ?_; · first | assumption | omega | (unfold R64; omega)))
      refine ExtC_is ?_
      simp -implicitDefEqProofs only [hm, true_and, go_sem, seval]
      refine ext_is (p_Up (n := m) hwb (by omega) (by omega)) ?_
      repeat (first | (with_reducible refine pv_seq fun K hK => ?_) | (with_reducible refine pv_reg ?_; simp -implicitDefEqProofs only [cmpB]) | (with_reducible refine pv_draw (id := 1) [(0, 0), (1, 1), (3, 0), (4, 2), (6, 0), (7, 2), (9, 0), (10, 2), (2, 4), (5, 0), (8, 4), (11, 0), (12, 0), (13, 0)] (by kernel_rfl) ?_; simp -implicitDefEqProofs only [cmpB]) | (with_reducible refine pv_draw (id := 5) [(0, 0), (1, 1), (2, 0), (3, 1), (4, 0), (5, 1), (6, 0), (8, 0), (9, 2), (7, 4), (10, 3), (11, 0)] (by kernel_rfl) ?_; simp -implicitDefEqProofs only [cmpB]) | (with_reducible refine pv_draw (id := 6) [(0, 0), (1, 2), (2, 0), (3, 1), (4, 0), (5, 1), (6, 0), (7, 1), (8, 0), (9, 4), (10, 3), (11, 0)] (by kernel_rfl) ?_; simp -implicitDefEqProofs only [cmpB]) | ((with_reducible first | refine hK _ _ ?_ | (clear hK; refine hK _ _ ?_) | (clear hK; clear hK; refine hK _ _ ?_)); clear hK; try clear K) | (simp -implicitDefEqProofs only [hm, true_and, go_sem, seval]) | (with_reducible intro b) | (with_reducible refine And.intro ?_ ?_; · first | assumption | omega | (unfold R64; omega)))
      refine call_is (p_Cmp (digs_lt (by decide) _) hwb' (by omega) (by omega)) ?_
      rw [hDn, ← dy_cmp (e := exp'), ← dy_up, show exp' + (m : Int) = exp by omega]
      repeat (first | (with_reducible refine pv_seq fun K hK => ?_) | (with_reducible refine pv_reg ?_; simp -implicitDefEqProofs only [cmpB]) | (with_reducible refine pv_draw (id := 1) [(0, 0), (1, 1), (3, 0), (4, 2), (6, 0), (7, 2), (9, 0), (10, 2), (2, 4), (5, 0), (8, 4), (11, 0), (12, 0), (13, 0)] (by kernel_rfl) ?_; simp -implicitDefEqProofs only [cmpB]) | (with_reducible refine pv_draw (id := 5) [(0, 0), (1, 1), (2, 0), (3, 1), (4, 0), (5, 1), (6, 0), (8, 0), (9, 2), (7, 4), (10, 3), (11, 0)] (by kernel_rfl) ?_; simp -implicitDefEqProofs only [cmpB]) | (with_reducible refine pv_draw (id := 6) [(0, 0), (1, 2), (2, 0), (3, 1), (4, 0), (5, 1), (6, 0), (7, 1), (8, 0), (9, 4), (10, 3), (11, 0)] (by kernel_rfl) ?_; simp -implicitDefEqProofs only [cmpB]) | ((with_reducible first | refine hK _ _ ?_ | (clear hK; refine hK _ _ ?_) | (clear hK; clear hK; refine hK _ _ ?_)); clear hK; try clear K) | (simp -implicitDefEqProofs only [hm, true_and, go_sem, seval]) | (with_reducible intro b) | (with_reducible refine And.intro ?_ ?_; · first | assumption | omega | (unfold R64; omega)))
    · obtain ⟨m, hm⟩ : ∃ m : Nat, exp' - exp = m := ⟨(exp' - exp).toNat, by omega⟩
      have hmk : m ≤ 2 * k := by omega
      have hDl : (D64 (N64 w' * 2 ^ m)).length ≤ 3 * k := digs_len_le (by decide) (Nat.lt_of_lt_of_le (pow_up (m := m) hwl') (Nat.pow_le_pow_right (by decide) (by omega)))
      have hDn : N64 (D64 (N64 w' * 2 ^ m)) = N64 w' * 2 ^ m := nval_digs (by decide) _
      repeat (first | (with_reducible refine pv_seq fun K hK => ?_) | (with_reducible refine pv_reg ?_; simp -implicitDefEqProofs only [cmpB]) | (with_reducible refine pv_draw (id := 1) [(0, 0), (1, 1), (3, 0), (4, 2), (6, 0), (7, 2), (9, 0), (10, 2), (2, 4), (5, 0), (8, 4), (11, 0), (12, 0), (13, 0)] (by kernel_rfl) ?_; simp -implicitDefEqProofs only [cmpB]) | (with_reducible refine pv_draw (id := 5) [(0, 0), (1, 1), (2, 0), (3, 1), (4, 0), (5, 1), (6, 0), (8, 0), (9, 2), (7, 4), (10, 3), (11, 0)] (by kernel_rfl) ?_; simp -implicitDefEqProofs only [cmpB]) | (with_reducible refine pv_draw (id := 6) [(0, 0), (1, 2), (2, 0), (3, 1), (4, 0), (5, 1), (6, 0), (7, 1), (8, 0), (9, 4), (10, 3), (11, 0)] (by kernel_rfl) ?_; simp -implicitDefEqProofs only [cmpB]) | ((with_reducible first | refine hK _ _ ?_ | (clear hK; refine hK _ _ ?_) | (clear hK; clear hK; refine hK _ _ ?_)); clear hK; try clear K) | (simp -implicitDefEqProofs only [hm, true_and, go_sem, seval]) | (with_reducible intro b) | (with_reducible refine And.intro ?_ ?_; · first | assumption | omega | (unfold R64; omega)))
      refine ExtC_is ?_
      simp -implicitDefEqProofs only [hm, true_and, go_sem, seval]
      refine ext_is (p_Up (n := m) hwb' (by omega) (by omega)) ?_
      repeat (first | (with_reducible refine pv_seq fun K hK => ?_) | (with_reducible refine pv_reg ?_; simp -implicitDefEqProofs only [cmpB]) | (with_reducible refine pv_draw (id := 1) [(0, 0), (1, 1), (3, 0), (4, 2), (6, 0), (7, 2), (9, 0), (10, 2), (2, 4), (5, 0), (8, 4), (11, 0), (12, 0), (13, 0)] (by kernel_rfl) ?_; simp -implicitDefEqProofs only [cmpB]) | (with_reducible refine pv_draw (id := 5) [(0, 0), (1, 1), (2, 0), (3, 1), (4, 0), (5, 1), (6, 0), (8, 0), (9, 2), (7, 4), (10, 3), (11, 0)] (by kernel_rfl) ?_; simp -implicitDefEqProofs only [cmpB]) | (with_reducible refine pv_draw (id := 6) [(0, 0), (1, 2), (2, 0), (3, 1), (4, 0), (5, 1), (6, 0), (7, 1), (8, 0), (9, 4), (10, 3), (11, 0)] (by kernel_rfl) ?_; simp -implicitDefEqProofs only [cmpB]) | ((with_reducible first | refine hK _ _ ?_ | (clear hK; refine hK _ _ ?_) | (clear hK; clear hK; refine hK _ _ ?_)); clear hK; try clear K) | (simp -implicitDefEqProofs only [hm, true_and, go_sem, seval]) | (with_reducible intro b) | (with_reducible refine And.intro ?_ ?_; · first | assumption | omega | (unfold R64; omega)))
      refine call_is (p_Cmp hwb (digs_lt (by decide) _) (by omega) (by omega)) ?_
      rw [hDn, ← dy_cmp (e := exp), ← dy_up, show exp + (m : Int) = exp' by omega]
      repeat (first | (with_reducible refine pv_seq fun K hK => ?_) | (with_reducible refine pv_reg ?_; simp -implicitDefEqProofs only [cmpB]) | (with_reducible refine pv_draw (id := 1) [(0, 0), (1, 1), (3, 0), (4, 2), (6, 0), (7, 2), (9, 0), (10, 2), (2, 4), (5, 0), (8, 4), (11, 0), (12, 0), (13, 0)] (by kernel_rfl) ?_; simp -implicitDefEqProofs only [cmpB]) | (with_reducible refine pv_draw (id := 5) [(0, 0), (1, 1), (2, 0), (3, 1), (4, 0), (5, 1), (6, 0), (8, 0), (9, 2), (7, 4), (10, 3), (11, 0)] (by kernel_rfl) ?_; simp -implicitDefEqProofs only [cmpB]) | (with_reducible refine pv_draw (id := 6) [(0, 0), (1, 2), (2, 0), (3, 1), (4, 0), (5, 1), (6, 0), (7, 1), (8, 0), (9, 4), (10, 3), (11, 0)] (by kernel_rfl) ?_; simp -implicitDefEqProofs only [cmpB]) | ((with_reducible first | refine hK _ _ ?_ | (clear hK; refine hK _ _ ?_) | (clear hK; clear hK; refine hK _ _ ?_)); clear hK; try clear K) | (simp -implicitDefEqProofs only [hm, true_and, go_sem, seval]) | (with_reducible intro b) | (with_reducible refine And.intro ?_ ?_; · first | assumption | omega | (unfold R64; omega)))

theorem p_eCmp {k : Nat} {a b : Nu} (ha : Sz k a) (hb : Sz k b) (hk : k ≤ 67108864) : PC Tryd.prog 51 [NU a, NU b] fun d => d = i64 (cmpD a.val b.val) := by
  obtain ⟨neg, exp, w⟩ := a
  obtain ⟨neg', exp', w'⟩ := b
  refine PC.body (args := [NU ⟨neg, exp, w⟩, NU ⟨neg', exp', w'⟩]) (rs := [.tmp 4]) mixed Tryd.func51 rfl (by kernel_rfl) (by kernel_rfl) (Nat.le_of_ble_eq_true rfl) rfl ?_
  repeat (first | (with_reducible refine pv_seq fun K hK => ?_) | (with_reducible refine pv_reg ?_; simp -implicitDefEqProofs only [cmpB]) | (with_reducible refine pv_draw (id := 1) [(0, 1), (2, 2), (1, 4), (3, 3), (4, 0), (5, 0)] (by kernel_rfl) ?_; simp -implicitDefEqProofs only [cmpB]) | ((with_reducible first | refine hK _ _ ?_ | (clear hK; refine hK _ _ ?_) | (clear hK; clear hK; refine hK _ _ ?_)); clear hK; try clear K) | (simp -implicitDefEqProofs only [true_and, true_and, go_sem, seval]) | (with_reducible intro b) | (with_reducible refine And.intro ?_ ?_; · first | assumption | omega | (unfold R64; omega)))
  refine ExtC_is ?_
  simp -implicitDefEqProofs only [true_and, true_and, go_sem, seval]
  refine ext_is (p_eSign ha (by omega)) ?_
  repeat (first | (with_reducible refine pv_seq fun K hK => ?_) | (with_reducible refine pv_reg ?_; simp -implicitDefEqProofs only [cmpB]) | (with_reducible refine pv_draw (id := 1) [(0, 1), (2, 2), (1, 4), (3, 3), (4, 0), (5, 0)] (by kernel_rfl) ?_; simp -implicitDefEqProofs only [cmpB]) | ((with_reducible first | refine hK _ _ ?_ | (clear hK; refine hK _ _ ?_) | (clear hK; clear hK; refine hK _ _ ?_)); clear hK; try clear K) | (simp -implicitDefEqProofs only [true_and, true_and, go_sem, seval]) | (with_reducible intro b) | (with_reducible refine And.intro ?_ ?_; · first | assumption | omega | (unfold R64; omega)))
  refine call_is (p_eSign hb (by omega)) ?_
  by_cases hs : sgnD (Nu.val ⟨neg, exp, w⟩) = sgnD (Nu.val ⟨neg', exp', w'⟩)
  · by_cases h0 : sgnD (Nu.val ⟨neg', exp', w'⟩) = 0
    · have a0 := sgnD_zero.1 (hs.trans h0)
      have b0 := sgnD_zero.1 h0
      repeat (first | (with_reducible refine pv_seq fun K hK => ?_) | (with_reducible refine pv_reg ?_; simp -implicitDefEqProofs only [cmpB]) | (with_reducible refine pv_draw (id := 1) [(0, 1), (2, 2), (1, 4), (3, 3), (4, 0), (5, 0)] (by kernel_rfl) ?_; simp -implicitDefEqProofs only [cmpB]) | ((with_reducible first | refine hK _ _ ?_ | (clear hK; refine hK _ _ ?_) | (clear hK; clear hK; refine hK _ _ ?_)); clear hK; try clear K) | (simp -implicitDefEqProofs only [hs, h0, true_and, go_sem, seval]) | (with_reducible intro b) | (with_reducible refine And.intro ?_ ?_; · first | assumption | omega | (unfold R64; omega)))
      refine call_is p_cmpint ?_
      repeat (first | (with_reducible refine pv_seq fun K hK => ?_) | (with_reducible refine pv_reg ?_; simp -implicitDefEqProofs only [cmpB]) | (with_reducible refine pv_draw (id := 1) [(0, 1), (2, 2), (1, 4), (3, 3), (4, 0), (5, 0)] (by kernel_rfl) ?_; simp -implicitDefEqProofs only [cmpB]) | ((with_reducible first | refine hK _ _ ?_ | (clear hK; refine hK _ _ ?_) | (clear hK; clear hK; refine hK _ _ ?_)); clear hK; try clear K) | (simp -implicitDefEqProofs only [hs, h0, true_and, go_sem, seval]) | (with_reducible intro b) | (with_reducible refine And.intro ?_ ?_; · first | assumption | omega | (unfold R64; omega)))
      rw [a0, b0, cmpD_zero]; rfl
    · have a1 : N64 w ≠ 0 := fun h => h0 (hs ▸ sgnD_zero.2 (dy_zero.2 h))
      have b1 : N64 w' ≠ 0 := fun h => h0 (sgnD_zero.2 (dy_zero.2 h))
      repeat (first | (with_reducible refine pv_seq fun K hK => ?_) | (with_reducible refine pv_reg ?_; simp -implicitDefEqProofs only [cmpB]) | (with_reducible refine pv_draw (id := 1) [(0, 1), (2, 2), (1, 4), (3, 3), (4, 0), (5, 0)] (by kernel_rfl) ?_; simp -implicitDefEqProofs only [cmpB]) | ((with_reducible first | refine hK _ _ ?_ | (clear hK; refine hK _ _ ?_) | (clear hK; clear hK; refine hK _ _ ?_)); clear hK; try clear K) | (simp -implicitDefEqProofs only [hs, eq_false h0, true_and, go_sem, seval]) | (with_reducible intro b) | (with_reducible refine And.intro ?_ ?_; · first | assumption | omega | (unfold R64; omega)))
      refine call_is (p_eSize ha hb hk a1 b1) ?_
      repeat (first | (with_reducible refine pv_seq fun K hK => ?_) | (with_reducible refine pv_reg ?_; simp -implicitDefEqProofs only [cmpB]) | (with_reducible refine pv_draw (id := 1) [(0, 1), (2, 2), (1, 4), (3, 3), (4, 0), (5, 0)] (by kernel_rfl) ?_; simp -implicitDefEqProofs only [cmpB]) | ((with_reducible first | refine hK _ _ ?_ | (clear hK; refine hK _ _ ?_) | (clear hK; clear hK; refine hK _ _ ?_)); clear hK; try clear K) | (simp -implicitDefEqProofs only [hs, eq_false h0, true_and, go_sem, seval]) | (with_reducible intro b) | (with_reducible refine And.intro ?_ ?_; · first | assumption | omega | (unfold R64; omega)))
      have r1 := sgnD_range (Nu.val ⟨neg', exp', w'⟩)
      have r2 := cmpD_range (dy false (N64 w) exp) (dy false (N64 w') exp')
      have hab := cmpD_abs a1 b1 hs
      refine ⟨?_, ?_⟩
      · generalize sgnD (Nu.val ⟨neg', exp', w'⟩) = s at *
        generalize cmpD (dy false (N64 w) exp) (dy false (N64 w') exp') = c at *
        have : s = -1 ∨ s = 0 ∨ s = 1 := by omega
        rcases this with rfl | rfl | rfl <;> (unfold R64; omega)
      · repeat (first | (with_reducible refine pv_seq fun K hK => ?_) | (with_reducible refine pv_reg ?_; simp -implicitDefEqProofs only [cmpB]) | (with_reducible refine pv_draw (id := 1) [(0, 1), (2, 2), (1, 4), (3, 3), (4, 0), (5, 0)] (by kernel_rfl) ?_; simp -implicitDefEqProofs only [cmpB]) | ((with_reducible first | refine hK _ _ ?_ | (clear hK; refine hK _ _ ?_) | (clear hK; clear hK; refine hK _ _ ?_)); clear hK; try clear K) | (simp -implicitDefEqProofs only [hs, eq_false h0, true_and, go_sem, seval]) | (with_reducible intro b) | (with_reducible refine And.intro ?_ ?_; · first | assumption | omega | (unfold R64; omega)))
        exact congrArg i64 hab
  · repeat (first | (with_reducible refine pv_seq fun K hK => ?_) | (with_reducible refine pv_reg ?_; simp -implicitDefEqProofs only [cmpB]) | (with_reducible refine pv_draw (id := 1) [(0, 1), (2, 2), (1, 4), (3, 3), (4, 0), (5, 0)] (by kernel_rfl) ?_; simp -implicitDefEqProofs only [cmpB]) | ((with_reducible first | refine hK _ _ ?_ | (clear hK; refine hK _ _ ?_) | (clear hK; clear hK; refine hK _ _ ?_)); clear hK; try clear K) | (simp -implicitDefEqProofs only [eq_false hs, true_and, go_sem, seval]) | (with_reducible intro b) | (with_reducible refine And.intro ?_ ?_; · first | assumption | omega | (unfold R64; omega)))
    refine call_is p_cmpint ?_
    repeat (first | (with_reducible refine pv_seq fun K hK => ?_) | (with_reducible refine pv_reg ?_; simp -implicitDefEqProofs only [cmpB]) | (with_reducible refine pv_draw (id := 1) [(0, 1), (2, 2), (1, 4), (3, 3), (4, 0), (5, 0)] (by kernel_rfl) ?_; simp -implicitDefEqProofs only [cmpB]) | ((with_reducible first | refine hK _ _ ?_ | (clear hK; refine hK _ _ ?_) | (clear hK; clear hK; refine hK _ _ ?_)); clear hK; try clear K) | (simp -implicitDefEqProofs only [eq_false hs, true_and, go_sem, seval]) | (with_reducible intro b) | (with_reducible refine And.intro ?_ ?_; · first | assumption | omega | (unfold R64; omega)))
    rw [cmpD_sgn hs]

end Go.V

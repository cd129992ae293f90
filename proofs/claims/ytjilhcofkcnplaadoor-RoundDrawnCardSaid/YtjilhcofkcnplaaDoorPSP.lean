/- The deck's N and Prec. -/
import Derived.Test.YtjilhcofkcnplaaDoorPY
set_option linter.unusedSimpArgs false
set_option linter.unusedVariables false
set_option maxRecDepth 100000
namespace Go.V
open Go Go.RowKit Go.Proofs

theorem u64w {n : Nat} (h : n < 18446744073709551616) : IntKind.u64.wrap (n : Int) = (n : Int) := by simp [IntKind.wrap, IntKind.signed, IntKind.bits]; omega
theorem i64w {n : Nat} (h : n < 9223372036854775808) : IntKind.i64.wrap (n : Int) = (n : Int) := by simp [IntKind.wrap, IntKind.signed, IntKind.bits]; omega
theorem p_dN {k : Nm} {S : Store} {Q : D → Store → Prop} {b i n : Nat} {w : List Nat} (hS : S k = some ⟨b, 2, 0, [[W64 w, i64 i]]⟩) (hb : B64 w) (hi : i ≤ 1000000000) (hn : 0 < n) (hn2 : n ≤ 1099511627776)
    (hQ : ∀ r, r < n → Q (i64 (r : Nat)) (updS S k (some ⟨b, 2, 0, [[W64 w, i64 ((i + 1 : Nat) : Int)]]⟩))) : PFC Tryd.prog 43 [.ptr k b 0 0 2, i64 n] S Q := by
  have e1 := u64w (n := n) (by omega)
  have hlt : w.getD i 0 % n < n := Nat.mod_lt _ hn
  have e2 : (((w.getD i 0 : Nat) : Int).tmod (n : Int)) = ((w.getD i 0 % n : Nat) : Int) := by rw [Int.tmod_eq_emod_of_nonneg (by omega)]; omega
  have hq := hQ _ hlt
  have e3 := i64w (n := w.getD i 0 % n) (by omega)
  have e4 : ((n : Int) = 0) = False := eq_false (by omega)
  generalize w.getD i 0 % n = r at *
  refine PFC.body (args := [.ptr k b 0 0 2, i64 n]) (rs := [.tmp 4]) mixed Tryd.func43 rfl (by kernel_rfl) (by kernel_rfl) (Nat.le_of_ble_eq_true rfl) rfl ?_
  repeat (first | (with_reducible first | refine pv_seq fun K hK => ?_ | refine pv_reg ?_) | ((with_reducible first | refine hK _ _ ?_ | (clear hK; refine hK _ _ ?_) | (clear hK; clear hK; refine hK _ _ ?_)); clear hK; try clear K) | simp -implicitDefEqProofs only [hS, true_and, true_and, go_sem, seval] | with_reducible intro b | (with_reducible refine And.intro ?_ ?_; · first | assumption | omega | (unfold R64; omega)))
  refine p_next (i := i) (by simp -implicitDefEqProofs only [updS, upS]; exact hS) hb (by omega) ?_
  repeat (first | (with_reducible first | refine pv_seq fun K hK => ?_ | refine pv_reg ?_) | ((with_reducible first | refine hK _ _ ?_ | (clear hK; refine hK _ _ ?_) | (clear hK; clear hK; refine hK _ _ ?_)); clear hK; try clear K) | simp -implicitDefEqProofs only [e1, e2, e3, e4, not_false_eq_true, true_and, go_sem, seval] | with_reducible intro b | (with_reducible refine And.intro ?_ ?_; · first | assumption | omega | (unfold R64; omega)))
  exact hq
theorem p_dPrec {k : Nm} {S : Store} {Q : D → Store → Prop} {b i : Nat} {w : List Nat} (hS : S k = some ⟨b, 2, 0, [[W64 w, i64 i]]⟩) (hb : B64 w) (hi : i ≤ 900000000)
    (hQ : ∀ p j : Nat, 8 ≤ p → p ≤ 256 → j ≤ i + 2 → Q (i64 p) (updS S k (some ⟨b, 2, 0, [[W64 w, i64 (j : Int)]]⟩))) : PFC Tryd.prog 17 [.ptr k b 0 0 2] S Q := by
  refine PFC.body (args := [.ptr k b 0 0 2]) (rs := [.tmp 2]) mixed Tryd.func17 rfl (by kernel_rfl) (by kernel_rfl) (Nat.le_of_ble_eq_true rfl) rfl ?_
  repeat (first | (with_reducible first | refine pv_seq fun K hK => ?_ | refine pv_reg ?_) | ((with_reducible first | refine hK _ _ ?_ | (clear hK; refine hK _ _ ?_) | (clear hK; clear hK; refine hK _ _ ?_)); clear hK; try clear K) | simp -implicitDefEqProofs only [hS, true_and, true_and, go_sem, seval] | with_reducible intro b | (with_reducible refine And.intro ?_ ?_; · first | assumption | omega | (unfold R64; omega)))
  refine p_dN (n := 6) (i := i) (by simp -implicitDefEqProofs only [updS, upS]; exact hS) hb (by omega) (by decide) (by decide) (fun r hr => ?_)
  repeat (first | (with_reducible first | refine pv_seq fun K hK => ?_ | refine pv_reg ?_) | ((with_reducible first | refine hK _ _ ?_ | (clear hK; refine hK _ _ ?_) | (clear hK; clear hK; refine hK _ _ ?_)); clear hK; try clear K) | simp -implicitDefEqProofs only [hS, true_and, true_and, go_sem, seval] | with_reducible intro b | (with_reducible refine And.intro ?_ ?_; · first | assumption | omega | (unfold R64; omega)))
  have q0 := hQ 8 (i + 1) (by decide) (by decide) (by omega)
  have q1 := hQ 256 (i + 1) (by decide) (by decide) (by omega)
  by_cases h0 : r = 0
  · repeat (first | (with_reducible first | refine pv_seq fun K hK => ?_ | refine pv_reg ?_) | ((with_reducible first | refine hK _ _ ?_ | (clear hK; refine hK _ _ ?_) | (clear hK; clear hK; refine hK _ _ ?_)); clear hK; try clear K) | simp -implicitDefEqProofs only [eq_true h0, true_and, go_sem, seval] | with_reducible intro b | (with_reducible refine And.intro ?_ ?_; · first | assumption | omega | (unfold R64; omega)))
    exact q0
  · by_cases h1 : r = 1
    · repeat (first | (with_reducible first | refine pv_seq fun K hK => ?_ | refine pv_reg ?_) | ((with_reducible first | refine hK _ _ ?_ | (clear hK; refine hK _ _ ?_) | (clear hK; clear hK; refine hK _ _ ?_)); clear hK; try clear K) | simp -implicitDefEqProofs only [eq_false h0, eq_true (show (r : Int) = 1 by omega), true_and, go_sem, seval] | with_reducible intro b | (with_reducible refine And.intro ?_ ?_; · first | assumption | omega | (unfold R64; omega)))
      exact q1
    · repeat (first | (with_reducible first | refine pv_seq fun K hK => ?_ | refine pv_reg ?_) | ((with_reducible first | refine hK _ _ ?_ | (clear hK; refine hK _ _ ?_) | (clear hK; clear hK; refine hK _ _ ?_)); clear hK; try clear K) | simp -implicitDefEqProofs only [eq_false h0, eq_false (show ¬ (r : Int) = 1 by omega), true_and, go_sem, seval] | with_reducible intro b | (with_reducible refine And.intro ?_ ?_; · first | assumption | omega | (unfold R64; omega)))
      refine p_dN (n := 60) (i := i + 1) (by simp -implicitDefEqProofs only [updS, upS, if_true]; rfl) hb (by omega) (by decide) (by decide) (fun r2 hr2 => ?_)
      have q2 := hQ (12 + r2) (i + 2) (by omega) (by omega) (by omega)
      repeat (first | (with_reducible first | refine pv_seq fun K hK => ?_ | refine pv_reg ?_) | ((with_reducible first | refine hK _ _ ?_ | (clear hK; refine hK _ _ ?_) | (clear hK; clear hK; refine hK _ _ ?_)); clear hK; try clear K) | simp -implicitDefEqProofs only [eq_false h0, eq_false (show ¬ (r : Int) = 1 by omega), true_and, go_sem, seval] | with_reducible intro b | (with_reducible refine And.intro ?_ ?_; · first | assumption | omega | (unfold R64; omega)))
      simp only [updS_updS]
      exact q2



end Go.V

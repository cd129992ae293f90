/- The document's numbers: order and sum, over values as data. -/
import Derived.Test.YtkmoeenhboicmaaDoorR0
set_option linter.unusedSimpArgs false
set_option linter.unusedVariables false
set_option maxRecDepth 100000
namespace Go.V
open Go Go.RowKit Go.Proofs

theorem p_rCmp {m n : Nat} (hlx : (D32 m).length ≤ 1099511627776) (hly : (D32 n).length ≤ 1099511627776) : PC Tryd.prog 91 [W32 (D32 m), W32 (D32 n)] fun d => d = i64 (cmpI m n) := by
  have hbA : B32 (D32 m) := digs_lt two32 m
  have hbB : B32 (D32 n) := digs_lt two32 n
  have hnA : nval 4294967296 (D32 m) = m := nval_digs two32 m
  have hnB : nval 4294967296 (D32 n) = n := nval_digs two32 n
  have lt1 : (D32 m).length < (D32 n).length → m < n := fun h => nval_lt_of_len two32 h
  have lt2 : (D32 n).length < (D32 m).length → n < m := fun h => nval_lt_of_len two32 h
  generalize D32 m = A at *
  generalize D32 n = B at *
  refine PC.body (args := [W32 A, W32 B]) (rs := [.tmp 4]) mixed Tryd.func91 rfl (by kernel_rfl) (by kernel_rfl) (Nat.le_of_ble_eq_true rfl) rfl ?_
  repeat (first | (with_reducible refine pv_seq fun K hK => ?_) | (with_reducible refine pv_reg ?_; simp -implicitDefEqProofs only [cmpB]) | (with_reducible refine pv_draw (id := 8) [(0, 0), (1, 0), (2, 0), (3, 1), (4, 0), (5, 0), (6, 0), (7, 1), (8, 0)] (by kernel_rfl) ?_; simp -implicitDefEqProofs only [cmpB]) | (with_reducible refine pv_draw (id := 10) [(0, 0), (1, 0), (2, 0), (3, 1), (4, 0), (5, 0), (6, 0), (7, 1), (8, 0)] (by kernel_rfl) ?_; simp -implicitDefEqProofs only [cmpB]) | ((with_reducible first | refine hK _ _ ?_ | (clear hK; refine hK _ _ ?_) | (clear hK; clear hK; refine hK _ _ ?_)); clear hK; try clear K) | (simp -implicitDefEqProofs only [true_and, go_sem, seval]) | (with_reducible intro b) | (with_reducible refine And.intro ?_ ?_; · first | assumption | omega | (unfold R64; omega)))
  refine pv_cdD (fun ht => ?_) (fun ht => ?_)
  · repeat (first | (with_reducible refine pv_seq fun K hK => ?_) | (with_reducible refine pv_reg ?_; simp -implicitDefEqProofs only [cmpB]) | (with_reducible refine pv_draw (id := 8) [(0, 0), (1, 0), (2, 0), (3, 1), (4, 0), (5, 0), (6, 0), (7, 1), (8, 0)] (by kernel_rfl) ?_; simp -implicitDefEqProofs only [cmpB]) | (with_reducible refine pv_draw (id := 10) [(0, 0), (1, 0), (2, 0), (3, 1), (4, 0), (5, 0), (6, 0), (7, 1), (8, 0)] (by kernel_rfl) ?_; simp -implicitDefEqProofs only [cmpB]) | ((with_reducible first | refine hK _ _ ?_ | (clear hK; refine hK _ _ ?_) | (clear hK; clear hK; refine hK _ _ ?_)); clear hK; try clear K) | (simp -implicitDefEqProofs only [true_and, go_sem, seval]) | (with_reducible intro b) | (with_reducible refine And.intro ?_ ?_; · first | assumption | omega | (unfold R64; omega)))
    refine pv_cdD (fun ht2 => ?_) (fun ht2 => ?_)
    · repeat (first | (with_reducible refine pv_seq fun K hK => ?_) | (with_reducible refine pv_reg ?_; simp -implicitDefEqProofs only [cmpB]) | (with_reducible refine pv_draw (id := 8) [(0, 0), (1, 0), (2, 0), (3, 1), (4, 0), (5, 0), (6, 0), (7, 1), (8, 0)] (by kernel_rfl) ?_; simp -implicitDefEqProofs only [cmpB]) | (with_reducible refine pv_draw (id := 10) [(0, 0), (1, 0), (2, 0), (3, 1), (4, 0), (5, 0), (6, 0), (7, 1), (8, 0)] (by kernel_rfl) ?_; simp -implicitDefEqProofs only [cmpB]) | ((with_reducible first | refine hK _ _ ?_ | (clear hK; refine hK _ _ ?_) | (clear hK; clear hK; refine hK _ _ ?_)); clear hK; try clear K) | (simp -implicitDefEqProofs only [true_and, go_sem, seval]) | (with_reducible intro b) | (with_reducible refine And.intro ?_ ?_; · first | assumption | omega | (unfold R64; omega)))
      have := lt1 ht2
      unfold cmpI
      rw [if_pos (by omega)]
    · repeat (first | (with_reducible refine pv_seq fun K hK => ?_) | (with_reducible refine pv_reg ?_; simp -implicitDefEqProofs only [cmpB]) | (with_reducible refine pv_draw (id := 8) [(0, 0), (1, 0), (2, 0), (3, 1), (4, 0), (5, 0), (6, 0), (7, 1), (8, 0)] (by kernel_rfl) ?_; simp -implicitDefEqProofs only [cmpB]) | (with_reducible refine pv_draw (id := 10) [(0, 0), (1, 0), (2, 0), (3, 1), (4, 0), (5, 0), (6, 0), (7, 1), (8, 0)] (by kernel_rfl) ?_; simp -implicitDefEqProofs only [cmpB]) | ((with_reducible first | refine hK _ _ ?_ | (clear hK; refine hK _ _ ?_) | (clear hK; clear hK; refine hK _ _ ?_)); clear hK; try clear K) | (simp -implicitDefEqProofs only [true_and, go_sem, seval]) | (with_reducible intro b) | (with_reducible refine And.intro ?_ ?_; · first | assumption | omega | (unfold R64; omega)))
      have := lt2 (by omega)
      unfold cmpI
      rw [if_neg (by omega), if_pos (by omega)]
  · have hlen : A.length = B.length := by omega
    repeat (first | (with_reducible refine pv_seq fun K hK => ?_) | (with_reducible refine pv_reg ?_; simp -implicitDefEqProofs only [cmpB]) | (with_reducible refine pv_draw (id := 8) [(0, 0), (1, 0), (2, 0), (3, 1), (4, 0), (5, 0), (6, 0), (7, 1), (8, 0)] (by kernel_rfl) ?_; simp -implicitDefEqProofs only [cmpB]) | (with_reducible refine pv_draw (id := 10) [(0, 0), (1, 0), (2, 0), (3, 1), (4, 0), (5, 0), (6, 0), (7, 1), (8, 0)] (by kernel_rfl) ?_; simp -implicitDefEqProofs only [cmpB]) | ((with_reducible first | refine hK _ _ ?_ | (clear hK; refine hK _ _ ?_) | (clear hK; clear hK; refine hK _ _ ?_)); clear hK; try clear K) | (simp -implicitDefEqProofs only [true_and, go_sem, seval]) | (with_reducible intro b) | (with_reducible refine And.intro ?_ ?_; · first | assumption | omega | (unfold R64; omega)))
    have J : ∀ (e : DEnv) (S : Store), (∀ j, A.getD j 0 = B.getD j 0) → K e S := by
      intro e S hab
      repeat (first | (with_reducible refine pv_seq fun K hK => ?_) | (with_reducible refine pv_reg ?_; simp -implicitDefEqProofs only [cmpB]) | (with_reducible refine pv_draw (id := 8) [(0, 0), (1, 0), (2, 0), (3, 1), (4, 0), (5, 0), (6, 0), (7, 1), (8, 0)] (by kernel_rfl) ?_; simp -implicitDefEqProofs only [cmpB]) | (with_reducible refine pv_draw (id := 10) [(0, 0), (1, 0), (2, 0), (3, 1), (4, 0), (5, 0), (6, 0), (7, 1), (8, 0)] (by kernel_rfl) ?_; simp -implicitDefEqProofs only [cmpB]) | ((with_reducible first | refine hK _ _ ?_ | (clear hK; refine hK _ _ ?_) | (clear hK; clear hK; refine hK _ _ ?_)); clear hK; try clear K) | (simp -implicitDefEqProofs only [true_and, go_sem, seval]) | (with_reducible intro b) | (with_reducible refine And.intro ?_ ?_; · first | assumption | omega | (unfold R64; omega)))
      have : A = B := list_ext_getD hlen hab
      rw [← hnA, ← hnB, this]
      simp [cmpI]
    clear hK
    refine pv_loop (fun e S => ∃ k : Nat, k ≤ A.length ∧ e 0 = W32 A ∧ e 1 = W32 B ∧ e 5 = i64 ((k : Int) - 1) ∧ ∀ j, k ≤ j → A.getD j 0 = B.getD j 0) (fun e _ => (intD (e 5) + 1).toNat) ?_ ?_
    · refine ⟨A.length, Nat.le_refl _, (by simp -implicitDefEqProofs only [true_and, go_sem, seval]), (by simp -implicitDefEqProofs only [true_and, go_sem, seval]), (by simp -implicitDefEqProofs only [true_and, go_sem, seval]), fun j hj => ?_⟩
      simp [List.getD, List.getElem?_eq_none hj, List.getElem?_eq_none (hlen ▸ hj)]
    · rintro e S ⟨k, hk, g0, g1, g5, hab⟩
      have hmz : (intD (e 5) + 1).toNat = k := by rw [g5]; simp only [intD, i64]; omega
      rcases Nat.eq_zero_or_pos k with rfl | hp
      · have g5 : e 5 = i64 (-1) := g5
        repeat (first | (with_reducible refine pv_seq fun K hK => ?_) | (with_reducible refine pv_reg ?_; simp -implicitDefEqProofs only [cmpB]) | (with_reducible refine pv_draw (id := 8) [(0, 0), (1, 0), (2, 0), (3, 1), (4, 0), (5, 0), (6, 0), (7, 1), (8, 0)] (by kernel_rfl) ?_; simp -implicitDefEqProofs only [cmpB]) | (with_reducible refine pv_draw (id := 10) [(0, 0), (1, 0), (2, 0), (3, 1), (4, 0), (5, 0), (6, 0), (7, 1), (8, 0)] (by kernel_rfl) ?_; simp -implicitDefEqProofs only [cmpB]) | ((with_reducible first | refine hK _ _ ?_ | (clear hK; refine hK _ _ ?_) | (clear hK; clear hK; refine hK _ _ ?_)); clear hK; try clear K) | (simp -implicitDefEqProofs only [g0, g1, g5, true_and, go_sem, seval]) | (with_reducible intro b) | (with_reducible refine And.intro ?_ ?_; · first | assumption | omega | (unfold R64; omega)))
        exact J _ _ (fun j => hab j (Nat.zero_le j))
      · obtain ⟨p, rfl⟩ : ∃ m, k = m + 1 := ⟨k - 1, by omega⟩
        rw [cast_succ_sub] at g5
        have hpB : p < B.length := by omega
        have hab' : ∀ j, p < j → A.getD j 0 = B.getD j 0 := fun j hj => hab j hj
        repeat (first | (with_reducible refine pv_seq fun K hK => ?_) | (with_reducible refine pv_reg ?_; simp -implicitDefEqProofs only [cmpB]) | (with_reducible refine pv_draw (id := 8) [(0, 0), (1, 0), (2, 0), (3, 1), (4, 0), (5, 0), (6, 0), (7, 1), (8, 0)] (by kernel_rfl) ?_; simp -implicitDefEqProofs only [cmpB]) | (with_reducible refine pv_draw (id := 10) [(0, 0), (1, 0), (2, 0), (3, 1), (4, 0), (5, 0), (6, 0), (7, 1), (8, 0)] (by kernel_rfl) ?_; simp -implicitDefEqProofs only [cmpB]) | ((with_reducible first | refine hK _ _ ?_ | (clear hK; refine hK _ _ ?_) | (clear hK; clear hK; refine hK _ _ ?_)); clear hK; try clear K) | (simp -implicitDefEqProofs only [g0, g1, g5, true_and, go_sem, seval]) | (with_reducible intro b) | (with_reducible refine And.intro ?_ ?_; · first | assumption | omega | (unfold R64; omega)))
        refine pv_cdD (fun ht1 => ?_) (fun ht1 => ?_)
        · repeat (first | (with_reducible refine pv_seq fun K hK => ?_) | (with_reducible refine pv_reg ?_; simp -implicitDefEqProofs only [cmpB]) | (with_reducible refine pv_draw (id := 8) [(0, 0), (1, 0), (2, 0), (3, 1), (4, 0), (5, 0), (6, 0), (7, 1), (8, 0)] (by kernel_rfl) ?_; simp -implicitDefEqProofs only [cmpB]) | (with_reducible refine pv_draw (id := 10) [(0, 0), (1, 0), (2, 0), (3, 1), (4, 0), (5, 0), (6, 0), (7, 1), (8, 0)] (by kernel_rfl) ?_; simp -implicitDefEqProofs only [cmpB]) | ((with_reducible first | refine hK _ _ ?_ | (clear hK; refine hK _ _ ?_) | (clear hK; clear hK; refine hK _ _ ?_)); clear hK; try clear K) | (simp -implicitDefEqProofs only [g0, g1, g5, true_and, go_sem, seval]) | (with_reducible intro b) | (with_reducible refine And.intro ?_ ?_; · first | assumption | omega | (unfold R64; omega)))
          have := nval_part (B := 4294967296) (by decide) hbA hlen (i := p) (by omega) hab' ht1
          rw [hnA, hnB] at this
          unfold cmpI
          rw [if_pos (by omega)]
        · repeat (first | (with_reducible refine pv_seq fun K hK => ?_) | (with_reducible refine pv_reg ?_; simp -implicitDefEqProofs only [cmpB]) | (with_reducible refine pv_draw (id := 8) [(0, 0), (1, 0), (2, 0), (3, 1), (4, 0), (5, 0), (6, 0), (7, 1), (8, 0)] (by kernel_rfl) ?_; simp -implicitDefEqProofs only [cmpB]) | (with_reducible refine pv_draw (id := 10) [(0, 0), (1, 0), (2, 0), (3, 1), (4, 0), (5, 0), (6, 0), (7, 1), (8, 0)] (by kernel_rfl) ?_; simp -implicitDefEqProofs only [cmpB]) | ((with_reducible first | refine hK _ _ ?_ | (clear hK; refine hK _ _ ?_) | (clear hK; clear hK; refine hK _ _ ?_)); clear hK; try clear K) | (simp -implicitDefEqProofs only [g0, g1, g5, true_and, go_sem, seval]) | (with_reducible intro b) | (with_reducible refine And.intro ?_ ?_; · first | assumption | omega | (unfold R64; omega)))
          refine pv_cdD (fun ht2 => ?_) (fun ht2 => ?_)
          · repeat (first | (with_reducible refine pv_seq fun K hK => ?_) | (with_reducible refine pv_reg ?_; simp -implicitDefEqProofs only [cmpB]) | (with_reducible refine pv_draw (id := 8) [(0, 0), (1, 0), (2, 0), (3, 1), (4, 0), (5, 0), (6, 0), (7, 1), (8, 0)] (by kernel_rfl) ?_; simp -implicitDefEqProofs only [cmpB]) | (with_reducible refine pv_draw (id := 10) [(0, 0), (1, 0), (2, 0), (3, 1), (4, 0), (5, 0), (6, 0), (7, 1), (8, 0)] (by kernel_rfl) ?_; simp -implicitDefEqProofs only [cmpB]) | ((with_reducible first | refine hK _ _ ?_ | (clear hK; refine hK _ _ ?_) | (clear hK; clear hK; refine hK _ _ ?_)); clear hK; try clear K) | (simp -implicitDefEqProofs only [g0, g1, g5, true_and, go_sem, seval]) | (with_reducible intro b) | (with_reducible refine And.intro ?_ ?_; · first | assumption | omega | (unfold R64; omega)))
            have := nval_part (B := 4294967296) (by decide) hbB hlen.symm (i := p) (by omega) (fun j hj => (hab' j hj).symm) ht2
            rw [hnA, hnB] at this
            unfold cmpI
            rw [if_neg (by omega), if_pos (by omega)]
          · repeat (first | (with_reducible refine pv_seq fun K hK => ?_) | (with_reducible refine pv_reg ?_; simp -implicitDefEqProofs only [cmpB]) | (with_reducible refine pv_draw (id := 8) [(0, 0), (1, 0), (2, 0), (3, 1), (4, 0), (5, 0), (6, 0), (7, 1), (8, 0)] (by kernel_rfl) ?_; simp -implicitDefEqProofs only [cmpB]) | (with_reducible refine pv_draw (id := 10) [(0, 0), (1, 0), (2, 0), (3, 1), (4, 0), (5, 0), (6, 0), (7, 1), (8, 0)] (by kernel_rfl) ?_; simp -implicitDefEqProofs only [cmpB]) | ((with_reducible first | refine hK _ _ ?_ | (clear hK; refine hK _ _ ?_) | (clear hK; clear hK; refine hK _ _ ?_)); clear hK; try clear K) | (simp -implicitDefEqProofs only [g0, g1, g5, true_and, go_sem, seval]) | (with_reducible intro b) | (with_reducible refine And.intro ?_ ?_; · first | assumption | omega | (unfold R64; omega)))
            refine ⟨⟨p, by omega, rfl, fun j hj => ?_⟩, ?_⟩
            · rcases Nat.lt_or_ge p j with h' | h'
              · exact hab j h'
              · obtain rfl : j = p := by omega
                omega
            · simp only [intD]; omega

theorem p_rAdd {A B : List Nat} (hbA : B32 A) (hbB : B32 B) (hlA : A.length ≤ 1099511627776) (hlB : B.length ≤ 1099511627776) : PC Tryd.prog 90 [W32 A, W32 B] fun d => d = W32 (D32 (N32 A + N32 B)) := by
  refine PC.body (args := [W32 A, W32 B]) (rs := [.tmp 4]) mixed Tryd.func90 rfl (by kernel_rfl) (by kernel_rfl) (Nat.le_of_ble_eq_true rfl) rfl ?_
  repeat (first | (with_reducible refine pv_seq fun K hK => ?_) | (with_reducible refine pv_reg ?_; simp -implicitDefEqProofs only [cmpB]) | (fail) | ((with_reducible first | refine hK _ _ ?_ | (clear hK; refine hK _ _ ?_) | (clear hK; clear hK; refine hK _ _ ?_)); clear hK; try clear K) | (simp -implicitDefEqProofs only [true_and, go_sem, seval]) | (with_reducible intro b) | (with_reducible refine And.intro ?_ ?_; · first | assumption | omega | (unfold R64; omega)))
  have J : ∀ (e : DEnv) (S : Store) (os : List Nat), RowD S (.l 38) 1 (e 5) (rS (eK .u32) os) → B32 os → N32 os = N32 A + N32 B → os.length ≤ 2199023255553 → K e S := by
    intro e S os hr hb hv hl
    repeat (first | (with_reducible refine pv_seq fun K hK => ?_) | (with_reducible refine pv_reg ?_; simp -implicitDefEqProofs only [cmpB]) | (fail) | ((with_reducible first | refine hK _ _ ?_ | (clear hK; refine hK _ _ ?_) | (clear hK; clear hK; refine hK _ _ ?_)); clear hK; try clear K) | (simp -implicitDefEqProofs only [true_and, go_sem, seval]) | (with_reducible intro b) | (with_reducible refine And.intro ?_ ?_; · first | assumption | omega | (unfold R64; omega)))
    refine PFC.coe (hr.coe1 fun S' _ _ => ?_)
    refine call_is (p_trim hb (by omega)) ?_
    rw [hv]
    repeat (first | (with_reducible refine pv_seq fun K hK => ?_) | (with_reducible refine pv_reg ?_; simp -implicitDefEqProofs only [cmpB]) | (fail) | ((with_reducible first | refine hK _ _ ?_ | (clear hK; refine hK _ _ ?_) | (clear hK; clear hK; refine hK _ _ ?_)); clear hK; try clear K) | (simp -implicitDefEqProofs only [true_and, go_sem, seval]) | (with_reducible intro b) | (with_reducible refine And.intro ?_ ?_; · first | assumption | omega | (unfold R64; omega)))
  clear hK
  refine pv_loop (fun e S => ∃ (i c : Nat) (os : List Nat), i ≤ A.length + B.length + 1 ∧ (c ≠ 0 → i ≤ A.length + B.length) ∧ c ≤ 1 ∧ os.length = i ∧ B32 os ∧ N32 os + 4294967296 ^ i * (c + (N32 (A.drop i) + N32 (B.drop i))) = N32 A + N32 B ∧ e 0 = W32 A ∧ e 1 = W32 B ∧ e 6 = .g (.lit (.int .u64 c)) ∧ e 7 = i64 i ∧ RowD S (.l 38) 1 (e 5) (rS (eK .u32) os)) (fun e _ => A.length + B.length + 2 - (intD (e 7)).toNat) ?_ ?_
  · exact ⟨0, 0, [], by omega, by omega, by omega, rfl, (fun x hx => by cases hx), by simp [nval], (by simp -implicitDefEqProofs only [true_and, go_sem, seval]), (by simp -implicitDefEqProofs only [true_and, go_sem, seval]), rfl, (by simp -implicitDefEqProofs only [true_and, go_sem, seval]), .nil⟩
  · rintro e S ⟨i, c, os, hi, hci, hc, hol, hob, hv, g0, g1, g6, g7, hr⟩
    have hmz : (intD (e 7)).toNat = i := by rw [g7]; rfl
    with_reducible refine pv_seq fun K hK => ?_
    have ha := get_lt hbA (by decide) i
    have hb := get_lt hbB (by decide) i
    have J2 : ∀ (e1 : DEnv), e1 0 = W32 A → e1 1 = W32 B → e1 5 = e 5 → e1 6 = .g (.lit (.int .u64 c)) → e1 7 = i64 i → i ≤ A.length + B.length → (i < A.length ∨ i < B.length ∨ c ≠ 0) → K e1 S := by
      intro e1 k0 k1 k5 k6 k7 hi' hon
      have hm1 : (A.getD i 0 + B.getD i 0) % 18446744073709551616 = A.getD i 0 + B.getD i 0 := Nat.mod_eq_of_lt (by omega)
      have hm2 : (c + (A.getD i 0 + B.getD i 0)) % 18446744073709551616 = c + (A.getD i 0 + B.getD i 0) := Nat.mod_eq_of_lt (by omega)
      have hlow := low32 (c + (A.getD i 0 + B.getD i 0)) (by omega)
      repeat (first | (with_reducible refine pv_seq fun K hK => ?_) | (with_reducible refine pv_reg ?_; simp -implicitDefEqProofs only [cmpB]) | (fail) | ((with_reducible first | refine hK _ _ ?_ | (clear hK; refine hK _ _ ?_) | (clear hK; clear hK; refine hK _ _ ?_)); clear hK; try clear K) | (simp -implicitDefEqProofs only [k0, k1, k5, k6, k7, hm1, hm2, hlow, Nat.mod_mod, true_and, go_sem, seval]) | (with_reducible intro b) | (with_reducible refine And.intro ?_ ?_; · first | assumption | omega | (unfold R64; omega)))
      refine call_is (p_digit hbA) ?_
      repeat (first | (with_reducible refine pv_seq fun K hK => ?_) | (with_reducible refine pv_reg ?_; simp -implicitDefEqProofs only [cmpB]) | (fail) | ((with_reducible first | refine hK _ _ ?_ | (clear hK; refine hK _ _ ?_) | (clear hK; clear hK; refine hK _ _ ?_)); clear hK; try clear K) | (simp -implicitDefEqProofs only [k0, k1, k5, k6, k7, hm1, hm2, hlow, Nat.mod_mod, true_and, go_sem, seval]) | (with_reducible intro b) | (with_reducible refine And.intro ?_ ?_; · first | assumption | omega | (unfold R64; omega)))
      refine call_is (p_digit hbB) ?_
      repeat (first | (with_reducible refine pv_seq fun K hK => ?_) | (with_reducible refine pv_reg ?_; simp -implicitDefEqProofs only [cmpB]) | (fail) | ((with_reducible first | refine hK _ _ ?_ | (clear hK; refine hK _ _ ?_) | (clear hK; clear hK; refine hK _ _ ?_)); clear hK; try clear K) | (simp -implicitDefEqProofs only [k0, k1, k5, k6, k7, hm1, hm2, hlow, Nat.mod_mod, true_and, go_sem, seval]) | (with_reducible intro b) | (with_reducible refine And.intro ?_ ?_; · first | assumption | omega | (unfold R64; omega)))
      refine RowD.appL hr (by decide) rfl (by simp [D.one]) ?_ ?_ fun d' S' hr' hS' => ?_
      · rw [rS_len]; simp; omega
      · rw [rS_len]; simp; omega
      repeat (first | (with_reducible refine pv_seq fun K hK => ?_) | (with_reducible refine pv_reg ?_; simp -implicitDefEqProofs only [cmpB]) | (fail) | ((with_reducible first | refine hK _ _ ?_ | (clear hK; refine hK _ _ ?_) | (clear hK; clear hK; refine hK _ _ ?_)); clear hK; try clear K) | (simp -implicitDefEqProofs only [k0, k1, k5, k6, k7, hm1, hm2, hlow, Nat.mod_mod, true_and, go_sem, seval]) | (with_reducible intro b) | (with_reducible refine And.intro ?_ ?_; · first | assumption | omega | (unfold R64; omega)))
      rw [rS_w, rS_app] at hr'
      refine ⟨⟨i + 1, (c + (A.getD i 0 + B.getD i 0)) / 4294967296, _, by omega, ?_, by omega, by simp [hol], ?_, ?_, rfl, rfl, hr'⟩, ?_⟩
      · intro hne
        rcases hon with h | h | h
        · omega
        · omega
        · rcases Nat.lt_or_ge i A.length with h' | h'
          · omega
          · rcases Nat.lt_or_ge i B.length with h'' | h''
            · omega
            · have e1 : A.getD i 0 = 0 := by simp [List.getD, List.getElem?_eq_none h']
              have e2 : B.getD i 0 = 0 := by simp [List.getD, List.getElem?_eq_none h'']
              omega
      · intro y hy
        simp only [List.mem_append, List.mem_singleton] at hy
        rcases hy with hy | rfl
        · exact hob y hy
        · omega
      · simp only [N32] at hv ⊢
        rw [← hv, nval_append, drop_step A (i := i), drop_step B (i := i), hol, Nat.pow_succ]
        simp only [nval, Nat.mul_zero, Nat.add_zero]
        generalize nval 4294967296 (A.drop (i + 1)) = u
        generalize nval 4294967296 (B.drop (i + 1)) = v
        have key : c + (A.getD i 0 + 4294967296 * u + (B.getD i 0 + 4294967296 * v)) = (c + (A.getD i 0 + B.getD i 0)) % 4294967296 + 4294967296 * ((c + (A.getD i 0 + B.getD i 0)) / 4294967296 + (u + v)) := by
          have := Nat.mod_add_div (c + (A.getD i 0 + B.getD i 0)) 4294967296
          omega
        rw [key, Nat.mul_assoc, Nat.add_assoc, ← Nat.mul_add]
      · rw [hmz]; simp only [intD]; omega
    clear hK
    by_cases h1 : i < A.length
    · repeat (first | (with_reducible refine pv_seq fun K hK => ?_) | (with_reducible refine pv_reg ?_; simp -implicitDefEqProofs only [cmpB]) | (fail) | ((with_reducible first | refine hK _ _ ?_ | (clear hK; refine hK _ _ ?_) | (clear hK; clear hK; refine hK _ _ ?_)); clear hK; try clear K) | (simp -implicitDefEqProofs only [g0, g1, g6, g7, h1, true_and, go_sem, seval]) | (with_reducible intro b) | (with_reducible refine And.intro ?_ ?_; · first | assumption | omega | (unfold R64; omega)))
      exact J2 _ (by simp -implicitDefEqProofs only [g0, g1, g6, g7, h1, true_and, go_sem, seval]) (by simp -implicitDefEqProofs only [g0, g1, g6, g7, h1, true_and, go_sem, seval]) (by simp -implicitDefEqProofs only [g0, g1, g6, g7, h1, true_and, go_sem, seval]) (by simp -implicitDefEqProofs only [g0, g1, g6, g7, h1, true_and, go_sem, seval]) (by simp -implicitDefEqProofs only [g0, g1, g6, g7, h1, true_and, go_sem, seval]) (by omega) (by omega)
    by_cases h2 : i < B.length
    · repeat (first | (with_reducible refine pv_seq fun K hK => ?_) | (with_reducible refine pv_reg ?_; simp -implicitDefEqProofs only [cmpB]) | (fail) | ((with_reducible first | refine hK _ _ ?_ | (clear hK; refine hK _ _ ?_) | (clear hK; clear hK; refine hK _ _ ?_)); clear hK; try clear K) | (simp -implicitDefEqProofs only [g0, g1, g6, g7, h1, h2, true_and, go_sem, seval]) | (with_reducible intro b) | (with_reducible refine And.intro ?_ ?_; · first | assumption | omega | (unfold R64; omega)))
      exact J2 _ (by simp -implicitDefEqProofs only [g0, g1, g6, g7, h1, h2, true_and, go_sem, seval]) (by simp -implicitDefEqProofs only [g0, g1, g6, g7, h1, h2, true_and, go_sem, seval]) (by simp -implicitDefEqProofs only [g0, g1, g6, g7, h1, h2, true_and, go_sem, seval]) (by simp -implicitDefEqProofs only [g0, g1, g6, g7, h1, h2, true_and, go_sem, seval]) (by simp -implicitDefEqProofs only [g0, g1, g6, g7, h1, h2, true_and, go_sem, seval]) (by omega) (by omega)
    rcases Nat.eq_zero_or_pos c with rfl | h3
    · repeat (first | (with_reducible refine pv_seq fun K hK => ?_) | (with_reducible refine pv_reg ?_; simp -implicitDefEqProofs only [cmpB]) | (fail) | ((with_reducible first | refine hK _ _ ?_ | (clear hK; refine hK _ _ ?_) | (clear hK; clear hK; refine hK _ _ ?_)); clear hK; try clear K) | (simp -implicitDefEqProofs only [g0, g1, g6, g7, h1, h2, true_and, go_sem, seval]) | (with_reducible intro b) | (with_reducible refine And.intro ?_ ?_; · first | assumption | omega | (unfold R64; omega)))
      refine J _ _ os (by try simp -implicitDefEqProofs only [g0, g1, g6, g7, h1, h2, true_and, go_sem, seval]; exact hr) hob ?_ (by omega)
      simp only [N32] at hv ⊢
      rw [nval_drop_all (by omega), nval_drop_all (by omega)] at hv
      simpa using hv
    · repeat (first | (with_reducible refine pv_seq fun K hK => ?_) | (with_reducible refine pv_reg ?_; simp -implicitDefEqProofs only [cmpB]) | (fail) | ((with_reducible first | refine hK _ _ ?_ | (clear hK; refine hK _ _ ?_) | (clear hK; clear hK; refine hK _ _ ?_)); clear hK; try clear K) | (simp -implicitDefEqProofs only [g0, g1, g6, g7, h1, h2, h3, true_and, go_sem, seval]) | (with_reducible intro b) | (with_reducible refine And.intro ?_ ?_; · first | assumption | omega | (unfold R64; omega)))
      exact J2 _ (by simp -implicitDefEqProofs only [g0, g1, g6, g7, h1, h2, h3, true_and, go_sem, seval]) (by simp -implicitDefEqProofs only [g0, g1, g6, g7, h1, h2, h3, true_and, go_sem, seval]) (by simp -implicitDefEqProofs only [g0, g1, g6, g7, h1, h2, h3, true_and, go_sem, seval]) (by simp -implicitDefEqProofs only [g0, g1, g6, g7, h1, h2, h3, true_and, go_sem, seval]) (by simp -implicitDefEqProofs only [g0, g1, g6, g7, h1, h2, h3, true_and, go_sem, seval]) (hci (by omega)) (by omega)

theorem p_rSub {A B : List Nat} (hbA : B32 A) (hbB : B32 B) (hlA : A.length ≤ 1099511627776) (hle : N32 B ≤ N32 A) : PC Tryd.prog 92 [W32 A, W32 B] fun d => d = W32 (D32 (N32 A - N32 B)) := by
  refine PC.body (args := [W32 A, W32 B]) (rs := [.tmp 4]) mixed Tryd.func92 rfl (by kernel_rfl) (by kernel_rfl) (Nat.le_of_ble_eq_true rfl) rfl ?_
  repeat (first | (with_reducible refine pv_seq fun K hK => ?_) | (with_reducible refine pv_reg ?_; simp -implicitDefEqProofs only [cmpB]) | (with_reducible refine pv_draw (id := 6) [(0, 0), (1, 0), (2, 0), (3, 2), (4, 0), (5, 0), (6, 0), (8, 0), (7, 4), (9, 0), (10, 0), (11, 0)] (by kernel_rfl) ?_; simp -implicitDefEqProofs only [cmpB]) | ((with_reducible first | refine hK _ _ ?_ | (clear hK; refine hK _ _ ?_) | (clear hK; clear hK; refine hK _ _ ?_)); clear hK; try clear K) | (simp -implicitDefEqProofs only [true_and, go_sem, seval]) | (with_reducible intro b) | (with_reducible refine And.intro ?_ ?_; · first | assumption | omega | (unfold R64; omega)))
  have J : ∀ (e : DEnv) (S : Store) (os : List Nat), RowD S (.l 37) 1 (e 5) (rS (eK .u32) os) → B32 os → N32 os = N32 A - N32 B → os.length ≤ 2199023255553 → K e S := by
    intro e S os hr hb hv hl
    repeat (first | (with_reducible refine pv_seq fun K hK => ?_) | (with_reducible refine pv_reg ?_; simp -implicitDefEqProofs only [cmpB]) | (with_reducible refine pv_draw (id := 6) [(0, 0), (1, 0), (2, 0), (3, 2), (4, 0), (5, 0), (6, 0), (8, 0), (7, 4), (9, 0), (10, 0), (11, 0)] (by kernel_rfl) ?_; simp -implicitDefEqProofs only [cmpB]) | ((with_reducible first | refine hK _ _ ?_ | (clear hK; refine hK _ _ ?_) | (clear hK; clear hK; refine hK _ _ ?_)); clear hK; try clear K) | (simp -implicitDefEqProofs only [true_and, go_sem, seval]) | (with_reducible intro b) | (with_reducible refine And.intro ?_ ?_; · first | assumption | omega | (unfold R64; omega)))
    refine PFC.coe (hr.coe1 fun S' _ _ => ?_)
    refine call_is (p_trim hb (by omega)) ?_
    rw [hv]
    repeat (first | (with_reducible refine pv_seq fun K hK => ?_) | (with_reducible refine pv_reg ?_; simp -implicitDefEqProofs only [cmpB]) | (with_reducible refine pv_draw (id := 6) [(0, 0), (1, 0), (2, 0), (3, 2), (4, 0), (5, 0), (6, 0), (8, 0), (7, 4), (9, 0), (10, 0), (11, 0)] (by kernel_rfl) ?_; simp -implicitDefEqProofs only [cmpB]) | ((with_reducible first | refine hK _ _ ?_ | (clear hK; refine hK _ _ ?_) | (clear hK; clear hK; refine hK _ _ ?_)); clear hK; try clear K) | (simp -implicitDefEqProofs only [true_and, go_sem, seval]) | (with_reducible intro b) | (with_reducible refine And.intro ?_ ?_; · first | assumption | omega | (unfold R64; omega)))
  clear hK
  refine pv_loop (fun e S => ∃ (i c : Nat) (os : List Nat), i ≤ A.length ∧ c ≤ 1 ∧ os.length = i ∧ B32 os ∧ N32 os + N32 B + 4294967296 ^ i * N32 (A.drop i) = N32 A + 4294967296 ^ i * (N32 (B.drop i) + c) ∧ e 0 = W32 A ∧ e 1 = W32 B ∧ e 6 = .g (.lit (.int .u64 c)) ∧ e 7 = i64 i ∧ RowD S (.l 37) 1 (e 5) (rS (eK .u32) os)) (fun e _ => A.length + 1 - (intD (e 7)).toNat) ?_ ?_
  · exact ⟨0, 0, [], by omega, by omega, rfl, (fun x hx => by cases hx), by simp [nval, Nat.add_comm], (by simp -implicitDefEqProofs only [true_and, go_sem, seval]), (by simp -implicitDefEqProofs only [true_and, go_sem, seval]), rfl, (by simp -implicitDefEqProofs only [true_and, go_sem, seval]), .nil⟩
  · rintro e S ⟨i, c, os, hi, hc, hol, hob, hv, g0, g1, g6, g7, hr⟩
    have hmz : (intD (e 7)).toNat = i := by rw [g7]; rfl
    have ha := get_lt hbA (by decide) i
    have hb := get_lt hbB (by decide) i
    have hm1 : (B.getD i 0 + c) % 18446744073709551616 = B.getD i 0 + c := Nat.mod_eq_of_lt (by omega)
    have hma : A.getD i 0 % 18446744073709551616 = A.getD i 0 := Nat.mod_eq_of_lt (by omega)
    have hw : IntKind.u64.wrap ((A.getD i 0 : Int) + 4294967296) = ((A.getD i 0 + 4294967296 : Nat) : Int) := by
      rw [show ((A.getD i 0 : Int) + 4294967296) = ((A.getD i 0 + 4294967296 : Nat) : Int) by omega, wrap64_nat, Nat.mod_eq_of_lt (by omega)]
    repeat (first | (with_reducible refine pv_seq fun K hK => ?_) | (with_reducible refine pv_reg ?_; simp -implicitDefEqProofs only [cmpB]) | (with_reducible refine pv_draw (id := 6) [(0, 0), (1, 0), (2, 0), (3, 2), (4, 0), (5, 0), (6, 0), (8, 0), (7, 4), (9, 0), (10, 0), (11, 0)] (by kernel_rfl) ?_; simp -implicitDefEqProofs only [cmpB]) | ((with_reducible first | refine hK _ _ ?_ | (clear hK; refine hK _ _ ?_) | (clear hK; clear hK; refine hK _ _ ?_)); clear hK; try clear K) | (simp -implicitDefEqProofs only [g0, g1, g6, g7, hm1, hma, hw, true_and, go_sem, seval]) | (with_reducible intro b) | (with_reducible refine And.intro ?_ ?_; · first | assumption | omega | (unfold R64; omega)))
    refine pv_cdD (fun ht => ?_) (fun ht => ?_)
    · repeat (first | (with_reducible refine pv_seq fun K hK => ?_) | (with_reducible refine pv_reg ?_; simp -implicitDefEqProofs only [cmpB]) | (with_reducible refine pv_draw (id := 6) [(0, 0), (1, 0), (2, 0), (3, 2), (4, 0), (5, 0), (6, 0), (8, 0), (7, 4), (9, 0), (10, 0), (11, 0)] (by kernel_rfl) ?_; simp -implicitDefEqProofs only [cmpB]) | ((with_reducible first | refine hK _ _ ?_ | (clear hK; refine hK _ _ ?_) | (clear hK; clear hK; refine hK _ _ ?_)); clear hK; try clear K) | (simp -implicitDefEqProofs only [g0, g1, g6, g7, hm1, hma, hw, true_and, go_sem, seval]) | (with_reducible intro b) | (with_reducible refine And.intro ?_ ?_; · first | assumption | omega | (unfold R64; omega)))
      refine ExtC_is ?_
      simp -implicitDefEqProofs only [g0, g1, g6, g7, hm1, hma, hw, true_and, go_sem, seval]
      refine (p_digit (i := i) hbB).mono fun d hd => ?_
      subst hd
      repeat (first | (with_reducible refine pv_seq fun K hK => ?_) | (with_reducible refine pv_reg ?_; simp -implicitDefEqProofs only [cmpB]) | (with_reducible refine pv_draw (id := 6) [(0, 0), (1, 0), (2, 0), (3, 2), (4, 0), (5, 0), (6, 0), (8, 0), (7, 4), (9, 0), (10, 0), (11, 0)] (by kernel_rfl) ?_; simp -implicitDefEqProofs only [cmpB]) | ((with_reducible first | refine hK _ _ ?_ | (clear hK; refine hK _ _ ?_) | (clear hK; clear hK; refine hK _ _ ?_)); clear hK; try clear K) | (simp -implicitDefEqProofs only [g0, g1, g6, g7, hm1, hma, hw, true_and, go_sem, seval]) | (with_reducible intro b) | (with_reducible refine And.intro ?_ ?_; · first | assumption | omega | (unfold R64; omega)))
      have J2 : ∀ (e1 : DEnv) (x c' : Nat), e1 0 = W32 A → e1 1 = W32 B → e1 5 = e 5 → e1 6 = .g (.lit (.int .u64 c')) → e1 7 = i64 i → e1 8 = .g (.lit (.int .u64 x)) → e1 9 = .g (.lit (.int .u64 (B.getD i 0 + c : Nat))) → c' ≤ 1 → x = A.getD i 0 + 4294967296 * c' → B.getD i 0 + c ≤ x → x < B.getD i 0 + c + 4294967296 → K e1 S := by
        intro e1 x c' k0 k1 k5 k6 k7 k8 k9 hc' hx hle' hlt'
        have hs : IntKind.u64.wrap ((x : Int) - ((B.getD i 0 + c : Nat) : Int)) = ((x - (B.getD i 0 + c) : Nat) : Int) := by
          rw [show ((x : Int) - ((B.getD i 0 + c : Nat) : Int)) = ((x - (B.getD i 0 + c) : Nat) : Int) by omega, wrap64_nat, Nat.mod_eq_of_lt (by omega)]
        have hm3 : (x - (B.getD i 0 + c)) % 4294967296 = x - (B.getD i 0 + c) := Nat.mod_eq_of_lt (by omega)
        repeat (first | (with_reducible refine pv_seq fun K hK => ?_) | (with_reducible refine pv_reg ?_; simp -implicitDefEqProofs only [cmpB]) | (with_reducible refine pv_draw (id := 6) [(0, 0), (1, 0), (2, 0), (3, 2), (4, 0), (5, 0), (6, 0), (8, 0), (7, 4), (9, 0), (10, 0), (11, 0)] (by kernel_rfl) ?_; simp -implicitDefEqProofs only [cmpB]) | ((with_reducible first | refine hK _ _ ?_ | (clear hK; refine hK _ _ ?_) | (clear hK; clear hK; refine hK _ _ ?_)); clear hK; try clear K) | (simp -implicitDefEqProofs only [k0, k1, k5, k6, k7, k8, k9, hs, hm3, true_and, go_sem, seval]) | (with_reducible intro b) | (with_reducible refine And.intro ?_ ?_; · first | assumption | omega | (unfold R64; omega)))
        refine RowD.appL hr (by decide) rfl (by simp [D.one]) ?_ ?_ fun d' S' hr' hS' => ?_
        · rw [rS_len]; simp; omega
        · rw [rS_len]; simp; omega
        repeat (first | (with_reducible refine pv_seq fun K hK => ?_) | (with_reducible refine pv_reg ?_; simp -implicitDefEqProofs only [cmpB]) | (with_reducible refine pv_draw (id := 6) [(0, 0), (1, 0), (2, 0), (3, 2), (4, 0), (5, 0), (6, 0), (8, 0), (7, 4), (9, 0), (10, 0), (11, 0)] (by kernel_rfl) ?_; simp -implicitDefEqProofs only [cmpB]) | ((with_reducible first | refine hK _ _ ?_ | (clear hK; refine hK _ _ ?_) | (clear hK; clear hK; refine hK _ _ ?_)); clear hK; try clear K) | (simp -implicitDefEqProofs only [k0, k1, k5, k6, k7, k8, k9, hs, hm3, true_and, go_sem, seval]) | (with_reducible intro b) | (with_reducible refine And.intro ?_ ?_; · first | assumption | omega | (unfold R64; omega)))
        rw [rS_w, rS_app] at hr'
        refine ⟨⟨i + 1, c', _, by omega, hc', by simp [hol], ?_, ?_, rfl, rfl, hr'⟩, ?_⟩
        · intro y hy
          simp only [List.mem_append, List.mem_singleton] at hy
          rcases hy with hy | rfl
          · exact hob y hy
          · omega
        · simp only [N32] at hv ⊢
          rw [drop_step A (i := i), drop_step B (i := i)] at hv
          rw [nval_append, hol, Nat.pow_succ]
          simp only [nval, Nat.mul_zero, Nat.add_zero]
          generalize nval 4294967296 (A.drop (i + 1)) = u at hv ⊢
          generalize nval 4294967296 (B.drop (i + 1)) = v at hv ⊢
          generalize (4294967296 : Nat) ^ i = W at hv ⊢
          have e1 : W * x = W * A.getD i 0 + W * (4294967296 * c') := by rw [hx, Nat.mul_add]
          have e2 : W * (x - (B.getD i 0 + c)) + W * (B.getD i 0 + c) = W * x := by rw [← Nat.mul_add]; congr 1; omega
          simp only [Nat.mul_add, Nat.mul_assoc] at *
          omega
        · rw [hmz]; simp only [intD]; omega
      clear hK
      refine pv_cdD (fun ht2 => ?_) (fun ht2 => ?_)
      · repeat (first | (with_reducible refine pv_seq fun K hK => ?_) | (with_reducible refine pv_reg ?_; simp -implicitDefEqProofs only [cmpB]) | (with_reducible refine pv_draw (id := 6) [(0, 0), (1, 0), (2, 0), (3, 2), (4, 0), (5, 0), (6, 0), (8, 0), (7, 4), (9, 0), (10, 0), (11, 0)] (by kernel_rfl) ?_; simp -implicitDefEqProofs only [cmpB]) | ((with_reducible first | refine hK _ _ ?_ | (clear hK; refine hK _ _ ?_) | (clear hK; clear hK; refine hK _ _ ?_)); clear hK; try clear K) | (simp -implicitDefEqProofs only [g0, g1, g6, g7, hm1, hma, hw, true_and, go_sem, seval]) | (with_reducible intro b) | (with_reducible refine And.intro ?_ ?_; · first | assumption | omega | (unfold R64; omega)))
        exact J2 _ (A.getD i 0 + 4294967296) 1 (by simp -implicitDefEqProofs only [g0, g1, g6, g7, hm1, hma, hw, true_and, go_sem, seval]) (by simp -implicitDefEqProofs only [g0, g1, g6, g7, hm1, hma, hw, true_and, go_sem, seval]) (by simp -implicitDefEqProofs only [g0, g1, g6, g7, hm1, hma, hw, true_and, go_sem, seval]) rfl (by simp -implicitDefEqProofs only [g0, g1, g6, g7, hm1, hma, hw, true_and, go_sem, seval]) (by simp -implicitDefEqProofs only [g0, g1, g6, g7, hm1, hma, hw, true_and, go_sem, seval]) (by simp -implicitDefEqProofs only [g0, g1, g6, g7, hm1, hma, hw, true_and, go_sem, seval]) (by omega) (by omega) (by omega) (by omega)
      · repeat (first | (with_reducible refine pv_seq fun K hK => ?_) | (with_reducible refine pv_reg ?_; simp -implicitDefEqProofs only [cmpB]) | (with_reducible refine pv_draw (id := 6) [(0, 0), (1, 0), (2, 0), (3, 2), (4, 0), (5, 0), (6, 0), (8, 0), (7, 4), (9, 0), (10, 0), (11, 0)] (by kernel_rfl) ?_; simp -implicitDefEqProofs only [cmpB]) | ((with_reducible first | refine hK _ _ ?_ | (clear hK; refine hK _ _ ?_) | (clear hK; clear hK; refine hK _ _ ?_)); clear hK; try clear K) | (simp -implicitDefEqProofs only [g0, g1, g6, g7, hm1, hma, hw, true_and, go_sem, seval]) | (with_reducible intro b) | (with_reducible refine And.intro ?_ ?_; · first | assumption | omega | (unfold R64; omega)))
        exact J2 _ (A.getD i 0) 0 (by simp -implicitDefEqProofs only [g0, g1, g6, g7, hm1, hma, hw, true_and, go_sem, seval]) (by simp -implicitDefEqProofs only [g0, g1, g6, g7, hm1, hma, hw, true_and, go_sem, seval]) (by simp -implicitDefEqProofs only [g0, g1, g6, g7, hm1, hma, hw, true_and, go_sem, seval]) rfl (by simp -implicitDefEqProofs only [g0, g1, g6, g7, hm1, hma, hw, true_and, go_sem, seval]) (by simp -implicitDefEqProofs only [g0, g1, g6, g7, hm1, hma, hw, true_and, go_sem, seval]) (by simp -implicitDefEqProofs only [g0, g1, g6, g7, hm1, hma, hw, true_and, go_sem, seval]) (by omega) (by omega) (by omega) (by omega)
    · repeat (first | (with_reducible refine pv_seq fun K hK => ?_) | (with_reducible refine pv_reg ?_; simp -implicitDefEqProofs only [cmpB]) | (with_reducible refine pv_draw (id := 6) [(0, 0), (1, 0), (2, 0), (3, 2), (4, 0), (5, 0), (6, 0), (8, 0), (7, 4), (9, 0), (10, 0), (11, 0)] (by kernel_rfl) ?_; simp -implicitDefEqProofs only [cmpB]) | ((with_reducible first | refine hK _ _ ?_ | (clear hK; refine hK _ _ ?_) | (clear hK; clear hK; refine hK _ _ ?_)); clear hK; try clear K) | (simp -implicitDefEqProofs only [g0, g1, g6, g7, hm1, hma, hw, true_and, go_sem, seval]) | (with_reducible intro b) | (with_reducible refine And.intro ?_ ?_; · first | assumption | omega | (unfold R64; omega)))
      refine J _ _ os (by try simp -implicitDefEqProofs only [g0, g1, g6, g7, hm1, hma, hw, true_and, go_sem, seval]; exact hr) hob ?_ (by omega)
      obtain rfl : i = A.length := by omega
      have h1 := nval_lt (B := 4294967296) (by decide) os hob
      rw [hol] at h1
      simp only [N32] at hv hle ⊢
      rw [nval_drop_all (Nat.le_refl _), Nat.mul_zero, Nat.add_zero] at hv
      rcases Nat.eq_zero_or_pos (nval 4294967296 (B.drop A.length) + c) with h0 | h0
      · rw [h0, Nat.mul_zero, Nat.add_zero] at hv; omega
      · have := Nat.mul_le_mul_left (4294967296 ^ A.length) h0
        omega

end Go.V

/- The document's numbers: by powers of two, downwards, over values as data. -/
import Derived.Test.YtkmoeenhboicmaaDoorR0
set_option linter.unusedSimpArgs false
set_option linter.unusedVariables false
set_option maxRecDepth 100000
namespace Go.V
open Go Go.RowKit Go.Proofs

theorem tdiv32 (n : Nat) : (n : Int).tdiv 32 = ((n / 32 : Nat) : Int) := rfl
theorem tmod32 (n : Nat) : (n : Int).tmod 32 = ((n % 32 : Nat) : Int) := rfl
theorem down32 {M a b v r : Nat} (hM : M = a + 4294967296 * (b + 4294967296 * v)) (hr : r < 32) : (M / 2 ^ r) % 4294967296 = ((a + 4294967296 * b) / 2 ^ r) % 4294967296 := by
  have hp : (4294967296 : Nat) = 2 ^ r * 2 ^ (32 - r) := by rw [← Nat.pow_add]; rw [show r + (32 - r) = 32 by omega]
  have e : M = (a + 4294967296 * b) + 2 ^ r * (2 ^ (32 - r) * (4294967296 * v)) := by
    rw [← Nat.mul_assoc, ← hp, hM, Nat.mul_add]; omega
  rw [e, Nat.add_mul_div_left _ _ (Nat.pow_pos (by decide))]
  rw [show 2 ^ (32 - r) * (4294967296 * v) = 4294967296 * (2 ^ (32 - r) * v) by rw [Nat.mul_left_comm], Nat.add_mul_mod_self_left]
theorem drop_div32 {xs : List Nat} (h : B32 xs) (k : Nat) : nval 4294967296 (xs.drop k) = nval 4294967296 xs / 4294967296 ^ k := by
  rcases Nat.lt_or_ge xs.length k with hk | hk
  · have := nval_lt (B := 4294967296) (by decide) xs h
    rw [nval_drop_all (by omega), Nat.div_eq_of_lt (Nat.lt_of_lt_of_le this (Nat.pow_le_pow_right (by decide) (by omega)))]
  · have h1 := nval_append 4294967296 (xs.take k) (xs.drop k)
    rw [List.take_append_drop, List.length_take, Nat.min_eq_left hk] at h1
    have h2 := nval_lt (B := 4294967296) (by decide) (xs.take k) (fun x hx => h x (List.mem_of_mem_take hx))
    rw [List.length_take, Nat.min_eq_left hk] at h2
    rw [h1, Nat.add_mul_div_left _ _ (Nat.pow_pos (by decide)), Nat.div_eq_of_lt h2, Nat.zero_add]
theorem down_all {xs : List Nat} (h : B32 xs) (n : Nat) : nval 4294967296 (xs.drop (n / 32)) / 2 ^ (n % 32) = nval 4294967296 xs / 2 ^ n := by
  rw [drop_div32 h, Nat.div_div_eq_div_mul, show (4294967296 : Nat) = 2 ^ 32 from rfl, ← Nat.pow_mul, ← Nat.pow_add, Nat.div_add_mod]

theorem p_rDown {A : List Nat} {n : Nat} (hbA : B32 A) (hlA : A.length ≤ 1099511627776) (hn : n ≤ 1099511627776) : PC Tryd.prog 68 [W32 A, i64 n] fun d => ∃ b, d = .tup [W32 (D32 (N32 A / 2 ^ n)), bl b] := by
  refine PC.body (args := [W32 A, i64 n]) (rs := [.tmp 4, .tmp 5]) mixed Tryd.func68 rfl (by kernel_rfl) (by kernel_rfl) (Nat.le_of_ble_eq_true rfl) rfl ?_
  have hall := down_all hbA n
  generalize hq : n / 32 = q at hall
  generalize hr : n % 32 = r at hall
  have hr32 : r < 32 := by omega
  have hr64 : r ≤ 64 := by omega
  have hr33 : r ≤ 32 := by omega
  repeat (first | (with_reducible refine pv_seq fun K hK => ?_) | (with_reducible refine pv_reg ?_; simp -implicitDefEqProofs only [cmpB]) | (with_reducible refine pv_draw (id := 8) [(0, 0), (1, 0), (2, 0), (3, 0), (4, 0), (5, 0), (6, 1), (7, 0), (8, 0), (9, 0), (10, 0), (11, 0), (12, 0), (13, 0), (14, 0)] (by kernel_rfl) ?_; simp -implicitDefEqProofs only [cmpB]) | (with_reducible refine pv_draw (id := 13) [(0, 0), (1, 0), (2, 0), (3, 2), (4, 0), (5, 0), (6, 0), (7, 0), (8, 4), (9, 0), (10, 0), (11, 0)] (by kernel_rfl) ?_; simp -implicitDefEqProofs only [cmpB]) | ((with_reducible first | refine hK _ _ ?_ | (clear hK; refine hK _ _ ?_) | (clear hK; clear hK; refine hK _ _ ?_)); clear hK; try clear K) | (simp -implicitDefEqProofs only [tdiv32, tmod32, hq, hr, true_and, go_sem, seval]) | (with_reducible intro b) | (with_reducible refine And.intro ?_ ?_; · first | assumption | omega | (unfold R64; omega)))
  refine pv_cdD (fun ht => ?_) (fun ht => ?_)
  · repeat (first | (with_reducible refine pv_seq fun K hK => ?_) | (with_reducible refine pv_reg ?_; simp -implicitDefEqProofs only [cmpB]) | (with_reducible refine pv_draw (id := 8) [(0, 0), (1, 0), (2, 0), (3, 0), (4, 0), (5, 0), (6, 1), (7, 0), (8, 0), (9, 0), (10, 0), (11, 0), (12, 0), (13, 0), (14, 0)] (by kernel_rfl) ?_; simp -implicitDefEqProofs only [cmpB]) | (with_reducible refine pv_draw (id := 13) [(0, 0), (1, 0), (2, 0), (3, 2), (4, 0), (5, 0), (6, 0), (7, 0), (8, 4), (9, 0), (10, 0), (11, 0)] (by kernel_rfl) ?_; simp -implicitDefEqProofs only [cmpB]) | ((with_reducible first | refine hK _ _ ?_ | (clear hK; refine hK _ _ ?_) | (clear hK; clear hK; refine hK _ _ ?_)); clear hK; try clear K) | (simp -implicitDefEqProofs only [tdiv32, tmod32, hq, hr, true_and, go_sem, seval]) | (with_reducible intro b) | (with_reducible refine And.intro ?_ ?_; · first | assumption | omega | (unfold R64; omega)))
    refine ⟨_, congrArg (fun x => D.tup [x, _]) ?_⟩
    rw [nval_drop_all (by omega), Nat.zero_div] at hall
    rw [N32, ← hall, D32, digs_zero]
    rfl
  · repeat (first | (with_reducible refine pv_seq fun K hK => ?_) | (with_reducible refine pv_reg ?_; simp -implicitDefEqProofs only [cmpB]) | (with_reducible refine pv_draw (id := 8) [(0, 0), (1, 0), (2, 0), (3, 0), (4, 0), (5, 0), (6, 1), (7, 0), (8, 0), (9, 0), (10, 0), (11, 0), (12, 0), (13, 0), (14, 0)] (by kernel_rfl) ?_; simp -implicitDefEqProofs only [cmpB]) | (with_reducible refine pv_draw (id := 13) [(0, 0), (1, 0), (2, 0), (3, 2), (4, 0), (5, 0), (6, 0), (7, 0), (8, 4), (9, 0), (10, 0), (11, 0)] (by kernel_rfl) ?_; simp -implicitDefEqProofs only [cmpB]) | ((with_reducible first | refine hK _ _ ?_ | (clear hK; refine hK _ _ ?_) | (clear hK; clear hK; refine hK _ _ ?_)); clear hK; try clear K) | (simp -implicitDefEqProofs only [tdiv32, tmod32, hq, hr, true_and, go_sem, seval]) | (with_reducible intro b) | (with_reducible refine And.intro ?_ ?_; · first | assumption | omega | (unfold R64; omega)))
    have J : ∀ (e : DEnv) (S : Store) (b : Bool), e 0 = W32 A → e 1 = i64 n → e 6 = bl b → K e S := by
      intro e S b g0 g1 g6
      refine hK _ _ ?_
      clear hK
      refine pv_seq fun K hK => ?_
      have J8 : ∀ (e : DEnv) (S : Store) (b : Bool), e 0 = W32 A → e 1 = i64 n → e 6 = bl b → K e S := by
        intro e S b g0 g1 g6
        repeat (first | (with_reducible refine pv_seq fun K hK => ?_) | (with_reducible refine pv_reg ?_; simp -implicitDefEqProofs only [cmpB]) | (with_reducible refine pv_draw (id := 8) [(0, 0), (1, 0), (2, 0), (3, 0), (4, 0), (5, 0), (6, 1), (7, 0), (8, 0), (9, 0), (10, 0), (11, 0), (12, 0), (13, 0), (14, 0)] (by kernel_rfl) ?_; simp -implicitDefEqProofs only [cmpB]) | (with_reducible refine pv_draw (id := 13) [(0, 0), (1, 0), (2, 0), (3, 2), (4, 0), (5, 0), (6, 0), (7, 0), (8, 4), (9, 0), (10, 0), (11, 0)] (by kernel_rfl) ?_; simp -implicitDefEqProofs only [cmpB]) | ((with_reducible first | refine hK _ _ ?_ | (clear hK; refine hK _ _ ?_) | (clear hK; clear hK; refine hK _ _ ?_)); clear hK; try clear K) | (simp -implicitDefEqProofs only [tdiv32, tmod32, hq, hr, g0, g1, g6, true_and, go_sem, seval]) | (with_reducible intro b) | (with_reducible refine And.intro ?_ ?_; · first | assumption | omega | (unfold R64; omega)))
        have J9 : ∀ (e : DEnv) (S : Store) (os : List Nat) (b : Bool), RowD S (.l 74) 1 (e 8) (rS (eK .u32) os) → B32 os → N32 os = N32 A / 2 ^ n → os.length ≤ 2199023255553 → e 6 = bl b → K e S := by
          intro e S os b hr hb hv hl g6
          repeat (first | (with_reducible refine pv_seq fun K hK => ?_) | (with_reducible refine pv_reg ?_; simp -implicitDefEqProofs only [cmpB]) | (with_reducible refine pv_draw (id := 8) [(0, 0), (1, 0), (2, 0), (3, 0), (4, 0), (5, 0), (6, 1), (7, 0), (8, 0), (9, 0), (10, 0), (11, 0), (12, 0), (13, 0), (14, 0)] (by kernel_rfl) ?_; simp -implicitDefEqProofs only [cmpB]) | (with_reducible refine pv_draw (id := 13) [(0, 0), (1, 0), (2, 0), (3, 2), (4, 0), (5, 0), (6, 0), (7, 0), (8, 4), (9, 0), (10, 0), (11, 0)] (by kernel_rfl) ?_; simp -implicitDefEqProofs only [cmpB]) | ((with_reducible first | refine hK _ _ ?_ | (clear hK; refine hK _ _ ?_) | (clear hK; clear hK; refine hK _ _ ?_)); clear hK; try clear K) | (simp -implicitDefEqProofs only [g6, true_and, go_sem, seval]) | (with_reducible intro b) | (with_reducible refine And.intro ?_ ?_; · first | assumption | omega | (unfold R64; omega)))
          refine PFC.coe (hr.coe1 fun S' _ _ => ?_)
          refine call_is (p_trim hb (by omega)) ?_
          rw [hv]
          repeat (first | (with_reducible refine pv_seq fun K hK => ?_) | (with_reducible refine pv_reg ?_; simp -implicitDefEqProofs only [cmpB]) | (with_reducible refine pv_draw (id := 8) [(0, 0), (1, 0), (2, 0), (3, 0), (4, 0), (5, 0), (6, 1), (7, 0), (8, 0), (9, 0), (10, 0), (11, 0), (12, 0), (13, 0), (14, 0)] (by kernel_rfl) ?_; simp -implicitDefEqProofs only [cmpB]) | (with_reducible refine pv_draw (id := 13) [(0, 0), (1, 0), (2, 0), (3, 2), (4, 0), (5, 0), (6, 0), (7, 0), (8, 4), (9, 0), (10, 0), (11, 0)] (by kernel_rfl) ?_; simp -implicitDefEqProofs only [cmpB]) | ((with_reducible first | refine hK _ _ ?_ | (clear hK; refine hK _ _ ?_) | (clear hK; clear hK; refine hK _ _ ?_)); clear hK; try clear K) | (simp -implicitDefEqProofs only [g6, true_and, go_sem, seval]) | (with_reducible intro b) | (with_reducible refine And.intro ?_ ?_; · first | assumption | omega | (unfold R64; omega)))
          exact ⟨b, rfl⟩
        clear hK
        refine pv_loop (fun e S => ∃ (k : Nat) (os : List Nat) (b : Bool), q + k ≤ A.length ∧ os.length = k ∧ B32 os ∧ N32 os + 4294967296 ^ k * (nval 4294967296 (A.drop (q + k)) / 2 ^ r) = nval 4294967296 (A.drop q) / 2 ^ r ∧ e 0 = W32 A ∧ e 1 = i64 n ∧ e 6 = bl b ∧ e 9 = i64 (q + k : Nat) ∧ RowD S (.l 74) 1 (e 8) (rS (eK .u32) os)) (fun e _ => A.length - (intD (e 9)).toNat) ?_ ?_
        · exact ⟨0, [], b, by omega, rfl, (fun x hx => by cases hx), by simp [nval], (by simp -implicitDefEqProofs only [tdiv32, tmod32, hq, hr, g0, g1, g6, true_and, go_sem, seval]), (by simp -implicitDefEqProofs only [tdiv32, tmod32, hq, hr, g0, g1, g6, true_and, go_sem, seval]), (by simp -implicitDefEqProofs only [tdiv32, tmod32, hq, hr, g0, g1, g6, true_and, go_sem, seval]), rfl, .nil⟩
        · rintro e S ⟨k, os, b, hk, hol, hob, hv, g0, g1, g6, g9, hrow⟩
          have hmz : (intD (e 9)).toNat = q + k := by rw [g9]; rfl
          have h0 := get_lt hbA (by decide) (q + k)
          have h1 := get_lt hbA (by decide) (q + k + 1)
          have hm0 : A.getD (q + k) 0 % 18446744073709551616 = A.getD (q + k) 0 := Nat.mod_eq_of_lt (by omega)
          have hm1 : A.getD (q + k + 1) 0 % 18446744073709551616 = A.getD (q + k + 1) 0 := Nat.mod_eq_of_lt (by omega)
          repeat (first | (with_reducible refine pv_seq fun K hK => ?_) | (with_reducible refine pv_reg ?_; simp -implicitDefEqProofs only [cmpB]) | (with_reducible refine pv_draw (id := 8) [(0, 0), (1, 0), (2, 0), (3, 0), (4, 0), (5, 0), (6, 1), (7, 0), (8, 0), (9, 0), (10, 0), (11, 0), (12, 0), (13, 0), (14, 0)] (by kernel_rfl) ?_; simp -implicitDefEqProofs only [cmpB]) | (with_reducible refine pv_draw (id := 13) [(0, 0), (1, 0), (2, 0), (3, 2), (4, 0), (5, 0), (6, 0), (7, 0), (8, 4), (9, 0), (10, 0), (11, 0)] (by kernel_rfl) ?_; simp -implicitDefEqProofs only [cmpB]) | ((with_reducible first | refine hK _ _ ?_ | (clear hK; refine hK _ _ ?_) | (clear hK; clear hK; refine hK _ _ ?_)); clear hK; try clear K) | (simp -implicitDefEqProofs only [tdiv32, tmod32, hq, hr, g0, g1, g6, g9, hm0, hm1, true_and, go_sem, seval]) | (with_reducible intro b) | (with_reducible refine And.intro ?_ ?_; · first | assumption | omega | (unfold R64; omega)))
          refine pv_cdD (fun ht2 => ?_) (fun ht2 => ?_)
          · repeat (first | (with_reducible refine pv_seq fun K hK => ?_) | (with_reducible refine pv_reg ?_; simp -implicitDefEqProofs only [cmpB]) | (with_reducible refine pv_draw (id := 8) [(0, 0), (1, 0), (2, 0), (3, 0), (4, 0), (5, 0), (6, 1), (7, 0), (8, 0), (9, 0), (10, 0), (11, 0), (12, 0), (13, 0), (14, 0)] (by kernel_rfl) ?_; simp -implicitDefEqProofs only [cmpB]) | (with_reducible refine pv_draw (id := 13) [(0, 0), (1, 0), (2, 0), (3, 2), (4, 0), (5, 0), (6, 0), (7, 0), (8, 4), (9, 0), (10, 0), (11, 0)] (by kernel_rfl) ?_; simp -implicitDefEqProofs only [cmpB]) | ((with_reducible first | refine hK _ _ ?_ | (clear hK; refine hK _ _ ?_) | (clear hK; clear hK; refine hK _ _ ?_)); clear hK; try clear K) | (simp -implicitDefEqProofs only [tdiv32, tmod32, hq, hr, g0, g1, g6, g9, hm0, hm1, true_and, go_sem, seval]) | (with_reducible intro b) | (with_reducible refine And.intro ?_ ?_; · first | assumption | omega | (unfold R64; omega)))
            refine ExtC_is ?_
            simp -implicitDefEqProofs only [tdiv32, tmod32, hq, hr, g0, g1, g6, g9, hm0, hm1, true_and, go_sem, seval]
            refine (p_digit (i := q + k + 1) hbA).mono fun d hd => ?_
            subst hd
            try simp -implicitDefEqProofs only [tdiv32, tmod32, hq, hr, g0, g1, g6, g9, hm0, hm1, true_and, go_sem, seval]
            have J10 : ∀ (e1 : DEnv), e1 0 = W32 A → e1 1 = i64 n → e1 6 = bl b → e1 8 = e 8 → e1 9 = i64 (q + k : Nat) → e1 10 = .g (.lit (.int .u64 ((A.getD (q + k) 0 + 4294967296 * A.getD (q + k + 1) 0 : Nat) : Int))) → K e1 S := by
              intro e1 k0 k1 k6 k8 k9 k10
              have hlow := low32 ((A.getD (q + k) 0 + 4294967296 * A.getD (q + k + 1) 0) / 2 ^ r) (Nat.lt_of_le_of_lt (Nat.div_le_self _ _) (by omega))
              repeat (first | (with_reducible refine pv_seq fun K hK => ?_) | (with_reducible refine pv_reg ?_; simp -implicitDefEqProofs only [cmpB]) | (with_reducible refine pv_draw (id := 8) [(0, 0), (1, 0), (2, 0), (3, 0), (4, 0), (5, 0), (6, 1), (7, 0), (8, 0), (9, 0), (10, 0), (11, 0), (12, 0), (13, 0), (14, 0)] (by kernel_rfl) ?_; simp -implicitDefEqProofs only [cmpB]) | (with_reducible refine pv_draw (id := 13) [(0, 0), (1, 0), (2, 0), (3, 2), (4, 0), (5, 0), (6, 0), (7, 0), (8, 4), (9, 0), (10, 0), (11, 0)] (by kernel_rfl) ?_; simp -implicitDefEqProofs only [cmpB]) | ((with_reducible first | refine hK _ _ ?_ | (clear hK; refine hK _ _ ?_) | (clear hK; clear hK; refine hK _ _ ?_)); clear hK; try clear K) | (simp -implicitDefEqProofs only [tdiv32, tmod32, hq, hr, k0, k1, k6, k8, k9, k10, hr64, hlow, Nat.mod_mod, true_and, go_sem, seval]) | (with_reducible intro b) | (with_reducible refine And.intro ?_ ?_; · first | assumption | omega | (unfold R64; omega)))
              refine RowD.appL hrow (by decide) rfl (by simp [D.one]) ?_ ?_ fun d' S' hr' hS' => ?_
              · rw [rS_len]; simp; omega
              · rw [rS_len]; simp; omega
              repeat (first | (with_reducible refine pv_seq fun K hK => ?_) | (with_reducible refine pv_reg ?_; simp -implicitDefEqProofs only [cmpB]) | (with_reducible refine pv_draw (id := 8) [(0, 0), (1, 0), (2, 0), (3, 0), (4, 0), (5, 0), (6, 1), (7, 0), (8, 0), (9, 0), (10, 0), (11, 0), (12, 0), (13, 0), (14, 0)] (by kernel_rfl) ?_; simp -implicitDefEqProofs only [cmpB]) | (with_reducible refine pv_draw (id := 13) [(0, 0), (1, 0), (2, 0), (3, 2), (4, 0), (5, 0), (6, 0), (7, 0), (8, 4), (9, 0), (10, 0), (11, 0)] (by kernel_rfl) ?_; simp -implicitDefEqProofs only [cmpB]) | ((with_reducible first | refine hK _ _ ?_ | (clear hK; refine hK _ _ ?_) | (clear hK; clear hK; refine hK _ _ ?_)); clear hK; try clear K) | (simp -implicitDefEqProofs only [tdiv32, tmod32, hq, hr, k0, k1, k6, k8, k9, k10, hr64, hlow, Nat.mod_mod, true_and, go_sem, seval]) | (with_reducible intro b) | (with_reducible refine And.intro ?_ ?_; · first | assumption | omega | (unfold R64; omega)))
              rw [rS_w, rS_app] at hr'
              refine ⟨⟨k + 1, _, _, by omega, by simp [hol], ?_, ?_, rfl, rfl, hr'⟩, ?_⟩
              · intro y hy
                simp only [List.mem_append, List.mem_singleton] at hy
                rcases hy with hy | rfl
                · exact hob y hy
                · omega
              · have hM : nval 4294967296 (A.drop (q + k)) = A.getD (q + k) 0 + 4294967296 * (A.getD (q + k + 1) 0 + 4294967296 * nval 4294967296 (A.drop (q + k + 2))) := by
                  rw [drop_step A (i := q + k), drop_step A (i := q + k + 1)]
                have hd := down32 hM hr32
                have hu : nval 4294967296 (A.drop (q + k + 1)) / 2 ^ r = nval 4294967296 (A.drop (q + k)) / 2 ^ r / 4294967296 := by
                  rw [Nat.div_div_eq_div_mul, Nat.mul_comm, ← Nat.div_div_eq_div_mul, drop_step A (i := q + k), Nat.add_mul_div_left _ _ (by decide), Nat.div_eq_of_lt h0, Nat.zero_add]
                simp only [N32] at hv ⊢
                rw [← hd, nval_append, hol, ← hv, show q + (k + 1) = q + k + 1 by omega, hu, Nat.pow_succ]
                simp only [nval, Nat.mul_zero, Nat.add_zero]
                rw [Nat.add_assoc, Nat.mul_assoc, ← Nat.mul_add, Nat.mod_add_div]
              · rw [hmz]; simp only [intD]; omega
            clear hK
            refine J10 _ (by simp -implicitDefEqProofs only [tdiv32, tmod32, hq, hr, g0, g1, g6, g9, hm0, hm1, true_and, go_sem, seval]) (by simp -implicitDefEqProofs only [tdiv32, tmod32, hq, hr, g0, g1, g6, g9, hm0, hm1, true_and, go_sem, seval]) (by simp -implicitDefEqProofs only [tdiv32, tmod32, hq, hr, g0, g1, g6, g9, hm0, hm1, true_and, go_sem, seval]) (by simp -implicitDefEqProofs only [tdiv32, tmod32, hq, hr, g0, g1, g6, g9, hm0, hm1, true_and, go_sem, seval]) (by simp -implicitDefEqProofs only [tdiv32, tmod32, hq, hr, g0, g1, g6, g9, hm0, hm1, true_and, go_sem, seval]) ?_
            simp -implicitDefEqProofs only [tdiv32, tmod32, hq, hr, g0, g1, g6, g9, hm0, hm1, true_and, go_sem, seval]
            rw [shl32, wrap64_nat, or64_nat _ _ (by omega) (Nat.mod_lt _ (by decide)), or_shift32 h0 h1]
          · repeat (first | (with_reducible refine pv_seq fun K hK => ?_) | (with_reducible refine pv_reg ?_; simp -implicitDefEqProofs only [cmpB]) | (with_reducible refine pv_draw (id := 8) [(0, 0), (1, 0), (2, 0), (3, 0), (4, 0), (5, 0), (6, 1), (7, 0), (8, 0), (9, 0), (10, 0), (11, 0), (12, 0), (13, 0), (14, 0)] (by kernel_rfl) ?_; simp -implicitDefEqProofs only [cmpB]) | (with_reducible refine pv_draw (id := 13) [(0, 0), (1, 0), (2, 0), (3, 2), (4, 0), (5, 0), (6, 0), (7, 0), (8, 4), (9, 0), (10, 0), (11, 0)] (by kernel_rfl) ?_; simp -implicitDefEqProofs only [cmpB]) | ((with_reducible first | refine hK _ _ ?_ | (clear hK; refine hK _ _ ?_) | (clear hK; clear hK; refine hK _ _ ?_)); clear hK; try clear K) | (simp -implicitDefEqProofs only [tdiv32, tmod32, hq, hr, g0, g1, g6, g9, hm0, hm1, true_and, go_sem, seval]) | (with_reducible intro b) | (with_reducible refine And.intro ?_ ?_; · first | assumption | omega | (unfold R64; omega)))
            refine J9 _ _ os b (by try simp -implicitDefEqProofs only [tdiv32, tmod32, hq, hr, g0, g1, g6, g9, hm0, hm1, true_and, go_sem, seval]; exact hrow) hob ?_ (by omega) (by simp -implicitDefEqProofs only [tdiv32, tmod32, hq, hr, g0, g1, g6, g9, hm0, hm1, true_and, go_sem, seval])
            rw [nval_drop_all (by omega), Nat.zero_div, Nat.mul_zero, Nat.add_zero] at hv
            exact hv.trans hall
      clear hK
      cases b
      · repeat (first | (with_reducible refine pv_seq fun K hK => ?_) | (with_reducible refine pv_reg ?_; simp -implicitDefEqProofs only [cmpB]) | (with_reducible refine pv_draw (id := 8) [(0, 0), (1, 0), (2, 0), (3, 0), (4, 0), (5, 0), (6, 1), (7, 0), (8, 0), (9, 0), (10, 0), (11, 0), (12, 0), (13, 0), (14, 0)] (by kernel_rfl) ?_; simp -implicitDefEqProofs only [cmpB]) | (with_reducible refine pv_draw (id := 13) [(0, 0), (1, 0), (2, 0), (3, 2), (4, 0), (5, 0), (6, 0), (7, 0), (8, 4), (9, 0), (10, 0), (11, 0)] (by kernel_rfl) ?_; simp -implicitDefEqProofs only [cmpB]) | ((with_reducible first | refine hK _ _ ?_ | (clear hK; refine hK _ _ ?_) | (clear hK; clear hK; refine hK _ _ ?_)); clear hK; try clear K) | (simp -implicitDefEqProofs only [tdiv32, tmod32, hq, hr, g0, g1, g6, hr33, true_and, go_sem, seval]) | (with_reducible intro b) | (with_reducible refine And.intro ?_ ?_; · first | assumption | omega | (unfold R64; omega)))
        exact J8 _ _ _ (by simp -implicitDefEqProofs only [tdiv32, tmod32, hq, hr, g0, g1, g6, hr33, true_and, go_sem, seval]) (by simp -implicitDefEqProofs only [tdiv32, tmod32, hq, hr, g0, g1, g6, hr33, true_and, go_sem, seval]) rfl
      · repeat (first | (with_reducible refine pv_seq fun K hK => ?_) | (with_reducible refine pv_reg ?_; simp -implicitDefEqProofs only [cmpB]) | (with_reducible refine pv_draw (id := 8) [(0, 0), (1, 0), (2, 0), (3, 0), (4, 0), (5, 0), (6, 1), (7, 0), (8, 0), (9, 0), (10, 0), (11, 0), (12, 0), (13, 0), (14, 0)] (by kernel_rfl) ?_; simp -implicitDefEqProofs only [cmpB]) | (with_reducible refine pv_draw (id := 13) [(0, 0), (1, 0), (2, 0), (3, 2), (4, 0), (5, 0), (6, 0), (7, 0), (8, 4), (9, 0), (10, 0), (11, 0)] (by kernel_rfl) ?_; simp -implicitDefEqProofs only [cmpB]) | ((with_reducible first | refine hK _ _ ?_ | (clear hK; refine hK _ _ ?_) | (clear hK; clear hK; refine hK _ _ ?_)); clear hK; try clear K) | (simp -implicitDefEqProofs only [tdiv32, tmod32, hq, hr, g0, g1, g6, hr33, true_and, go_sem, seval]) | (with_reducible intro b) | (with_reducible refine And.intro ?_ ?_; · first | assumption | omega | (unfold R64; omega)))
        exact J8 _ _ _ (by simp -implicitDefEqProofs only [tdiv32, tmod32, hq, hr, g0, g1, g6, hr33, true_and, go_sem, seval]) (by simp -implicitDefEqProofs only [tdiv32, tmod32, hq, hr, g0, g1, g6, hr33, true_and, go_sem, seval]) rfl
    clear hK
    refine pv_loop (fun e S => ∃ (i : Nat) (b : Bool), i ≤ q ∧ e 0 = W32 A ∧ e 1 = i64 n ∧ e 6 = bl b ∧ e 7 = i64 i) (fun e _ => q - (intD (e 7)).toNat) ?_ ?_
    · exact ⟨0, false, by omega, (by simp -implicitDefEqProofs only [tdiv32, tmod32, hq, hr, true_and, go_sem, seval]), (by simp -implicitDefEqProofs only [tdiv32, tmod32, hq, hr, true_and, go_sem, seval]), (by simp -implicitDefEqProofs only [tdiv32, tmod32, hq, hr, true_and, go_sem, seval]), (by simp -implicitDefEqProofs only [tdiv32, tmod32, hq, hr, true_and, go_sem, seval])⟩
    · rintro e S ⟨i, b, hi, g0, g1, g6, g7⟩
      have hmz : (intD (e 7)).toNat = i := by rw [g7]; rfl
      repeat (first | (with_reducible refine pv_seq fun K hK => ?_) | (with_reducible refine pv_reg ?_; simp -implicitDefEqProofs only [cmpB]) | (with_reducible refine pv_draw (id := 8) [(0, 0), (1, 0), (2, 0), (3, 0), (4, 0), (5, 0), (6, 1), (7, 0), (8, 0), (9, 0), (10, 0), (11, 0), (12, 0), (13, 0), (14, 0)] (by kernel_rfl) ?_; simp -implicitDefEqProofs only [cmpB]) | (with_reducible refine pv_draw (id := 13) [(0, 0), (1, 0), (2, 0), (3, 2), (4, 0), (5, 0), (6, 0), (7, 0), (8, 4), (9, 0), (10, 0), (11, 0)] (by kernel_rfl) ?_; simp -implicitDefEqProofs only [cmpB]) | ((with_reducible first | refine hK _ _ ?_ | (clear hK; refine hK _ _ ?_) | (clear hK; clear hK; refine hK _ _ ?_)); clear hK; try clear K) | (simp -implicitDefEqProofs only [tdiv32, tmod32, hq, hr, g0, g1, g6, g7, true_and, go_sem, seval]) | (with_reducible intro b) | (with_reducible refine And.intro ?_ ?_; · first | assumption | omega | (unfold R64; omega)))
      refine pv_cdD (fun ht1 => ?_) (fun ht1 => ?_)
      · have hiA : i < A.length := by omega
        cases b
        · repeat (first | (with_reducible refine pv_seq fun K hK => ?_) | (with_reducible refine pv_reg ?_; simp -implicitDefEqProofs only [cmpB]) | (with_reducible refine pv_draw (id := 8) [(0, 0), (1, 0), (2, 0), (3, 0), (4, 0), (5, 0), (6, 1), (7, 0), (8, 0), (9, 0), (10, 0), (11, 0), (12, 0), (13, 0), (14, 0)] (by kernel_rfl) ?_; simp -implicitDefEqProofs only [cmpB]) | (with_reducible refine pv_draw (id := 13) [(0, 0), (1, 0), (2, 0), (3, 2), (4, 0), (5, 0), (6, 0), (7, 0), (8, 4), (9, 0), (10, 0), (11, 0)] (by kernel_rfl) ?_; simp -implicitDefEqProofs only [cmpB]) | ((with_reducible first | refine hK _ _ ?_ | (clear hK; refine hK _ _ ?_) | (clear hK; clear hK; refine hK _ _ ?_)); clear hK; try clear K) | (simp -implicitDefEqProofs only [tdiv32, tmod32, hq, hr, g0, g1, g6, g7, true_and, go_sem, seval]) | (with_reducible intro b) | (with_reducible refine And.intro ?_ ?_; · first | assumption | omega | (unfold R64; omega)))
          exact ⟨⟨i + 1, _, by omega, rfl, rfl⟩, by simp only [intD]; omega⟩
        · repeat (first | (with_reducible refine pv_seq fun K hK => ?_) | (with_reducible refine pv_reg ?_; simp -implicitDefEqProofs only [cmpB]) | (with_reducible refine pv_draw (id := 8) [(0, 0), (1, 0), (2, 0), (3, 0), (4, 0), (5, 0), (6, 1), (7, 0), (8, 0), (9, 0), (10, 0), (11, 0), (12, 0), (13, 0), (14, 0)] (by kernel_rfl) ?_; simp -implicitDefEqProofs only [cmpB]) | (with_reducible refine pv_draw (id := 13) [(0, 0), (1, 0), (2, 0), (3, 2), (4, 0), (5, 0), (6, 0), (7, 0), (8, 4), (9, 0), (10, 0), (11, 0)] (by kernel_rfl) ?_; simp -implicitDefEqProofs only [cmpB]) | ((with_reducible first | refine hK _ _ ?_ | (clear hK; refine hK _ _ ?_) | (clear hK; clear hK; refine hK _ _ ?_)); clear hK; try clear K) | (simp -implicitDefEqProofs only [tdiv32, tmod32, hq, hr, g0, g1, g6, g7, true_and, go_sem, seval]) | (with_reducible intro b) | (with_reducible refine And.intro ?_ ?_; · first | assumption | omega | (unfold R64; omega)))
          exact ⟨⟨i + 1, _, by omega, rfl, rfl⟩, by simp only [intD]; omega⟩
      · repeat (first | (with_reducible refine pv_seq fun K hK => ?_) | (with_reducible refine pv_reg ?_; simp -implicitDefEqProofs only [cmpB]) | (with_reducible refine pv_draw (id := 8) [(0, 0), (1, 0), (2, 0), (3, 0), (4, 0), (5, 0), (6, 1), (7, 0), (8, 0), (9, 0), (10, 0), (11, 0), (12, 0), (13, 0), (14, 0)] (by kernel_rfl) ?_; simp -implicitDefEqProofs only [cmpB]) | (with_reducible refine pv_draw (id := 13) [(0, 0), (1, 0), (2, 0), (3, 2), (4, 0), (5, 0), (6, 0), (7, 0), (8, 4), (9, 0), (10, 0), (11, 0)] (by kernel_rfl) ?_; simp -implicitDefEqProofs only [cmpB]) | ((with_reducible first | refine hK _ _ ?_ | (clear hK; refine hK _ _ ?_) | (clear hK; clear hK; refine hK _ _ ?_)); clear hK; try clear K) | (simp -implicitDefEqProofs only [tdiv32, tmod32, hq, hr, g0, g1, g6, g7, true_and, go_sem, seval]) | (with_reducible intro b) | (with_reducible refine And.intro ?_ ?_; · first | assumption | omega | (unfold R64; omega)))
        exact J _ _ b (by simp -implicitDefEqProofs only [tdiv32, tmod32, hq, hr, g0, g1, g6, g7, true_and, go_sem, seval]) (by simp -implicitDefEqProofs only [tdiv32, tmod32, hq, hr, g0, g1, g6, g7, true_and, go_sem, seval]) (by simp -implicitDefEqProofs only [tdiv32, tmod32, hq, hr, g0, g1, g6, g7, true_and, go_sem, seval])

end Go.V

/- The document's numbers: order and sum, over values as data. The document's numbers: by powers of two, downwards, over values as data. The document's numbers: by powers of two, upwards, over values as data. The document's numbers: products, over values as data. -/
import Derived.Test.YtolccagkfobbmaaDoorPT
import Derived.Test.YtolccagkfobbmaaDoorPM
set_option linter.unusedSimpArgs false
set_option linter.unusedVariables false
set_option maxRecDepth 100000
namespace Go.V
open Go Go.RowKit Go.Proofs




end Go.V
namespace Go.V
open Go Go.RowKit Go.Proofs
def qR5_68_8 : List (Nat × Nat) := [(0, 0), (1, 0), (2, 0), (3, 0), (4, 0), (5, 0), (6, 1), (7, 0), (8, 0), (9, 0), (10, 0), (11, 0), (12, 0), (13, 0), (14, 0)]
def qR5_68_13 : List (Nat × Nat) := [(0, 0), (1, 0), (2, 0), (3, 2), (4, 0), (5, 0), (6, 0), (7, 0), (8, 4), (9, 0), (10, 0), (11, 0)]
attribute [go_sem] qR5_68_8 qR5_68_13

theorem tdiv32 (n : Nat) : (n : Int).tdiv 32 = ((n / 32 : Nat) : Int) := rfl
theorem tmod32 (n : Nat) : (n : Int).tmod 32 = ((n % 32 : Nat) : Int) := rfl
theorem down32 {M a b v r : Nat} (hM : M = a + 4294967296 * (b + 4294967296 * v)) (hr : r < 32) : (M / 2 ^ r) % 4294967296 = ((a + 4294967296 * b) / 2 ^ r) % 4294967296 := by
  have hp : (4294967296 : Nat) = 2 ^ r * 2 ^ (32 - r) := by rw [← Nat.pow_add]; rw [show r + (32 - r) = 32 by omega]
  have e : M = (a + 4294967296 * b) + 2 ^ r * (2 ^ (32 - r) * (4294967296 * v)) := by
    rw [← Nat.mul_assoc, ← hp, hM, Nat.mul_add]; omega
  rw [e, Nat.add_mul_div_left _ _ (Nat.pow_pos (by decide))]
  rw [show 2 ^ (32 - r) * (4294967296 * v) = 4294967296 * (2 ^ (32 - r) * v) by rw [Nat.mul_left_comm], Nat.add_mul_mod_self_left]
theorem drop_div32 {xs : List Nat} (h : B32 xs) (k : Nat) : nval 4294967296 (xs.drop k) = nval 4294967296 xs / 4294967296 ^ k := by
  rcases Nat.lt_or_ge xs.length k with hk | hk
  · have := nval_lt (B := 4294967296) (by decide) xs h
    rw [nval_drop_all (by omega), Nat.div_eq_of_lt (Nat.lt_of_lt_of_le this (Nat.pow_le_pow_right (by decide) (by omega)))]
  · have h1 := nval_append 4294967296 (xs.take k) (xs.drop k)
    rw [List.take_append_drop, List.length_take, Nat.min_eq_left hk] at h1
    have h2 := nval_lt (B := 4294967296) (by decide) (xs.take k) (fun x hx => h x (List.mem_of_mem_take hx))
    rw [List.length_take, Nat.min_eq_left hk] at h2
    rw [h1, Nat.add_mul_div_left _ _ (Nat.pow_pos (by decide)), Nat.div_eq_of_lt h2, Nat.zero_add]
theorem down_all {xs : List Nat} (h : B32 xs) (n : Nat) : nval 4294967296 (xs.drop (n / 32)) / 2 ^ (n % 32) = nval 4294967296 xs / 2 ^ n := by
  rw [drop_div32 h, Nat.div_div_eq_div_mul, show (4294967296 : Nat) = 2 ^ 32 from rfl, ← Nat.pow_mul, ← Nat.pow_add, Nat.div_add_mod]

theorem mask32 {a r : Nat} (ha : a < 4294967296) (hr : r < 32) : bitsV BinOp.and IntKind.u32 (a : Int) (IntKind.u32.wrap (IntKind.u32.wrap (1 * 2 ^ r) - 1)) = ((a % 2 ^ r : Nat) : Int) := by
  have h1 : (2 : Nat) ^ r < 4294967296 := Nat.lt_of_lt_of_le (Nat.pow_lt_pow_right (by decide) hr) (by decide)
  have h2 : IntKind.u32.wrap (IntKind.u32.wrap (1 * 2 ^ r) - 1) = ((2 ^ r - 1 : Nat) : Int) := by
    have hp := Nat.two_pow_pos r
    have e : (1 : Int) * 2 ^ r = ((2 ^ r : Nat) : Int) := by simp
    rw [e]
    generalize 2 ^ r = q at *
    simp [IntKind.wrap, IntKind.signed, IntKind.bits]; omega
  rw [h2]
  have h3 : (2 : Nat) ^ r - 1 < 4294967296 := by omega
  rw [← Nat.and_two_pow_sub_one_eq_mod]
  exact and32_nat a _ ha h3
theorem or_lost {B x y : Nat} (h : 0 < B) : decide (x + B * y ≠ 0) = (decide (x ≠ 0) || decide (y ≠ 0)) := by
  by_cases g1 : x = 0
  · subst g1
    by_cases g2 : y = 0
    · subst g2; simp
    · have : B * y ≠ 0 := Nat.mul_ne_zero (by omega) g2
      simp [g2]; omega
  · rw [decide_eq_true g1, decide_eq_true (show x + B * y ≠ 0 by omega)]; rfl
theorem lost_all {xs : List Nat} (h : B32 xs) (n : Nat) : decide (N32 xs % 2 ^ n ≠ 0) = (decide (N32 (xs.take (n / 32)) ≠ 0) || decide (xs.getD (n / 32) 0 % 2 ^ (n % 32) ≠ 0)) := by
  have hn : n = 32 * (n / 32) + n % 32 := by omega
  generalize n / 32 = q at *
  generalize hr : n % 32 = r at *
  have hr32 : r < 32 := by omega
  subst hn
  have h1 : N32 xs = N32 (xs.take q) + 4294967296 ^ q * N32 (xs.drop q) := by
    have h1 := nval_append 4294967296 (xs.take q) (xs.drop q)
    rw [List.take_append_drop] at h1
    rcases Nat.lt_or_ge xs.length q with h2 | h2
    · have h3 : xs.drop q = [] := List.drop_of_length_le (by omega)
      have h4 : xs.take q = xs := List.take_of_length_le (by omega)
      rw [h3, h4]; simp [N32, nval]
    · rw [List.length_take, Nat.min_eq_left h2] at h1; exact h1
  have h2 : N32 (xs.take q) < 4294967296 ^ q := by
    have := nval_lt (B := 4294967296) (by decide) (xs.take q) (fun x hx => h x (List.mem_of_mem_take hx))
    exact Nat.lt_of_lt_of_le this (Nat.pow_le_pow_right (by decide) (by rw [List.length_take]; omega))
  have h3 : N32 (xs.drop q) % 2 ^ r = xs.getD q 0 % 2 ^ r := by
    have h4 := drop_step xs (i := q)
    simp only [N32]
    rw [h4, show (4294967296 : Nat) = 2 ^ r * 2 ^ (32 - r) by rw [← Nat.pow_add, show r + (32 - r) = 32 by omega], Nat.mul_assoc, Nat.add_mul_mod_self_left]
  rw [Nat.pow_add, Nat.pow_mul, show (2 : Nat) ^ 32 = 4294967296 from rfl, Nat.mod_mul, h1, Nat.add_mul_mod_self_left, Nat.mod_eq_of_lt h2, Nat.add_mul_div_left _ _ (Nat.pow_pos (by decide)), Nat.div_eq_of_lt h2, Nat.zero_add, h3]
  have h5 := Nat.pow_pos (n := q) (show 0 < 4294967296 by decide)
  generalize 4294967296 ^ q = B at *
  generalize N32 (xs.take q) = x at *
  generalize xs.getD q 0 % 2 ^ r = y at *
  exact or_lost h5
theorem lost_big {xs : List Nat} {n : Nat} (h : B32 xs) (hnt : xs.length = 0 ∨ N32 xs ≠ 0) (hl : xs.length ≤ n / 32) : decide (N32 xs % 2 ^ n ≠ 0) = decide (0 < xs.length) := by
  have h1 := nval_lt (B := 4294967296) (by decide) xs h
  have h2 : N32 xs % 2 ^ n = N32 xs := by
    refine Nat.mod_eq_of_lt (Nat.lt_of_lt_of_le h1 ?_)
    rw [show (4294967296 : Nat) = 2 ^ 32 from rfl, ← Nat.pow_mul]
    exact Nat.pow_le_pow_right (by decide) (by omega)
  rw [h2]
  rcases hnt with h3 | h3
  · rw [List.eq_nil_of_length_eq_zero h3]; rfl
  · rw [decide_eq_true h3, decide_eq_true]
    rcases Nat.eq_zero_or_pos xs.length with h4 | h4
    · rw [List.eq_nil_of_length_eq_zero h4] at h3; exact absurd rfl h3
    · exact h4
theorem take_step {xs : List Nat} {i : Nat} (hi : i < xs.length) : decide (N32 (xs.take (i + 1)) ≠ 0) = (decide (N32 (xs.take i) ≠ 0) || decide (xs.getD i 0 ≠ 0)) := by
  have h1 : xs.take (i + 1) = xs.take i ++ [xs.getD i 0] := by
    rw [List.take_add_one, List.getElem?_eq_getElem hi]; simp [List.getD, List.getElem?_eq_getElem hi]
  have h2 : N32 (xs.take (i + 1)) = N32 (xs.take i) + 4294967296 ^ (xs.take i).length * xs.getD i 0 := by
    rw [h1]; simp only [N32]; rw [nval_append]; simp only [nval, Nat.mul_zero, Nat.add_zero]
  have h5 := Nat.pow_pos (n := (xs.take i).length) (show 0 < 4294967296 by decide)
  generalize 4294967296 ^ (xs.take i).length = B at *
  generalize N32 (xs.take (i + 1)) = y at *
  subst h2
  exact or_lost h5

theorem p_rDownL {A : List Nat} {n : Nat} (hbA : B32 A) (hnt : A.length = 0 ∨ N32 A ≠ 0) (hlA : A.length ≤ 1099511627776) (hn : n ≤ 1099511627776) : PC Tryd.prog 68 [W32 A, i64 n] fun d => d = .tup [W32 (D32 (N32 A / 2 ^ n)), bl (decide (N32 A % 2 ^ n ≠ 0))] := by
  have d1 := @dl 8 qR5_68_8
  have d2 := @dl 13 qR5_68_13
  refine PB (rs := [.tmp 4, .tmp 5]) Tryd.func68 ?_
  have hall := down_all hbA n
  have hlost := lost_all hbA n
  have hbig := lost_big (n := n) hbA hnt
  generalize hq : n / 32 = q at hall hlost hbig
  generalize hr : n % 32 = r at hall hlost
  have hr32 : r < 32 := by omega
  have hr64 : r ≤ 64 := by omega
  have hr33 : r ≤ 32 := by omega
  repeat (first | (with_reducible first | refine pv_seq fun K hK => ?_ | refine pv_reg ?_ | refine pv_draw (id := 8) qR5_68_8 (by kernel_rfl) ?_ | refine pv_draw (id := 13) qR5_68_13 (by kernel_rfl) ?_) | ((with_reducible first | refine hK _ _ ?_ | (clear hK; refine hK _ _ ?_) | (clear hK; clear hK; refine hK _ _ ?_)); clear hK; try clear K) | simp -implicitDefEqProofs only [tdiv32, tmod32, hq, hr, true_and, go_sem, seval] | with_reducible intro b | (with_reducible refine And.intro ?_ ?_; · first | assumption | omega | (unfold R64; omega)))
  refine pv_cdD (fun ht => ?_) (fun ht => ?_)
  · repeat (first | (with_reducible first | refine pv_seq fun K hK => ?_ | refine pv_reg ?_ | refine pv_draw (id := 8) qR5_68_8 (by kernel_rfl) ?_ | refine pv_draw (id := 13) qR5_68_13 (by kernel_rfl) ?_) | ((with_reducible first | refine hK _ _ ?_ | (clear hK; refine hK _ _ ?_) | (clear hK; clear hK; refine hK _ _ ?_)); clear hK; try clear K) | simp -implicitDefEqProofs only [tdiv32, tmod32, hq, hr, true_and, go_sem, seval] | with_reducible intro b | (with_reducible refine And.intro ?_ ?_; · first | assumption | omega | (unfold R64; omega)))
    rw [nval_drop_all (by omega), Nat.zero_div] at hall
    rw [hbig (by omega), N32, ← hall, D32, digs_zero]
    rfl
  · repeat (first | (with_reducible first | refine pv_seq fun K hK => ?_ | refine pv_reg ?_ | refine pv_draw (id := 8) qR5_68_8 (by kernel_rfl) ?_ | refine pv_draw (id := 13) qR5_68_13 (by kernel_rfl) ?_) | ((with_reducible first | refine hK _ _ ?_ | (clear hK; refine hK _ _ ?_) | (clear hK; clear hK; refine hK _ _ ?_)); clear hK; try clear K) | simp -implicitDefEqProofs only [tdiv32, tmod32, hq, hr, true_and, go_sem, seval] | with_reducible intro b | (with_reducible refine And.intro ?_ ?_; · first | assumption | omega | (unfold R64; omega)))
    obtain ⟨L, hL⟩ : ∃ L, decide (N32 A % 2 ^ n ≠ 0) = L := ⟨_, rfl⟩
    rw [hL] at hlost
    simp only [hL] at hK
    rw [hL]
    have J : ∀ (e : DEnv) (S : Store), e 0 = W32 A → e 1 = i64 n → e 6 = bl (decide (N32 (A.take q) ≠ 0)) → K e S := by
      intro e S g0 g1 g6
      refine hK _ _ ?_
      clear hK
      refine pv_seq fun K hK => ?_
      have J8 : ∀ (e : DEnv) (S : Store), e 0 = W32 A → e 1 = i64 n → e 6 = bl L → K e S := by
        intro e S g0 g1 g6
        repeat (first | (with_reducible first | refine pv_seq fun K hK => ?_ | refine pv_reg ?_ | refine pv_draw (id := 8) qR5_68_8 (by kernel_rfl) ?_ | refine pv_draw (id := 13) qR5_68_13 (by kernel_rfl) ?_) | ((with_reducible first | refine hK _ _ ?_ | (clear hK; refine hK _ _ ?_) | (clear hK; clear hK; refine hK _ _ ?_)); clear hK; try clear K) | simp -implicitDefEqProofs only [tdiv32, tmod32, hq, hr, g0, g1, g6, true_and, go_sem, seval] | with_reducible intro b | (with_reducible refine And.intro ?_ ?_; · first | assumption | omega | (unfold R64; omega)))
        have J9 : ∀ (e : DEnv) (S : Store) (os : List Nat), RowD S (.l 74) 1 (e 8) (rS (eK .u32) os) → B32 os → N32 os = N32 A / 2 ^ n → os.length ≤ 2199023255553 → e 6 = bl L → K e S := by
          intro e S os hr hb hv hl g6
          have ft := g6
          repeat (first | with_reducible refine pv_seq fun K hK => ?_ | ((with_reducible first | refine hK _ _ ?_ | (clear hK; refine hK _ _ ?_) | (clear hK; clear hK; refine hK _ _ ?_)); clear hK; try clear K) | refine W0 ?_ | exact Z | with_reducible intro b)
          refine PFC.coe (hr.coe1 fun S' _ _ => ?_)
          refine call_is (p_trim hb (by omega)) ?_
          rw [hv]
          exact Wk
        clear hK
        refine pv_loop (fun e S => ∃ (k : Nat) (os : List Nat), q + k ≤ A.length ∧ os.length = k ∧ B32 os ∧ N32 os + 4294967296 ^ k * (nval 4294967296 (A.drop (q + k)) / 2 ^ r) = nval 4294967296 (A.drop q) / 2 ^ r ∧ e 0 = W32 A ∧ e 1 = i64 n ∧ e 6 = bl L ∧ e 9 = i64 (q + k : Nat) ∧ RowD S (.l 74) 1 (e 8) (rS (eK .u32) os)) (fun e _ => A.length - (intD (e 9)).toNat) ?_ ?_
        · exact ⟨0, [], by omega, rfl, (fun x hx => by cases hx), by simp [nval], (by simp -implicitDefEqProofs only [tdiv32, tmod32, hq, hr, g0, g1, g6, true_and, go_sem, seval]), (by simp -implicitDefEqProofs only [tdiv32, tmod32, hq, hr, g0, g1, g6, true_and, go_sem, seval]), (by simp -implicitDefEqProofs only [tdiv32, tmod32, hq, hr, g0, g1, g6, true_and, go_sem, seval]), rfl, .nil⟩
        · rintro e S ⟨k, os, hk, hol, hob, hv, g0, g1, g6, g9, hrow⟩
          have hmz : (intD (e 9)).toNat = q + k := by rw [g9]; rfl
          have h0 := get_lt hbA (by decide) (q + k)
          have h1 := get_lt hbA (by decide) (q + k + 1)
          have hm0 : A.getD (q + k) 0 % 18446744073709551616 = A.getD (q + k) 0 := Nat.mod_eq_of_lt (by omega)
          have hm1 : A.getD (q + k + 1) 0 % 18446744073709551616 = A.getD (q + k + 1) 0 := Nat.mod_eq_of_lt (by omega)
          repeat (first | (with_reducible first | refine pv_seq fun K hK => ?_ | refine pv_reg ?_ | refine pv_draw (id := 8) qR5_68_8 (by kernel_rfl) ?_ | refine pv_draw (id := 13) qR5_68_13 (by kernel_rfl) ?_) | ((with_reducible first | refine hK _ _ ?_ | (clear hK; refine hK _ _ ?_) | (clear hK; clear hK; refine hK _ _ ?_)); clear hK; try clear K) | simp -implicitDefEqProofs only [tdiv32, tmod32, hq, hr, g0, g1, g6, g9, hm0, hm1, true_and, go_sem, seval] | with_reducible intro b | (with_reducible refine And.intro ?_ ?_; · first | assumption | omega | (unfold R64; omega)))
          refine pv_cdD (fun ht2 => ?_) (fun ht2 => ?_)
          · repeat (first | (with_reducible first | refine pv_seq fun K hK => ?_ | refine pv_reg ?_ | refine pv_draw (id := 8) qR5_68_8 (by kernel_rfl) ?_ | refine pv_draw (id := 13) qR5_68_13 (by kernel_rfl) ?_) | ((with_reducible first | refine hK _ _ ?_ | (clear hK; refine hK _ _ ?_) | (clear hK; clear hK; refine hK _ _ ?_)); clear hK; try clear K) | simp -implicitDefEqProofs only [tdiv32, tmod32, hq, hr, g0, g1, g6, g9, hm0, hm1, true_and, go_sem, seval] | with_reducible intro b | (with_reducible refine And.intro ?_ ?_; · first | assumption | omega | (unfold R64; omega)))
            refine ExtC_is ?_
            simp -implicitDefEqProofs only [tdiv32, tmod32, hq, hr, g0, g1, g6, g9, hm0, hm1, true_and, go_sem, seval]
            refine (p_digit (i := q + k + 1) hbA).mono fun d hd => ?_
            subst hd
            try simp -implicitDefEqProofs only [tdiv32, tmod32, hq, hr, g0, g1, g6, g9, hm0, hm1, true_and, go_sem, seval]
            have J10 : ∀ (e1 : DEnv), e1 0 = W32 A → e1 1 = i64 n → e1 6 = bl L → e1 8 = e 8 → e1 9 = i64 (q + k : Nat) → e1 10 = .g (.lit (.int .u64 ((A.getD (q + k) 0 + 4294967296 * A.getD (q + k + 1) 0 : Nat) : Int))) → K e1 S := by
              intro e1 k0 k1 k6 k8 k9 k10
              have hlow := low32 ((A.getD (q + k) 0 + 4294967296 * A.getD (q + k + 1) 0) / 2 ^ r) (Nat.lt_of_le_of_lt (Nat.div_le_self _ _) (by omega))
              repeat (first | (with_reducible first | refine pv_seq fun K hK => ?_ | refine pv_reg ?_ | refine pv_draw (id := 8) qR5_68_8 (by kernel_rfl) ?_ | refine pv_draw (id := 13) qR5_68_13 (by kernel_rfl) ?_) | ((with_reducible first | refine hK _ _ ?_ | (clear hK; refine hK _ _ ?_) | (clear hK; clear hK; refine hK _ _ ?_)); clear hK; try clear K) | simp -implicitDefEqProofs only [tdiv32, tmod32, hq, hr, k0, k1, k6, k8, k9, k10, hr64, hlow, Nat.mod_mod, true_and, go_sem, seval] | with_reducible intro b | (with_reducible refine And.intro ?_ ?_; · first | assumption | omega | (unfold R64; omega)))
              refine RowD.appL hrow (by decide) rfl (by simp [D.one]) ?_ ?_ fun d' S' hr' hS' => ?_
              · rw [rS_len]; simp; omega
              · rw [rS_len]; simp; omega
              repeat (first | (with_reducible first | refine pv_seq fun K hK => ?_ | refine pv_reg ?_ | refine pv_draw (id := 8) qR5_68_8 (by kernel_rfl) ?_ | refine pv_draw (id := 13) qR5_68_13 (by kernel_rfl) ?_) | ((with_reducible first | refine hK _ _ ?_ | (clear hK; refine hK _ _ ?_) | (clear hK; clear hK; refine hK _ _ ?_)); clear hK; try clear K) | simp -implicitDefEqProofs only [tdiv32, tmod32, hq, hr, k0, k1, k6, k8, k9, k10, hr64, hlow, Nat.mod_mod, true_and, go_sem, seval] | with_reducible intro b | (with_reducible refine And.intro ?_ ?_; · first | assumption | omega | (unfold R64; omega)))
              rw [rS_w, rS_app] at hr'
              refine ⟨⟨k + 1, _, by omega, by simp [hol], ?_, ?_, rfl, hr'⟩, ?_⟩
              · intro y hy
                simp only [List.mem_append, List.mem_singleton] at hy
                rcases hy with hy | rfl
                · exact hob y hy
                · omega
              · have hM : nval 4294967296 (A.drop (q + k)) = A.getD (q + k) 0 + 4294967296 * (A.getD (q + k + 1) 0 + 4294967296 * nval 4294967296 (A.drop (q + k + 2))) := by
                  rw [drop_step A (i := q + k), drop_step A (i := q + k + 1)]
                have hd := down32 hM hr32
                have hu : nval 4294967296 (A.drop (q + k + 1)) / 2 ^ r = nval 4294967296 (A.drop (q + k)) / 2 ^ r / 4294967296 := by
                  rw [Nat.div_div_eq_div_mul, Nat.mul_comm, ← Nat.div_div_eq_div_mul, drop_step A (i := q + k), Nat.add_mul_div_left _ _ (by decide), Nat.div_eq_of_lt h0, Nat.zero_add]
                simp only [N32] at hv ⊢
                rw [← hd, nval_append, hol, ← hv, show q + (k + 1) = q + k + 1 by omega, hu, Nat.pow_succ]
                simp only [nval, Nat.mul_zero, Nat.add_zero]
                rw [Nat.add_assoc, Nat.mul_assoc, ← Nat.mul_add, Nat.mod_add_div]
              · rw [hmz]; simp only [intD]; omega
            clear hK
            refine J10 _ (by simp -implicitDefEqProofs only [tdiv32, tmod32, hq, hr, g0, g1, g6, g9, hm0, hm1, true_and, go_sem, seval]) (by simp -implicitDefEqProofs only [tdiv32, tmod32, hq, hr, g0, g1, g6, g9, hm0, hm1, true_and, go_sem, seval]) (by simp -implicitDefEqProofs only [tdiv32, tmod32, hq, hr, g0, g1, g6, g9, hm0, hm1, true_and, go_sem, seval]) (by simp -implicitDefEqProofs only [tdiv32, tmod32, hq, hr, g0, g1, g6, g9, hm0, hm1, true_and, go_sem, seval]) (by simp -implicitDefEqProofs only [tdiv32, tmod32, hq, hr, g0, g1, g6, g9, hm0, hm1, true_and, go_sem, seval]) ?_
            simp -implicitDefEqProofs only [tdiv32, tmod32, hq, hr, g0, g1, g6, g9, hm0, hm1, true_and, go_sem, seval]
            rw [shl32, wrap64_nat, or64_nat _ _ (by omega) (Nat.mod_lt _ (by decide)), or_shift32 h0 h1]
          · repeat (first | (with_reducible first | refine pv_seq fun K hK => ?_ | refine pv_reg ?_ | refine pv_draw (id := 8) qR5_68_8 (by kernel_rfl) ?_ | refine pv_draw (id := 13) qR5_68_13 (by kernel_rfl) ?_) | ((with_reducible first | refine hK _ _ ?_ | (clear hK; refine hK _ _ ?_) | (clear hK; clear hK; refine hK _ _ ?_)); clear hK; try clear K) | simp -implicitDefEqProofs only [tdiv32, tmod32, hq, hr, g0, g1, g6, g9, hm0, hm1, true_and, go_sem, seval] | with_reducible intro b | (with_reducible refine And.intro ?_ ?_; · first | assumption | omega | (unfold R64; omega)))
            refine J9 _ _ os (by try simp -implicitDefEqProofs only [tdiv32, tmod32, hq, hr, g0, g1, g6, g9, hm0, hm1, true_and, go_sem, seval]; exact hrow) hob ?_ (by omega) (by simp -implicitDefEqProofs only [tdiv32, tmod32, hq, hr, g0, g1, g6, g9, hm0, hm1, true_and, go_sem, seval])
            rw [nval_drop_all (by omega), Nat.zero_div, Nat.mul_zero, Nat.add_zero] at hv
            exact hv.trans hall
      clear hK
      generalize decide (N32 (A.take q) ≠ 0) = b at hlost g6
      cases b
      · repeat (first | (with_reducible first | refine pv_seq fun K hK => ?_ | refine pv_reg ?_ | refine pv_draw (id := 8) qR5_68_8 (by kernel_rfl) ?_ | refine pv_draw (id := 13) qR5_68_13 (by kernel_rfl) ?_) | ((with_reducible first | refine hK _ _ ?_ | (clear hK; refine hK _ _ ?_) | (clear hK; clear hK; refine hK _ _ ?_)); clear hK; try clear K) | simp -implicitDefEqProofs only [tdiv32, tmod32, hq, hr, g0, g1, g6, hr33, true_and, go_sem, seval] | with_reducible intro b | (with_reducible refine And.intro ?_ ?_; · first | assumption | omega | (unfold R64; omega)))
        refine J8 _ _ (by simp -implicitDefEqProofs only [tdiv32, tmod32, hq, hr, g0, g1, g6, hr33, true_and, go_sem, seval]) (by simp -implicitDefEqProofs only [tdiv32, tmod32, hq, hr, g0, g1, g6, hr33, true_and, go_sem, seval]) ?_
        rw [hlost, Bool.false_or]
        simp -implicitDefEqProofs only [tdiv32, tmod32, hq, hr, g0, g1, g6, hr33, true_and, go_sem, seval]
        rw [mask32 (get_lt hbA (by decide) q) hr32]
        simp only [Int.natCast_eq_zero]
      · repeat (first | (with_reducible first | refine pv_seq fun K hK => ?_ | refine pv_reg ?_ | refine pv_draw (id := 8) qR5_68_8 (by kernel_rfl) ?_ | refine pv_draw (id := 13) qR5_68_13 (by kernel_rfl) ?_) | ((with_reducible first | refine hK _ _ ?_ | (clear hK; refine hK _ _ ?_) | (clear hK; clear hK; refine hK _ _ ?_)); clear hK; try clear K) | simp -implicitDefEqProofs only [tdiv32, tmod32, hq, hr, g0, g1, g6, hr33, true_and, go_sem, seval] | with_reducible intro b | (with_reducible refine And.intro ?_ ?_; · first | assumption | omega | (unfold R64; omega)))
        refine J8 _ _ (by simp -implicitDefEqProofs only [tdiv32, tmod32, hq, hr, g0, g1, g6, hr33, true_and, go_sem, seval]) (by simp -implicitDefEqProofs only [tdiv32, tmod32, hq, hr, g0, g1, g6, hr33, true_and, go_sem, seval]) ?_
        rw [hlost]; rfl
    clear hK
    refine pv_loop (fun e S => ∃ (i : Nat), i ≤ q ∧ e 0 = W32 A ∧ e 1 = i64 n ∧ e 6 = bl (decide (N32 (A.take i) ≠ 0)) ∧ e 7 = i64 i) (fun e _ => q - (intD (e 7)).toNat) ?_ ?_
    · exact ⟨0, by omega, (by simp -implicitDefEqProofs only [tdiv32, tmod32, hq, hr, true_and, go_sem, seval]), (by simp -implicitDefEqProofs only [tdiv32, tmod32, hq, hr, true_and, go_sem, seval]), (by first | rfl | (simp -implicitDefEqProofs only [tdiv32, tmod32, hq, hr, true_and, go_sem, seval] <;> rfl)), (by simp -implicitDefEqProofs only [tdiv32, tmod32, hq, hr, true_and, go_sem, seval])⟩
    · rintro e S ⟨i, hi, g0, g1, g6, g7⟩
      have hmz : (intD (e 7)).toNat = i := by rw [g7]; rfl
      repeat (first | (with_reducible first | refine pv_seq fun K hK => ?_ | refine pv_reg ?_ | refine pv_draw (id := 8) qR5_68_8 (by kernel_rfl) ?_ | refine pv_draw (id := 13) qR5_68_13 (by kernel_rfl) ?_) | ((with_reducible first | refine hK _ _ ?_ | (clear hK; refine hK _ _ ?_) | (clear hK; clear hK; refine hK _ _ ?_)); clear hK; try clear K) | simp -implicitDefEqProofs only [tdiv32, tmod32, hq, hr, g0, g1, g6, g7, true_and, go_sem, seval] | with_reducible intro b | (with_reducible refine And.intro ?_ ?_; · first | assumption | omega | (unfold R64; omega)))
      refine pv_cdD (fun ht1 => ?_) (fun ht1 => ?_)
      · have hiA : i < A.length := by omega
        have hts := take_step hiA
        generalize decide (N32 (A.take i) ≠ 0) = b at hts g6
        simp only [ne_eq] at hts
        cases b
        · rw [Bool.false_or] at hts
          repeat (first | (with_reducible first | refine pv_seq fun K hK => ?_ | refine pv_reg ?_ | refine pv_draw (id := 8) qR5_68_8 (by kernel_rfl) ?_ | refine pv_draw (id := 13) qR5_68_13 (by kernel_rfl) ?_) | ((with_reducible first | refine hK _ _ ?_ | (clear hK; refine hK _ _ ?_) | (clear hK; clear hK; refine hK _ _ ?_)); clear hK; try clear K) | simp -implicitDefEqProofs only [tdiv32, tmod32, hq, hr, g0, g1, g6, g7, true_and, go_sem, seval] | with_reducible intro b | (with_reducible refine And.intro ?_ ?_; · first | assumption | omega | (unfold R64; omega)))
          exact ⟨⟨i + 1, by omega, by rw [hts], rfl⟩, by simp only [intD]; omega⟩
        · rw [Bool.true_or] at hts
          repeat (first | (with_reducible first | refine pv_seq fun K hK => ?_ | refine pv_reg ?_ | refine pv_draw (id := 8) qR5_68_8 (by kernel_rfl) ?_ | refine pv_draw (id := 13) qR5_68_13 (by kernel_rfl) ?_) | ((with_reducible first | refine hK _ _ ?_ | (clear hK; refine hK _ _ ?_) | (clear hK; clear hK; refine hK _ _ ?_)); clear hK; try clear K) | simp -implicitDefEqProofs only [tdiv32, tmod32, hq, hr, g0, g1, g6, g7, true_and, go_sem, seval] | with_reducible intro b | (with_reducible refine And.intro ?_ ?_; · first | assumption | omega | (unfold R64; omega)))
          exact ⟨⟨i + 1, by omega, by rw [hts], rfl⟩, by simp only [intD]; omega⟩
      · repeat (first | (with_reducible first | refine pv_seq fun K hK => ?_ | refine pv_reg ?_ | refine pv_draw (id := 8) qR5_68_8 (by kernel_rfl) ?_ | refine pv_draw (id := 13) qR5_68_13 (by kernel_rfl) ?_) | ((with_reducible first | refine hK _ _ ?_ | (clear hK; refine hK _ _ ?_) | (clear hK; clear hK; refine hK _ _ ?_)); clear hK; try clear K) | simp -implicitDefEqProofs only [tdiv32, tmod32, hq, hr, g0, g1, g6, g7, true_and, go_sem, seval] | with_reducible intro b | (with_reducible refine And.intro ?_ ?_; · first | assumption | omega | (unfold R64; omega)))
        obtain rfl : i = q := by omega
        exact J _ _ (by simp -implicitDefEqProofs only [tdiv32, tmod32, hq, hr, g0, g1, g6, g7, true_and, go_sem, seval]) (by simp -implicitDefEqProofs only [tdiv32, tmod32, hq, hr, g0, g1, g6, g7, true_and, go_sem, seval]) (by simp -implicitDefEqProofs only [tdiv32, tmod32, hq, hr, g0, g1, g6, g7, true_and, go_sem, seval])
theorem D32_nt (n : Nat) : (D32 n).length = 0 ∨ N32 (D32 n) ≠ 0 := by
  have h : N32 (D32 n) = n := nval_digs (by decide) n
  rw [h]
  by_cases h0 : n = 0
  · subst h0; left; rw [D32, digs_zero]; rfl
  · exact .inr h0
theorem p_rDown {A : List Nat} {n : Nat} (hbA : B32 A) (hnt : A.length = 0 ∨ N32 A ≠ 0) (hlA : A.length ≤ 1099511627776) (hn : n ≤ 1099511627776) : PC Tryd.prog 68 [W32 A, i64 n] fun d => ∃ b, d = .tup [W32 (D32 (N32 A / 2 ^ n)), bl b] :=
  (p_rDownL hbA hnt hlA hn).mono fun d hd => ⟨_, hd⟩

end Go.V
namespace Go.V
open Go Go.RowKit Go.Proofs

theorem pow32 {r : Nat} (h : r < 32) : (4294967296 : Nat) = 2 ^ r * 2 ^ (32 - r) := by rw [← Nat.pow_add]; rw [show r + (32 - r) = 32 by omega]
theorem up_word32 {o a r : Nat} (hr : r < 32) (ho : o < 2 ^ r) (ha : a < 4294967296) :
    (o ||| a * 2 ^ r % 4294967296) + 4294967296 * (a * 2 ^ r / 4294967296) = o + a * 2 ^ r := by
  have hp := pow32 hr
  have h1 : a * 2 ^ r % 4294967296 = 2 ^ r * (a % 2 ^ (32 - r)) := by
    rw [Nat.mul_comm a]; conv => lhs; rw [hp]
    exact Nat.mul_mod_mul_left _ _ _
  have h2 := Nat.mod_add_div (a * 2 ^ r) 4294967296
  rw [h1] at h2 ⊢
  rw [Nat.or_comm, ← Nat.two_pow_add_eq_or_of_lt ho]
  omega
theorem up_lt32 {o a r : Nat} (hr : r < 32) (ho : o < 2 ^ r) (ha : a < 4294967296) : (o ||| a * 2 ^ r % 4294967296) < 4294967296 := by
  have h1 : o < 2 ^ 32 := Nat.lt_of_lt_of_le ho (Nat.pow_le_pow_right (by decide) (by omega))
  exact Nat.or_lt_two_pow (n := 32) h1 (Nat.mod_lt _ (by decide))
theorem up_hi32 {a r : Nat} (hr : r < 32) (ha : a < 4294967296) : a * 2 ^ r / 4294967296 < 2 ^ r := by
  rw [Nat.div_lt_iff_lt_mul (by decide), Nat.mul_comm]
  exact Nat.mul_lt_mul_of_pos_left ha (Nat.two_pow_pos _)
theorem up_lt64 {a r : Nat} (hr : r < 32) (ha : a < 4294967296) : a * 2 ^ r < 18446744073709551616 := by
  have h1 : (2 : Nat) ^ r ≤ 2 ^ 31 := Nat.pow_le_pow_right (by decide) (by omega)
  have := Nat.mul_le_mul (Nat.le_of_lt ha) h1
  omega
theorem getD_rep {m j : Nat} : (List.replicate m 0).getD j 0 = 0 := by
  simp only [List.getD, List.getElem?_replicate]; split <;> rfl
/-- One digit of the product. -/
theorem left_step {os A : List Nat} {q i r : Nat} (hr : r < 32) (hbA : B32 A) (hi : i < A.length) (hol : os.length = q + A.length + 1) (ho : os.getD (q + i) 0 < 2 ^ r) (hz : ∀ j, q + i < j → os.getD j 0 = 0)
    (hv : nval 4294967296 os + 4294967296 ^ (q + i) * (2 ^ r * nval 4294967296 (A.drop i)) = 4294967296 ^ q * (2 ^ r * nval 4294967296 A)) :
    nval 4294967296 ((os.set (q + i) (os.getD (q + i) 0 ||| A.getD i 0 * 2 ^ r % 4294967296)).set (q + i + 1) (A.getD i 0 * 2 ^ r / 4294967296)) + 4294967296 ^ (q + (i + 1)) * (2 ^ r * nval 4294967296 (A.drop (i + 1))) = 4294967296 ^ q * (2 ^ r * nval 4294967296 A) := by
  have ha := get_lt hbA (by decide) i
  have h1 := nval_set (B := 4294967296) (y := os.getD (q + i) 0 ||| A.getD i 0 * 2 ^ r % 4294967296) (show q + i < os.length by omega)
  have h2 := nval_set (B := 4294967296) (xs := os.set (q + i) (os.getD (q + i) 0 ||| A.getD i 0 * 2 ^ r % 4294967296)) (y := A.getD i 0 * 2 ^ r / 4294967296) (i := q + i + 1) (by rw [List.length_set]; omega)
  have h3 : (os.set (q + i) (os.getD (q + i) 0 ||| A.getD i 0 * 2 ^ r % 4294967296)).getD (q + i + 1) 0 = 0 := by
    rw [getD_set, if_neg (by omega)]; exact hz _ (by omega)
  rw [h3, Nat.mul_zero, Nat.add_zero] at h2
  rw [h2, ← hv, drop_step A (i := i), show q + (i + 1) = q + i + 1 by omega, Nat.pow_succ]
  have h4 := up_word32 hr ho ha
  generalize nval 4294967296 (A.drop (i + 1)) = u at *
  generalize os.getD (q + i) 0 = o at *
  generalize (o ||| A.getD i 0 * 2 ^ r % 4294967296) = o' at *
  generalize A.getD i 0 * 2 ^ r / 4294967296 = hi' at *
  generalize (4294967296 : Nat) ^ (q + i) = W at *
  have h5 : W * o' + W * (4294967296 * hi') = W * o + W * (A.getD i 0 * 2 ^ r) := by rw [← Nat.mul_add, h4, Nat.mul_add]
  have e1 : W * (2 ^ r * (A.getD i 0 + 4294967296 * u)) = W * (A.getD i 0 * 2 ^ r) + W * 4294967296 * (2 ^ r * u) := by
    rw [Nat.mul_add, Nat.mul_add, Nat.mul_comm (2 ^ r) (A.getD i 0), Nat.mul_assoc W, Nat.mul_left_comm (2 ^ r)]
  rw [e1, Nat.mul_assoc W 4294967296 hi']
  omega


end Go.V
namespace Go.V
open Go Go.RowKit Go.Proofs

theorem mul_s {a b c o : Nat} (ha : a < 4294967296) (hb : b < 4294967296) (hc : c < 4294967296) (ho : o < 4294967296) : c + (a * b + o) < 18446744073709551616 := by
  have := Nat.mul_le_mul (Nat.le_sub_one_of_lt ha) (Nat.le_sub_one_of_lt hb)
  omega
/-- One digit of the product. -/
theorem mul_step32 {os B : List Nat} {k j a c E T : Nat} (hk : k < os.length)
    (hv : nval 4294967296 os + 4294967296 ^ k * (c + a * nval 4294967296 (B.drop j)) + E = T) :
    nval 4294967296 (os.set k ((c + (a * B.getD j 0 + os.getD k 0)) % 4294967296)) + 4294967296 ^ (k + 1) * ((c + (a * B.getD j 0 + os.getD k 0)) / 4294967296 + a * nval 4294967296 (B.drop (j + 1))) + E = T := by
  have h1 := nval_set (B := 4294967296) (y := (c + (a * B.getD j 0 + os.getD k 0)) % 4294967296) hk
  rw [drop_step B (i := j)] at hv
  rw [← hv, Nat.pow_succ]
  have h2 := Nat.mod_add_div (c + (a * B.getD j 0 + os.getD k 0)) 4294967296
  generalize (c + (a * B.getD j 0 + os.getD k 0)) % 4294967296 = s at *
  generalize (c + (a * B.getD j 0 + os.getD k 0)) / 4294967296 = c' at *
  generalize nval 4294967296 (B.drop (j + 1)) = u at *
  generalize (4294967296 : Nat) ^ k = W at *
  have e1 : W * s + W * (4294967296 * c') = W * c + (W * (a * B.getD j 0) + W * os.getD k 0) := by rw [← Nat.mul_add, h2, Nat.mul_add, Nat.mul_add]
  have e2 : W * (c + a * (B.getD j 0 + 4294967296 * u)) = W * c + W * (a * B.getD j 0) + W * (4294967296 * (a * u)) := by
    rw [Nat.mul_add a, Nat.mul_left_comm a, Nat.mul_add, Nat.mul_add, Nat.add_assoc]
  have e3 : W * 4294967296 * (c' + a * u) = W * (4294967296 * c') + W * (4294967296 * (a * u)) := by rw [Nat.mul_assoc, Nat.mul_add, Nat.mul_add]
  rw [e2, e3]
  omega


end Go.V

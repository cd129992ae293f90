/- The document's numbers: quotient and rest, bit by bit: the plain laws. The document's numbers: quotient and rest, over values as data. The document's rounded numbers: Round, Ratio, Fit, Reckon; over values as data. The document's quotients and what is reckoned: Ratio, Reckon; over values as data. -/
import Derived.Test.YtolccagkfobbmaaGreatDoorZPU
import Derived.Test.YtolccagkfobbmaaGreatDoorZPT
import Derived.Test.YtolccagkfobbmaaGreatDoorZPZ
import Derived.Test.YtolccagkfobbmaaGreatDoorZPY
set_option linter.unusedSimpArgs false
set_option linter.unusedVariables false
set_option maxRecDepth 100000
namespace Go.V
open Go Go.RowKit Go.Proofs

theorem div_bit {X Y b : Nat} (hY : 0 < Y) (hb : b < 2) :
    if Y ≤ 2 * (X % Y) + b then (2 * X + b) / Y = 2 * (X / Y) + 1 ∧ (2 * X + b) % Y = 2 * (X % Y) + b - Y else (2 * X + b) / Y = 2 * (X / Y) ∧ (2 * X + b) % Y = 2 * (X % Y) + b := by
  have h1 := Nat.div_add_mod X Y
  have h2 := Nat.mod_lt X hY
  split
  · refine (Nat.div_mod_unique hY).2 ⟨?_, by omega⟩
    rw [Nat.mul_add, Nat.mul_left_comm, Nat.mul_one]
    omega
  · refine (Nat.div_mod_unique hY).2 ⟨?_, by omega⟩
    rw [Nat.mul_left_comm]
    omega
theorem bit_of {A : List Nat} (hbA : B32 A) (i : Nat) : nval 4294967296 A / 2 ^ i % 2 = A.getD (i / 32) 0 / 2 ^ (i % 32) % 2 := by
  rw [← down_all hbA i, drop_step A (i := i / 32)]
  have hr : i % 32 < 32 := Nat.mod_lt _ (by decide)
  generalize i % 32 = r at *
  have hp : (4294967296 : Nat) = 2 ^ r * (2 * 2 ^ (31 - r)) := by rw [← Nat.pow_succ', ← Nat.pow_add]; rw [show r + (31 - r).succ = 32 by omega]
  generalize nval 4294967296 (A.drop (i / 32 + 1)) = u
  have hu : 4294967296 * u = 2 ^ r * (2 * (2 ^ (31 - r) * u)) := by
    rw [show 4294967296 * u = 2 ^ r * (2 * 2 ^ (31 - r)) * u from congrArg (· * u) hp, Nat.mul_assoc, Nat.mul_assoc]
  rw [hu]
  rw [Nat.add_mul_div_left _ _ (Nat.two_pow_pos _), Nat.add_mul_mod_self_left]
theorem half_bit (X i : Nat) : X / 2 ^ i = 2 * (X / 2 ^ (i + 1)) + X / 2 ^ i % 2 := by
  rw [Nat.pow_succ, ← Nat.div_div_eq_div_mul]; omega
theorem or_bit {x r : Nat} (h : x / 2 ^ r % 2 = 0) : x ||| 2 ^ r = x + 2 ^ r := by
  have h1 := Nat.div_add_mod x (2 ^ r)
  have h2 := Nat.mod_lt x (Nat.two_pow_pos r)
  obtain ⟨y, hy⟩ : ∃ y, x / 2 ^ r = 2 * y := ⟨x / 2 ^ r / 2, by omega⟩
  rw [hy] at h1
  generalize x % 2 ^ r = l at *
  have e1 : x = 2 ^ r * (2 * y) ||| l := by rw [← Nat.two_pow_add_eq_or_of_lt h2]; exact h1.symm
  have e2 : 2 ^ r * (2 * y) ||| 2 ^ r = 2 ^ r * (2 * y + 1) := by
    have : (2 * y) ||| 1 = 2 * y + 1 := by
      have := Nat.two_pow_add_eq_or_of_lt (i := 1) (b := 1) (by decide) y
      simpa [Nat.mul_comm] using this.symm
    have h3 := congrArg (fun z => z <<< r) this
    rw [Nat.shiftLeft_or_distrib] at h3
    simp only [Nat.shiftLeft_eq, Nat.one_mul] at h3
    rw [Nat.mul_comm (2 ^ r), Nat.mul_comm (2 ^ r)]
    exact h3
  have e3 : x ||| 2 ^ r = 2 ^ r * (2 * y + 1) ||| l := by rw [e1, Nat.or_assoc, Nat.or_comm l, ← Nat.or_assoc, e2]
  rw [e3, ← Nat.two_pow_add_eq_or_of_lt h2, Nat.mul_add, Nat.mul_one]
  omega
theorem set_bit {q : List Nat} {i Q : Nat} (hb : B32 q) (hi : i / 32 < q.length) (hv : nval 4294967296 q = 2 ^ (i + 1) * Q) :
    nval 4294967296 (q.set (i / 32) (q.getD (i / 32) 0 ||| 2 ^ (i % 32))) = 2 ^ i * (2 * Q + 1) := by
  have h0 : q.getD (i / 32) 0 / 2 ^ (i % 32) % 2 = 0 := by
    rw [← bit_of hb i, hv, Nat.pow_succ, Nat.mul_assoc, Nat.mul_div_cancel_left _ (Nat.two_pow_pos _), Nat.mul_mod_right]
  have h1 := nval_set (B := 4294967296) (y := q.getD (i / 32) 0 ||| 2 ^ (i % 32)) hi
  rw [or_bit h0, Nat.mul_add, show (4294967296 : Nat) ^ (i / 32) * 2 ^ (i % 32) = 2 ^ i by rw [show (4294967296 : Nat) = 2 ^ 32 from rfl, ← Nat.pow_mul, ← Nat.pow_add, Nat.div_add_mod]] at h1
  rw [or_bit h0]
  rw [hv, Nat.pow_succ, Nat.mul_assoc] at h1
  rw [Nat.mul_add, Nat.mul_one]
  omega

end Go.V
namespace Go.V
open Go Go.RowKit Go.Proofs
def qR10_71_10 : List (Nat × Nat) := [(0, 0), (1, 0), (2, 0), (3, 0), (4, 1), (5, 0), (6, 0), (7, 0), (8, 0), (9, 0), (10, 3)]
attribute [go_sem] qR10_71_10
theorem len_lt {R n j : Nat} (h : R < 4294967296 * n) (hn : (D32 n).length ≤ j) : (D32 R).length ≤ j + 1 := by
  refine digs_len_le two32 (Nat.lt_of_lt_of_le h ?_)
  rw [Nat.pow_succ, Nat.mul_comm]
  exact Nat.mul_le_mul_right _ (Nat.le_of_lt (Nat.lt_of_lt_of_le (lt_pow_len two32 n) (Nat.pow_le_pow_right (by decide) hn)))

theorem lt_bitLen (m : Nat) : m < 2 ^ bitLen m := by
  unfold bitLen
  split
  · omega
  · rename_i h; exact Nat.lt_log2_self
theorem bitLen_le32 (m : Nat) : bitLen m ≤ 32 * (D32 m).length := by
  refine bl_le ?_
  have := lt_pow_len two32 m
  rwa [show (4294967296 : Nat) = 2 ^ 32 from rfl, ← Nat.pow_mul] at this

theorem p_rDiv {m n : Nat} (h0 : 0 < n) (hlm : (D32 m).length ≤ 1000000) (hln : (D32 n).length ≤ 1000000) : PC Tryz.prog 71 [W32 (D32 m), W32 (D32 n)] fun d => d = .tup [W32 (D32 (m / n)), W32 (D32 (m % n))] := by
  have hbm : B32 (D32 m) := digs_lt two32 m
  have hnm : nval 4294967296 (D32 m) = m := nval_digs two32 m
  obtain ⟨L, hL⟩ : ∃ L, (D32 m).length = L := ⟨_, rfl⟩
  have d1 := @dl 10 qR10_71_10
  refine PB (rs := [.tmp 4, .tmp 5]) Tryz.func71 ?_
  repeat (first | with_reducible refine pv_seq fun K hK => ?_ | ((with_reducible first | refine hK _ _ ?_ | (clear hK; refine hK _ _ ?_) | (clear hK; clear hK; refine hK _ _ ?_)); clear hK; try clear K) | refine W0 ?_ | exact Z | with_reducible intro b)
  refine call_is (p_rBits (by omega)) ?_
  have hbl : bitLen m ≤ 32 * L := by rw [← hL]; exact bitLen_le32 m
  have hbt : m < 2 ^ bitLen m := lt_bitLen m
  repeat (first | with_reducible refine pv_seq fun K hK => ?_ | ((with_reducible first | refine hK _ _ ?_ | (clear hK; refine hK _ _ ?_) | (clear hK; clear hK; refine hK _ _ ?_)); clear hK; try clear K) | refine W0 ?_ | exact Z | with_reducible intro b)
  have J : ∀ (e : DEnv) (S : Store) (q : List Nat), RowD S (.l 11) 1 (e 6) (rS (eK .u32) q) → B32 q → nval 4294967296 q = m / n → q.length = L → (e 7 = W32 (D32 (m % n)) ∨ (e 7 = .nil ∧ m % n = 0)) → K e S := by
    intro e S q hr hb hv hl h7
    repeat (first | with_reducible refine pv_seq fun K hK => ?_ | ((with_reducible first | refine hK _ _ ?_ | (clear hK; refine hK _ _ ?_) | (clear hK; clear hK; refine hK _ _ ?_)); clear hK; try clear K) | refine W0 ?_ | exact Z | with_reducible intro b)
    refine PFC.coe (hr.coe1 fun S' _ _ => ?_)
    refine call_is (p_trim hb (by omega)) ?_
    rw [show N32 q = m / n from hv]
    rcases h7 with h7 | ⟨h7, hz⟩
    · have ft := h7
      exact Wk
    · have ft := And.intro h7 hz
      repeat (first | with_reducible refine pv_seq fun K hK => ?_ | ((with_reducible first | refine hK _ _ ?_ | (clear hK; refine hK _ _ ?_) | (clear hK; clear hK; refine hK _ _ ?_)); clear hK; try clear K) | refine W0 ?_ | exact Z | with_reducible intro b)
      rw [D32, D32, digs_zero]; rfl
  clear hK
  refine pv_loop (fun e S => ∃ (k : Nat) (q : List Nat), k ≤ bitLen m ∧ q.length = L ∧ B32 q ∧ nval 4294967296 q = 2 ^ k * (m / 2 ^ k / n) ∧ e 0 = W32 (D32 m) ∧ e 1 = W32 (D32 n) ∧ e 6 = .own (.l 11) b 0 L L 1 ∧ (e 7 = W32 (D32 (m / 2 ^ k % n)) ∨ (e 7 = .nil ∧ m / 2 ^ k % n = 0)) ∧ e 8 = i64 ((k : Int) - 1) ∧ S (.l 11) = some ⟨b, 1, 0, rS (eK .u32) q⟩) (fun e _ => (intD (e 8) + 1).toNat) ?_ ?_
  · have hd0 : m / 2 ^ bitLen m = 0 := Nat.div_eq_of_lt hbt
    refine ⟨bitLen m, List.replicate L 0, Nat.le_refl _, by simp, fun x hx => by rw [List.eq_of_mem_replicate hx]; decide, ?_, Z, Z, ?_, .inr ⟨rfl, by rw [hd0, Nat.zero_mod]⟩, Z, ?_⟩
    · rw [nval_zeros _ _ (fun y hy => List.eq_of_mem_replicate hy), hd0, Nat.zero_div, Nat.mul_zero]
    · try simp -implicitDefEqProofs only [ft, go_sem, seval]
      rw [hL]
    · rw [← rS_rep (f := eK .u32) (y := 0) rfl, ← hL]; rfl
  · rintro e S ⟨k, q, hk, hql, hqb, hv, g0, g1, g6, g7, g8, hS⟩
    have hmz : (intD (e 8) + 1).toNat = k := by rw [g8]; simp only [intD, i64]; omega
    rcases Nat.eq_zero_or_pos k with rfl | hp
    · have g8 : e 8 = i64 (-1) := g8
      have ft := And.intro g0 (And.intro g1 (And.intro g6 g8))
      repeat (first | with_reducible refine pv_seq fun K hK => ?_ | ((with_reducible first | refine hK _ _ ?_ | (clear hK; refine hK _ _ ?_) | (clear hK; clear hK; refine hK _ _ ?_)); clear hK; try clear K) | refine W0 ?_ | exact Z | with_reducible intro b)
      simp only [Nat.pow_zero, Nat.div_one, Nat.one_mul] at hv g7
      exact J _ _ q (by try simp -implicitDefEqProofs only [ft, go_sem, seval]; exact .own (by rw [rS_len]; omega) hS) hqb hv hql (by try simp -implicitDefEqProofs only [ft, go_sem, seval]; exact g7)
    · obtain ⟨i, rfl⟩ : ∃ i, k = i + 1 := ⟨k - 1, by omega⟩
      rw [cast_succ_sub] at g8
      have hRn : m / 2 ^ (i + 1) % n < n := Nat.mod_lt _ h0
      have hlR : (D32 (m / 2 ^ (i + 1) % n)).length ≤ 1000001 := len_lt (by omega) hln
      have cl : ∀ K' : D → Store → Prop, K' (W32 (D32 (2 * (m / 2 ^ (i + 1) % n)))) S → PFC Tryz.prog 72 [e 7, .g (.lit (.int .i64 1))] S K' := by
        intro K' h
        rcases g7 with g7 | ⟨g7, hz⟩
        · rw [g7]
          refine call_is (p_rLeft (n := 1) (digs_lt two32 _) (by omega) (by decide)) ?_
          rw [show N32 (D32 (m / 2 ^ (i + 1) % n)) = m / 2 ^ (i + 1) % n from nval_digs two32 _, Nat.pow_one, Nat.mul_comm]
          exact h
        · rw [g7]
          refine PFC.coe ?_
          simp -implicitDefEqProofs only [ft, go_sem, seval]
          refine call_is (p_rLeft (A := []) (n := 1) (fun x hx => by cases hx) (by decide) (by decide)) ?_
          rw [hz] at h
          exact h
      have hiA : i / 32 < (D32 m).length := by omega
      have hiL : i / 32 < L := by omega
      have hr33 : i % 32 ≤ 32 := by omega
      have hbit := bit_of hbm i
      rw [hnm] at hbit
      have hx32 := get_lt hbm (by decide) (i / 32)
      have hand := and1 (x := (D32 m).getD (i / 32) 0 / 2 ^ (i % 32)) (Nat.lt_of_le_of_lt (Nat.div_le_self _ _) hx32)
      repeat (first | (with_reducible first | refine pv_seq fun K hK => ?_ | refine pv_reg ?_ | refine pv_draw (id := 10) qR10_71_10 (by kernel_rfl) ?_) | ((with_reducible first | refine hK _ _ ?_ | (clear hK; refine hK _ _ ?_) | (clear hK; clear hK; refine hK _ _ ?_)); clear hK; try clear K) | simp -implicitDefEqProofs only [g0, g1, g6, g8, tdiv32, tmod32, hr33, hand, true_and, go_sem, seval] | with_reducible intro b | (with_reducible refine And.intro ?_ ?_; · first | assumption | omega | (unfold R64; omega)))
      refine cl _ ?_
      repeat (first | (with_reducible first | refine pv_seq fun K hK => ?_ | refine pv_reg ?_ | refine pv_draw (id := 10) qR10_71_10 (by kernel_rfl) ?_) | ((with_reducible first | refine hK _ _ ?_ | (clear hK; refine hK _ _ ?_) | (clear hK; clear hK; refine hK _ _ ?_)); clear hK; try clear K) | simp -implicitDefEqProofs only [g0, g1, g6, g8, tdiv32, tmod32, hr33, hand, true_and, go_sem, seval] | with_reducible intro b | (with_reducible refine And.intro ?_ ?_; · first | assumption | omega | (unfold R64; omega)))
      have hdb := div_bit (X := m / 2 ^ (i + 1)) (b := m / 2 ^ i % 2) h0 (Nat.mod_lt _ (by decide))
      rw [← half_bit m i] at hdb
      have hb2 : m / 2 ^ i % 2 < 2 := Nat.mod_lt _ (by decide)
      have JB : ∀ (e1 : DEnv) (S1 : Store), e1 0 = W32 (D32 m) → e1 1 = W32 (D32 n) → e1 6 = .own (.l 11) b 0 L L 1 → e1 8 = i64 i → e1 7 = W32 (D32 (2 * (m / 2 ^ (i + 1) % n) + m / 2 ^ i % 2)) → S1 (.l 11) = some ⟨b, 1, 0, rS (eK .u32) q⟩ → K e1 S1 := by
        intro e1 S1 k0 k1 k6 k8 k7 kS
        generalize hR : 2 * (m / 2 ^ (i + 1) % n) + m / 2 ^ i % 2 = R at hdb k7
        have hlR2 : (D32 R).length ≤ 1000001 := len_lt (by omega) hln
        have ft := And.intro k0 (And.intro k1 (And.intro k6 (And.intro k7 k8)))
        repeat (first | with_reducible refine pv_seq fun K hK => ?_ | ((with_reducible first | refine hK _ _ ?_ | (clear hK; refine hK _ _ ?_) | (clear hK; clear hK; refine hK _ _ ?_)); clear hK; try clear K) | refine W0 ?_ | exact Z | with_reducible intro b)
        refine call_is (p_rCmp (by omega) (by omega)) ?_
        by_cases hc : n ≤ R
        · rw [if_pos hc] at hdb
          have hcm : 0 ≤ cmpI (R : Int) (n : Int) := by unfold cmpI; rw [if_neg (by omega)]; split <;> decide
          have ft := And.intro k0 (And.intro k1 (And.intro k6 (And.intro k7 (And.intro k8 hcm))))
          repeat (first | with_reducible refine pv_seq fun K hK => ?_ | ((with_reducible first | refine hK _ _ ?_ | (clear hK; refine hK _ _ ?_) | (clear hK; clear hK; refine hK _ _ ?_)); clear hK; try clear K) | refine W0 ?_ | exact Z | with_reducible intro b)
          refine call_is (p_rSub (digs_lt two32 _) (digs_lt two32 _) (by omega) (by rw [N32, N32, nval_digs two32, nval_digs two32]; exact hc)) ?_
          rw [N32, N32, nval_digs two32, nval_digs two32]
          have h2r : 2 ^ (i % 32) < 4294967296 := Nat.lt_of_lt_of_le (Nat.pow_lt_pow_right (by decide) (Nat.mod_lt i (by decide : 32 > 0))) (by decide)
          have hshl : IntKind.u32.wrap ((1 : Int) * 2 ^ (i % 32)) = ((2 ^ (i % 32) : Nat) : Int) := by
            rw [show (1 : Int) * 2 ^ (i % 32) = ((2 ^ (i % 32) : Nat) : Int) by simp, wrap32_nat, Nat.mod_eq_of_lt h2r]
          have hor := or32_nat (q.getD (i / 32) 0) (2 ^ (i % 32)) (get_lt hqb (by decide) _) h2r
          have hget : (rS (eK .u32) q)[i / 32]? = some [.g (.lit (.int .u32 (q.getD (i / 32) 0 : Nat)))] := by
            rw [rS_get, getD_some (by omega)]; rfl
          repeat (first | (with_reducible first | refine pv_seq fun K hK => ?_ | refine pv_reg ?_ | refine pv_draw (id := 10) qR10_71_10 (by kernel_rfl) ?_) | ((with_reducible first | refine hK _ _ ?_ | (clear hK; refine hK _ _ ?_) | (clear hK; clear hK; refine hK _ _ ?_)); clear hK; try clear K) | simp -implicitDefEqProofs only [k0, k1, k6, k7, k8, kS, hr33, hget, hshl, hor, tdiv32, tmod32, Nat.zero_add, D.one, Nat.le_refl, true_and, go_sem, seval] | with_reducible intro b | (with_reducible refine And.intro ?_ ?_; · first | assumption | omega | (unfold R64; omega)))
          refine ⟨⟨i, q.set (i / 32) (q.getD (i / 32) 0 ||| 2 ^ (i % 32)), by omega, by simp [hql], ?_, ?_, ?_, rfl, ?_⟩, ?_⟩
          · exact set_lt hqb (Nat.or_lt_two_pow (n := 32) (get_lt hqb (by decide) _) h2r)
          · rw [set_bit hqb (by omega) hv, hdb.1]
          · left; rw [hdb.2]
          · rw [← rS_set (f := eK .u32) (y := q.getD (i / 32) 0 ||| 2 ^ (i % 32)) rfl]; try rfl
          · rw [hmz]; simp only [intD]; omega
        · rw [if_neg hc] at hdb
          have hcm : ¬ 0 ≤ cmpI (R : Int) (n : Int) := by unfold cmpI; rw [if_pos (by omega)]; decide
          have ft := And.intro k0 (And.intro k1 (And.intro k6 (And.intro k7 (And.intro k8 hcm))))
          repeat (first | with_reducible refine pv_seq fun K hK => ?_ | ((with_reducible first | refine hK _ _ ?_ | (clear hK; refine hK _ _ ?_) | (clear hK; clear hK; refine hK _ _ ?_)); clear hK; try clear K) | refine W0 ?_ | exact Z | with_reducible intro b)
          refine ⟨⟨i, q, by omega, hql, hqb, ?_, ?_, rfl, kS⟩, ?_⟩
          · rw [hv, hdb.1, Nat.pow_succ, Nat.mul_assoc]
          · left; rw [hdb.2]
          · rw [hmz]; simp only [intD]; omega
      clear hK
      refine pv_cdD (fun ht => ?_) (fun ht => ?_)
      · have hb1 : m / 2 ^ i % 2 = 1 := by omega
        have ft := And.intro g0 (And.intro g1 (And.intro g6 g8))
        repeat (first | with_reducible refine pv_seq fun K hK => ?_ | ((with_reducible first | refine hK _ _ ?_ | (clear hK; refine hK _ _ ?_) | (clear hK; clear hK; refine hK _ _ ?_)); clear hK; try clear K) | refine W0 ?_ | exact Z | with_reducible intro b)
        refine PFC.coe ?_
        simp -implicitDefEqProofs only [ft, go_sem, seval]
        refine call_is (p_rAdd (A := D32 (2 * (m / 2 ^ (i + 1) % n))) (B := [1]) (digs_lt two32 _) (by decide) (by have := len_lt (R := 2 * (m / 2 ^ (i + 1) % n)) (by omega) hln; omega) (by decide)) ?_
        rw [show N32 (D32 (2 * (m / 2 ^ (i + 1) % n))) = 2 * (m / 2 ^ (i + 1) % n) from nval_digs two32 _, show N32 [1] = 1 from rfl]
        repeat (first | with_reducible refine pv_seq fun K hK => ?_ | ((with_reducible first | refine hK _ _ ?_ | (clear hK; refine hK _ _ ?_) | (clear hK; clear hK; refine hK _ _ ?_)); clear hK; try clear K) | refine W0 ?_ | exact Z | with_reducible intro b)
        exact JB _ _ Z Z Z Z (by rw [hb1]; try simp -implicitDefEqProofs only [ft, go_sem, seval]) (by try simp -implicitDefEqProofs only [ft, go_sem, seval]; exact hS)
      · have hb1 : m / 2 ^ i % 2 = 0 := by omega
        have ft := And.intro g0 (And.intro g1 (And.intro g6 g8))
        repeat (first | with_reducible refine pv_seq fun K hK => ?_ | ((with_reducible first | refine hK _ _ ?_ | (clear hK; refine hK _ _ ?_) | (clear hK; clear hK; refine hK _ _ ?_)); clear hK; try clear K) | refine W0 ?_ | exact Z | with_reducible intro b)
        exact JB _ _ Z Z Z Z (by rw [show 2 * (m / 2 ^ (i + 1) % n) + m / 2 ^ i % 2 = 2 * (m / 2 ^ (i + 1) % n) by omega]; try simp -implicitDefEqProofs only [ft, go_sem, seval]) hS

end Go.V
namespace Go.V
open Go Go.RowKit Go.Proofs

theorem rd_bd {k p : Nat} {up : Bool} {d : Dyadic} (hd : Bd k d) (hp : 1 ≤ p) : Bd (2 * k + p) (rd p up d) := by
  have h1 := rd_pb (up := up) (d := d) hp
  have hbl : bitLen (fN d) ≤ k := bitLen_le hd.1
  refine ⟨Nat.lt_of_lt_of_le h1 (Nat.pow_le_pow_right (by decide) (by omega)), ?_⟩
  have hlo := hd.2.1; have hhi := hd.2.2
  unfold rd rdM
  by_cases h : bitLen (fN d) ≤ p
  · rw [if_pos h, dy_f]; omega
  · rw [if_neg h]
    have h2 := q_hi h
    generalize hq : fN d / 2 ^ (bitLen (fN d) - p) + (if fN d % 2 ^ (bitLen (fN d) - p) ≠ 0 ∧ up ≠ fS d then 1 else 0) = q
    have h3 : q < 2 ^ (p + 1) := by
      rw [← hq, Nat.pow_succ]
      have := Nat.two_pow_pos p
      split <;> omega
    by_cases h0 : q = 0
    · rw [h0, dy0, fE_zero]; omega
    · rw [(f_of h0).2.2]
      have := tz_lt h3 h0
      omega
theorem p_rRound {k p : Nat} {d : Dyadic} {up : Bool} (hd : Bd k d) (hk : k ≤ 16777216) (hp : p ≤ 1024) : PC Tryz.prog 53 [VA d, i64 p, bl up] fun r => r = VA (rd p up d) := by
  have hN := hd.1; have h1 := hd.2.1; have h2 := hd.2.2
  have hl : (D32 (fN d)).length ≤ k := digs32_le hN
  have hbl : bitLen (fN d) ≤ k := bitLen_le hN
  have pB := p_rBits (n := fN d) (by omega)
  by_cases h : bitLen (fN d) ≤ p
  · unfold rd rdM
    rw [if_pos h, dy_f]
    have k1 : ((bitLen (fN d) : Int) - (p : Int) ≤ 0) = True := eq_true (by omega)
    unfold VA
    refine PB (rs := [.cell 6 63]) Tryz.func53 ?_
    have ft := k1
    exact Wk
  · unfold rd rdM
    rw [if_neg h]
    obtain ⟨s, hs⟩ : ∃ s : Nat, bitLen (fN d) - p = s := ⟨_, rfl⟩
    have hs2 : (bitLen (fN d) : Int) - (p : Int) = (s : Int) := by omega
    have k1 : ((s : Int) ≤ 0) = False := eq_false (by omega)
    have hn0 : fN d ≠ 0 := by intro h2; rw [h2, bitLen_zero] at h; omega
    have pD := p_rDownL (A := D32 (fN d)) (n := s) (D32_b _) (.inr (by rw [N32_D32]; exact hn0)) (by omega) (by omega)
    rw [N32_D32] at pD
    rw [hs]
    have hq : fN d / 2 ^ s < 2 ^ k := Nat.lt_of_le_of_lt (Nat.div_le_self _ _) hN
    have hql := digs32_le hq
    have pA := p_rAdd (A := D32 (fN d / 2 ^ s)) (B := [1]) (D32_b _) (by decide) (by show (digs _ _).length ≤ _; omega) (by decide)
    rw [N32_D32, show N32 [1] = 1 by decide] at pA
    have pO := fun (c : Nat) (hc : c ≤ 1) => p_rOdd (k := k + 1) (neg := fS d) (n := fN d / 2 ^ s + c) (e := fE d + s) (by rw [Nat.pow_succ]; have := Nat.two_pow_pos k; omega) (by omega) (by omega) (by omega)
    generalize fN d / 2 ^ s = q at *
    generalize hL : decide (fN d % 2 ^ s ≠ 0) = L at *
    have hc : (if fN d % 2 ^ s ≠ 0 ∧ up ≠ fS d then 1 else 0) = if L = true ∧ up ≠ fS d then 1 else 0 := by
      rw [← hL]; simp only [decide_eq_true_eq]
    rw [hc]
    unfold VA at *
    generalize fS d = sd at *
    have p0 := pO 0 (by decide)
    have p1 := pO 1 (by decide)
    rw [Nat.add_zero] at p0
    cases L
    · rw [if_neg (by simp), Nat.add_zero]
      refine PB (rs := [.cell 6 63]) Tryz.func53 ?_
      have ft := And.intro hs2 k1
      exact Wk
    · by_cases hu : up = sd
      · rw [if_neg (by simp [hu]), Nat.add_zero]
        subst hu
        cases up
        · refine PB (rs := [.cell 6 63]) Tryz.func53 ?_
          have ft := And.intro hs2 k1
          exact Wk
        · refine PB (rs := [.cell 6 63]) Tryz.func53 ?_
          have ft := And.intro hs2 k1
          exact Wk
      · rw [if_pos ⟨rfl, hu⟩]
        obtain rfl : up = !sd := by cases up <;> cases sd <;> simp at hu ⊢
        cases sd
        · refine PB (rs := [.cell 6 63]) Tryz.func53 ?_
          have ft := And.intro hs2 k1
          exact Wk
        · refine PB (rs := [.cell 6 63]) Tryz.func53 ?_
          have ft := And.intro hs2 k1
          exact Wk

theorem p_bad {xs : List Nu} {p : Int} (hl : xs.length ≤ 1000) (hb : ∀ x ∈ xs, B64 x.w) : PC Tryz.prog 50 [i64 p, NN xs] fun d => d = bl (!(xs.all rightB && okP p)) := by
  refine PB (rs := [.tmp 4]) Tryz.func50 ?_
  repeat (first | (with_reducible first | refine pv_seq fun K hK => ?_ | refine pv_reg ?_) | ((with_reducible first | refine hK _ _ ?_ | (clear hK; refine hK _ _ ?_) | (clear hK; clear hK; refine hK _ _ ?_)); clear hK; try clear K) | simp -implicitDefEqProofs only [eU_0, true_and, go_sem, seval] | with_reducible intro b | (with_reducible refine And.intro ?_ ?_; · first | assumption | omega | (unfold R64; omega)))
  have J : ∀ (e : DEnv) (S : Store), (∀ x ∈ xs, rightB x = true) → e 0 = i64 p → K e S := by
    intro e S h g0
    have ha : xs.all rightB = true := List.all_eq_true.2 h
    rw [ha] at hK
    clear ha
    by_cases h1 : (8 : Int) ≤ p
    · have k1 : (p < (8 : Int)) = False := eq_false (by omega)
      by_cases h2 : p ≤ (256 : Int)
      · have k2 : ((256 : Int) < p) = False := eq_false (by omega)
        have k3 : okP p = true := by rw [okP, decide_eq_true h1, decide_eq_true h2]; rfl
        have ft := And.intro g0 (And.intro k1 (And.intro k2 k3))
        exact Wk
      · have k2 : ((256 : Int) < p) = True := eq_true (by omega)
        have k3 : okP p = false := by rw [okP, decide_eq_true h1, decide_eq_false h2]; rfl
        have ft := And.intro g0 (And.intro k1 (And.intro k2 k3))
        exact Wk
    · have k1 : (p < (8 : Int)) = True := eq_true (by omega)
      have k3 : okP p = false := by rw [okP, decide_eq_false h1]; rfl
      have ft := And.intro g0 (And.intro k1 k3)
      exact Wk
  clear hK
  refine pv_loop (fun e S => ∃ i : Nat, i ≤ xs.length ∧ e 0 = i64 p ∧ e 1 = NN xs ∧ e 5 = i64 i ∧ ∀ j, j < i → rightB (xs.getD j nu0) = true) (fun e _ => xs.length - (intD (e 5)).toNat) ?_ ?_
  · exact ⟨0, Nat.zero_le _, (by simp -implicitDefEqProofs only [eU_0, true_and, go_sem, seval]), (by simp -implicitDefEqProofs only [eU_0, true_and, go_sem, seval]), (by simp -implicitDefEqProofs only [eU_0, true_and, go_sem, seval]), fun j hj => by omega⟩
  · rintro e S ⟨i, hi, g0, g1, g5, hz⟩
    repeat (first | (with_reducible first | refine pv_seq fun K hK => ?_ | refine pv_reg ?_) | ((with_reducible first | refine hK _ _ ?_ | (clear hK; refine hK _ _ ?_) | (clear hK; clear hK; refine hK _ _ ?_)); clear hK; try clear K) | simp -implicitDefEqProofs only [g0, g1, g5, eU_0, true_and, go_sem, seval] | with_reducible intro b | (with_reducible refine And.intro ?_ ?_; · first | assumption | omega | (unfold R64; omega)))
    refine pv_cdD (fun ht1 => ?_) (fun ht => ?_)
    · repeat (first | (with_reducible first | refine pv_seq fun K hK => ?_ | refine pv_reg ?_) | ((with_reducible first | refine hK _ _ ?_ | (clear hK; refine hK _ _ ?_) | (clear hK; clear hK; refine hK _ _ ?_)); clear hK; try clear K) | simp -implicitDefEqProofs only [g0, g1, g5, eU_0, true_and, go_sem, seval] | with_reducible intro b | (with_reducible refine And.intro ?_ ?_; · first | assumption | omega | (unfold R64; omega)))
      have hm : xs.getD i nu0 ∈ xs := by simp [List.getD, List.getElem?_eq_getElem ht1]
      refine call_is (p_rRight (hb _ hm)) ?_
      cases hr : rightB (xs.getD i nu0)
      · have ha : xs.all rightB = false := by
          rw [List.all_eq_false]; exact ⟨_, hm, by rw [hr]; decide⟩
        have ft := ha
        exact Wk
      · repeat (first | (with_reducible first | refine pv_seq fun K hK => ?_ | refine pv_reg ?_) | ((with_reducible first | refine hK _ _ ?_ | (clear hK; refine hK _ _ ?_) | (clear hK; clear hK; refine hK _ _ ?_)); clear hK; try clear K) | simp -implicitDefEqProofs only [g0, g1, g5, eU_0, true_and, go_sem, seval] | with_reducible intro b | (with_reducible refine And.intro ?_ ?_; · first | assumption | omega | (unfold R64; omega)))
        refine ⟨⟨i + 1, by omega, rfl, fun j hj => ?_⟩, by simp only [intD]; omega⟩
        rcases Nat.lt_or_ge j i with h | h
        · exact hz j h
        · obtain rfl : j = i := by omega
          exact hr
    · repeat (first | (with_reducible first | refine pv_seq fun K hK => ?_ | refine pv_reg ?_) | ((with_reducible first | refine hK _ _ ?_ | (clear hK; refine hK _ _ ?_) | (clear hK; clear hK; refine hK _ _ ?_)); clear hK; try clear K) | simp -implicitDefEqProofs only [g0, g1, g5, eU_0, true_and, go_sem, seval] | with_reducible intro b | (with_reducible refine And.intro ?_ ?_; · first | assumption | omega | (unfold R64; omega)))
      refine J _ _ ?_ ?_
      · intro x hx
        obtain ⟨j, hj⟩ := List.mem_iff_getElem?.1 hx
        have hjl : j < xs.length := (List.getElem?_eq_some_iff.1 hj).1
        have := hz j (by omega)
        simpa [List.getD, hj] using this
      · try simp -implicitDefEqProofs only [g0, g1, g5, eU_0, true_and, go_sem, seval]

end Go.V
namespace Go.V
open Go Go.RowKit Go.Proofs
def qE4_52_3 : List (Nat × Nat) := [(0, 0), (1, 0), (2, 0), (3, 1), (6, 0), (7, 2), (4, 4), (5, 0), (8, 3), (9, 0), (10, 0), (11, 0)]
def qE4_52_4 : List (Nat × Nat) := [(0, 0), (1, 1), (2, 0), (4, 0), (5, 2), (3, 4), (6, 3), (7, 0), (8, 0), (9, 0), (10, 0), (11, 0)]
def qE4_32_3 : PT := (.lin [(0, 2), (2, 2)] (.mix [1, 3] [4, 5] (.lin [(6, 3), (7, 3)] .nil)))
attribute [go_sem] qE4_52_3 qE4_52_4 qE4_32_3
theorem dy_2 (s : Bool) (q : Nat) (e : Int) : dy s (2 * q) (e - 1) = dy s q e := by
  have := dy_up s q 1 (e - 1)
  rw [show e - 1 + ((1 : Nat) : Int) = e by omega] at this
  rw [this, Nat.mul_comm]
theorem okD_bd {d : Dyadic} (h : OkD d) : (∃ k, k ≤ 4096 ∧ fN d < 2 ^ k) ∧ -65536 ≤ fE d ∧ fE d ≤ 65536 := by
  have h1 := h.lo; have h2 := h.hi
  rw [nuOf_f] at h1 h2
  exact ⟨okD_fN h, h1, h2⟩
/-- The quotient's parts: how many bits. -/
theorem quo_sz {p : Nat} {a b : Dyadic} (ha : OkD a) (hb : OkD b) (hp : p ≤ 256) : ∃ M, M ≤ 8450 ∧ p + 2 + bitLen (fN b) - bitLen (fN a) ≤ 4354 ∧ fN a * 2 ^ (p + 2 + bitLen (fN b) - bitLen (fN a)) < 2 ^ M := by
  obtain ⟨⟨kA, hkA, hA⟩, a1, a2⟩ := okD_bd ha
  obtain ⟨⟨kB, hkB, hB⟩, b1, b2⟩ := okD_bd hb
  have hbl1 := bitLen_le hA
  have hbl2 := bitLen_le hB
  refine ⟨kA + (p + 2 + bitLen (fN b) - bitLen (fN a)), by omega, by omega, ?_⟩
  rw [Nat.pow_add]
  exact Nat.mul_lt_mul_of_pos_right hA (Nat.two_pow_pos _)
theorem quo_bd {p : Nat} {a b : Dyadic} (ha : OkD a) (hb : OkD b) (hp : p ≤ 256) : Bd 500000 (quo p a b) := by
  obtain ⟨_, a1, a2⟩ := okD_bd ha
  obtain ⟨_, b1, b2⟩ := okD_bd hb
  obtain ⟨M, hM, hs, hu⟩ := quo_sz (p := p) ha hb hp
  unfold quo
  generalize p + 2 + bitLen (fN b) - bitLen (fN a) = s at *
  have hq : fN a * 2 ^ s / fN b < 2 ^ M := Nat.lt_of_le_of_lt (Nat.div_le_self _ _) hu
  refine (Bd.of (k := 140000) (m := M + 2) ?_ (by omega) (by omega)).mono (by omega)
  rw [Nat.pow_succ 2 (M + 1), Nat.pow_succ 2 M]
  split <;> omega
theorem p_rRatio {p : Nat} {a b : Dyadic} {up : Bool} (ha : OkD a) (hb : OkD b) (hb0 : b ≠ 0) (hp : p ≤ 256) : PC Tryz.prog 52 [VA a, VA b, i64 p, bl up] fun r => r = VA (rd p up (quo p a b)) := by
  obtain ⟨⟨kA, hkA, hA⟩, a1, a2⟩ := okD_bd ha
  obtain ⟨⟨kB, hkB, hB⟩, b1, b2⟩ := okD_bd hb
  obtain ⟨M, hM, hs, hu⟩ := quo_sz (p := p) ha hb hp
  have hB0 : fN b ≠ 0 := fun h => hb0 (fN_eq_zero.1 h)
  have lA : (D32 (fN a)).length ≤ 4096 := Nat.le_trans (digs32_le hA) hkA
  have lB : (D32 (fN b)).length ≤ 4096 := Nat.le_trans (digs32_le hB) hkB
  by_cases ha0 : a = 0
  · subst ha0
    rw [quo_zero, rd_zero, VA_0]
    unfold VA
    have d1 := @dl 3 qE4_52_3
    have d2 := @dl 4 qE4_52_4
    refine PB (rs := [.cell 8 63]) Tryz.func52 ?_
    exact Wk
  · have hA0 : fN a ≠ 0 := fun h => ha0 (fN_eq_zero.1 h)
    have l0 : ((D32 (fN a)).length = 0) = False := eq_false (by rw [D32_l0]; exact hA0)
    have pBa := p_rBits (n := fN a) (by omega)
    have pBb := p_rBits (n := fN b) (by omega)
    have hm : (if ((p + 2 + bitLen (fN b) : Nat) : Int) - ((bitLen (fN a) : Nat) : Int) < 0 then 0 else ((p + 2 + bitLen (fN b) : Nat) : Int) - ((bitLen (fN a) : Nat) : Int)) = ((p + 2 + bitLen (fN b) - bitLen (fN a) : Nat) : Int) := by rw [max0]; omega
    unfold quo
    generalize p + 2 + bitLen (fN b) - bitLen (fN a) = s at *
    have lU : (D32 (fN a * 2 ^ s)).length ≤ M := digs32_le hu
    have hq : fN a * 2 ^ s / fN b < 2 ^ M := Nat.lt_of_le_of_lt (Nat.div_le_self _ _) hu
    have lQ : (D32 (fN a * 2 ^ s / fN b)).length ≤ M := digs32_le hq
    have pL := p_rLeft (A := D32 (fN a)) (n := s) (D32_b _) (by omega) (by omega)
    rw [N32_D32] at pL
    have pD := p_rDiv (m := fN a * 2 ^ s) (n := fN b) (by omega) (by omega) (by omega)
    have pL1 := p_rLeft (A := D32 (fN a * 2 ^ s / fN b)) (n := 1) (D32_b _) (by omega) (by omega)
    rw [N32_D32, Nat.pow_one] at pL1
    have hq2 : fN a * 2 ^ s / fN b * 2 < 2 ^ (M + 1) := by rw [Nat.pow_succ]; omega
    have hq3 : fN a * 2 ^ s / fN b * 2 + 1 < 2 ^ (M + 2) := by rw [Nat.pow_succ 2 (M + 1)]; omega
    have lQ2 := digs32_le hq2
    have pA := p_rAdd (A := D32 (fN a * 2 ^ s / fN b * 2)) (B := [1]) (D32_b _) (by decide) (by show (digs _ _).length ≤ _; omega) (by decide)
    rw [N32_D32, show N32 [1] = 1 by decide] at pA
    have pO := p_rOdd (k := M) (neg := fS a != fS b) (n := fN a * 2 ^ s / fN b) (e := fE a - fE b - s) hq (by omega) (by omega) (by omega)
    have pO1 := p_rOdd (k := M + 2) (neg := fS a != fS b) (n := fN a * 2 ^ s / fN b * 2 + 1) (e := fE a - fE b - s - 1) hq3 (by omega) (by omega) (by omega)
    have bd0 : Bd (150000 + M) (dy (fS a != fS b) (fN a * 2 ^ s / fN b) (fE a - fE b - s)) := Bd.of hq (by omega) (by omega)
    have bd1 : Bd (150000 + (M + 2)) (dy (fS a != fS b) (fN a * 2 ^ s / fN b * 2 + 1) (fE a - fE b - s - 1)) := Bd.of hq3 (by omega) (by omega)
    have pR0 := p_rRound (p := p) (up := up) bd0 (by omega) (by omega)
    have pR1 := p_rRound (p := p) (up := up) bd1 (by omega) (by omega)
    have hbl1 := bitLen_le hA
    have hbl2 := bitLen_le hB
    clear bd0 bd1 hq hq2 hq3 hu hA hB
    have hl : ((D32 (fN a * 2 ^ s % fN b)).length = 0) = (fN a * 2 ^ s % fN b = 0) := D32_l0
    have e2 := dy_2 (fS a != fS b) (fN a * 2 ^ s / fN b) (fE a - fE b - s)
    generalize fN a * 2 ^ s % fN b = r at *
    generalize fN a * 2 ^ s / fN b = q at *
    rw [show 2 * q + (if r = 0 then 0 else 1) = if r = 0 then 2 * q else q * 2 + 1 by split <;> omega]
    by_cases hr : r = 0
    · rw [if_pos hr, e2]
      have hr2 : (0 : Int) < ((D32 r).length : Int) ↔ False := by rw [hr, D32_0]; simp
      have hr3 : ((0 : Int) < ((D32 r).length : Int)) = False := propext hr2
      generalize dy (fS a != fS b) q (fE a - fE b - s) = v0 at *
      generalize rd p up v0 = v at *
      unfold VA at *
      generalize fS a = sa at *
      generalize fS b = sb at *
      have d1 := @dl 3 qE4_52_3
      have d2 := @dl 4 qE4_52_4
      refine PB (rs := [.cell 8 63]) Tryz.func52 ?_
      have ft := And.intro l0 (And.intro hm hr3)
      exact Wk
    · rw [if_neg hr]
      have hr3 : ((0 : Int) < ((D32 r).length : Int)) = True := eq_true (by have : (D32 r).length ≠ 0 := (by rw [Ne, D32_l0]; exact hr); omega)
      generalize dy (fS a != fS b) (q * 2 + 1) (fE a - fE b - s - 1) = v1 at *
      generalize rd p up v1 = v at *
      unfold VA at *
      generalize fS a = sa at *
      generalize fS b = sb at *
      have d1 := @dl 3 qE4_52_3
      have d2 := @dl 4 qE4_52_4
      refine PB (rs := [.cell 8 63]) Tryz.func52 ?_
      have ft := And.intro l0 (And.intro hm hr3)
      exact Wk

/-- What is reckoned, rounded, or why there is nothing: 1 is ErrForm, 3 ErrZero. -/
def rkR (n : Int) (x y : Nu) (p : Int) (up : Bool) : Nu × Int := if rightB x && rightB y && okP p then (if n = 3 then (if y.val = 0 then (nu0, 3) else numR (rd p.toNat up (quo p.toNat x.val y.val))) else numR (rd p.toNat up (exD n x.val y.val))) else (nu0, 1)
theorem p_rReckon {n : Int} {x y : Nu} {p : Int} {up : Bool} (hx : B64 x.w) (hy : B64 y.w) : PC Tryz.prog 32 [i64 n, NU x, NU y, i64 p, bl up] fun d => d = NE (rkR n x y p up) := by
  have pX := p_bad (xs := [x, y]) (p := p) (by simp) (by intro z hz; simp at hz; rcases hz with rfl | rfl <;> assumption)
  rw [show ([x, y].all rightB) = (rightB x && rightB y) by simp] at pX
  unfold rkR
  by_cases h : (rightB x && rightB y && okP p) = true
  · rw [if_pos h]
    rw [h] at pX
    rw [Bool.and_eq_true, Bool.and_eq_true] at h
    obtain ⟨m, rfl, h8, h256⟩ := okP_nat h.2
    obtain ⟨a, ha, rfl⟩ := right_is hx h.1.1
    obtain ⟨c, hc, rfl⟩ := right_is hy h.1.2
    rw [val_nuOf, val_nuOf, Int.toNat_natCast]
    have pA := p_rOf ha
    have pB := p_rOf hc
    have l0 : ((D32 (fN c)).length = 0) = (c = 0) := by rw [D32_l0]; exact propext fN_eq_zero
    have pR := fun h0 => p_rRatio (p := m) (up := up) ha hc h0 h256
    have pN := p_rNum (rd_bd (p := m) (up := up) (quo_bd ha hc h256) (by omega)) (by omega)
    have pE := p_rExact (n := n) ha.bd hc.bd (by decide)
    have pR2 := p_rRound (p := m) (up := up) (exD_bd (n := n) ha.bd hc.bd) (by decide) (by omega)
    have pN2 := p_rNum (rd_bd (p := m) (up := up) (exD_bd (n := n) ha.bd hc.bd) (by omega)) (by omega)
    generalize exD n a c = u at *
    generalize rd m up u = v at *
    generalize hv : numR v = q at *
    generalize rd m up (quo m a c) = v2 at *
    generalize hv2 : numR v2 = q2 at *
    obtain ⟨⟨s, e0, z⟩, er⟩ := q
    obtain ⟨⟨s2, e2, z2⟩, er2⟩ := q2
    generalize nuOf a = x at *
    generalize nuOf c = y at *
    obtain ⟨neg, exp, w⟩ := x
    obtain ⟨neg', exp', w'⟩ := y
    unfold VA at *
    have d1 := @dr 3 qE4_32_3
    refine PB (rs := [.cell 10 38, .tmp 11]) Tryz.func32 ?_
    repeat (first | with_reducible refine pv_stop 3 ?_ | with_reducible refine pv_seq fun K hK => ?_ | ((with_reducible first | refine hK _ _ ?_ | (clear hK; refine hK _ _ ?_) | (clear hK; clear hK; refine hK _ _ ?_)); clear hK; try clear K) | refine W ?_ | exact Z | with_reducible intro b)
    refine ⟨fun K hK hC => ?_⟩
    clear hC
    rename_i b10
    have J : ∀ (e : DEnv) (S : Store) (b12 b13 : Nat), e 0 = i64 n → e 3 = i64 m → e 4 = bl up → e 10 = .ptr (.l 10) b10 0 0 3 → e 12 = .ptr (.l 12) b12 0 0 3 → e 13 = .ptr (.l 13) b13 0 0 3 → S (.l 10) = some ⟨b10, 3, 0, [[bl false, i64 0, .nil]]⟩ →
        S (.l 12) = some ⟨b12, 3, 0, [[bl (fS a), W32 (D32 (fN a)), i64 (fE a)]]⟩ → S (.l 13) = some ⟨b13, 3, 0, [[bl (fS c), W32 (D32 (fN c)), i64 (fE c)]]⟩ → K e S := by
      intro e S b12 b13 g0 g3 g4 g10 g12 g13 s10 s12 s13
      refine hK _ _ ?_
      clear hK
      by_cases hn : n = 3
      · rw [if_pos hn]
        by_cases h0 : c = 0
        · rw [if_pos h0]
          have ft := And.intro g0 (And.intro g3 (And.intro g4 (And.intro g10 (And.intro g12 (And.intro g13 (And.intro s10 (And.intro s12 (And.intro s13 (And.intro (eq_true hn) (And.intro l0 (eq_true h0)))))))))))
          exact Wk
        · rw [if_neg h0]
          have pR := pR h0
          have ft := And.intro g0 (And.intro g3 (And.intro g4 (And.intro g10 (And.intro g12 (And.intro g13 (And.intro s10 (And.intro s12 (And.intro s13 (And.intro (eq_true hn) (And.intro l0 (eq_false h0)))))))))))
          exact Wk
      · rw [if_neg hn]
        have ft := And.intro g0 (And.intro g3 (And.intro g4 (And.intro g10 (And.intro g12 (And.intro g13 (And.intro s10 (And.intro s12 (And.intro s13 (eq_false hn)))))))))
        exact Wk
    clear hK
    repeat' (first | (with_reducible refine d1 (by kernel_rfl) ?_) | (with_reducible refine And.intro ?_ ?_) | (refine ExtC_is ?_; simp -implicitDefEqProofs only [ft, go_sem, seval]; first | refine ext_is pA ?_ | refine ext_is pB ?_) | refine call_is pA ?_ | refine call_is pB ?_ | (simp -implicitDefEqProofs only [ft, go_sem, seval]) | (with_reducible intro b))
    all_goals exact J _ _ _ _ Z Z Z Z Zr Zr Z Zr Zr
  · rw [if_neg h]
    rw [Bool.not_eq_true] at h
    rw [h] at pX
    obtain ⟨neg, exp, w⟩ := x
    obtain ⟨neg', exp', w'⟩ := y
    have d1 := @dr 3 qE4_32_3
    refine PB (rs := [.cell 10 38, .tmp 11]) Tryz.func32 ?_
    exact Wk
end Go.V

/- math/bits.Div64: a number of two words by one word. -/
import Derived.Test.YtilnmcabjkpohaaDoorL
import Derived.Test.YtilnmcabjkpohaaDoorK
set_option linter.unusedSimpArgs false
set_option linter.unusedVariables false

namespace Go.V
open Go Go.RowKit Go.Proofs

theorem mul32 (a : Nat) : (a : Int) * 4294967296 = ((a * 4294967296 : Nat) : Int) := by simp
theorem mul32' (a : Nat) : 4294967296 * (a : Int) = ((4294967296 * a : Nat) : Int) := by simp

theorem wrap_rem (A d M R : Nat) (h : M + R = A + d) (hR : R < 18446744073709551616) : IntKind.u64.wrap ((((A % 18446744073709551616 + d) % 18446744073709551616 : Nat) : Int) - ((M % 18446744073709551616 : Nat) : Int)) = (R : Int) := by
  rw [wrap64_i]; omega
theorem wrap_mod (R y : Nat) (hR : R < 18446744073709551616) : IntKind.u64.wrap ((R : Int) - ((R / y * y : Nat) : Int)) = ((R % y : Nat) : Int) := by
  have := Nat.div_add_mod R y
  rw [Nat.mul_comm] at this
  rw [wrap64_i]; omega
theorem b32 (q : Nat) (h : q < 4294967296) : q * 4294967296 < 18446744073709551616 := by omega
theorem b32b (q r : Nat) (h : q < 4294967296) (h' : r < 4294967296) : q * 4294967296 + r < 18446744073709551616 := by omega

/-- One digit of the quotient: the loop that puts the guess right. -/
theorem bl_le {x k : Nat} (h : x < 2 ^ k) : bitLen x ≤ k := by
  unfold bitLen
  split
  · omega
  · rename_i h0
    have := (Nat.log2_lt h0).2 h
    omega

set_option maxHeartbeats 1000000 in
theorem d64_J2 {w : World} {N : Env → World → Prop} {X : Nat → Env → World → Prop} {R : Env → World → Prop} (Y s y1 y0 U D1 D0 Q1 R1 Q0 : Nat) (hYY : y1 * 4294967296 + y0 = Y) (hYlt : Y < 18446744073709551616) (hy1p : 0 < y1) (hy0l : y0 < 4294967296) (hy1l : y1 < 4294967296)
    (hQ0 : Q0 = (R1 * 4294967296 + D0) / Y) (hR1Y : R1 < Y) (hD0l : D0 < 4294967296)
    (J : ∀ e : Env, e 2 = .int .u64 (Y : Int) → e 8 = .int .u64 (s : Int) → e 9 = .int .u64 (y1 : Int) → e 10 = .int .u64 (y0 : Int) → e 17 = .int .u64 (R1 : Int) → e 14 = .int .u64 (D0 : Int) → e 15 = .int .u64 (Q1 : Int) → e 18 = .int .u64 (Q0 : Int) → X 2 e w)
    (e : Env) (i2 : e 2 = .int .u64 (Y : Int)) (i8 : e 8 = .int .u64 (s : Int)) (i9 : e 9 = .int .u64 (y1 : Int)) (i10 : e 10 = .int .u64 (y0 : Int)) (i17 : e 17 = .int .u64 (R1 : Int)) (i14 : e 14 = .int .u64 (D0 : Int)) (i15 : e 15 = .int .u64 (Q1 : Int)) (i18 : e 18 = .int .u64 ((R1 / y1 : Nat) : Int)) (i16 : e 16 = .int .u64 ((R1 % y1 : Nat) : Int)) :
    vc Tryd.prog (nthLoop Tryd.f52 1) N X R e w := by
  have hR1yy : R1 < y1 * 4294967296 + y0 := by omega
  change vc _ (.loop _) _ _ _ _ _
  refine vc_loop (fun e w' => w' = w ∧ ∃ q r : Nat, q * y1 + r = R1 ∧ r < 4294967296 ∧ Q0 ≤ q ∧ e 2 = .int .u64 (Y : Int) ∧ e 8 = .int .u64 (s : Int) ∧ e 9 = .int .u64 (y1 : Int) ∧ e 10 = .int .u64 (y0 : Int) ∧ e 17 = .int .u64 (R1 : Int) ∧ e 14 = .int .u64 (D0 : Int) ∧ e 15 = .int .u64 (Q1 : Int) ∧ e 18 = .int .u64 (q : Int) ∧ e 16 = .int .u64 (r : Int))
    (fun e _ => (intOf (e 18)).toNat) ?_ ?_
  · refine ⟨rfl, R1 / y1, R1 % y1, by rw [Nat.mul_comm]; exact Nat.div_add_mod R1 y1, Nat.lt_trans (Nat.mod_lt _ hy1p) hy1l, by rw [hQ0, ← hYY]; exact q_guess hy1p hD0l, ?_⟩
    simp only [go_sem, opsV, undef, binV_int, binV_eqB, binV_neB, pbin_int, pbin_eqB, pbin_neB, intV, arith, unV_not, unV_neg, seval, true_and, i2, i8, i9, i10, i17, i14, i15, i18, i16]
  · rintro e w' ⟨rfl, q, r, hqr, hr, hQq, g2, g8, g9, g10, g17, g14, g15, g18, g16⟩
    have hmz : (intOf (e 18)).toNat = q := by rw [g18]; rfl
    have hqU : q ≤ R1 := by
      rw [← hqr]; exact Nat.le_trans (Nat.le_mul_of_pos_right q hy1p) (Nat.le_add_right _ _)
    refine vc_seq fun K1 hK1 => ?_
    refine vc_seq fun K2 hK2 => ?_
    have down : ∀ e : Env, (4294967296 ≤ q ∨ 4294967296 * r + D0 < q * y0) → e 2 = .int .u64 (Y : Int) → e 8 = .int .u64 (s : Int) → e 9 = .int .u64 (y1 : Int) → e 10 = .int .u64 (y0 : Int) → e 17 = .int .u64 (R1 : Int) → e 14 = .int .u64 (D0 : Int) → e 15 = .int .u64 (Q1 : Int) → e 18 = .int .u64 (q : Int) → e 16 = .int .u64 (r : Int) → K1 e w' := by
      intro e c g2 g8 g9 g10 g17 g14 g15 g18 g16
      have hgt : Q0 < q := by rw [hQ0, ← hYY]; exact q_down hR1yy hD0l hqr c
      have v1 : IntKind.u64.wrap ((q : Int) - 1) = ((q - 1 : Nat) : Int) := by rw [wrap64_i]; omega
      have v2 : (r + y1) % 18446744073709551616 = r + y1 := Nat.mod_eq_of_lt (by omega)
      have v3 : (q - 1) * y1 + (r + y1) = R1 := by
        rw [← hqr, Nat.sub_mul, Nat.one_mul]
        have : y1 ≤ q * y1 := Nat.le_mul_of_pos_left y1 (by omega)
        omega
      refine hK1 _ _ ?_
      refine vc_block ?_
      refine vc_seq fun K hK => ?_
      refine vc_reg ?_
      try simp only [go_sem, opsV, undef, binV_int, binV_eqB, binV_neB, pbin_int, pbin_eqB, pbin_neB, intV, arith, unV_not, unV_neg, seval, g2, g8, g9, g10, g17, g14, g15, g18, g16, v1, v2]
      refine hK _ _ ?_
      clear hK K
      refine vc_seq fun K hK => ?_
      refine vc_reg ?_
      try simp only [go_sem, opsV, undef, binV_int, binV_eqB, binV_neB, pbin_int, pbin_eqB, pbin_neB, intV, arith, unV_not, unV_neg, seval, g2, g8, g9, g10, g17, g14, g15, g18, g16, v1, v2]
      refine hK _ _ ?_
      clear hK K
      refine vc_seq fun K hK => ?_
      refine vc_reg ?_
      try simp only [go_sem, opsV, undef, binV_int, binV_eqB, binV_neB, pbin_int, pbin_eqB, pbin_neB, intV, arith, unV_not, unV_neg, seval, g2, g8, g9, g10, g17, g14, g15, g18, g16, v1, v2]
      refine hK _ _ ?_
      clear hK K
      refine vc_condD (by simp only [go_sem, opsV, undef, binV_int, binV_eqB, binV_neB, pbin_int, pbin_eqB, pbin_neB, intV, arith, unV_not, unV_neg, seval, g2, g8, g9, g10, g17, g14, g15, g18, g16, v1, v2] <;> rfl) (fun ht => ?_) (fun ht => ?_)
      · have ht' : 4294967296 ≤ r + y1 := by omega
        refine vc_exit ?_
        have hq1 : q - 1 = Q0 := by
          have := q_high (d := D0) hR1yy hy0l v3 (by rw [hYY, ← hQ0]; omega) ht'
          rw [hYY, ← hQ0] at this
          exact this
        rw [hq1]
        exact J _ (by simp only [go_sem, opsV, undef, binV_int, binV_eqB, binV_neB, pbin_int, pbin_eqB, pbin_neB, intV, arith, unV_not, unV_neg, seval, g2, g8, g9, g10, g17, g14, g15, g18, g16, v1, v2] <;> rfl) (by simp only [go_sem, opsV, undef, binV_int, binV_eqB, binV_neB, pbin_int, pbin_eqB, pbin_neB, intV, arith, unV_not, unV_neg, seval, g2, g8, g9, g10, g17, g14, g15, g18, g16, v1, v2] <;> rfl) (by simp only [go_sem, opsV, undef, binV_int, binV_eqB, binV_neB, pbin_int, pbin_eqB, pbin_neB, intV, arith, unV_not, unV_neg, seval, g2, g8, g9, g10, g17, g14, g15, g18, g16, v1, v2] <;> rfl) (by simp only [go_sem, opsV, undef, binV_int, binV_eqB, binV_neB, pbin_int, pbin_eqB, pbin_neB, intV, arith, unV_not, unV_neg, seval, g2, g8, g9, g10, g17, g14, g15, g18, g16, v1, v2] <;> rfl) (by simp only [go_sem, opsV, undef, binV_int, binV_eqB, binV_neB, pbin_int, pbin_eqB, pbin_neB, intV, arith, unV_not, unV_neg, seval, g2, g8, g9, g10, g17, g14, g15, g18, g16, v1, v2] <;> rfl) (by simp only [go_sem, opsV, undef, binV_int, binV_eqB, binV_neB, pbin_int, pbin_eqB, pbin_neB, intV, arith, unV_not, unV_neg, seval, g2, g8, g9, g10, g17, g14, g15, g18, g16, v1, v2] <;> rfl) (by simp only [go_sem, opsV, undef, binV_int, binV_eqB, binV_neB, pbin_int, pbin_eqB, pbin_neB, intV, arith, unV_not, unV_neg, seval, g2, g8, g9, g10, g17, g14, g15, g18, g16, v1, v2] <;> rfl) (by simp only [go_sem, opsV, undef, binV_int, binV_eqB, binV_neB, pbin_int, pbin_eqB, pbin_neB, intV, arith, unV_not, unV_neg, seval, g2, g8, g9, g10, g17, g14, g15, g18, g16, v1, v2] <;> rfl)
      · refine vc_skip ?_
        refine ⟨⟨rfl, q - 1, r + y1, v3, by omega, by omega, ?_⟩, ?_⟩
        · try simp only [go_sem, opsV, undef, binV_int, binV_eqB, binV_neB, pbin_int, pbin_eqB, pbin_neB, intV, arith, unV_not, unV_neg, seval, g2, g8, g9, g10, g17, g14, g15, g18, g16, v1, v2]
        · rw [hmz]
          simp only [go_sem, opsV, undef, binV_int, binV_eqB, binV_neB, pbin_int, pbin_eqB, pbin_neB, intV, arith, unV_not, unV_neg, seval, g2, g8, g9, g10, g17, g14, g15, g18, g16, v1, v2, intOf]
          omega
    by_cases c1 : 4294967296 ≤ q
    · have c1' : (4294967296 : Int) ≤ (q : Int) := by omega
      refine vc_reg ?_
      try simp only [go_sem, opsV, undef, binV_int, binV_eqB, binV_neB, pbin_int, pbin_eqB, pbin_neB, intV, arith, unV_not, unV_neg, seval, g2, g8, g9, g10, g17, g14, g15, g18, g16, c1']
      refine hK2 _ _ ?_
      refine vc_condT (by simp only [go_sem, opsV, undef, binV_int, binV_eqB, binV_neB, pbin_int, pbin_eqB, pbin_neB, intV, arith, unV_not, unV_neg, seval, g2, g8, g9, g10, g17, g14, g15, g18, g16, c1'] <;> rfl) ?_
      refine vc_skip ?_
      exact down _ (.inl c1) (by simp only [go_sem, opsV, undef, binV_int, binV_eqB, binV_neB, pbin_int, pbin_eqB, pbin_neB, intV, arith, unV_not, unV_neg, seval, g2, g8, g9, g10, g17, g14, g15, g18, g16, c1'] <;> rfl) (by simp only [go_sem, opsV, undef, binV_int, binV_eqB, binV_neB, pbin_int, pbin_eqB, pbin_neB, intV, arith, unV_not, unV_neg, seval, g2, g8, g9, g10, g17, g14, g15, g18, g16, c1'] <;> rfl) (by simp only [go_sem, opsV, undef, binV_int, binV_eqB, binV_neB, pbin_int, pbin_eqB, pbin_neB, intV, arith, unV_not, unV_neg, seval, g2, g8, g9, g10, g17, g14, g15, g18, g16, c1'] <;> rfl) (by simp only [go_sem, opsV, undef, binV_int, binV_eqB, binV_neB, pbin_int, pbin_eqB, pbin_neB, intV, arith, unV_not, unV_neg, seval, g2, g8, g9, g10, g17, g14, g15, g18, g16, c1'] <;> rfl) (by simp only [go_sem, opsV, undef, binV_int, binV_eqB, binV_neB, pbin_int, pbin_eqB, pbin_neB, intV, arith, unV_not, unV_neg, seval, g2, g8, g9, g10, g17, g14, g15, g18, g16, c1'] <;> rfl) (by simp only [go_sem, opsV, undef, binV_int, binV_eqB, binV_neB, pbin_int, pbin_eqB, pbin_neB, intV, arith, unV_not, unV_neg, seval, g2, g8, g9, g10, g17, g14, g15, g18, g16, c1'] <;> rfl) (by simp only [go_sem, opsV, undef, binV_int, binV_eqB, binV_neB, pbin_int, pbin_eqB, pbin_neB, intV, arith, unV_not, unV_neg, seval, g2, g8, g9, g10, g17, g14, g15, g18, g16, c1'] <;> rfl) (by simp only [go_sem, opsV, undef, binV_int, binV_eqB, binV_neB, pbin_int, pbin_eqB, pbin_neB, intV, arith, unV_not, unV_neg, seval, g2, g8, g9, g10, g17, g14, g15, g18, g16, c1'] <;> rfl) (by simp only [go_sem, opsV, undef, binV_int, binV_eqB, binV_neB, pbin_int, pbin_eqB, pbin_neB, intV, arith, unV_not, unV_neg, seval, g2, g8, g9, g10, g17, g14, g15, g18, g16, c1'] <;> rfl)
    · have c1' : ¬ (4294967296 : Int) ≤ (q : Int) := by omega
      have p1 : q * y0 < 18446744073709551616 := Nat.mul_lt_mul'' (a := q) (b := y0) (c := 4294967296) (d := 4294967296) (by omega) hy0l
      have p2 : 4294967296 * r < 18446744073709551616 := by omega
      have p3 : 4294967296 * r + D0 < 18446744073709551616 := by omega
      refine vc_reg ?_
      try simp only [go_sem, opsV, undef, binV_int, binV_eqB, binV_neB, pbin_int, pbin_eqB, pbin_neB, intV, arith, unV_not, unV_neg, seval, g2, g8, g9, g10, g17, g14, g15, g18, g16, c1', mul32', Nat.mod_eq_of_lt p1, Nat.mod_eq_of_lt p2, Nat.mod_eq_of_lt p3]
      refine hK2 _ _ ?_
      refine vc_condD (by simp only [go_sem, opsV, undef, binV_int, binV_eqB, binV_neB, pbin_int, pbin_eqB, pbin_neB, intV, arith, unV_not, unV_neg, seval, g2, g8, g9, g10, g17, g14, g15, g18, g16, c1', mul32', Nat.mod_eq_of_lt p1, Nat.mod_eq_of_lt p2, Nat.mod_eq_of_lt p3] <;> rfl) (fun ht => ?_) (fun ht => ?_)
      · refine vc_skip ?_
        exact down _ (.inr ht) (by simp only [go_sem, opsV, undef, binV_int, binV_eqB, binV_neB, pbin_int, pbin_eqB, pbin_neB, intV, arith, unV_not, unV_neg, seval, g2, g8, g9, g10, g17, g14, g15, g18, g16, c1', mul32', Nat.mod_eq_of_lt p1, Nat.mod_eq_of_lt p2, Nat.mod_eq_of_lt p3] <;> rfl) (by simp only [go_sem, opsV, undef, binV_int, binV_eqB, binV_neB, pbin_int, pbin_eqB, pbin_neB, intV, arith, unV_not, unV_neg, seval, g2, g8, g9, g10, g17, g14, g15, g18, g16, c1', mul32', Nat.mod_eq_of_lt p1, Nat.mod_eq_of_lt p2, Nat.mod_eq_of_lt p3] <;> rfl) (by simp only [go_sem, opsV, undef, binV_int, binV_eqB, binV_neB, pbin_int, pbin_eqB, pbin_neB, intV, arith, unV_not, unV_neg, seval, g2, g8, g9, g10, g17, g14, g15, g18, g16, c1', mul32', Nat.mod_eq_of_lt p1, Nat.mod_eq_of_lt p2, Nat.mod_eq_of_lt p3] <;> rfl) (by simp only [go_sem, opsV, undef, binV_int, binV_eqB, binV_neB, pbin_int, pbin_eqB, pbin_neB, intV, arith, unV_not, unV_neg, seval, g2, g8, g9, g10, g17, g14, g15, g18, g16, c1', mul32', Nat.mod_eq_of_lt p1, Nat.mod_eq_of_lt p2, Nat.mod_eq_of_lt p3] <;> rfl) (by simp only [go_sem, opsV, undef, binV_int, binV_eqB, binV_neB, pbin_int, pbin_eqB, pbin_neB, intV, arith, unV_not, unV_neg, seval, g2, g8, g9, g10, g17, g14, g15, g18, g16, c1', mul32', Nat.mod_eq_of_lt p1, Nat.mod_eq_of_lt p2, Nat.mod_eq_of_lt p3] <;> rfl) (by simp only [go_sem, opsV, undef, binV_int, binV_eqB, binV_neB, pbin_int, pbin_eqB, pbin_neB, intV, arith, unV_not, unV_neg, seval, g2, g8, g9, g10, g17, g14, g15, g18, g16, c1', mul32', Nat.mod_eq_of_lt p1, Nat.mod_eq_of_lt p2, Nat.mod_eq_of_lt p3] <;> rfl) (by simp only [go_sem, opsV, undef, binV_int, binV_eqB, binV_neB, pbin_int, pbin_eqB, pbin_neB, intV, arith, unV_not, unV_neg, seval, g2, g8, g9, g10, g17, g14, g15, g18, g16, c1', mul32', Nat.mod_eq_of_lt p1, Nat.mod_eq_of_lt p2, Nat.mod_eq_of_lt p3] <;> rfl) (by simp only [go_sem, opsV, undef, binV_int, binV_eqB, binV_neB, pbin_int, pbin_eqB, pbin_neB, intV, arith, unV_not, unV_neg, seval, g2, g8, g9, g10, g17, g14, g15, g18, g16, c1', mul32', Nat.mod_eq_of_lt p1, Nat.mod_eq_of_lt p2, Nat.mod_eq_of_lt p3] <;> rfl) (by simp only [go_sem, opsV, undef, binV_int, binV_eqB, binV_neB, pbin_int, pbin_eqB, pbin_neB, intV, arith, unV_not, unV_neg, seval, g2, g8, g9, g10, g17, g14, g15, g18, g16, c1', mul32', Nat.mod_eq_of_lt p1, Nat.mod_eq_of_lt p2, Nat.mod_eq_of_lt p3] <;> rfl)
      · refine vc_exit ?_
        have hq1 : q = Q0 := by
          have := q_stop (d := D0) hR1yy hqr (by rw [hYY, ← hQ0]; exact hQq) ht
          rw [hYY, ← hQ0] at this
          exact this
        subst hq1
        exact J _ (by simp only [go_sem, opsV, undef, binV_int, binV_eqB, binV_neB, pbin_int, pbin_eqB, pbin_neB, intV, arith, unV_not, unV_neg, seval, g2, g8, g9, g10, g17, g14, g15, g18, g16, c1', mul32', Nat.mod_eq_of_lt p1, Nat.mod_eq_of_lt p2, Nat.mod_eq_of_lt p3] <;> rfl) (by simp only [go_sem, opsV, undef, binV_int, binV_eqB, binV_neB, pbin_int, pbin_eqB, pbin_neB, intV, arith, unV_not, unV_neg, seval, g2, g8, g9, g10, g17, g14, g15, g18, g16, c1', mul32', Nat.mod_eq_of_lt p1, Nat.mod_eq_of_lt p2, Nat.mod_eq_of_lt p3] <;> rfl) (by simp only [go_sem, opsV, undef, binV_int, binV_eqB, binV_neB, pbin_int, pbin_eqB, pbin_neB, intV, arith, unV_not, unV_neg, seval, g2, g8, g9, g10, g17, g14, g15, g18, g16, c1', mul32', Nat.mod_eq_of_lt p1, Nat.mod_eq_of_lt p2, Nat.mod_eq_of_lt p3] <;> rfl) (by simp only [go_sem, opsV, undef, binV_int, binV_eqB, binV_neB, pbin_int, pbin_eqB, pbin_neB, intV, arith, unV_not, unV_neg, seval, g2, g8, g9, g10, g17, g14, g15, g18, g16, c1', mul32', Nat.mod_eq_of_lt p1, Nat.mod_eq_of_lt p2, Nat.mod_eq_of_lt p3] <;> rfl) (by simp only [go_sem, opsV, undef, binV_int, binV_eqB, binV_neB, pbin_int, pbin_eqB, pbin_neB, intV, arith, unV_not, unV_neg, seval, g2, g8, g9, g10, g17, g14, g15, g18, g16, c1', mul32', Nat.mod_eq_of_lt p1, Nat.mod_eq_of_lt p2, Nat.mod_eq_of_lt p3] <;> rfl) (by simp only [go_sem, opsV, undef, binV_int, binV_eqB, binV_neB, pbin_int, pbin_eqB, pbin_neB, intV, arith, unV_not, unV_neg, seval, g2, g8, g9, g10, g17, g14, g15, g18, g16, c1', mul32', Nat.mod_eq_of_lt p1, Nat.mod_eq_of_lt p2, Nat.mod_eq_of_lt p3] <;> rfl) (by simp only [go_sem, opsV, undef, binV_int, binV_eqB, binV_neB, pbin_int, pbin_eqB, pbin_neB, intV, arith, unV_not, unV_neg, seval, g2, g8, g9, g10, g17, g14, g15, g18, g16, c1', mul32', Nat.mod_eq_of_lt p1, Nat.mod_eq_of_lt p2, Nat.mod_eq_of_lt p3] <;> rfl) (by simp only [go_sem, opsV, undef, binV_int, binV_eqB, binV_neB, pbin_int, pbin_eqB, pbin_neB, intV, arith, unV_not, unV_neg, seval, g2, g8, g9, g10, g17, g14, g15, g18, g16, c1', mul32', Nat.mod_eq_of_lt p1, Nat.mod_eq_of_lt p2, Nat.mod_eq_of_lt p3] <;> rfl)

set_option maxHeartbeats 1000000 in
theorem d64_J1 {w : World} {N : Env → World → Prop} {X : Nat → Env → World → Prop} {R : Env → World → Prop} (Y s y1 y0 U D1 D0 Q1 R1 Q0 : Nat) (hYY : y1 * 4294967296 + y0 = Y) (hYlt : Y < 18446744073709551616) (hy1p : 0 < y1) (hy0l : y0 < 4294967296) (hy1l : y1 < 4294967296)
    (hQ1 : Q1 = (U * 4294967296 + D1) / Y) (hUY : U < Y) (hD1l : D1 < 4294967296)
    (J : ∀ e : Env, e 2 = .int .u64 (Y : Int) → e 8 = .int .u64 (s : Int) → e 9 = .int .u64 (y1 : Int) → e 10 = .int .u64 (y0 : Int) → e 11 = .int .u64 (U : Int) → e 13 = .int .u64 (D1 : Int) → e 14 = .int .u64 (D0 : Int) → e 15 = .int .u64 (Q1 : Int) → X 0 e w)
    (e : Env) (i2 : e 2 = .int .u64 (Y : Int)) (i8 : e 8 = .int .u64 (s : Int)) (i9 : e 9 = .int .u64 (y1 : Int)) (i10 : e 10 = .int .u64 (y0 : Int)) (i11 : e 11 = .int .u64 (U : Int)) (i13 : e 13 = .int .u64 (D1 : Int)) (i14 : e 14 = .int .u64 (D0 : Int)) (i15 : e 15 = .int .u64 ((U / y1 : Nat) : Int)) (i16 : e 16 = .int .u64 ((U % y1 : Nat) : Int)) :
    vc Tryd.prog (nthLoop Tryd.f52 0) N X R e w := by
  have hUyy : U < y1 * 4294967296 + y0 := by omega
  change vc _ (.loop _) _ _ _ _ _
  refine vc_loop (fun e w' => w' = w ∧ ∃ q r : Nat, q * y1 + r = U ∧ r < 4294967296 ∧ Q1 ≤ q ∧ e 2 = .int .u64 (Y : Int) ∧ e 8 = .int .u64 (s : Int) ∧ e 9 = .int .u64 (y1 : Int) ∧ e 10 = .int .u64 (y0 : Int) ∧ e 11 = .int .u64 (U : Int) ∧ e 13 = .int .u64 (D1 : Int) ∧ e 14 = .int .u64 (D0 : Int) ∧ e 15 = .int .u64 (q : Int) ∧ e 16 = .int .u64 (r : Int))
    (fun e _ => (intOf (e 15)).toNat) ?_ ?_
  · refine ⟨rfl, U / y1, U % y1, by rw [Nat.mul_comm]; exact Nat.div_add_mod U y1, Nat.lt_trans (Nat.mod_lt _ hy1p) hy1l, by rw [hQ1, ← hYY]; exact q_guess hy1p hD1l, ?_⟩
    simp only [go_sem, opsV, undef, binV_int, binV_eqB, binV_neB, pbin_int, pbin_eqB, pbin_neB, intV, arith, unV_not, unV_neg, seval, true_and, i2, i8, i9, i10, i11, i13, i14, i15, i16]
  · rintro e w' ⟨rfl, q, r, hqr, hr, hQq, g2, g8, g9, g10, g11, g13, g14, g15, g16⟩
    have hmz : (intOf (e 15)).toNat = q := by rw [g15]; rfl
    have hqU : q ≤ U := by
      rw [← hqr]; exact Nat.le_trans (Nat.le_mul_of_pos_right q hy1p) (Nat.le_add_right _ _)
    refine vc_seq fun K1 hK1 => ?_
    refine vc_seq fun K2 hK2 => ?_
    have down : ∀ e : Env, (4294967296 ≤ q ∨ 4294967296 * r + D1 < q * y0) → e 2 = .int .u64 (Y : Int) → e 8 = .int .u64 (s : Int) → e 9 = .int .u64 (y1 : Int) → e 10 = .int .u64 (y0 : Int) → e 11 = .int .u64 (U : Int) → e 13 = .int .u64 (D1 : Int) → e 14 = .int .u64 (D0 : Int) → e 15 = .int .u64 (q : Int) → e 16 = .int .u64 (r : Int) → K1 e w' := by
      intro e c g2 g8 g9 g10 g11 g13 g14 g15 g16
      have hgt : Q1 < q := by rw [hQ1, ← hYY]; exact q_down hUyy hD1l hqr c
      have v1 : IntKind.u64.wrap ((q : Int) - 1) = ((q - 1 : Nat) : Int) := by rw [wrap64_i]; omega
      have v2 : (r + y1) % 18446744073709551616 = r + y1 := Nat.mod_eq_of_lt (by omega)
      have v3 : (q - 1) * y1 + (r + y1) = U := by
        rw [← hqr, Nat.sub_mul, Nat.one_mul]
        have : y1 ≤ q * y1 := Nat.le_mul_of_pos_left y1 (by omega)
        omega
      refine hK1 _ _ ?_
      refine vc_block ?_
      refine vc_seq fun K hK => ?_
      refine vc_reg ?_
      try simp only [go_sem, opsV, undef, binV_int, binV_eqB, binV_neB, pbin_int, pbin_eqB, pbin_neB, intV, arith, unV_not, unV_neg, seval, g2, g8, g9, g10, g11, g13, g14, g15, g16, v1, v2]
      refine hK _ _ ?_
      clear hK K
      refine vc_seq fun K hK => ?_
      refine vc_reg ?_
      try simp only [go_sem, opsV, undef, binV_int, binV_eqB, binV_neB, pbin_int, pbin_eqB, pbin_neB, intV, arith, unV_not, unV_neg, seval, g2, g8, g9, g10, g11, g13, g14, g15, g16, v1, v2]
      refine hK _ _ ?_
      clear hK K
      refine vc_seq fun K hK => ?_
      refine vc_reg ?_
      try simp only [go_sem, opsV, undef, binV_int, binV_eqB, binV_neB, pbin_int, pbin_eqB, pbin_neB, intV, arith, unV_not, unV_neg, seval, g2, g8, g9, g10, g11, g13, g14, g15, g16, v1, v2]
      refine hK _ _ ?_
      clear hK K
      refine vc_condD (by simp only [go_sem, opsV, undef, binV_int, binV_eqB, binV_neB, pbin_int, pbin_eqB, pbin_neB, intV, arith, unV_not, unV_neg, seval, g2, g8, g9, g10, g11, g13, g14, g15, g16, v1, v2] <;> rfl) (fun ht => ?_) (fun ht => ?_)
      · have ht' : 4294967296 ≤ r + y1 := by omega
        refine vc_exit ?_
        have hq1 : q - 1 = Q1 := by
          have := q_high (d := D1) hUyy hy0l v3 (by rw [hYY, ← hQ1]; omega) ht'
          rw [hYY, ← hQ1] at this
          exact this
        rw [hq1]
        exact J _ (by simp only [go_sem, opsV, undef, binV_int, binV_eqB, binV_neB, pbin_int, pbin_eqB, pbin_neB, intV, arith, unV_not, unV_neg, seval, g2, g8, g9, g10, g11, g13, g14, g15, g16, v1, v2] <;> rfl) (by simp only [go_sem, opsV, undef, binV_int, binV_eqB, binV_neB, pbin_int, pbin_eqB, pbin_neB, intV, arith, unV_not, unV_neg, seval, g2, g8, g9, g10, g11, g13, g14, g15, g16, v1, v2] <;> rfl) (by simp only [go_sem, opsV, undef, binV_int, binV_eqB, binV_neB, pbin_int, pbin_eqB, pbin_neB, intV, arith, unV_not, unV_neg, seval, g2, g8, g9, g10, g11, g13, g14, g15, g16, v1, v2] <;> rfl) (by simp only [go_sem, opsV, undef, binV_int, binV_eqB, binV_neB, pbin_int, pbin_eqB, pbin_neB, intV, arith, unV_not, unV_neg, seval, g2, g8, g9, g10, g11, g13, g14, g15, g16, v1, v2] <;> rfl) (by simp only [go_sem, opsV, undef, binV_int, binV_eqB, binV_neB, pbin_int, pbin_eqB, pbin_neB, intV, arith, unV_not, unV_neg, seval, g2, g8, g9, g10, g11, g13, g14, g15, g16, v1, v2] <;> rfl) (by simp only [go_sem, opsV, undef, binV_int, binV_eqB, binV_neB, pbin_int, pbin_eqB, pbin_neB, intV, arith, unV_not, unV_neg, seval, g2, g8, g9, g10, g11, g13, g14, g15, g16, v1, v2] <;> rfl) (by simp only [go_sem, opsV, undef, binV_int, binV_eqB, binV_neB, pbin_int, pbin_eqB, pbin_neB, intV, arith, unV_not, unV_neg, seval, g2, g8, g9, g10, g11, g13, g14, g15, g16, v1, v2] <;> rfl) (by simp only [go_sem, opsV, undef, binV_int, binV_eqB, binV_neB, pbin_int, pbin_eqB, pbin_neB, intV, arith, unV_not, unV_neg, seval, g2, g8, g9, g10, g11, g13, g14, g15, g16, v1, v2] <;> rfl)
      · refine vc_skip ?_
        refine ⟨⟨rfl, q - 1, r + y1, v3, by omega, by omega, ?_⟩, ?_⟩
        · try simp only [go_sem, opsV, undef, binV_int, binV_eqB, binV_neB, pbin_int, pbin_eqB, pbin_neB, intV, arith, unV_not, unV_neg, seval, g2, g8, g9, g10, g11, g13, g14, g15, g16, v1, v2]
        · rw [hmz]
          simp only [go_sem, opsV, undef, binV_int, binV_eqB, binV_neB, pbin_int, pbin_eqB, pbin_neB, intV, arith, unV_not, unV_neg, seval, g2, g8, g9, g10, g11, g13, g14, g15, g16, v1, v2, intOf]
          omega
    by_cases c1 : 4294967296 ≤ q
    · have c1' : (4294967296 : Int) ≤ (q : Int) := by omega
      refine vc_reg ?_
      try simp only [go_sem, opsV, undef, binV_int, binV_eqB, binV_neB, pbin_int, pbin_eqB, pbin_neB, intV, arith, unV_not, unV_neg, seval, g2, g8, g9, g10, g11, g13, g14, g15, g16, c1']
      refine hK2 _ _ ?_
      refine vc_condT (by simp only [go_sem, opsV, undef, binV_int, binV_eqB, binV_neB, pbin_int, pbin_eqB, pbin_neB, intV, arith, unV_not, unV_neg, seval, g2, g8, g9, g10, g11, g13, g14, g15, g16, c1'] <;> rfl) ?_
      refine vc_skip ?_
      exact down _ (.inl c1) (by simp only [go_sem, opsV, undef, binV_int, binV_eqB, binV_neB, pbin_int, pbin_eqB, pbin_neB, intV, arith, unV_not, unV_neg, seval, g2, g8, g9, g10, g11, g13, g14, g15, g16, c1'] <;> rfl) (by simp only [go_sem, opsV, undef, binV_int, binV_eqB, binV_neB, pbin_int, pbin_eqB, pbin_neB, intV, arith, unV_not, unV_neg, seval, g2, g8, g9, g10, g11, g13, g14, g15, g16, c1'] <;> rfl) (by simp only [go_sem, opsV, undef, binV_int, binV_eqB, binV_neB, pbin_int, pbin_eqB, pbin_neB, intV, arith, unV_not, unV_neg, seval, g2, g8, g9, g10, g11, g13, g14, g15, g16, c1'] <;> rfl) (by simp only [go_sem, opsV, undef, binV_int, binV_eqB, binV_neB, pbin_int, pbin_eqB, pbin_neB, intV, arith, unV_not, unV_neg, seval, g2, g8, g9, g10, g11, g13, g14, g15, g16, c1'] <;> rfl) (by simp only [go_sem, opsV, undef, binV_int, binV_eqB, binV_neB, pbin_int, pbin_eqB, pbin_neB, intV, arith, unV_not, unV_neg, seval, g2, g8, g9, g10, g11, g13, g14, g15, g16, c1'] <;> rfl) (by simp only [go_sem, opsV, undef, binV_int, binV_eqB, binV_neB, pbin_int, pbin_eqB, pbin_neB, intV, arith, unV_not, unV_neg, seval, g2, g8, g9, g10, g11, g13, g14, g15, g16, c1'] <;> rfl) (by simp only [go_sem, opsV, undef, binV_int, binV_eqB, binV_neB, pbin_int, pbin_eqB, pbin_neB, intV, arith, unV_not, unV_neg, seval, g2, g8, g9, g10, g11, g13, g14, g15, g16, c1'] <;> rfl) (by simp only [go_sem, opsV, undef, binV_int, binV_eqB, binV_neB, pbin_int, pbin_eqB, pbin_neB, intV, arith, unV_not, unV_neg, seval, g2, g8, g9, g10, g11, g13, g14, g15, g16, c1'] <;> rfl) (by simp only [go_sem, opsV, undef, binV_int, binV_eqB, binV_neB, pbin_int, pbin_eqB, pbin_neB, intV, arith, unV_not, unV_neg, seval, g2, g8, g9, g10, g11, g13, g14, g15, g16, c1'] <;> rfl)
    · have c1' : ¬ (4294967296 : Int) ≤ (q : Int) := by omega
      have p1 : q * y0 < 18446744073709551616 := Nat.mul_lt_mul'' (a := q) (b := y0) (c := 4294967296) (d := 4294967296) (by omega) hy0l
      have p2 : 4294967296 * r < 18446744073709551616 := by omega
      have p3 : 4294967296 * r + D1 < 18446744073709551616 := by omega
      refine vc_reg ?_
      try simp only [go_sem, opsV, undef, binV_int, binV_eqB, binV_neB, pbin_int, pbin_eqB, pbin_neB, intV, arith, unV_not, unV_neg, seval, g2, g8, g9, g10, g11, g13, g14, g15, g16, c1', mul32', Nat.mod_eq_of_lt p1, Nat.mod_eq_of_lt p2, Nat.mod_eq_of_lt p3]
      refine hK2 _ _ ?_
      refine vc_condD (by simp only [go_sem, opsV, undef, binV_int, binV_eqB, binV_neB, pbin_int, pbin_eqB, pbin_neB, intV, arith, unV_not, unV_neg, seval, g2, g8, g9, g10, g11, g13, g14, g15, g16, c1', mul32', Nat.mod_eq_of_lt p1, Nat.mod_eq_of_lt p2, Nat.mod_eq_of_lt p3] <;> rfl) (fun ht => ?_) (fun ht => ?_)
      · refine vc_skip ?_
        exact down _ (.inr ht) (by simp only [go_sem, opsV, undef, binV_int, binV_eqB, binV_neB, pbin_int, pbin_eqB, pbin_neB, intV, arith, unV_not, unV_neg, seval, g2, g8, g9, g10, g11, g13, g14, g15, g16, c1', mul32', Nat.mod_eq_of_lt p1, Nat.mod_eq_of_lt p2, Nat.mod_eq_of_lt p3] <;> rfl) (by simp only [go_sem, opsV, undef, binV_int, binV_eqB, binV_neB, pbin_int, pbin_eqB, pbin_neB, intV, arith, unV_not, unV_neg, seval, g2, g8, g9, g10, g11, g13, g14, g15, g16, c1', mul32', Nat.mod_eq_of_lt p1, Nat.mod_eq_of_lt p2, Nat.mod_eq_of_lt p3] <;> rfl) (by simp only [go_sem, opsV, undef, binV_int, binV_eqB, binV_neB, pbin_int, pbin_eqB, pbin_neB, intV, arith, unV_not, unV_neg, seval, g2, g8, g9, g10, g11, g13, g14, g15, g16, c1', mul32', Nat.mod_eq_of_lt p1, Nat.mod_eq_of_lt p2, Nat.mod_eq_of_lt p3] <;> rfl) (by simp only [go_sem, opsV, undef, binV_int, binV_eqB, binV_neB, pbin_int, pbin_eqB, pbin_neB, intV, arith, unV_not, unV_neg, seval, g2, g8, g9, g10, g11, g13, g14, g15, g16, c1', mul32', Nat.mod_eq_of_lt p1, Nat.mod_eq_of_lt p2, Nat.mod_eq_of_lt p3] <;> rfl) (by simp only [go_sem, opsV, undef, binV_int, binV_eqB, binV_neB, pbin_int, pbin_eqB, pbin_neB, intV, arith, unV_not, unV_neg, seval, g2, g8, g9, g10, g11, g13, g14, g15, g16, c1', mul32', Nat.mod_eq_of_lt p1, Nat.mod_eq_of_lt p2, Nat.mod_eq_of_lt p3] <;> rfl) (by simp only [go_sem, opsV, undef, binV_int, binV_eqB, binV_neB, pbin_int, pbin_eqB, pbin_neB, intV, arith, unV_not, unV_neg, seval, g2, g8, g9, g10, g11, g13, g14, g15, g16, c1', mul32', Nat.mod_eq_of_lt p1, Nat.mod_eq_of_lt p2, Nat.mod_eq_of_lt p3] <;> rfl) (by simp only [go_sem, opsV, undef, binV_int, binV_eqB, binV_neB, pbin_int, pbin_eqB, pbin_neB, intV, arith, unV_not, unV_neg, seval, g2, g8, g9, g10, g11, g13, g14, g15, g16, c1', mul32', Nat.mod_eq_of_lt p1, Nat.mod_eq_of_lt p2, Nat.mod_eq_of_lt p3] <;> rfl) (by simp only [go_sem, opsV, undef, binV_int, binV_eqB, binV_neB, pbin_int, pbin_eqB, pbin_neB, intV, arith, unV_not, unV_neg, seval, g2, g8, g9, g10, g11, g13, g14, g15, g16, c1', mul32', Nat.mod_eq_of_lt p1, Nat.mod_eq_of_lt p2, Nat.mod_eq_of_lt p3] <;> rfl) (by simp only [go_sem, opsV, undef, binV_int, binV_eqB, binV_neB, pbin_int, pbin_eqB, pbin_neB, intV, arith, unV_not, unV_neg, seval, g2, g8, g9, g10, g11, g13, g14, g15, g16, c1', mul32', Nat.mod_eq_of_lt p1, Nat.mod_eq_of_lt p2, Nat.mod_eq_of_lt p3] <;> rfl)
      · refine vc_exit ?_
        have hq1 : q = Q1 := by
          have := q_stop (d := D1) hUyy hqr (by rw [hYY, ← hQ1]; exact hQq) ht
          rw [hYY, ← hQ1] at this
          exact this
        subst hq1
        exact J _ (by simp only [go_sem, opsV, undef, binV_int, binV_eqB, binV_neB, pbin_int, pbin_eqB, pbin_neB, intV, arith, unV_not, unV_neg, seval, g2, g8, g9, g10, g11, g13, g14, g15, g16, c1', mul32', Nat.mod_eq_of_lt p1, Nat.mod_eq_of_lt p2, Nat.mod_eq_of_lt p3] <;> rfl) (by simp only [go_sem, opsV, undef, binV_int, binV_eqB, binV_neB, pbin_int, pbin_eqB, pbin_neB, intV, arith, unV_not, unV_neg, seval, g2, g8, g9, g10, g11, g13, g14, g15, g16, c1', mul32', Nat.mod_eq_of_lt p1, Nat.mod_eq_of_lt p2, Nat.mod_eq_of_lt p3] <;> rfl) (by simp only [go_sem, opsV, undef, binV_int, binV_eqB, binV_neB, pbin_int, pbin_eqB, pbin_neB, intV, arith, unV_not, unV_neg, seval, g2, g8, g9, g10, g11, g13, g14, g15, g16, c1', mul32', Nat.mod_eq_of_lt p1, Nat.mod_eq_of_lt p2, Nat.mod_eq_of_lt p3] <;> rfl) (by simp only [go_sem, opsV, undef, binV_int, binV_eqB, binV_neB, pbin_int, pbin_eqB, pbin_neB, intV, arith, unV_not, unV_neg, seval, g2, g8, g9, g10, g11, g13, g14, g15, g16, c1', mul32', Nat.mod_eq_of_lt p1, Nat.mod_eq_of_lt p2, Nat.mod_eq_of_lt p3] <;> rfl) (by simp only [go_sem, opsV, undef, binV_int, binV_eqB, binV_neB, pbin_int, pbin_eqB, pbin_neB, intV, arith, unV_not, unV_neg, seval, g2, g8, g9, g10, g11, g13, g14, g15, g16, c1', mul32', Nat.mod_eq_of_lt p1, Nat.mod_eq_of_lt p2, Nat.mod_eq_of_lt p3] <;> rfl) (by simp only [go_sem, opsV, undef, binV_int, binV_eqB, binV_neB, pbin_int, pbin_eqB, pbin_neB, intV, arith, unV_not, unV_neg, seval, g2, g8, g9, g10, g11, g13, g14, g15, g16, c1', mul32', Nat.mod_eq_of_lt p1, Nat.mod_eq_of_lt p2, Nat.mod_eq_of_lt p3] <;> rfl) (by simp only [go_sem, opsV, undef, binV_int, binV_eqB, binV_neB, pbin_int, pbin_eqB, pbin_neB, intV, arith, unV_not, unV_neg, seval, g2, g8, g9, g10, g11, g13, g14, g15, g16, c1', mul32', Nat.mod_eq_of_lt p1, Nat.mod_eq_of_lt p2, Nat.mod_eq_of_lt p3] <;> rfl) (by simp only [go_sem, opsV, undef, binV_int, binV_eqB, binV_neB, pbin_int, pbin_eqB, pbin_neB, intV, arith, unV_not, unV_neg, seval, g2, g8, g9, g10, g11, g13, g14, g15, g16, c1', mul32', Nat.mod_eq_of_lt p1, Nat.mod_eq_of_lt p2, Nat.mod_eq_of_lt p3] <;> rfl)

set_option maxHeartbeats 1000000 in
theorem div64 {w : World} {K : Value → World → Prop} (hi lo y : Nat) (hlt : hi < y) (hlo : lo < 18446744073709551616) (hy : y < 18446744073709551616)
    (h : ∀ w', Ext w w' → K (.tuple [Value.int .u64 (((hi * 18446744073709551616 + lo) / y : Nat) : Int), Value.int .u64 (((hi * 18446744073709551616 + lo) % y : Nat) : Int)].toArray) w') :
    FC Tryd.prog 52 #[.int .u64 (hi : Int), .int .u64 (lo : Int), .int .u64 (y : Int)] w K := by
  have hy0 : ¬ y = 0 := by omega
  have hyh : ¬ y ≤ hi := by omega
  have hyi : ¬ (y : Int) ≤ (hi : Int) := by omega
  refine FC.body (l := [.int .u64 (hi : Int), .int .u64 (lo : Int), .int .u64 (y : Int)]) (rs := [.tmp 6, .tmp 7]) mixed Tryd.func52 rfl (by kernel_rfl) (by kernel_rfl) (Nat.le_of_ble_eq_true rfl) rfl ?_
  repeat (first
    | (with_reducible refine vc_seq fun K hK => ?_)
    | (with_reducible refine vc_reg ?_)
    | (with_reducible refine vc_skip ?_)
    | (with_reducible refine vc_block ?_)
    | (with_reducible refine vc_scope ?_)
    | (with_reducible refine vc_label ?_)
    | (with_reducible refine vc_condT ?_ ?_; · simp only [go_sem, opsV, undef, binV_int, binV_eqB, binV_neB, pbin_int, pbin_eqB, pbin_neB, intV, arith, unV_not, unV_neg, seval, hy0, hyh] <;> rfl)
    | (with_reducible refine vc_condF ?_ ?_; · simp only [go_sem, opsV, undef, binV_int, binV_eqB, binV_neB, pbin_int, pbin_eqB, pbin_neB, intV, arith, unV_not, unV_neg, seval, hy0, hyh] <;> rfl)
    | (with_reducible refine vc_exit ?_; simp only [↓reduceIte, Nat.reduceEqDiff])
    | (with_reducible refine vc_ret ?_; simp only [retV, resL, one])
    | (with_reducible refine hK _ _ ?_; clear hK)
    | (clear hK; with_reducible refine hK _ _ ?_; clear hK)
    | (clear hK; clear hK; with_reducible refine hK _ _ ?_; clear hK)
    | (simp only [go_sem, opsV, undef, binV_int, binV_eqB, binV_neB, pbin_int, pbin_eqB, pbin_neB, intV, arith, unV_not, unV_neg, seval, hy0, hyh]))
  refine vc_condD (by simp only [go_sem, opsV, undef, binV_int, binV_eqB, binV_neB, pbin_int, pbin_eqB, pbin_neB, intV, arith, unV_not, unV_neg, seval, hy0, hyh] <;> rfl) (fun h0 => ?_) (fun h0 => ?_)
  · obtain rfl : hi = 0 := by omega
    refine vc_seq fun K hK => ?_
    refine vc_draw [(0, 0), (1, 0), (2, 0), (3, 0), (4, 0), (5, 0), (6, 0), (7, 0)] (by kernel_rfl) ?_
    have e1 : lo / y < 18446744073709551616 := Nat.lt_of_le_of_lt (Nat.div_le_self _ _) hlo
    try simp only [go_sem, opsV, undef, binV_int, binV_eqB, binV_neB, pbin_int, pbin_eqB, pbin_neB, intV, arith, unV_not, unV_neg, seval, hy0, Nat.mod_eq_of_lt e1, not_false_eq_true, Nat.zero_mul, Nat.zero_add]
    have h := h w.drew (ext_drew w)
    simp only [go_sem, opsV, undef, binV_int, binV_eqB, binV_neB, pbin_int, pbin_eqB, pbin_neB, intV, arith, unV_not, unV_neg, seval, hy0, Nat.mod_eq_of_lt e1, not_false_eq_true, Nat.zero_mul, Nat.zero_add] at h
    refine hK _ _ ?_
    clear hK
    refine vc_ret ?_
    simp only [retV, resL, one, go_sem, opsV, undef, binV_int, binV_eqB, binV_neB, pbin_int, pbin_eqB, pbin_neB, intV, arith, unV_not, unV_neg, seval, hy0, Nat.mod_eq_of_lt e1, not_false_eq_true, Nat.zero_mul, Nat.zero_add]
    exact h
  · have hb := bl_le (k := 64) hy
    have hsp := bitLen_spec y
    obtain ⟨s, hs⟩ : ∃ s, s = 64 - bitLen y := ⟨_, rfl⟩
    have hs64 : s ≤ 64 := by omega
    have hbl : bitLen y = 64 - s := by omega
    have hs0 : s < 64 := by
      have h1 := hsp.2 hy0
      rcases Nat.lt_or_ge s 64 with h2 | h2
      · exact h2
      · have : bitLen y = 0 := by omega
        rw [this] at hsp
        have := hsp.1
        omega
    obtain ⟨Y, hY⟩ : ∃ Y, Y = y * 2 ^ s := ⟨_, rfl⟩
    have e64 : (18446744073709551616 : Nat) = 2 ^ (64 - s) * 2 ^ s := by rw [← Nat.pow_add]; rw [show 64 - s + s = 64 by omega]
    have hYlt : Y < 18446744073709551616 := by
      rw [hY, e64]
      refine Nat.mul_lt_mul_of_pos_right ?_ (Nat.two_pow_pos s)
      rw [← hbl]; exact hsp.1
    have hYge : 9223372036854775808 ≤ Y := by
      have h1 := hsp.2 hy0
      rw [hbl] at h1
      have h2 : 2 ^ (64 - s - 1) * 2 ^ s ≤ y * 2 ^ s := Nat.mul_le_mul_right _ h1
      rw [← Nat.pow_add, show 64 - s - 1 + s = 63 by omega] at h2
      rw [hY]; exact h2
    obtain ⟨y1, hy1⟩ : ∃ y1, y1 = Y / 4294967296 := ⟨_, rfl⟩
    obtain ⟨y0, hy0'⟩ : ∃ y0, y0 = Y % 4294967296 := ⟨_, rfl⟩
    have hYY : y1 * 4294967296 + y0 = Y := by omega
    have hy1p : 0 < y1 := by omega
    have hy0l : y0 < 4294967296 := by omega
    have hy1l : y1 < 4294967296 := by omega
    -- the dividend, shifted
    have hhs : hi * 2 ^ s + 2 ^ s ≤ Y := by rw [hY, ← Nat.succ_mul]; exact Nat.mul_le_mul_right _ hlt
    have hll : lo / 2 ^ (64 - s) < 2 ^ s := by rw [Nat.div_lt_iff_lt_mul (Nat.two_pow_pos _), Nat.mul_comm, ← e64]; exact hlo
    obtain ⟨U, hU⟩ : ∃ U, U = hi * 2 ^ s + lo / 2 ^ (64 - s) := ⟨_, rfl⟩
    have hor : hi * 2 ^ s ||| lo / 2 ^ (64 - s) = U := by
      rw [hU, Nat.mul_comm hi, Nat.two_pow_add_eq_or_of_lt hll]
    have hUY : U < Y := by omega
    obtain ⟨L, hL⟩ : ∃ L, L = lo * 2 ^ s % 18446744073709551616 := ⟨_, rfl⟩
    have hLl : L < 18446744073709551616 := by rw [hL]; exact Nat.mod_lt _ (by decide)
    obtain ⟨D1, hD1⟩ : ∃ D1, D1 = L / 4294967296 := ⟨_, rfl⟩
    obtain ⟨D0, hD0⟩ : ∃ D0, D0 = L % 4294967296 := ⟨_, rfl⟩
    have hD1l : D1 < 4294967296 := by omega
    have hD0l : D0 < 4294967296 := by omega
    have hsh := shifted (hi := hi) (lo := lo) (W := 18446744073709551616) hs64 (by decide)
    rw [← hU, ← hL] at hsh
    -- the walk
    have w1 : IntKind.u64.wrap ((s : Nat) : Int) = ((s : Nat) : Int) := by rw [wrap64_nat]; congr 1; omega
    have w2 : IntKind.u64.wrap (64 - (s : Int)) = ((64 - s : Nat) : Int) := by rw [wrap64_i]; omega
    have w3 : hi * 2 ^ s % 18446744073709551616 = hi * 2 ^ s := Nat.mod_eq_of_lt (Nat.lt_of_le_of_lt (Nat.le_trans (Nat.le_add_right _ _) hhs) hYlt)
    have w4 : y * 2 ^ s % 18446744073709551616 = Y := by rw [← hY]; exact Nat.mod_eq_of_lt hYlt
    have w5 : bitsV .or .u64 ((hi * 2 ^ s : Nat) : Int) ((lo / 2 ^ (64 - s) : Nat) : Int) = (U : Int) := by
      rw [or64_nat _ _ (by omega) (Nat.lt_of_le_of_lt (Nat.div_le_self _ _) hlo), hor]
    have w6 : U / y1 < 18446744073709551616 := Nat.lt_of_le_of_lt (Nat.div_le_self _ _) (by omega)
    have w7 : U / y1 * y1 ≤ U := Nat.div_mul_le_self U y1
    have w8 := wrap_mod U y1 (Nat.lt_trans hUY hYlt)
    have hs1 : (64 - s ≤ 64) = True := by simp
    have hs2 : (s ≤ 64) = True := by simp [hs64]
    have hy1n : ¬ y1 = 0 := by omega
    repeat (first
      | (with_reducible refine vc_seq fun K hK => ?_)
      | (with_reducible refine vc_reg ?_)
      | (with_reducible refine vc_skip ?_)
      | (with_reducible refine vc_block ?_)
      | (with_reducible refine vc_scope ?_)
      | (with_reducible refine vc_label ?_)
      | (with_reducible refine vc_condT ?_ ?_; · simp only [go_sem, opsV, undef, binV_int, binV_eqB, binV_neB, pbin_int, pbin_eqB, pbin_neB, intV, arith, unV_not, unV_neg, seval, hs2, hs1, w1, w2, w3, w4, w5, ← hL, ← hy1, ← hD1, low32 Y hYlt, ← hy0', low32 L hLl, ← hD0, not_false_eq_true, hy1n, Nat.mod_eq_of_lt w6, Nat.mod_eq_of_lt (Nat.lt_of_le_of_lt w7 (Nat.lt_trans hUY hYlt)), w8, convV_int Tryd.underlying52, Tryd.underlying3, Option.isSome_some] <;> rfl)
      | (with_reducible refine vc_condF ?_ ?_; · simp only [go_sem, opsV, undef, binV_int, binV_eqB, binV_neB, pbin_int, pbin_eqB, pbin_neB, intV, arith, unV_not, unV_neg, seval, hs2, hs1, w1, w2, w3, w4, w5, ← hL, ← hy1, ← hD1, low32 Y hYlt, ← hy0', low32 L hLl, ← hD0, not_false_eq_true, hy1n, Nat.mod_eq_of_lt w6, Nat.mod_eq_of_lt (Nat.lt_of_le_of_lt w7 (Nat.lt_trans hUY hYlt)), w8, convV_int Tryd.underlying52, Tryd.underlying3, Option.isSome_some] <;> rfl)
      | (with_reducible refine vc_exit ?_; simp only [↓reduceIte, Nat.reduceEqDiff])
      | (with_reducible refine vc_ret ?_; simp only [retV, resL, one])
      | (with_reducible refine hK _ _ ?_; clear hK)
      | (clear hK; with_reducible refine hK _ _ ?_; clear hK)
      | (clear hK; clear hK; with_reducible refine hK _ _ ?_; clear hK)
      | (simp only [go_sem, opsV, undef, binV_int, binV_eqB, binV_neB, pbin_int, pbin_eqB, pbin_neB, intV, arith, unV_not, unV_neg, seval, hs2, hs1, w1, w2, w3, w4, w5, ← hL, ← hy1, ← hD1, low32 Y hYlt, ← hy0', low32 L hLl, ← hD0, not_false_eq_true, hy1n, Nat.mod_eq_of_lt w6, Nat.mod_eq_of_lt (Nat.lt_of_le_of_lt w7 (Nat.lt_trans hUY hYlt)), w8, convV_int Tryd.underlying52, Tryd.underlying3, Option.isSome_some]))
    refine lz64 y hy ?_
    rw [← hs]
    repeat (first
      | (with_reducible refine vc_seq fun K hK => ?_)
      | (with_reducible refine vc_reg ?_)
      | (with_reducible refine vc_skip ?_)
      | (with_reducible refine vc_block ?_)
      | (with_reducible refine vc_scope ?_)
      | (with_reducible refine vc_label ?_)
      | (with_reducible refine vc_condT ?_ ?_; · simp only [go_sem, opsV, undef, binV_int, binV_eqB, binV_neB, pbin_int, pbin_eqB, pbin_neB, intV, arith, unV_not, unV_neg, seval, hs2, hs1, w1, w2, w3, w4, w5, ← hL, ← hy1, ← hD1, low32 Y hYlt, ← hy0', low32 L hLl, ← hD0, not_false_eq_true, hy1n, Nat.mod_eq_of_lt w6, Nat.mod_eq_of_lt (Nat.lt_of_le_of_lt w7 (Nat.lt_trans hUY hYlt)), w8, convV_int Tryd.underlying52, Tryd.underlying3, Option.isSome_some] <;> rfl)
      | (with_reducible refine vc_condF ?_ ?_; · simp only [go_sem, opsV, undef, binV_int, binV_eqB, binV_neB, pbin_int, pbin_eqB, pbin_neB, intV, arith, unV_not, unV_neg, seval, hs2, hs1, w1, w2, w3, w4, w5, ← hL, ← hy1, ← hD1, low32 Y hYlt, ← hy0', low32 L hLl, ← hD0, not_false_eq_true, hy1n, Nat.mod_eq_of_lt w6, Nat.mod_eq_of_lt (Nat.lt_of_le_of_lt w7 (Nat.lt_trans hUY hYlt)), w8, convV_int Tryd.underlying52, Tryd.underlying3, Option.isSome_some] <;> rfl)
      | (with_reducible refine vc_exit ?_; simp only [↓reduceIte, Nat.reduceEqDiff])
      | (with_reducible refine vc_ret ?_; simp only [retV, resL, one])
      | (with_reducible refine hK _ _ ?_; clear hK)
      | (clear hK; with_reducible refine hK _ _ ?_; clear hK)
      | (clear hK; clear hK; with_reducible refine hK _ _ ?_; clear hK)
      | (simp only [go_sem, opsV, undef, binV_int, binV_eqB, binV_neB, pbin_int, pbin_eqB, pbin_neB, intV, arith, unV_not, unV_neg, seval, hs2, hs1, w1, w2, w3, w4, w5, ← hL, ← hy1, ← hD1, low32 Y hYlt, ← hy0', low32 L hLl, ← hD0, not_false_eq_true, hy1n, Nat.mod_eq_of_lt w6, Nat.mod_eq_of_lt (Nat.lt_of_le_of_lt w7 (Nat.lt_trans hUY hYlt)), w8, convV_int Tryd.underlying52, Tryd.underlying3, Option.isSome_some]))
    -- the first digit
    obtain ⟨Q1, hQ1⟩ : ∃ Q1, Q1 = (U * 4294967296 + D1) / Y := ⟨_, rfl⟩
    have hUyy : U < y1 * 4294967296 + y0 := by omega
    have hQ1l : Q1 < 4294967296 := by rw [hQ1, ← hYY]; exact q_lt hUyy hD1l
    have J1 : ∀ (e : Env), e 2 = .int .u64 (Y : Int) → e 8 = .int .u64 (s : Int) → e 9 = .int .u64 (y1 : Int) → e 10 = .int .u64 (y0 : Int) → e 11 = .int .u64 (U : Int) → e 13 = .int .u64 (D1 : Int) → e 14 = .int .u64 (D0 : Int) → e 15 = .int .u64 (Q1 : Int) → K e w := by
      intro e g2 g8 g9 g10 g11 g13 g14 g15
      refine hK _ _ ?_
      clear hK
      obtain ⟨R1, hR1⟩ : ∃ R1, R1 = (U * 4294967296 + D1) % Y := ⟨_, rfl⟩
      have hR1l : R1 < Y := by rw [hR1]; exact Nat.mod_lt _ (by omega)
      have hdm := Nat.div_add_mod (U * 4294967296 + D1) Y
      rw [← hQ1, ← hR1, Nat.mul_comm] at hdm
      have x1 := wrap_rem (U * 4294967296) D1 (Q1 * Y) R1 hdm (Nat.lt_trans hR1l hYlt)
      have x2 : R1 / y1 < 18446744073709551616 := Nat.lt_of_le_of_lt (Nat.div_le_self _ _) (Nat.lt_trans hR1l hYlt)
      have x3 : R1 / y1 * y1 ≤ R1 := Nat.div_mul_le_self R1 y1
      have x4 := wrap_mod R1 y1 (Nat.lt_trans hR1l hYlt)
      have x5 : R1 / y1 * y1 % 18446744073709551616 = R1 / y1 * y1 := Nat.mod_eq_of_lt (Nat.lt_of_le_of_lt x3 (Nat.lt_trans hR1l hYlt))
      repeat (first
        | (with_reducible refine vc_seq fun K hK => ?_)
        | (with_reducible refine vc_reg ?_)
        | (with_reducible refine vc_skip ?_)
        | (with_reducible refine vc_block ?_)
        | (with_reducible refine vc_scope ?_)
        | (with_reducible refine vc_label ?_)
        | (with_reducible refine vc_condT ?_ ?_; · simp only [go_sem, opsV, undef, binV_int, binV_eqB, binV_neB, pbin_int, pbin_eqB, pbin_neB, intV, arith, unV_not, unV_neg, seval, g2, g8, g9, g10, g11, g13, g14, g15, mul32, x1, x4, x5, Nat.mod_eq_of_lt x2, not_false_eq_true, hy1n] <;> rfl)
        | (with_reducible refine vc_condF ?_ ?_; · simp only [go_sem, opsV, undef, binV_int, binV_eqB, binV_neB, pbin_int, pbin_eqB, pbin_neB, intV, arith, unV_not, unV_neg, seval, g2, g8, g9, g10, g11, g13, g14, g15, mul32, x1, x4, x5, Nat.mod_eq_of_lt x2, not_false_eq_true, hy1n] <;> rfl)
        | (with_reducible refine vc_exit ?_; simp only [↓reduceIte, Nat.reduceEqDiff])
        | (with_reducible refine vc_ret ?_; simp only [retV, resL, one])
        | (with_reducible refine hK _ _ ?_; clear hK)
        | (clear hK; with_reducible refine hK _ _ ?_; clear hK)
        | (clear hK; clear hK; with_reducible refine hK _ _ ?_; clear hK)
        | (simp only [go_sem, opsV, undef, binV_int, binV_eqB, binV_neB, pbin_int, pbin_eqB, pbin_neB, intV, arith, unV_not, unV_neg, seval, g2, g8, g9, g10, g11, g13, g14, g15, mul32, x1, x4, x5, Nat.mod_eq_of_lt x2, not_false_eq_true, hy1n]))
      -- the second digit
      obtain ⟨Q0, hQ0⟩ : ∃ Q0, Q0 = (R1 * 4294967296 + D0) / Y := ⟨_, rfl⟩
      have hR1yy : R1 < y1 * 4294967296 + y0 := by omega
      have hQ0l : Q0 < 4294967296 := by rw [hQ0, ← hYY]; exact q_lt hR1yy hD0l
      have J2 : ∀ (e : Env), e 2 = .int .u64 (Y : Int) → e 8 = .int .u64 (s : Int) → e 9 = .int .u64 (y1 : Int) → e 10 = .int .u64 (y0 : Int) → e 17 = .int .u64 (R1 : Int) → e 14 = .int .u64 (D0 : Int) → e 15 = .int .u64 (Q1 : Int) → e 18 = .int .u64 (Q0 : Int) → K e w := by
        intro e g2 g8 g9 g10 g17 g14 g15 g18
        refine hK _ _ ?_
        clear hK
        have hd2 := Nat.div_add_mod (R1 * 4294967296 + D0) Y
        rw [← hQ0, Nat.mul_comm] at hd2
        have hR0l : (R1 * 4294967296 + D0) % Y < Y := Nat.mod_lt _ (Nat.lt_of_le_of_lt (Nat.zero_le _) hUY)
        have hYp : 0 < Y := Nat.lt_of_le_of_lt (Nat.zero_le _) hUY
        have z1 := wrap_rem (R1 * 4294967296) D0 (Q0 * Y) _ hd2 (Nat.lt_trans hR0l hYlt)
        have z2 := b32 Q1 hQ1l
        have z3 := b32b Q1 Q0 hQ1l hQ0l
        obtain ⟨f1, f2⟩ := two_digits (u := U) (d1 := D1) (d0 := D0) (y := Y) (B := 4294967296) hYp (by decide)
        rw [← hQ1, ← hR1, ← hQ0] at f1
        rw [← hR1] at f2
        have hL2 : D1 * 4294967296 + D0 = L := by rw [hD1, hD0]; exact Nat.div_add_mod' L 4294967296
        rw [hL2, show (4294967296 * 4294967296 : Nat) = 18446744073709551616 from rfl, hsh, hY] at f1 f2
        rw [Nat.mul_div_mul_right _ _ (Nat.two_pow_pos s)] at f1
        rw [Nat.mul_mod_mul_right] at f2
        have z5 : (hi * 18446744073709551616 + lo) / y < 18446744073709551616 := by rw [← f1]; exact z3
        have z4 : (R1 * 4294967296 + D0) % Y / 2 ^ s = (hi * 18446744073709551616 + lo) % y := by
          rw [hY, f2]; exact Nat.mul_div_cancel _ (Nat.two_pow_pos s)
        repeat (first
          | (with_reducible refine vc_seq fun K hK => ?_)
          | (with_reducible refine vc_reg ?_)
          | (with_reducible refine vc_skip ?_)
          | (with_reducible refine vc_block ?_)
          | (with_reducible refine vc_scope ?_)
          | (with_reducible refine vc_label ?_)
          | (with_reducible refine vc_condT ?_ ?_; · simp only [go_sem, opsV, undef, binV_int, binV_eqB, binV_neB, pbin_int, pbin_eqB, pbin_neB, intV, arith, unV_not, unV_neg, seval, g2, g8, g9, g10, g17, g14, g15, g18, mul32, z1, Nat.mod_eq_of_lt z2, Nat.mod_eq_of_lt z3, hs2, f1, z4, Nat.mod_eq_of_lt z5] <;> rfl)
          | (with_reducible refine vc_condF ?_ ?_; · simp only [go_sem, opsV, undef, binV_int, binV_eqB, binV_neB, pbin_int, pbin_eqB, pbin_neB, intV, arith, unV_not, unV_neg, seval, g2, g8, g9, g10, g17, g14, g15, g18, mul32, z1, Nat.mod_eq_of_lt z2, Nat.mod_eq_of_lt z3, hs2, f1, z4, Nat.mod_eq_of_lt z5] <;> rfl)
          | (with_reducible refine vc_exit ?_; simp only [↓reduceIte, Nat.reduceEqDiff])
          | (with_reducible refine vc_ret ?_; simp only [retV, resL, one])
          | (with_reducible refine hK _ _ ?_; clear hK)
          | (clear hK; with_reducible refine hK _ _ ?_; clear hK)
          | (clear hK; clear hK; with_reducible refine hK _ _ ?_; clear hK)
          | (simp only [go_sem, opsV, undef, binV_int, binV_eqB, binV_neB, pbin_int, pbin_eqB, pbin_neB, intV, arith, unV_not, unV_neg, seval, g2, g8, g9, g10, g17, g14, g15, g18, mul32, z1, Nat.mod_eq_of_lt z2, Nat.mod_eq_of_lt z3, hs2, f1, z4, Nat.mod_eq_of_lt z5]))
        exact h w (Ext.refl w)
      clear hK
      exact d64_J2 Y s y1 y0 U D1 D0 Q1 R1 Q0 hYY hYlt hy1p hy0l hy1l hQ0 hR1l hD0l (fun e a b c d f g i j => (by simpa only [↓reduceIte] using J2 e a b c d f g i j)) _ (by simp only [go_sem, opsV, undef, binV_int, binV_eqB, binV_neB, pbin_int, pbin_eqB, pbin_neB, intV, arith, unV_not, unV_neg, seval, true_and, g2, g8, g9, g10, g14, g15] <;> rfl) (by simp only [go_sem, opsV, undef, binV_int, binV_eqB, binV_neB, pbin_int, pbin_eqB, pbin_neB, intV, arith, unV_not, unV_neg, seval, true_and, g2, g8, g9, g10, g14, g15] <;> rfl) (by simp only [go_sem, opsV, undef, binV_int, binV_eqB, binV_neB, pbin_int, pbin_eqB, pbin_neB, intV, arith, unV_not, unV_neg, seval, true_and, g2, g8, g9, g10, g14, g15] <;> rfl) (by simp only [go_sem, opsV, undef, binV_int, binV_eqB, binV_neB, pbin_int, pbin_eqB, pbin_neB, intV, arith, unV_not, unV_neg, seval, true_and, g2, g8, g9, g10, g14, g15] <;> rfl) (by simp only [go_sem, opsV, undef, binV_int, binV_eqB, binV_neB, pbin_int, pbin_eqB, pbin_neB, intV, arith, unV_not, unV_neg, seval, true_and, g2, g8, g9, g10, g14, g15] <;> rfl) (by simp only [go_sem, opsV, undef, binV_int, binV_eqB, binV_neB, pbin_int, pbin_eqB, pbin_neB, intV, arith, unV_not, unV_neg, seval, true_and, g2, g8, g9, g10, g14, g15] <;> rfl) (by simp only [go_sem, opsV, undef, binV_int, binV_eqB, binV_neB, pbin_int, pbin_eqB, pbin_neB, intV, arith, unV_not, unV_neg, seval, true_and, g2, g8, g9, g10, g14, g15] <;> rfl) (by simp only [go_sem, opsV, undef, binV_int, binV_eqB, binV_neB, pbin_int, pbin_eqB, pbin_neB, intV, arith, unV_not, unV_neg, seval, true_and, g2, g8, g9, g10, g14, g15] <;> rfl) (by simp only [go_sem, opsV, undef, binV_int, binV_eqB, binV_neB, pbin_int, pbin_eqB, pbin_neB, intV, arith, unV_not, unV_neg, seval, true_and, g2, g8, g9, g10, g14, g15] <;> rfl)
    clear hK
    exact d64_J1 Y s y1 y0 U D1 D0 Q1 0 0 hYY hYlt hy1p hy0l hy1l hQ1 hUY hD1l (fun e a b c d f g i j => (by simpa only [↓reduceIte] using J1 e a b c d f g i j)) _ (by simp only [go_sem, opsV, undef, binV_int, binV_eqB, binV_neB, pbin_int, pbin_eqB, pbin_neB, intV, arith, unV_not, unV_neg, seval, true_and] <;> rfl) (by simp only [go_sem, opsV, undef, binV_int, binV_eqB, binV_neB, pbin_int, pbin_eqB, pbin_neB, intV, arith, unV_not, unV_neg, seval, true_and] <;> rfl) (by simp only [go_sem, opsV, undef, binV_int, binV_eqB, binV_neB, pbin_int, pbin_eqB, pbin_neB, intV, arith, unV_not, unV_neg, seval, true_and] <;> rfl) (by simp only [go_sem, opsV, undef, binV_int, binV_eqB, binV_neB, pbin_int, pbin_eqB, pbin_neB, intV, arith, unV_not, unV_neg, seval, true_and] <;> rfl) (by simp only [go_sem, opsV, undef, binV_int, binV_eqB, binV_neB, pbin_int, pbin_eqB, pbin_neB, intV, arith, unV_not, unV_neg, seval, true_and] <;> rfl) (by simp only [go_sem, opsV, undef, binV_int, binV_eqB, binV_neB, pbin_int, pbin_eqB, pbin_neB, intV, arith, unV_not, unV_neg, seval, true_and] <;> rfl) (by simp only [go_sem, opsV, undef, binV_int, binV_eqB, binV_neB, pbin_int, pbin_eqB, pbin_neB, intV, arith, unV_not, unV_neg, seval, true_and] <;> rfl) (by simp only [go_sem, opsV, undef, binV_int, binV_eqB, binV_neB, pbin_int, pbin_eqB, pbin_neB, intV, arith, unV_not, unV_neg, seval, true_and] <;> rfl) (by simp only [go_sem, opsV, undef, binV_int, binV_eqB, binV_neB, pbin_int, pbin_eqB, pbin_neB, intV, arith, unV_not, unV_neg, seval, true_and] <;> rfl)

end Go.V

/- The document's numbers: by powers of two, upwards, over values as data. -/
import Derived.Test.YtkmoeenhboicmaaDoorR5
set_option linter.unusedSimpArgs false
set_option linter.unusedVariables false
set_option maxRecDepth 100000
namespace Go.V
open Go Go.RowKit Go.Proofs

theorem pow32 {r : Nat} (h : r < 32) : (4294967296 : Nat) = 2 ^ r * 2 ^ (32 - r) := by rw [← Nat.pow_add]; rw [show r + (32 - r) = 32 by omega]
theorem up_word32 {o a r : Nat} (hr : r < 32) (ho : o < 2 ^ r) (ha : a < 4294967296) :
    (o ||| a * 2 ^ r % 4294967296) + 4294967296 * (a * 2 ^ r / 4294967296) = o + a * 2 ^ r := by
  have hp := pow32 hr
  have h1 : a * 2 ^ r % 4294967296 = 2 ^ r * (a % 2 ^ (32 - r)) := by
    rw [Nat.mul_comm a]; conv => lhs; rw [hp]
    exact Nat.mul_mod_mul_left _ _ _
  have h2 := Nat.mod_add_div (a * 2 ^ r) 4294967296
  rw [h1] at h2 ⊢
  rw [Nat.or_comm, ← Nat.two_pow_add_eq_or_of_lt ho]
  omega
theorem up_lt32 {o a r : Nat} (hr : r < 32) (ho : o < 2 ^ r) (ha : a < 4294967296) : (o ||| a * 2 ^ r % 4294967296) < 4294967296 := by
  have h1 : o < 2 ^ 32 := Nat.lt_of_lt_of_le ho (Nat.pow_le_pow_right (by decide) (by omega))
  exact Nat.or_lt_two_pow (n := 32) h1 (Nat.mod_lt _ (by decide))
theorem up_hi32 {a r : Nat} (hr : r < 32) (ha : a < 4294967296) : a * 2 ^ r / 4294967296 < 2 ^ r := by
  rw [Nat.div_lt_iff_lt_mul (by decide), Nat.mul_comm]
  exact Nat.mul_lt_mul_of_pos_left ha (Nat.two_pow_pos _)
theorem up_lt64 {a r : Nat} (hr : r < 32) (ha : a < 4294967296) : a * 2 ^ r < 18446744073709551616 := by
  have h1 : (2 : Nat) ^ r ≤ 2 ^ 31 := Nat.pow_le_pow_right (by decide) (by omega)
  have := Nat.mul_le_mul (Nat.le_of_lt ha) h1
  omega
theorem getD_rep {m j : Nat} : (List.replicate m 0).getD j 0 = 0 := by
  simp only [List.getD, List.getElem?_replicate]; split <;> rfl
/-- One digit of the product. -/
theorem left_step {os A : List Nat} {q i r : Nat} (hr : r < 32) (hbA : B32 A) (hi : i < A.length) (hol : os.length = q + A.length + 1) (ho : os.getD (q + i) 0 < 2 ^ r) (hz : ∀ j, q + i < j → os.getD j 0 = 0)
    (hv : nval 4294967296 os + 4294967296 ^ (q + i) * (2 ^ r * nval 4294967296 (A.drop i)) = 4294967296 ^ q * (2 ^ r * nval 4294967296 A)) :
    nval 4294967296 ((os.set (q + i) (os.getD (q + i) 0 ||| A.getD i 0 * 2 ^ r % 4294967296)).set (q + i + 1) (A.getD i 0 * 2 ^ r / 4294967296)) + 4294967296 ^ (q + (i + 1)) * (2 ^ r * nval 4294967296 (A.drop (i + 1))) = 4294967296 ^ q * (2 ^ r * nval 4294967296 A) := by
  have ha := get_lt hbA (by decide) i
  have h1 := nval_set (B := 4294967296) (y := os.getD (q + i) 0 ||| A.getD i 0 * 2 ^ r % 4294967296) (show q + i < os.length by omega)
  have h2 := nval_set (B := 4294967296) (xs := os.set (q + i) (os.getD (q + i) 0 ||| A.getD i 0 * 2 ^ r % 4294967296)) (y := A.getD i 0 * 2 ^ r / 4294967296) (i := q + i + 1) (by rw [List.length_set]; omega)
  have h3 : (os.set (q + i) (os.getD (q + i) 0 ||| A.getD i 0 * 2 ^ r % 4294967296)).getD (q + i + 1) 0 = 0 := by
    rw [getD_set, if_neg (by omega)]; exact hz _ (by omega)
  rw [h3, Nat.mul_zero, Nat.add_zero] at h2
  rw [h2, ← hv, drop_step A (i := i), show q + (i + 1) = q + i + 1 by omega, Nat.pow_succ]
  have h4 := up_word32 hr ho ha
  generalize nval 4294967296 (A.drop (i + 1)) = u at *
  generalize os.getD (q + i) 0 = o at *
  generalize (o ||| A.getD i 0 * 2 ^ r % 4294967296) = o' at *
  generalize A.getD i 0 * 2 ^ r / 4294967296 = hi' at *
  generalize (4294967296 : Nat) ^ (q + i) = W at *
  have h5 : W * o' + W * (4294967296 * hi') = W * o + W * (A.getD i 0 * 2 ^ r) := by rw [← Nat.mul_add, h4, Nat.mul_add]
  have e1 : W * (2 ^ r * (A.getD i 0 + 4294967296 * u)) = W * (A.getD i 0 * 2 ^ r) + W * 4294967296 * (2 ^ r * u) := by
    rw [Nat.mul_add, Nat.mul_add, Nat.mul_comm (2 ^ r) (A.getD i 0), Nat.mul_assoc W, Nat.mul_left_comm (2 ^ r)]
  rw [e1, Nat.mul_assoc W 4294967296 hi']
  omega

theorem p_rLeft {A : List Nat} {n : Nat} (hbA : B32 A) (hlA : A.length ≤ 1099511627776) (hn : n ≤ 1099511627776) : PC Tryd.prog 89 [W32 A, i64 n] fun d => d = W32 (D32 (N32 A * 2 ^ n)) := by
  refine PC.body (args := [W32 A, i64 n]) (rs := [.tmp 4]) mixed Tryd.func89 rfl (by kernel_rfl) (by kernel_rfl) (Nat.le_of_ble_eq_true rfl) rfl ?_
  have hnq : 32 * (n / 32) + n % 32 = n := by omega
  generalize hq : n / 32 = q at hnq
  generalize hr : n % 32 = r at hnq
  have hr32 : r < 32 := by omega
  have hr64 : r ≤ 64 := by omega
  repeat (first | (with_reducible refine pv_seq fun K hK => ?_) | (with_reducible refine pv_reg ?_; simp -implicitDefEqProofs only [cmpB]) | (fail) | ((with_reducible first | refine hK _ _ ?_ | (clear hK; refine hK _ _ ?_) | (clear hK; clear hK; refine hK _ _ ?_)); clear hK; try clear K) | (simp -implicitDefEqProofs only [tdiv32, tmod32, hq, hr, true_and, go_sem, seval]) | (with_reducible intro b) | (with_reducible refine And.intro ?_ ?_; · first | assumption | omega | (unfold R64; omega)))
  refine pv_cdD (fun ht => ?_) (fun ht => ?_)
  · repeat (first | (with_reducible refine pv_seq fun K hK => ?_) | (with_reducible refine pv_reg ?_; simp -implicitDefEqProofs only [cmpB]) | (fail) | ((with_reducible first | refine hK _ _ ?_ | (clear hK; refine hK _ _ ?_) | (clear hK; clear hK; refine hK _ _ ?_)); clear hK; try clear K) | (simp -implicitDefEqProofs only [tdiv32, tmod32, hq, hr, true_and, go_sem, seval]) | (with_reducible intro b) | (with_reducible refine And.intro ?_ ?_; · first | assumption | omega | (unfold R64; omega)))
    obtain rfl : A = [] := List.eq_nil_of_length_eq_zero (by omega)
    rw [show N32 [] * 2 ^ n = 0 from Nat.zero_mul _, D32, digs_zero]
    rfl
  · repeat (first | (with_reducible refine pv_seq fun K hK => ?_) | (with_reducible refine pv_reg ?_; simp -implicitDefEqProofs only [cmpB]) | (fail) | ((with_reducible first | refine hK _ _ ?_ | (clear hK; refine hK _ _ ?_) | (clear hK; clear hK; refine hK _ _ ?_)); clear hK; try clear K) | (simp -implicitDefEqProofs only [tdiv32, tmod32, hq, hr, true_and, go_sem, seval]) | (with_reducible intro b) | (with_reducible refine And.intro ?_ ?_; · first | assumption | omega | (unfold R64; omega)))
    have J : ∀ (e : DEnv) (S : Store) (os : List Nat), RowD S (.l 17) 1 (e 5) (rS (eK .u32) os) → B32 os → N32 os = N32 A * 2 ^ n → os.length ≤ 3298534883329 → K e S := by
      intro e S os hr hb hv hl
      repeat (first | (with_reducible refine pv_seq fun K hK => ?_) | (with_reducible refine pv_reg ?_; simp -implicitDefEqProofs only [cmpB]) | (fail) | ((with_reducible first | refine hK _ _ ?_ | (clear hK; refine hK _ _ ?_) | (clear hK; clear hK; refine hK _ _ ?_)); clear hK; try clear K) | (simp -implicitDefEqProofs only [tdiv32, tmod32, hq, hr, true_and, go_sem, seval]) | (with_reducible intro b) | (with_reducible refine And.intro ?_ ?_; · first | assumption | omega | (unfold R64; omega)))
      refine PFC.coe (hr.coe1 fun S' _ _ => ?_)
      refine call_is (p_trim hb (by omega)) ?_
      rw [hv]
      repeat (first | (with_reducible refine pv_seq fun K hK => ?_) | (with_reducible refine pv_reg ?_; simp -implicitDefEqProofs only [cmpB]) | (fail) | ((with_reducible first | refine hK _ _ ?_ | (clear hK; refine hK _ _ ?_) | (clear hK; clear hK; refine hK _ _ ?_)); clear hK; try clear K) | (simp -implicitDefEqProofs only [tdiv32, tmod32, hq, hr, true_and, go_sem, seval]) | (with_reducible intro b) | (with_reducible refine And.intro ?_ ?_; · first | assumption | omega | (unfold R64; omega)))
    clear hK
    refine pv_loop (fun e S => ∃ (i : Nat) (os : List Nat), i ≤ A.length ∧ os.length = q + A.length + 1 ∧ B32 os ∧ os.getD (q + i) 0 < 2 ^ r ∧ (∀ j, q + i < j → os.getD j 0 = 0) ∧ nval 4294967296 os + 4294967296 ^ (q + i) * (2 ^ r * nval 4294967296 (A.drop i)) = 4294967296 ^ q * (2 ^ r * nval 4294967296 A) ∧ e 0 = W32 A ∧ e 1 = i64 n ∧ e 5 = .own (.l 17) b 0 (q + A.length + 1) (q + A.length + 1) 1 ∧ e 6 = i64 i ∧ S (.l 17) = some ⟨b, 1, 0, rS (eK .u32) os⟩) (fun e _ => A.length - (intD (e 6)).toNat) ?_ ?_
    · refine ⟨0, List.replicate (q + A.length + 1) 0, by omega, by simp, fun x hx => by rw [List.eq_of_mem_replicate hx]; decide, ?_, fun j _ => ?_, ?_, (by simp -implicitDefEqProofs only [tdiv32, tmod32, hq, hr, true_and, go_sem, seval]), (by simp -implicitDefEqProofs only [tdiv32, tmod32, hq, hr, true_and, go_sem, seval]), (by simp -implicitDefEqProofs only [tdiv32, tmod32, hq, hr, true_and, go_sem, seval]), (by simp -implicitDefEqProofs only [tdiv32, tmod32, hq, hr, true_and, go_sem, seval]), ?_⟩
      · rw [getD_rep]; exact Nat.two_pow_pos _
      · rw [getD_rep]
      · rw [nval_zeros _ _ (fun y hy => List.eq_of_mem_replicate hy), Nat.zero_add, Nat.add_zero, List.drop_zero]
      · rw [← rS_rep (f := eK .u32) (y := 0) rfl]; rfl
    · rintro e S ⟨i, os, hi, hol, hob, ho, hz, hv, g0, g1, g5, g6, hS⟩
      have hmz : (intD (e 6)).toNat = i := by rw [g6]; rfl
      have ha := get_lt hbA (by decide) i
      have hm0 : A.getD i 0 % 18446744073709551616 = A.getD i 0 := Nat.mod_eq_of_lt (by omega)
      have hm1 : A.getD i 0 * 2 ^ r % 18446744073709551616 = A.getD i 0 * 2 ^ r := Nat.mod_eq_of_lt (up_lt64 hr32 ha)
      have hlow := low32 (A.getD i 0 * 2 ^ r) (up_lt64 hr32 ha)
      have hhi := up_hi32 hr32 ha
      have hpr : (2 : Nat) ^ r ≤ 2 ^ 31 := Nat.pow_le_pow_right (by decide) (by omega)
      have hor := or32_nat (os.getD (q + i) 0) (A.getD i 0 * 2 ^ r % 4294967296) (by omega) (Nat.mod_lt _ (by decide))
      have hm2 : A.getD i 0 * 2 ^ r / 4294967296 % 4294967296 = A.getD i 0 * 2 ^ r / 4294967296 := Nat.mod_eq_of_lt (by omega)
      repeat (first | (with_reducible refine pv_seq fun K hK => ?_) | (with_reducible refine pv_reg ?_; simp -implicitDefEqProofs only [cmpB]) | (fail) | ((with_reducible first | refine hK _ _ ?_ | (clear hK; refine hK _ _ ?_) | (clear hK; clear hK; refine hK _ _ ?_)); clear hK; try clear K) | (simp -implicitDefEqProofs only [tdiv32, tmod32, hq, hr, g0, g1, g5, g6, true_and, go_sem, seval]) | (with_reducible intro b) | (with_reducible refine And.intro ?_ ?_; · first | assumption | omega | (unfold R64; omega)))
      refine pv_cdD (fun ht2 => ?_) (fun ht2 => ?_)
      · have hget : (rS (eK .u32) os)[q + i]? = some [.g (.lit (.int .u32 (os.getD (q + i) 0 : Nat)))] := by
          rw [rS_get, getD_some (by omega)]; rfl
        have hget2 : ∀ x, ((rS (eK .u32) os).set (q + i) x)[q + i + 1]? = some [.g (.lit (.int .u32 (os.getD (q + i + 1) 0 : Nat)))] := by
          intro x
          rw [List.getElem?_set_ne (by omega), rS_get, getD_some (by omega)]; rfl
        repeat (first | (with_reducible refine pv_seq fun K hK => ?_) | (with_reducible refine pv_reg ?_; simp -implicitDefEqProofs only [cmpB]) | (fail) | ((with_reducible first | refine hK _ _ ?_ | (clear hK; refine hK _ _ ?_) | (clear hK; clear hK; refine hK _ _ ?_)); clear hK; try clear K) | (simp -implicitDefEqProofs only [tdiv32, tmod32, hq, hr, g0, g1, g5, g6, hS, hm0, hm1, hm2, hlow, hor, hr64, hget, hget2, Nat.mod_mod, Nat.zero_add, D.one, Nat.le_refl, true_and, go_sem, seval]) | (with_reducible intro b) | (with_reducible refine And.intro ?_ ?_; · first | assumption | omega | (unfold R64; omega)))
        refine ⟨⟨i + 1, (os.set (q + i) (os.getD (q + i) 0 ||| A.getD i 0 * 2 ^ r % 4294967296)).set (q + i + 1) (A.getD i 0 * 2 ^ r / 4294967296), by omega, by simp [hol], ?_, ?_, fun j hj => ?_, left_step hr32 hbA ht2 hol ho hz hv, rfl, ?_⟩, ?_⟩
        · exact set_lt (set_lt hob (up_lt32 hr32 ho ha)) (by omega)
        · rw [getD_set, if_pos ⟨by omega, by rw [List.length_set]; omega⟩]; exact hhi
        · rw [getD_set, if_neg (by omega), getD_set, if_neg (by omega)]; exact hz j (by omega)
        · rw [← rS_set (f := eK .u32) (y := A.getD i 0 * 2 ^ r / 4294967296) rfl, ← rS_set (f := eK .u32) (y := os.getD (q + i) 0 ||| A.getD i 0 * 2 ^ r % 4294967296) rfl]; rfl
        · simp only [intD]; omega
      · repeat (first | (with_reducible refine pv_seq fun K hK => ?_) | (with_reducible refine pv_reg ?_; simp -implicitDefEqProofs only [cmpB]) | (fail) | ((with_reducible first | refine hK _ _ ?_ | (clear hK; refine hK _ _ ?_) | (clear hK; clear hK; refine hK _ _ ?_)); clear hK; try clear K) | (simp -implicitDefEqProofs only [tdiv32, tmod32, hq, hr, g0, g1, g5, g6, true_and, go_sem, seval]) | (with_reducible intro b) | (with_reducible refine And.intro ?_ ?_; · first | assumption | omega | (unfold R64; omega)))
        obtain rfl : i = A.length := by omega
        refine J _ _ os (by try simp -implicitDefEqProofs only [tdiv32, tmod32, hq, hr, g0, g1, g5, g6, true_and, go_sem, seval]; exact .own (by rw [rS_len]; omega) hS) hob ?_ (by omega)
        rw [nval_drop_all (Nat.le_refl _), Nat.mul_zero, Nat.mul_zero, Nat.add_zero] at hv
        rw [N32, hv, ← hnq, Nat.pow_add, Nat.pow_mul]
        rw [show (2 : Nat) ^ 32 = 4294967296 from rfl, N32, Nat.mul_comm (nval _ _), Nat.mul_assoc]

end Go.V

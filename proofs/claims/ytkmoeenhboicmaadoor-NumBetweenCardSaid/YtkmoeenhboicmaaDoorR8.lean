/- The document's numbers: products, over values as data. -/
import Derived.Test.YtkmoeenhboicmaaDoorR0
import Derived.Test.YtkmoeenhboicmaaDoorN5
set_option linter.unusedSimpArgs false
set_option linter.unusedVariables false
set_option maxRecDepth 100000
namespace Go.V
open Go Go.RowKit Go.Proofs

theorem mul_s {a b c o : Nat} (ha : a < 4294967296) (hb : b < 4294967296) (hc : c < 4294967296) (ho : o < 4294967296) : c + (a * b + o) < 18446744073709551616 := by
  have := Nat.mul_le_mul (Nat.le_sub_one_of_lt ha) (Nat.le_sub_one_of_lt hb)
  omega
/-- One digit of the product. -/
theorem mul_step32 {os B : List Nat} {k j a c E T : Nat} (hk : k < os.length)
    (hv : nval 4294967296 os + 4294967296 ^ k * (c + a * nval 4294967296 (B.drop j)) + E = T) :
    nval 4294967296 (os.set k ((c + (a * B.getD j 0 + os.getD k 0)) % 4294967296)) + 4294967296 ^ (k + 1) * ((c + (a * B.getD j 0 + os.getD k 0)) / 4294967296 + a * nval 4294967296 (B.drop (j + 1))) + E = T := by
  have h1 := nval_set (B := 4294967296) (y := (c + (a * B.getD j 0 + os.getD k 0)) % 4294967296) hk
  rw [drop_step B (i := j)] at hv
  rw [← hv, Nat.pow_succ]
  have h2 := Nat.mod_add_div (c + (a * B.getD j 0 + os.getD k 0)) 4294967296
  generalize (c + (a * B.getD j 0 + os.getD k 0)) % 4294967296 = s at *
  generalize (c + (a * B.getD j 0 + os.getD k 0)) / 4294967296 = c' at *
  generalize nval 4294967296 (B.drop (j + 1)) = u at *
  generalize (4294967296 : Nat) ^ k = W at *
  have e1 : W * s + W * (4294967296 * c') = W * c + (W * (a * B.getD j 0) + W * os.getD k 0) := by rw [← Nat.mul_add, h2, Nat.mul_add, Nat.mul_add]
  have e2 : W * (c + a * (B.getD j 0 + 4294967296 * u)) = W * c + W * (a * B.getD j 0) + W * (4294967296 * (a * u)) := by
    rw [Nat.mul_add a, Nat.mul_left_comm a, Nat.mul_add, Nat.mul_add, Nat.add_assoc]
  have e3 : W * 4294967296 * (c' + a * u) = W * (4294967296 * c') + W * (4294967296 * (a * u)) := by rw [Nat.mul_assoc, Nat.mul_add, Nat.mul_add]
  rw [e2, e3]
  omega

theorem p_rMul {A B : List Nat} (hbA : B32 A) (hbB : B32 B) (hlA : A.length ≤ 1099511627776) (hlB : B.length ≤ 1099511627776) : PC Tryd.prog 93 [W32 A, W32 B] fun d => d = W32 (D32 (N32 A * N32 B)) := by
  refine PC.body (args := [W32 A, W32 B]) (rs := [.tmp 4]) mixed Tryd.func93 rfl (by kernel_rfl) (by kernel_rfl) (Nat.le_of_ble_eq_true rfl) rfl ?_
  repeat (first | (with_reducible refine pv_seq fun K hK => ?_) | (with_reducible refine pv_reg ?_; simp -implicitDefEqProofs only [cmpB]) | (with_reducible refine pv_draw (id := 9) [(0, 0), (1, 0), (2, 0), (3, 0), (4, 1), (5, 0), (6, 0), (7, 0), (8, 0), (9, 1), (10, 0), (11, 0), (12, 0), (13, 0), (14, 0), (15, 0), (16, 0), (17, 1), (18, 0), (19, 0), (20, 0), (21, 0)] (by kernel_rfl) ?_; simp -implicitDefEqProofs only [cmpB]) | ((with_reducible first | refine hK _ _ ?_ | (clear hK; refine hK _ _ ?_) | (clear hK; clear hK; refine hK _ _ ?_)); clear hK; try clear K) | (simp -implicitDefEqProofs only [true_and, go_sem, seval]) | (with_reducible intro b) | (with_reducible refine And.intro ?_ ?_; · first | assumption | omega | (unfold R64; omega)))
  have J : ∀ (e : DEnv) (S : Store) (os : List Nat), RowD S (.l 14) 1 (e 5) (rS (eK .u32) os) → B32 os → N32 os = N32 A * N32 B → os.length ≤ 3298534883329 → K e S := by
    intro e S os hr hb hv hl
    repeat (first | (with_reducible refine pv_seq fun K hK => ?_) | (with_reducible refine pv_reg ?_; simp -implicitDefEqProofs only [cmpB]) | (with_reducible refine pv_draw (id := 9) [(0, 0), (1, 0), (2, 0), (3, 0), (4, 1), (5, 0), (6, 0), (7, 0), (8, 0), (9, 1), (10, 0), (11, 0), (12, 0), (13, 0), (14, 0), (15, 0), (16, 0), (17, 1), (18, 0), (19, 0), (20, 0), (21, 0)] (by kernel_rfl) ?_; simp -implicitDefEqProofs only [cmpB]) | ((with_reducible first | refine hK _ _ ?_ | (clear hK; refine hK _ _ ?_) | (clear hK; clear hK; refine hK _ _ ?_)); clear hK; try clear K) | (simp -implicitDefEqProofs only [true_and, go_sem, seval]) | (with_reducible intro b) | (with_reducible refine And.intro ?_ ?_; · first | assumption | omega | (unfold R64; omega)))
    refine PFC.coe (hr.coe1 fun S' _ _ => ?_)
    refine call_is (p_trim hb (by omega)) ?_
    rw [hv]
    repeat (first | (with_reducible refine pv_seq fun K hK => ?_) | (with_reducible refine pv_reg ?_; simp -implicitDefEqProofs only [cmpB]) | (with_reducible refine pv_draw (id := 9) [(0, 0), (1, 0), (2, 0), (3, 0), (4, 1), (5, 0), (6, 0), (7, 0), (8, 0), (9, 1), (10, 0), (11, 0), (12, 0), (13, 0), (14, 0), (15, 0), (16, 0), (17, 1), (18, 0), (19, 0), (20, 0), (21, 0)] (by kernel_rfl) ?_; simp -implicitDefEqProofs only [cmpB]) | ((with_reducible first | refine hK _ _ ?_ | (clear hK; refine hK _ _ ?_) | (clear hK; clear hK; refine hK _ _ ?_)); clear hK; try clear K) | (simp -implicitDefEqProofs only [true_and, go_sem, seval]) | (with_reducible intro b) | (with_reducible refine And.intro ?_ ?_; · first | assumption | omega | (unfold R64; omega)))
  clear hK
  refine pv_loop (fun e S => ∃ (i : Nat) (os : List Nat), i ≤ A.length ∧ os.length = A.length + B.length ∧ B32 os ∧ (∀ j, i + B.length ≤ j → os.getD j 0 = 0) ∧ nval 4294967296 os + 4294967296 ^ i * (nval 4294967296 (A.drop i) * nval 4294967296 B) = nval 4294967296 A * nval 4294967296 B ∧ e 0 = W32 A ∧ e 1 = W32 B ∧ e 5 = .own (.l 14) b 0 (A.length + B.length) (A.length + B.length) 1 ∧ e 6 = i64 i ∧ S (.l 14) = some ⟨b, 1, 0, rS (eK .u32) os⟩) (fun e _ => A.length - (intD (e 6)).toNat) ?_ ?_
  · refine ⟨0, List.replicate (A.length + B.length) 0, by omega, by simp, fun x hx => by rw [List.eq_of_mem_replicate hx]; decide, fun j _ => ?_, ?_, (by simp -implicitDefEqProofs only [true_and, go_sem, seval]), (by simp -implicitDefEqProofs only [true_and, go_sem, seval]), (by simp -implicitDefEqProofs only [true_and, go_sem, seval]), (by simp -implicitDefEqProofs only [true_and, go_sem, seval]), ?_⟩
    · simp only [List.getD, List.getElem?_replicate]; split <;> rfl
    · rw [nval_zeros _ _ (fun y hy => List.eq_of_mem_replicate hy), Nat.zero_add, Nat.pow_zero, Nat.one_mul, List.drop_zero]
    · rw [← rS_rep (f := eK .u32) (y := 0) rfl]; rfl
  · rintro e S ⟨i, os, hi, hol, hob, hz, hv, g0, g1, g5, g6, hS⟩
    have hmz : (intD (e 6)).toNat = i := by rw [g6]; rfl
    repeat (first | (with_reducible refine pv_seq fun K hK => ?_) | (with_reducible refine pv_reg ?_; simp -implicitDefEqProofs only [cmpB]) | (with_reducible refine pv_draw (id := 9) [(0, 0), (1, 0), (2, 0), (3, 0), (4, 1), (5, 0), (6, 0), (7, 0), (8, 0), (9, 1), (10, 0), (11, 0), (12, 0), (13, 0), (14, 0), (15, 0), (16, 0), (17, 1), (18, 0), (19, 0), (20, 0), (21, 0)] (by kernel_rfl) ?_; simp -implicitDefEqProofs only [cmpB]) | ((with_reducible first | refine hK _ _ ?_ | (clear hK; refine hK _ _ ?_) | (clear hK; clear hK; refine hK _ _ ?_)); clear hK; try clear K) | (simp -implicitDefEqProofs only [g0, g1, g5, g6, true_and, go_sem, seval]) | (with_reducible intro b) | (with_reducible refine And.intro ?_ ?_; · first | assumption | omega | (unfold R64; omega)))
    refine pv_cdD (fun ht => ?_) (fun ht => ?_)
    · repeat (first | (with_reducible refine pv_seq fun K hK => ?_) | (with_reducible refine pv_reg ?_; simp -implicitDefEqProofs only [cmpB]) | (with_reducible refine pv_draw (id := 9) [(0, 0), (1, 0), (2, 0), (3, 0), (4, 1), (5, 0), (6, 0), (7, 0), (8, 0), (9, 1), (10, 0), (11, 0), (12, 0), (13, 0), (14, 0), (15, 0), (16, 0), (17, 1), (18, 0), (19, 0), (20, 0), (21, 0)] (by kernel_rfl) ?_; simp -implicitDefEqProofs only [cmpB]) | ((with_reducible first | refine hK _ _ ?_ | (clear hK; refine hK _ _ ?_) | (clear hK; clear hK; refine hK _ _ ?_)); clear hK; try clear K) | (simp -implicitDefEqProofs only [g0, g1, g5, g6, true_and, go_sem, seval]) | (with_reducible intro b) | (with_reducible refine And.intro ?_ ?_; · first | assumption | omega | (unfold R64; omega)))
      have J2 : ∀ (e : DEnv) (S : Store) (os : List Nat) (c : Nat), os.length = A.length + B.length → B32 os → (∀ j, i + B.length ≤ j → os.getD j 0 = 0) → c < 4294967296 → nval 4294967296 os + 4294967296 ^ (i + B.length) * c + 4294967296 ^ (i + 1) * (nval 4294967296 (A.drop (i + 1)) * nval 4294967296 B) = nval 4294967296 A * nval 4294967296 B → e 0 = W32 A → e 1 = W32 B → e 5 = .own (.l 14) b 0 (A.length + B.length) (A.length + B.length) 1 → e 6 = i64 i → e 7 = .g (.lit (.int .u64 c)) → S (.l 14) = some ⟨b, 1, 0, rS (eK .u32) os⟩ → K e S := by
        intro e S os c hol hob hz hc hv g0 g1 g5 g6 g7 hS
        have hm : c % 4294967296 = c := Nat.mod_eq_of_lt hc
        have hget : (rS (eK .u32) os)[i + B.length]? = some [.g (.lit (.int .u32 (os.getD (i + B.length) 0 : Nat)))] := by
          rw [rS_get, getD_some (by omega)]; rfl
        repeat (first | (with_reducible refine pv_seq fun K hK => ?_) | (with_reducible refine pv_reg ?_; simp -implicitDefEqProofs only [cmpB]) | (with_reducible refine pv_draw (id := 9) [(0, 0), (1, 0), (2, 0), (3, 0), (4, 1), (5, 0), (6, 0), (7, 0), (8, 0), (9, 1), (10, 0), (11, 0), (12, 0), (13, 0), (14, 0), (15, 0), (16, 0), (17, 1), (18, 0), (19, 0), (20, 0), (21, 0)] (by kernel_rfl) ?_; simp -implicitDefEqProofs only [cmpB]) | ((with_reducible first | refine hK _ _ ?_ | (clear hK; refine hK _ _ ?_) | (clear hK; clear hK; refine hK _ _ ?_)); clear hK; try clear K) | (simp -implicitDefEqProofs only [g0, g1, g5, g6, g7, hS, hm, hget, Nat.zero_add, D.one, Nat.le_refl, true_and, go_sem, seval]) | (with_reducible intro b) | (with_reducible refine And.intro ?_ ?_; · first | assumption | omega | (unfold R64; omega)))
        refine ⟨⟨i + 1, os.set (i + B.length) c, by omega, by simp [hol], ?_, fun j hj => ?_, ?_, rfl, ?_⟩, ?_⟩
        · exact set_lt hob hc
        · rw [getD_set, if_neg (by omega)]; exact hz j (by omega)
        · have h1 := nval_set (B := 4294967296) (y := c) (show i + B.length < os.length by omega)
          rw [hz _ (Nat.le_refl _), Nat.mul_zero, Nat.add_zero] at h1
          rw [h1]; exact hv
        · rw [← rS_set (f := eK .u32) (y := c) rfl]; rfl
        · rw [hmz]; simp only [intD]; omega
      clear hK
      refine pv_loop (fun e S => ∃ (j c : Nat) (os : List Nat), j ≤ B.length ∧ c < 4294967296 ∧ os.length = A.length + B.length ∧ B32 os ∧ (∀ j, i + B.length ≤ j → os.getD j 0 = 0) ∧ nval 4294967296 os + 4294967296 ^ (i + j) * (c + A.getD i 0 * nval 4294967296 (B.drop j)) + 4294967296 ^ (i + 1) * (nval 4294967296 (A.drop (i + 1)) * nval 4294967296 B) = nval 4294967296 A * nval 4294967296 B ∧ e 0 = W32 A ∧ e 1 = W32 B ∧ e 5 = .own (.l 14) b 0 (A.length + B.length) (A.length + B.length) 1 ∧ e 6 = i64 i ∧ e 7 = .g (.lit (.int .u64 c)) ∧ e 8 = i64 j ∧ S (.l 14) = some ⟨b, 1, 0, rS (eK .u32) os⟩) (fun e _ => B.length - (intD (e 8)).toNat) ?_ ?_
      · refine ⟨0, 0, os, by omega, by omega, hol, hob, hz, ?_, (by simp -implicitDefEqProofs only [g0, g1, g5, g6, true_and, go_sem, seval]), (by simp -implicitDefEqProofs only [g0, g1, g5, g6, true_and, go_sem, seval]), (by simp -implicitDefEqProofs only [g0, g1, g5, g6, true_and, go_sem, seval]), (by simp -implicitDefEqProofs only [g0, g1, g5, g6, true_and, go_sem, seval]), rfl, (by simp -implicitDefEqProofs only [g0, g1, g5, g6, true_and, go_sem, seval]), hS⟩
        rw [← hv, drop_step A (i := i), Nat.add_zero, List.drop_zero, Nat.zero_add, Nat.add_assoc, Nat.pow_succ, Nat.add_mul, Nat.mul_add, Nat.mul_assoc, Nat.mul_assoc]
      · clear hv hz hob hol hS g0 g1 g5 g6 hmz
        rintro e S ⟨j, c, os, hj, hc, hol, hob, hz, hv, g0, g1, g5, g6, g7, g8, hS⟩
        have hmz : (intD (e 8)).toNat = j := by rw [g8]; rfl
        have ha := get_lt hbA (by decide) i
        have hb := get_lt hbB (by decide) j
        have ho := get_lt hob (by decide) (i + j)
        have hs := mul_s ha hb hc ho
        have hma : A.getD i 0 % 18446744073709551616 = A.getD i 0 := Nat.mod_eq_of_lt (by omega)
        have hmb : B.getD j 0 % 18446744073709551616 = B.getD j 0 := Nat.mod_eq_of_lt (by omega)
        have hmo : os.getD (i + j) 0 % 18446744073709551616 = os.getD (i + j) 0 := Nat.mod_eq_of_lt (by omega)
        have hm1 : A.getD i 0 * B.getD j 0 % 18446744073709551616 = A.getD i 0 * B.getD j 0 := Nat.mod_eq_of_lt (by omega)
        have hm2 : (A.getD i 0 * B.getD j 0 + os.getD (i + j) 0) % 18446744073709551616 = A.getD i 0 * B.getD j 0 + os.getD (i + j) 0 := Nat.mod_eq_of_lt (by omega)
        have hm3 : (c + (A.getD i 0 * B.getD j 0 + os.getD (i + j) 0)) % 18446744073709551616 = c + (A.getD i 0 * B.getD j 0 + os.getD (i + j) 0) := Nat.mod_eq_of_lt hs
        have hlow := low32 (c + (A.getD i 0 * B.getD j 0 + os.getD (i + j) 0)) hs
        repeat (first | (with_reducible refine pv_seq fun K hK => ?_) | (with_reducible refine pv_reg ?_; simp -implicitDefEqProofs only [cmpB]) | (with_reducible refine pv_draw (id := 9) [(0, 0), (1, 0), (2, 0), (3, 0), (4, 1), (5, 0), (6, 0), (7, 0), (8, 0), (9, 1), (10, 0), (11, 0), (12, 0), (13, 0), (14, 0), (15, 0), (16, 0), (17, 1), (18, 0), (19, 0), (20, 0), (21, 0)] (by kernel_rfl) ?_; simp -implicitDefEqProofs only [cmpB]) | ((with_reducible first | refine hK _ _ ?_ | (clear hK; refine hK _ _ ?_) | (clear hK; clear hK; refine hK _ _ ?_)); clear hK; try clear K) | (simp -implicitDefEqProofs only [g0, g1, g5, g6, g7, g8, true_and, go_sem, seval]) | (with_reducible intro b) | (with_reducible refine And.intro ?_ ?_; · first | assumption | omega | (unfold R64; omega)))
        refine pv_cdD (fun ht2 => ?_) (fun ht2 => ?_)
        · have hget : (rS (eK .u32) os)[i + j]? = some [.g (.lit (.int .u32 (os.getD (i + j) 0 : Nat)))] := by
            rw [rS_get, getD_some (by omega)]; rfl
          repeat (first | (with_reducible refine pv_seq fun K hK => ?_) | (with_reducible refine pv_reg ?_; simp -implicitDefEqProofs only [cmpB]) | (with_reducible refine pv_draw (id := 9) [(0, 0), (1, 0), (2, 0), (3, 0), (4, 1), (5, 0), (6, 0), (7, 0), (8, 0), (9, 1), (10, 0), (11, 0), (12, 0), (13, 0), (14, 0), (15, 0), (16, 0), (17, 1), (18, 0), (19, 0), (20, 0), (21, 0)] (by kernel_rfl) ?_; simp -implicitDefEqProofs only [cmpB]) | ((with_reducible first | refine hK _ _ ?_ | (clear hK; refine hK _ _ ?_) | (clear hK; clear hK; refine hK _ _ ?_)); clear hK; try clear K) | (simp -implicitDefEqProofs only [g0, g1, g5, g6, g7, g8, hS, hget, hma, hmb, hmo, hm1, hm2, hm3, hlow, Nat.mod_mod, Nat.zero_add, D.one, Nat.le_refl, true_and, go_sem, seval]) | (with_reducible intro b) | (with_reducible refine And.intro ?_ ?_; · first | assumption | omega | (unfold R64; omega)))
          refine ⟨⟨j + 1, (c + (A.getD i 0 * B.getD j 0 + os.getD (i + j) 0)) / 4294967296, os.set (i + j) ((c + (A.getD i 0 * B.getD j 0 + os.getD (i + j) 0)) % 4294967296), by omega, by omega, by simp [hol], ?_, fun m hm => ?_, ?_, rfl, rfl, ?_⟩, ?_⟩
          · exact set_lt hob (by omega)
          · rw [getD_set, if_neg (by omega)]; exact hz m hm
          · exact mul_step32 (by omega) hv
          · rw [← rS_set (f := eK .u32) (y := (c + (A.getD i 0 * B.getD j 0 + os.getD (i + j) 0)) % 4294967296) rfl]; rfl
          · simp only [intD]; omega
        · repeat (first | (with_reducible refine pv_seq fun K hK => ?_) | (with_reducible refine pv_reg ?_; simp -implicitDefEqProofs only [cmpB]) | (with_reducible refine pv_draw (id := 9) [(0, 0), (1, 0), (2, 0), (3, 0), (4, 1), (5, 0), (6, 0), (7, 0), (8, 0), (9, 1), (10, 0), (11, 0), (12, 0), (13, 0), (14, 0), (15, 0), (16, 0), (17, 1), (18, 0), (19, 0), (20, 0), (21, 0)] (by kernel_rfl) ?_; simp -implicitDefEqProofs only [cmpB]) | ((with_reducible first | refine hK _ _ ?_ | (clear hK; refine hK _ _ ?_) | (clear hK; clear hK; refine hK _ _ ?_)); clear hK; try clear K) | (simp -implicitDefEqProofs only [g0, g1, g5, g6, g7, g8, true_and, go_sem, seval]) | (with_reducible intro b) | (with_reducible refine And.intro ?_ ?_; · first | assumption | omega | (unfold R64; omega)))
          obtain rfl : j = B.length := by omega
          refine J2 _ _ os c hol hob hz hc ?_ (by simp -implicitDefEqProofs only [g0, g1, g5, g6, g7, g8, true_and, go_sem, seval]) (by simp -implicitDefEqProofs only [g0, g1, g5, g6, g7, g8, true_and, go_sem, seval]) (by simp -implicitDefEqProofs only [g0, g1, g5, g6, g7, g8, true_and, go_sem, seval]) (by simp -implicitDefEqProofs only [g0, g1, g5, g6, g7, g8, true_and, go_sem, seval]) (by simp -implicitDefEqProofs only [g0, g1, g5, g6, g7, g8, true_and, go_sem, seval]) hS
          rw [nval_drop_all (Nat.le_refl _), Nat.mul_zero, Nat.add_zero] at hv
          exact hv
    · repeat (first | (with_reducible refine pv_seq fun K hK => ?_) | (with_reducible refine pv_reg ?_; simp -implicitDefEqProofs only [cmpB]) | (with_reducible refine pv_draw (id := 9) [(0, 0), (1, 0), (2, 0), (3, 0), (4, 1), (5, 0), (6, 0), (7, 0), (8, 0), (9, 1), (10, 0), (11, 0), (12, 0), (13, 0), (14, 0), (15, 0), (16, 0), (17, 1), (18, 0), (19, 0), (20, 0), (21, 0)] (by kernel_rfl) ?_; simp -implicitDefEqProofs only [cmpB]) | ((with_reducible first | refine hK _ _ ?_ | (clear hK; refine hK _ _ ?_) | (clear hK; clear hK; refine hK _ _ ?_)); clear hK; try clear K) | (simp -implicitDefEqProofs only [g0, g1, g5, g6, true_and, go_sem, seval]) | (with_reducible intro b) | (with_reducible refine And.intro ?_ ?_; · first | assumption | omega | (unfold R64; omega)))
      obtain rfl : i = A.length := by omega
      refine J _ _ os (by try simp -implicitDefEqProofs only [g0, g1, g5, g6, true_and, go_sem, seval]; exact .own (by rw [rS_len]; omega) hS) hob ?_ (by omega)
      rw [nval_drop_all (Nat.le_refl _), Nat.zero_mul, Nat.mul_zero, Nat.add_zero] at hv
      exact hv

end Go.V

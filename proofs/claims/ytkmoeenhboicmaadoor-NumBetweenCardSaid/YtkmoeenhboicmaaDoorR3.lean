/- The document's numbers: trim, digit, over values as data. -/
import Derived.Test.YtkmoeenhboicmaaDoorB
import Derived.Test.YtkmoeenhboicmaaDoorR2
set_option linter.unusedSimpArgs false
set_option linter.unusedVariables false
set_option maxRecDepth 100000
namespace Go.V
open Go Go.RowKit Go.Proofs

def intD : D → Int | .g (.lit (.int _ q)) => q | _ => 0

theorem p_digit {xs : List Nat} {i : Nat} (hx : B32 xs) : PC Tryd.prog 80 [W32 xs, i64 i] fun d => d = .g (.lit (.int .u64 (xs.getD i 0 : Nat))) := by
  refine PC.body (args := [W32 xs, i64 i]) (rs := [.tmp 4]) mixed Tryd.func80 rfl (by kernel_rfl) (by kernel_rfl) (Nat.le_of_ble_eq_true rfl) rfl ?_
  have h1 := get_lt hx (by decide) i
  by_cases hi : i < xs.length
  · repeat (first | (with_reducible refine pv_seq fun K hK => ?_) | (with_reducible refine pv_reg ?_; simp -implicitDefEqProofs only [cmpB]) | (fail) | ((with_reducible first | refine hK _ _ ?_ | (clear hK; refine hK _ _ ?_) | (clear hK; clear hK; refine hK _ _ ?_)); clear hK; try clear K) | (simp -implicitDefEqProofs only [true_and, go_sem, seval]) | (with_reducible intro b) | (with_reducible refine And.intro ?_ ?_; · first | assumption | omega | (unfold R64; omega)))
    simp only [hi]
    repeat (first | (with_reducible refine pv_seq fun K hK => ?_) | (with_reducible refine pv_reg ?_; simp -implicitDefEqProofs only [cmpB]) | (fail) | ((with_reducible first | refine hK _ _ ?_ | (clear hK; refine hK _ _ ?_) | (clear hK; clear hK; refine hK _ _ ?_)); clear hK; try clear K) | (simp -implicitDefEqProofs only [true_and, go_sem, seval]) | (with_reducible intro b) | (with_reducible refine And.intro ?_ ?_; · first | assumption | omega | (unfold R64; omega)))
    rw [Nat.mod_eq_of_lt (by omega)]
  · repeat (first | (with_reducible refine pv_seq fun K hK => ?_) | (with_reducible refine pv_reg ?_; simp -implicitDefEqProofs only [cmpB]) | (fail) | ((with_reducible first | refine hK _ _ ?_ | (clear hK; refine hK _ _ ?_) | (clear hK; clear hK; refine hK _ _ ?_)); clear hK; try clear K) | (simp -implicitDefEqProofs only [true_and, go_sem, seval]) | (with_reducible intro b) | (with_reducible refine And.intro ?_ ?_; · first | assumption | omega | (unfold R64; omega)))
    simp only [hi]
    repeat (first | (with_reducible refine pv_seq fun K hK => ?_) | (with_reducible refine pv_reg ?_; simp -implicitDefEqProofs only [cmpB]) | (fail) | ((with_reducible first | refine hK _ _ ?_ | (clear hK; refine hK _ _ ?_) | (clear hK; clear hK; refine hK _ _ ?_)); clear hK; try clear K) | (simp -implicitDefEqProofs only [true_and, go_sem, seval]) | (with_reducible intro b) | (with_reducible refine And.intro ?_ ?_; · first | assumption | omega | (unfold R64; omega)))
    simp [List.getD, List.getElem?_eq_none (Nat.le_of_not_lt hi)]

theorem p_trim {xs : List Nat} (hx : B32 xs) (hl : xs.length ≤ 140737488355328) : PC Tryd.prog 67 [W32 xs] fun d => d = W32 (D32 (N32 xs)) := by
  refine PC.body (args := [W32 xs]) (rs := [.tmp 2]) mixed Tryd.func67 rfl (by kernel_rfl) (by kernel_rfl) (Nat.le_of_ble_eq_true rfl) rfl ?_
  repeat (first | (with_reducible refine pv_seq fun K hK => ?_) | (with_reducible refine pv_reg ?_; simp -implicitDefEqProofs only [cmpB]) | (fail) | ((with_reducible first | refine hK _ _ ?_ | (clear hK; refine hK _ _ ?_) | (clear hK; clear hK; refine hK _ _ ?_)); clear hK; try clear K) | (simp -implicitDefEqProofs only [true_and, go_sem, seval]) | (with_reducible intro b) | (with_reducible refine And.intro ?_ ?_; · first | assumption | omega | (unfold R64; omega)))
  have J : ∀ (e : DEnv) (S : Store) (k : Nat), k ≤ xs.length → e 0 = W32 xs → e 3 = i64 k → (∀ j, k ≤ j → xs.getD j 0 = 0) → (k ≠ 0 → xs.getD (k - 1) 0 ≠ 0) → K e S := by
    intro e S k hk g0 g3 hz hnz
    have ht : xs.take k = D32 (N32 xs) := take_digs two32 hx hk hz hnz
    repeat (first | (with_reducible refine pv_seq fun K hK => ?_) | (with_reducible refine pv_reg ?_; simp -implicitDefEqProofs only [cmpB]) | (fail) | ((with_reducible first | refine hK _ _ ?_ | (clear hK; refine hK _ _ ?_) | (clear hK; clear hK; refine hK _ _ ?_)); clear hK; try clear K) | (simp -implicitDefEqProofs only [g0, g3, List.drop_zero, Int.toNat_zero, true_and, go_sem, seval]) | (with_reducible intro b) | (with_reducible refine And.intro ?_ ?_; · first | assumption | omega | (unfold R64; omega)))
    rw [ht]
  clear hK
  refine pv_loop (fun e S => ∃ k : Nat, k ≤ xs.length ∧ e 0 = W32 xs ∧ e 3 = i64 k ∧ ∀ j, k ≤ j → xs.getD j 0 = 0) (fun e _ => (intD (e 3)).toNat) ?_ ?_
  · refine ⟨xs.length, Nat.le_refl _, ?_, ?_, fun j hj => ?_⟩
    · try simp -implicitDefEqProofs only [true_and, go_sem, seval]
    · try simp -implicitDefEqProofs only [true_and, go_sem, seval]
    · simp [List.getD, List.getElem?_eq_none hj]
  · rintro e S ⟨k, hk, g0, g3, hz⟩
    have hmz : (intD (e 3)).toNat = k := by rw [g3]; rfl
    rcases Nat.eq_zero_or_pos k with rfl | hp
    · repeat (first | (with_reducible refine pv_seq fun K hK => ?_) | (with_reducible refine pv_reg ?_; simp -implicitDefEqProofs only [cmpB]) | (fail) | ((with_reducible first | refine hK _ _ ?_ | (clear hK; refine hK _ _ ?_) | (clear hK; clear hK; refine hK _ _ ?_)); clear hK; try clear K) | (simp -implicitDefEqProofs only [g0, g3, true_and, go_sem, seval]) | (with_reducible intro b) | (with_reducible refine And.intro ?_ ?_; · first | assumption | omega | (unfold R64; omega)))
      exact J _ _ 0 (Nat.zero_le _) (by simp -implicitDefEqProofs only [g0, g3, true_and, go_sem, seval]) (by simp -implicitDefEqProofs only [g0, g3, true_and, go_sem, seval]) hz (fun h => absurd rfl h)
    · obtain ⟨m, rfl⟩ : ∃ m, k = m + 1 := ⟨k - 1, by omega⟩
      repeat (first | (with_reducible refine pv_seq fun K hK => ?_) | (with_reducible refine pv_reg ?_; simp -implicitDefEqProofs only [cmpB]) | (fail) | ((with_reducible first | refine hK _ _ ?_ | (clear hK; refine hK _ _ ?_) | (clear hK; clear hK; refine hK _ _ ?_)); clear hK; try clear K) | (simp -implicitDefEqProofs only [g0, g3, true_and, go_sem, seval]) | (with_reducible intro b) | (with_reducible refine And.intro ?_ ?_; · first | assumption | omega | (unfold R64; omega)))
      refine pv_cdD (fun ht => ?_) (fun ht => ?_)
      · repeat (first | (with_reducible refine pv_seq fun K hK => ?_) | (with_reducible refine pv_reg ?_; simp -implicitDefEqProofs only [cmpB]) | (fail) | ((with_reducible first | refine hK _ _ ?_ | (clear hK; refine hK _ _ ?_) | (clear hK; clear hK; refine hK _ _ ?_)); clear hK; try clear K) | (simp -implicitDefEqProofs only [g0, g3, true_and, go_sem, seval]) | (with_reducible intro b) | (with_reducible refine And.intro ?_ ?_; · first | assumption | omega | (unfold R64; omega)))
        refine ⟨⟨m, by omega, rfl, fun j hj => ?_⟩, ?_⟩
        · rcases Nat.lt_or_ge m j with hj' | hj'
          · exact hz j hj'
          · obtain rfl : j = m := by omega
            exact ht
        · simp only [intD]; omega
      · repeat (first | (with_reducible refine pv_seq fun K hK => ?_) | (with_reducible refine pv_reg ?_; simp -implicitDefEqProofs only [cmpB]) | (fail) | ((with_reducible first | refine hK _ _ ?_ | (clear hK; refine hK _ _ ?_) | (clear hK; clear hK; refine hK _ _ ?_)); clear hK; try clear K) | (simp -implicitDefEqProofs only [g0, g3, true_and, go_sem, seval]) | (with_reducible intro b) | (with_reducible refine And.intro ?_ ?_; · first | assumption | omega | (unfold R64; omega)))
        exact J _ _ (m + 1) hk (by simp -implicitDefEqProofs only [g0, g3, true_and, go_sem, seval]) (by simp -implicitDefEqProofs only [g0, g3, true_and, go_sem, seval]) hz (fun _ => by simpa using ht)

theorem parts_lt : ∀ {xs : List Nat}, B64 xs → B32 (parts xs)
  | [], _ => fun x hx => by simp [parts] at hx
  | x :: r, h => by
    intro y hy
    simp only [parts, List.mem_cons] at hy
    have := h x (by simp)
    rcases hy with rfl | rfl | hy
    · omega
    · omega
    · exact parts_lt (fun z hz => h z (by simp [hz])) y hy
theorem p_Part {xs : List Nat} (hx : B64 xs) (hl : xs.length ≤ 1099511627776) : PC Tryd.prog 47 [W64 xs] fun d => d = W32 (D32 (N64 xs)) := by
  refine PC.body (args := [W64 xs]) (rs := [.tmp 2]) mixed Tryd.func47 rfl (by kernel_rfl) (by kernel_rfl) (Nat.le_of_ble_eq_true rfl) rfl ?_
  repeat (first | (with_reducible refine pv_seq fun K hK => ?_) | (with_reducible refine pv_reg ?_; simp -implicitDefEqProofs only [cmpB]) | (with_reducible refine pv_draw (id := 5) [(0, 0), (1, 0), (2, 0), (3, 0), (4, 1), (5, 0), (6, 0), (7, 0), (8, 0), (9, 0), (10, 1), (11, 0), (12, 0), (13, 3), (14, 3), (15, 0)] (by kernel_rfl) ?_; simp -implicitDefEqProofs only [cmpB]) | ((with_reducible first | refine hK _ _ ?_ | (clear hK; refine hK _ _ ?_) | (clear hK; clear hK; refine hK _ _ ?_)); clear hK; try clear K) | (simp -implicitDefEqProofs only [true_and, go_sem, seval]) | (with_reducible intro b) | (with_reducible refine And.intro ?_ ?_; · first | assumption | omega | (unfold R64; omega)))
  have J : ∀ (e : DEnv) (S : Store), RowD S (.l 25) 1 (e 3) (rS (eK .u32) (parts xs)) → K e S := by
    intro e S hr
    repeat (first | (with_reducible refine pv_seq fun K hK => ?_) | (with_reducible refine pv_reg ?_; simp -implicitDefEqProofs only [cmpB]) | (with_reducible refine pv_draw (id := 5) [(0, 0), (1, 0), (2, 0), (3, 0), (4, 1), (5, 0), (6, 0), (7, 0), (8, 0), (9, 0), (10, 1), (11, 0), (12, 0), (13, 3), (14, 3), (15, 0)] (by kernel_rfl) ?_; simp -implicitDefEqProofs only [cmpB]) | ((with_reducible first | refine hK _ _ ?_ | (clear hK; refine hK _ _ ?_) | (clear hK; clear hK; refine hK _ _ ?_)); clear hK; try clear K) | (simp -implicitDefEqProofs only [true_and, go_sem, seval]) | (with_reducible intro b) | (with_reducible refine And.intro ?_ ?_; · first | assumption | omega | (unfold R64; omega)))
    refine PFC.coe (hr.coe1 fun S' _ _ => ?_)
    refine call_is (p_trim (parts_lt hx) (by rw [parts_len]; omega)) ?_
    repeat (first | (with_reducible refine pv_seq fun K hK => ?_) | (with_reducible refine pv_reg ?_; simp -implicitDefEqProofs only [cmpB]) | (with_reducible refine pv_draw (id := 5) [(0, 0), (1, 0), (2, 0), (3, 0), (4, 1), (5, 0), (6, 0), (7, 0), (8, 0), (9, 0), (10, 1), (11, 0), (12, 0), (13, 3), (14, 3), (15, 0)] (by kernel_rfl) ?_; simp -implicitDefEqProofs only [cmpB]) | ((with_reducible first | refine hK _ _ ?_ | (clear hK; refine hK _ _ ?_) | (clear hK; clear hK; refine hK _ _ ?_)); clear hK; try clear K) | (simp -implicitDefEqProofs only [true_and, go_sem, seval]) | (with_reducible intro b) | (with_reducible refine And.intro ?_ ?_; · first | assumption | omega | (unfold R64; omega)))
    exact congrArg (fun n => W32 (D32 n)) (parts_val xs)
  clear hK
  refine pv_loop (fun e S => ∃ i : Nat, i ≤ xs.length ∧ e 0 = W64 xs ∧ e 4 = i64 i ∧ RowD S (.l 25) 1 (e 3) (rS (eK .u32) (parts (xs.take i)))) (fun e _ => xs.length - (intD (e 4)).toNat) ?_ ?_
  · exact ⟨0, Nat.zero_le _, (by simp -implicitDefEqProofs only [true_and, go_sem, seval]), (by simp -implicitDefEqProofs only [true_and, go_sem, seval]), .nil⟩
  · rintro e S ⟨i, hi, g0, g4, hr⟩
    have hmz : (intD (e 4)).toNat = i := by rw [g4]; rfl
    have hlow := low32 _ (get_lt hx (by decide) i)
    repeat (first | (with_reducible refine pv_seq fun K hK => ?_) | (with_reducible refine pv_reg ?_; simp -implicitDefEqProofs only [cmpB]) | (with_reducible refine pv_draw (id := 5) [(0, 0), (1, 0), (2, 0), (3, 0), (4, 1), (5, 0), (6, 0), (7, 0), (8, 0), (9, 0), (10, 1), (11, 0), (12, 0), (13, 3), (14, 3), (15, 0)] (by kernel_rfl) ?_; simp -implicitDefEqProofs only [cmpB]) | ((with_reducible first | refine hK _ _ ?_ | (clear hK; refine hK _ _ ?_) | (clear hK; clear hK; refine hK _ _ ?_)); clear hK; try clear K) | (simp -implicitDefEqProofs only [g0, g4, hlow, true_and, go_sem, seval]) | (with_reducible intro b) | (with_reducible refine And.intro ?_ ?_; · first | assumption | omega | (unfold R64; omega)))
    refine pv_cdD (fun ht => ?_) (fun ht => ?_)
    · repeat (first | (with_reducible refine pv_seq fun K hK => ?_) | (with_reducible refine pv_reg ?_; simp -implicitDefEqProofs only [cmpB]) | (with_reducible refine pv_draw (id := 5) [(0, 0), (1, 0), (2, 0), (3, 0), (4, 1), (5, 0), (6, 0), (7, 0), (8, 0), (9, 0), (10, 1), (11, 0), (12, 0), (13, 3), (14, 3), (15, 0)] (by kernel_rfl) ?_; simp -implicitDefEqProofs only [cmpB]) | ((with_reducible first | refine hK _ _ ?_ | (clear hK; refine hK _ _ ?_) | (clear hK; clear hK; refine hK _ _ ?_)); clear hK; try clear K) | (simp -implicitDefEqProofs only [g0, g4, hlow, true_and, go_sem, seval]) | (with_reducible intro b) | (with_reducible refine And.intro ?_ ?_; · first | assumption | omega | (unfold R64; omega)))
      refine RowD.appL hr (by decide) rfl (by simp [D.one]) ?_ ?_ fun d' S' hr' hS' => ?_
      · rw [rS_len, parts_len]; simp; omega
      · rw [rS_len, parts_len]; simp; omega
      repeat (first | (with_reducible refine pv_seq fun K hK => ?_) | (with_reducible refine pv_reg ?_; simp -implicitDefEqProofs only [cmpB]) | (with_reducible refine pv_draw (id := 5) [(0, 0), (1, 0), (2, 0), (3, 0), (4, 1), (5, 0), (6, 0), (7, 0), (8, 0), (9, 0), (10, 1), (11, 0), (12, 0), (13, 3), (14, 3), (15, 0)] (by kernel_rfl) ?_; simp -implicitDefEqProofs only [cmpB]) | ((with_reducible first | refine hK _ _ ?_ | (clear hK; refine hK _ _ ?_) | (clear hK; clear hK; refine hK _ _ ?_)); clear hK; try clear K) | (simp -implicitDefEqProofs only [g0, g4, hlow, true_and, go_sem, seval]) | (with_reducible intro b) | (with_reducible refine And.intro ?_ ?_; · first | assumption | omega | (unfold R64; omega)))
      have hd : ∀ x : Nat, x < 18446744073709551616 → [[D.g (G.lit (Value.int IntKind.u32 ((x % 4294967296 % 4294967296 : Nat) : Int)))], [D.g (G.lit (Value.int IntKind.u32 ((x / 4294967296 % 4294967296 : Nat) : Int)))]] = rS (eK .u32) (parts [x]) := by
        intro x hx
        simp only [parts, rS, gl, eK, List.map_cons, List.map_nil]
        rw [Nat.mod_mod, Nat.mod_eq_of_lt (a := x / 4294967296) (by omega)]
      rw [hd _ (get_lt hx (by decide) i), rS_app, ← parts_append, ← take_one ht] at hr'
      refine ⟨⟨i + 1, by omega, rfl, hr'⟩, ?_⟩
      simp only [intD]; omega
    · repeat (first | (with_reducible refine pv_seq fun K hK => ?_) | (with_reducible refine pv_reg ?_; simp -implicitDefEqProofs only [cmpB]) | (with_reducible refine pv_draw (id := 5) [(0, 0), (1, 0), (2, 0), (3, 0), (4, 1), (5, 0), (6, 0), (7, 0), (8, 0), (9, 0), (10, 1), (11, 0), (12, 0), (13, 3), (14, 3), (15, 0)] (by kernel_rfl) ?_; simp -implicitDefEqProofs only [cmpB]) | ((with_reducible first | refine hK _ _ ?_ | (clear hK; refine hK _ _ ?_) | (clear hK; clear hK; refine hK _ _ ?_)); clear hK; try clear K) | (simp -implicitDefEqProofs only [g0, g4, hlow, true_and, go_sem, seval]) | (with_reducible intro b) | (with_reducible refine And.intro ?_ ?_; · first | assumption | omega | (unfold R64; omega)))
      obtain rfl : i = xs.length := by omega
      rw [List.take_length] at hr
      exact J _ _ (by try simp -implicitDefEqProofs only [g0, g4, hlow, true_and, go_sem, seval]; exact hr)

theorem p_Words {n : Nat} (hl : (D32 n).length ≤ 1099511627776) : PC Tryd.prog 50 [W32 (D32 n)] fun d => d = W64 (D64 n) := by
  have hx : B32 (D32 n) := digs_lt two32 n
  generalize hxs : D32 n = xs at hl hx ⊢
  refine PC.body (args := [W32 xs]) (rs := [.tmp 2]) mixed Tryd.func50 rfl (by kernel_rfl) (by kernel_rfl) (Nat.le_of_ble_eq_true rfl) rfl ?_
  repeat (first | (with_reducible refine pv_seq fun K hK => ?_) | (with_reducible refine pv_reg ?_; simp -implicitDefEqProofs only [cmpB]) | (fail) | ((with_reducible first | refine hK _ _ ?_ | (clear hK; refine hK _ _ ?_) | (clear hK; clear hK; refine hK _ _ ?_)); clear hK; try clear K) | (simp -implicitDefEqProofs only [true_and, go_sem, seval]) | (with_reducible intro b) | (with_reducible refine And.intro ?_ ?_; · first | assumption | omega | (unfold R64; omega)))
  have J : ∀ (e : DEnv) (S : Store) (os : List Nat), RowD S (.l 34) 1 (e 3) (rS (eK .u64) os) → os = D64 n → K e S := by
    intro e S os hr ho
    subst ho
    repeat (first | (with_reducible refine pv_seq fun K hK => ?_) | (with_reducible refine pv_reg ?_; simp -implicitDefEqProofs only [cmpB]) | (fail) | ((with_reducible first | refine hK _ _ ?_ | (clear hK; refine hK _ _ ?_) | (clear hK; clear hK; refine hK _ _ ?_)); clear hK; try clear K) | (simp -implicitDefEqProofs only [true_and, go_sem, seval]) | (with_reducible intro b) | (with_reducible refine And.intro ?_ ?_; · first | assumption | omega | (unfold R64; omega)))
    exact hr.coeD fun S' _ _ => rfl
  clear hK
  refine pv_loop (fun e S => ∃ (k : Nat) (os : List Nat), 2 * k ≤ xs.length + 1 ∧ e 0 = W32 xs ∧ e 4 = i64 (2 * k : Nat) ∧ os.length = k ∧ (∀ x ∈ os, x < 18446744073709551616) ∧ N64 os + 4294967296 ^ (2 * k) * N32 (xs.drop (2 * k)) = N32 xs ∧ RowD S (.l 34) 1 (e 3) (rS (eK .u64) os)) (fun e _ => xs.length + 2 - (intD (e 4)).toNat) ?_ ?_
  · exact ⟨0, [], by omega, (by simp -implicitDefEqProofs only [true_and, go_sem, seval]), (by simp -implicitDefEqProofs only [true_and, go_sem, seval]), rfl, by simp, by simp [nval], .nil⟩
  · rintro e S ⟨k, os, hk, g0, g4, hol, hob, hv, hr⟩
    have h0 := get_lt hx (by decide) (2 * k)
    have h1 := get_lt hx (by decide) (2 * k + 1)
    have hm0 : xs.getD (2 * k) 0 % 18446744073709551616 = xs.getD (2 * k) 0 := Nat.mod_eq_of_lt (by omega)
    repeat (first | (with_reducible refine pv_seq fun K hK => ?_) | (with_reducible refine pv_reg ?_; simp -implicitDefEqProofs only [cmpB]) | (fail) | ((with_reducible first | refine hK _ _ ?_ | (clear hK; refine hK _ _ ?_) | (clear hK; clear hK; refine hK _ _ ?_)); clear hK; try clear K) | (simp -implicitDefEqProofs only [g0, g4, true_and, go_sem, seval]) | (with_reducible intro b) | (with_reducible refine And.intro ?_ ?_; · first | assumption | omega | (unfold R64; omega)))
    refine pv_cdD (fun ht => ?_) (fun ht => ?_)
    · repeat (first | (with_reducible refine pv_seq fun K hK => ?_) | (with_reducible refine pv_reg ?_; simp -implicitDefEqProofs only [cmpB]) | (fail) | ((with_reducible first | refine hK _ _ ?_ | (clear hK; refine hK _ _ ?_) | (clear hK; clear hK; refine hK _ _ ?_)); clear hK; try clear K) | (simp -implicitDefEqProofs only [g0, g4, true_and, go_sem, seval]) | (with_reducible intro b) | (with_reducible refine And.intro ?_ ?_; · first | assumption | omega | (unfold R64; omega)))
      have J2 : ∀ (e1 : DEnv), e1 0 = W32 xs → e1 3 = e 3 → e1 4 = i64 (2 * k : Nat) → e1 5 = .g (.lit (.int .u64 ((xs.getD (2 * k) 0 + 4294967296 * xs.getD (2 * k + 1) 0 : Nat) : Int))) → K e1 S := by
        intro e1 k0 k3 k4 k5
        repeat (first | (with_reducible refine pv_seq fun K hK => ?_) | (with_reducible refine pv_reg ?_; simp -implicitDefEqProofs only [cmpB]) | (fail) | ((with_reducible first | refine hK _ _ ?_ | (clear hK; refine hK _ _ ?_) | (clear hK; clear hK; refine hK _ _ ?_)); clear hK; try clear K) | (simp -implicitDefEqProofs only [k0, k3, k4, k5, g4, true_and, go_sem, seval]) | (with_reducible intro b) | (with_reducible refine And.intro ?_ ?_; · first | assumption | omega | (unfold R64; omega)))
        refine RowD.appL hr (by decide) rfl (by simp [D.one]) ?_ ?_ fun d' S' hr' hS' => ?_
        · rw [rS_len]; simp; omega
        · rw [rS_len]; simp; omega
        repeat (first | (with_reducible refine pv_seq fun K hK => ?_) | (with_reducible refine pv_reg ?_; simp -implicitDefEqProofs only [cmpB]) | (fail) | ((with_reducible first | refine hK _ _ ?_ | (clear hK; refine hK _ _ ?_) | (clear hK; clear hK; refine hK _ _ ?_)); clear hK; try clear K) | (simp -implicitDefEqProofs only [k0, k3, k4, k5, g4, true_and, go_sem, seval]) | (with_reducible intro b) | (with_reducible refine And.intro ?_ ?_; · first | assumption | omega | (unfold R64; omega)))
        rw [rS_w, rS_app] at hr'
        refine ⟨⟨k + 1, os ++ [xs.getD (2 * k) 0 + 4294967296 * xs.getD (2 * k + 1) 0], by omega, by simp only [Nat.mul_add], by simp [hol], ?_, ?_, hr'⟩, ?_⟩
        · intro y hy
          simp only [List.mem_append, List.mem_singleton] at hy
          rcases hy with hy | rfl
          · exact hob y hy
          · omega
        · simp only [N32, N64] at hv ⊢
          rw [← hv, nval_append, nval_drop (i := 2 * k) ht, hol, show (18446744073709551616 : Nat) ^ k = 4294967296 ^ (2 * k) by rw [Nat.pow_mul]]
          have e1 : nval 4294967296 (xs.drop (2 * k + 1)) = xs.getD (2 * k + 1) 0 + 4294967296 * nval 4294967296 (xs.drop (2 * k + 2)) := by
            by_cases hlt : 2 * k + 1 < xs.length
            · exact nval_drop hlt
            · rw [nval_drop_all (by omega), nval_drop_all (by omega)]; simp [List.getD, List.getElem?_eq_none (Nat.le_of_not_lt hlt)]
          rw [e1, show 2 * (k + 1) = 2 * k + 2 by omega, Nat.pow_add]
          simp only [nval, Nat.mul_zero, Nat.add_zero, Nat.mul_add]
          have e2 : (4294967296 : Nat) ^ (2 * k) * 4294967296 ^ 2 * N32 (xs.drop (2 * k + 2)) = 4294967296 ^ (2 * k) * (4294967296 * (4294967296 * N32 (xs.drop (2 * k + 2)))) := by
            simp only [Nat.pow_succ, Nat.pow_zero, Nat.one_mul, Nat.mul_assoc]
          rw [e2]
          simp only [N32]
          omega
        · simp only [intD]; omega
      clear hK
      refine pv_cdD (fun ht2 => ?_) (fun ht2 => ?_)
      · repeat (first | (with_reducible refine pv_seq fun K hK => ?_) | (with_reducible refine pv_reg ?_; simp -implicitDefEqProofs only [cmpB]) | (fail) | ((with_reducible first | refine hK _ _ ?_ | (clear hK; refine hK _ _ ?_) | (clear hK; clear hK; refine hK _ _ ?_)); clear hK; try clear K) | (simp -implicitDefEqProofs only [g0, g4, hm0, true_and, go_sem, seval]) | (with_reducible intro b) | (with_reducible refine And.intro ?_ ?_; · first | assumption | omega | (unfold R64; omega)))
        have hm1 : xs.getD (2 * k + 1) 0 % 18446744073709551616 = xs.getD (2 * k + 1) 0 := Nat.mod_eq_of_lt (by omega)
        refine J2 _ (by simp -implicitDefEqProofs only [g0, g4, hm0, true_and, go_sem, seval]) (by simp -implicitDefEqProofs only [g0, g4, hm0, true_and, go_sem, seval]) (by simp -implicitDefEqProofs only [g0, g4, hm0, true_and, go_sem, seval]) ?_
        simp -implicitDefEqProofs only [g0, g4, hm0, true_and, go_sem, seval]
        rw [hm1, shl32, wrap64_nat, or64_nat _ _ (by omega) (Nat.mod_lt _ (by decide)), or_shift32 h0 h1]
      · repeat (first | (with_reducible refine pv_seq fun K hK => ?_) | (with_reducible refine pv_reg ?_; simp -implicitDefEqProofs only [cmpB]) | (fail) | ((with_reducible first | refine hK _ _ ?_ | (clear hK; refine hK _ _ ?_) | (clear hK; clear hK; refine hK _ _ ?_)); clear hK; try clear K) | (simp -implicitDefEqProofs only [g0, g4, hm0, true_and, go_sem, seval]) | (with_reducible intro b) | (with_reducible refine And.intro ?_ ?_; · first | assumption | omega | (unfold R64; omega)))
        refine J2 _ (by simp -implicitDefEqProofs only [g0, g4, hm0, true_and, go_sem, seval]) (by simp -implicitDefEqProofs only [g0, g4, hm0, true_and, go_sem, seval]) (by simp -implicitDefEqProofs only [g0, g4, hm0, true_and, go_sem, seval]) ?_
        have : xs.getD (2 * k + 1) 0 = 0 := by simp [List.getD, List.getElem?_eq_none (Nat.le_of_not_lt ht2)]
        simp -implicitDefEqProofs only [g0, g4, hm0, true_and, go_sem, seval, this, Nat.mul_zero, Nat.add_zero]
    · repeat (first | (with_reducible refine pv_seq fun K hK => ?_) | (with_reducible refine pv_reg ?_; simp -implicitDefEqProofs only [cmpB]) | (fail) | ((with_reducible first | refine hK _ _ ?_ | (clear hK; refine hK _ _ ?_) | (clear hK; clear hK; refine hK _ _ ?_)); clear hK; try clear K) | (simp -implicitDefEqProofs only [g0, g4, hm0, true_and, go_sem, seval]) | (with_reducible intro b) | (with_reducible refine And.intro ?_ ?_; · first | assumption | omega | (unfold R64; omega)))
      refine J _ _ os (by try simp -implicitDefEqProofs only [g0, g4, hm0, true_and, go_sem, seval]; exact hr) ?_
      simp only [N32] at hv
      rw [nval_drop_all (by omega), Nat.mul_zero, Nat.add_zero] at hv
      have hn : N32 xs = n := by rw [← hxs]; exact nval_digs two32 n
      exact words_digs (hv.trans hn) hob (by rw [hxs]; omega)

end Go.V

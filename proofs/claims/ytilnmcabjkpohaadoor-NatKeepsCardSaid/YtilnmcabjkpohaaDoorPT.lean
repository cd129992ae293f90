/- The document's numbers: trim, digit, over values as data. What the concrete contracts give: the functions of package nat and of the library, over values as data. -/
import Derived.Test.YtilnmcabjkpohaaDoorPC
import Derived.Test.YtilnmcabjkpohaaDoorPM
set_option linter.unusedSimpArgs false
set_option linter.unusedVariables false
set_option maxRecDepth 100000
namespace Go.V
open Go Go.RowKit Go.Proofs
def qR3_12_5 : List (Nat × Nat) := [(0, 0), (1, 0), (2, 0), (3, 0), (4, 1), (5, 0), (6, 0), (7, 0), (8, 0), (9, 0), (10, 1), (11, 0), (12, 0), (13, 3), (14, 3), (15, 0)]
attribute [go_sem] qR3_12_5

def intD : D → Int | .g (.lit (.int _ q)) => q | _ => 0

theorem p_digit {xs : List Nat} {i : Nat} (hx : B32 xs) : PC Tryd.prog 42 [W32 xs, i64 i] fun d => d = .g (.lit (.int .u64 (xs.getD i 0 : Nat))) := by
  refine PB (rs := [.tmp 4]) Tryd.func42 ?_
  have h1 := get_lt hx (by decide) i
  by_cases hi : i < xs.length
  · repeat (first | with_reducible refine pv_seq fun K hK => ?_ | ((with_reducible first | refine hK _ _ ?_ | (clear hK; refine hK _ _ ?_) | (clear hK; clear hK; refine hK _ _ ?_)); clear hK; try clear K) | refine W0 ?_ | exact Z | with_reducible intro b)
    simp only [hi]
    repeat (first | with_reducible refine pv_seq fun K hK => ?_ | ((with_reducible first | refine hK _ _ ?_ | (clear hK; refine hK _ _ ?_) | (clear hK; clear hK; refine hK _ _ ?_)); clear hK; try clear K) | refine W0 ?_ | exact Z | with_reducible intro b)
    rw [Nat.mod_eq_of_lt (by omega)]
  · repeat (first | with_reducible refine pv_seq fun K hK => ?_ | ((with_reducible first | refine hK _ _ ?_ | (clear hK; refine hK _ _ ?_) | (clear hK; clear hK; refine hK _ _ ?_)); clear hK; try clear K) | refine W0 ?_ | exact Z | with_reducible intro b)
    simp only [hi]
    repeat (first | with_reducible refine pv_seq fun K hK => ?_ | ((with_reducible first | refine hK _ _ ?_ | (clear hK; refine hK _ _ ?_) | (clear hK; clear hK; refine hK _ _ ?_)); clear hK; try clear K) | refine W0 ?_ | exact Z | with_reducible intro b)
    simp [List.getD, List.getElem?_eq_none (Nat.le_of_not_lt hi)]

theorem p_trim {xs : List Nat} (hx : B32 xs) (hl : xs.length ≤ 140737488355328) : PC Tryd.prog 33 [W32 xs] fun d => d = W32 (D32 (N32 xs)) := by
  refine PB (rs := [.tmp 2]) Tryd.func33 ?_
  repeat (first | with_reducible refine pv_seq fun K hK => ?_ | ((with_reducible first | refine hK _ _ ?_ | (clear hK; refine hK _ _ ?_) | (clear hK; clear hK; refine hK _ _ ?_)); clear hK; try clear K) | refine W0 ?_ | exact Z | with_reducible intro b)
  have J : ∀ (e : DEnv) (S : Store) (k : Nat), k ≤ xs.length → e 0 = W32 xs → e 3 = i64 k → (∀ j, k ≤ j → xs.getD j 0 = 0) → (k ≠ 0 → xs.getD (k - 1) 0 ≠ 0) → K e S := by
    intro e S k hk g0 g3 hz hnz
    have ht : xs.take k = D32 (N32 xs) := take_digs two32 hx hk hz hnz
    repeat (first | (with_reducible first | refine pv_seq fun K hK => ?_ | refine pv_reg ?_) | ((with_reducible first | refine hK _ _ ?_ | (clear hK; refine hK _ _ ?_) | (clear hK; clear hK; refine hK _ _ ?_)); clear hK; try clear K) | simp -implicitDefEqProofs only [g0, g3, List.drop_zero, Int.toNat_zero, true_and, go_sem, seval] | with_reducible intro b | (with_reducible refine And.intro ?_ ?_; · first | assumption | omega | (unfold R64; omega)))
    rw [ht]
  clear hK
  refine pv_loop (fun e S => ∃ k : Nat, k ≤ xs.length ∧ e 0 = W32 xs ∧ e 3 = i64 k ∧ ∀ j, k ≤ j → xs.getD j 0 = 0) (fun e _ => (intD (e 3)).toNat) ?_ ?_
  · refine ⟨xs.length, Nat.le_refl _, ?_, ?_, fun j hj => ?_⟩
    · try simp -implicitDefEqProofs only [ft, go_sem, seval]
    · try simp -implicitDefEqProofs only [ft, go_sem, seval]
    · simp [List.getD, List.getElem?_eq_none hj]
  · rintro e S ⟨k, hk, g0, g3, hz⟩
    have hmz : (intD (e 3)).toNat = k := by rw [g3]; rfl
    rcases Nat.eq_zero_or_pos k with rfl | hp
    · have ft := And.intro g0 g3
      repeat (first | with_reducible refine pv_seq fun K hK => ?_ | ((with_reducible first | refine hK _ _ ?_ | (clear hK; refine hK _ _ ?_) | (clear hK; clear hK; refine hK _ _ ?_)); clear hK; try clear K) | refine W0 ?_ | exact Z | with_reducible intro b)
      exact J _ _ 0 (Nat.zero_le _) Z Z hz (fun h => absurd rfl h)
    · obtain ⟨m, rfl⟩ : ∃ m, k = m + 1 := ⟨k - 1, by omega⟩
      have ft := And.intro g0 g3
      repeat (first | with_reducible refine pv_seq fun K hK => ?_ | ((with_reducible first | refine hK _ _ ?_ | (clear hK; refine hK _ _ ?_) | (clear hK; clear hK; refine hK _ _ ?_)); clear hK; try clear K) | refine W0 ?_ | exact Z | with_reducible intro b)
      refine pv_cdD (fun ht => ?_) (fun ht => ?_)
      · repeat (first | with_reducible refine pv_seq fun K hK => ?_ | ((with_reducible first | refine hK _ _ ?_ | (clear hK; refine hK _ _ ?_) | (clear hK; clear hK; refine hK _ _ ?_)); clear hK; try clear K) | refine W0 ?_ | exact Z | with_reducible intro b)
        refine ⟨⟨m, by omega, rfl, fun j hj => ?_⟩, ?_⟩
        · rcases Nat.lt_or_ge m j with hj' | hj'
          · exact hz j hj'
          · obtain rfl : j = m := by omega
            exact ht
        · simp only [intD]; omega
      · repeat (first | with_reducible refine pv_seq fun K hK => ?_ | ((with_reducible first | refine hK _ _ ?_ | (clear hK; refine hK _ _ ?_) | (clear hK; clear hK; refine hK _ _ ?_)); clear hK; try clear K) | refine W0 ?_ | exact Z | with_reducible intro b)
        exact J _ _ (m + 1) hk Z Z hz (fun _ => by simpa using ht)

theorem parts_lt : ∀ {xs : List Nat}, B64 xs → B32 (parts xs)
  | [], _ => fun x hx => by simp [parts] at hx
  | x :: r, h => by
    intro y hy
    simp only [parts, List.mem_cons] at hy
    have := h x (by simp)
    rcases hy with rfl | rfl | hy
    · omega
    · omega
    · exact parts_lt (fun z hz => h z (by simp [hz])) y hy
theorem p_Part {xs : List Nat} (hx : B64 xs) (hl : xs.length ≤ 1099511627776) : PC Tryd.prog 12 [W64 xs] fun d => d = W32 (D32 (N64 xs)) := by
  have d1 := @dl 5 qR3_12_5
  refine PB (rs := [.tmp 2]) Tryd.func12 ?_
  repeat (first | with_reducible refine pv_seq fun K hK => ?_ | ((with_reducible first | refine hK _ _ ?_ | (clear hK; refine hK _ _ ?_) | (clear hK; clear hK; refine hK _ _ ?_)); clear hK; try clear K) | refine W0 ?_ | exact Z | with_reducible intro b)
  have J : ∀ (e : DEnv) (S : Store), RowD S (.l 25) 1 (e 3) (rS (eK .u32) (parts xs)) → K e S := by
    intro e S hr
    repeat (first | with_reducible refine pv_seq fun K hK => ?_ | ((with_reducible first | refine hK _ _ ?_ | (clear hK; refine hK _ _ ?_) | (clear hK; clear hK; refine hK _ _ ?_)); clear hK; try clear K) | refine W0 ?_ | exact Z | with_reducible intro b)
    refine PFC.coe (hr.coe1 fun S' _ _ => ?_)
    repeat (first | with_reducible refine pv_seq fun K hK => ?_ | ((with_reducible first | refine hK _ _ ?_ | (clear hK; refine hK _ _ ?_) | (clear hK; clear hK; refine hK _ _ ?_)); clear hK; try clear K) | refine W0 ?_ | exact Z | with_reducible intro b | refine call_is (by exact (p_trim (parts_lt hx) (by rw [parts_len]; omega))) ?_)
    exact congrArg (fun n => W32 (D32 n)) (parts_val xs)
  clear hK
  refine pv_loop (fun e S => ∃ i : Nat, i ≤ xs.length ∧ e 0 = W64 xs ∧ e 4 = i64 i ∧ RowD S (.l 25) 1 (e 3) (rS (eK .u32) (parts (xs.take i)))) (fun e _ => xs.length - (intD (e 4)).toNat) ?_ ?_
  · exact ⟨0, Nat.zero_le _, Z, Z, .nil⟩
  · rintro e S ⟨i, hi, g0, g4, hr⟩
    have hmz : (intD (e 4)).toNat = i := by rw [g4]; rfl
    have hlow := low32 _ (get_lt hx (by decide) i)
    have ft := And.intro g0 (And.intro g4 hlow)
    repeat (first | with_reducible refine pv_seq fun K hK => ?_ | ((with_reducible first | refine hK _ _ ?_ | (clear hK; refine hK _ _ ?_) | (clear hK; clear hK; refine hK _ _ ?_)); clear hK; try clear K) | refine W0 ?_ | exact Z | with_reducible intro b)
    refine pv_cdD (fun ht => ?_) (fun ht => ?_)
    · repeat (first | with_reducible refine pv_seq fun K hK => ?_ | ((with_reducible first | refine hK _ _ ?_ | (clear hK; refine hK _ _ ?_) | (clear hK; clear hK; refine hK _ _ ?_)); clear hK; try clear K) | refine W0 ?_ | exact Z | with_reducible intro b)
      refine RowD.appL hr (by decide) rfl (by simp [D.one]) ?_ ?_ fun d' S' hr' hS' => ?_
      · rw [rS_len, parts_len]; simp; omega
      · rw [rS_len, parts_len]; simp; omega
      repeat (first | with_reducible refine pv_seq fun K hK => ?_ | ((with_reducible first | refine hK _ _ ?_ | (clear hK; refine hK _ _ ?_) | (clear hK; clear hK; refine hK _ _ ?_)); clear hK; try clear K) | refine W0 ?_ | exact Z | with_reducible intro b)
      have hd : ∀ x : Nat, x < 18446744073709551616 → [[D.g (G.lit (Value.int IntKind.u32 ((x % 4294967296 % 4294967296 : Nat) : Int)))], [D.g (G.lit (Value.int IntKind.u32 ((x / 4294967296 % 4294967296 : Nat) : Int)))]] = rS (eK .u32) (parts [x]) := by
        intro x hx
        simp only [parts, rS, gl, eK, List.map_cons, List.map_nil]
        rw [Nat.mod_mod, Nat.mod_eq_of_lt (a := x / 4294967296) (by omega)]
      rw [hd _ (get_lt hx (by decide) i), rS_app, ← parts_append, ← take_one ht] at hr'
      refine ⟨⟨i + 1, by omega, rfl, hr'⟩, ?_⟩
      simp only [intD]; omega
    · repeat (first | with_reducible refine pv_seq fun K hK => ?_ | ((with_reducible first | refine hK _ _ ?_ | (clear hK; refine hK _ _ ?_) | (clear hK; clear hK; refine hK _ _ ?_)); clear hK; try clear K) | refine W0 ?_ | exact Z | with_reducible intro b)
      obtain rfl : i = xs.length := by omega
      rw [List.take_length] at hr
      exact J _ _ (by try simp -implicitDefEqProofs only [ft, go_sem, seval]; exact hr)

theorem p_Words {n : Nat} (hl : (D32 n).length ≤ 1099511627776) : PC Tryd.prog 16 [W32 (D32 n)] fun d => d = W64 (D64 n) := by
  have hx : B32 (D32 n) := digs_lt two32 n
  generalize hxs : D32 n = xs at hl hx ⊢
  refine PB (rs := [.tmp 2]) Tryd.func16 ?_
  repeat (first | with_reducible refine pv_seq fun K hK => ?_ | ((with_reducible first | refine hK _ _ ?_ | (clear hK; refine hK _ _ ?_) | (clear hK; clear hK; refine hK _ _ ?_)); clear hK; try clear K) | refine W0 ?_ | exact Z | with_reducible intro b)
  have J : ∀ (e : DEnv) (S : Store) (os : List Nat), RowD S (.l 34) 1 (e 3) (rS (eK .u64) os) → os = D64 n → K e S := by
    intro e S os hr ho
    subst ho
    repeat (first | with_reducible refine pv_seq fun K hK => ?_ | ((with_reducible first | refine hK _ _ ?_ | (clear hK; refine hK _ _ ?_) | (clear hK; clear hK; refine hK _ _ ?_)); clear hK; try clear K) | refine W0 ?_ | exact Z | with_reducible intro b)
    exact hr.coeD fun S' _ _ => rfl
  clear hK
  refine pv_loop (fun e S => ∃ (k : Nat) (os : List Nat), 2 * k ≤ xs.length + 1 ∧ e 0 = W32 xs ∧ e 4 = i64 (2 * k : Nat) ∧ os.length = k ∧ (∀ x ∈ os, x < 18446744073709551616) ∧ N64 os + 4294967296 ^ (2 * k) * N32 (xs.drop (2 * k)) = N32 xs ∧ RowD S (.l 34) 1 (e 3) (rS (eK .u64) os)) (fun e _ => xs.length + 2 - (intD (e 4)).toNat) ?_ ?_
  · exact ⟨0, [], by omega, Z, Z, rfl, by simp, by simp [nval], .nil⟩
  · rintro e S ⟨k, os, hk, g0, g4, hol, hob, hv, hr⟩
    have h0 := get_lt hx (by decide) (2 * k)
    have h1 := get_lt hx (by decide) (2 * k + 1)
    have hm0 : xs.getD (2 * k) 0 % 18446744073709551616 = xs.getD (2 * k) 0 := Nat.mod_eq_of_lt (by omega)
    have ft := And.intro g0 g4
    repeat (first | with_reducible refine pv_seq fun K hK => ?_ | ((with_reducible first | refine hK _ _ ?_ | (clear hK; refine hK _ _ ?_) | (clear hK; clear hK; refine hK _ _ ?_)); clear hK; try clear K) | refine W0 ?_ | exact Z | with_reducible intro b)
    refine pv_cdD (fun ht => ?_) (fun ht => ?_)
    · repeat (first | with_reducible refine pv_seq fun K hK => ?_ | ((with_reducible first | refine hK _ _ ?_ | (clear hK; refine hK _ _ ?_) | (clear hK; clear hK; refine hK _ _ ?_)); clear hK; try clear K) | refine W0 ?_ | exact Z | with_reducible intro b)
      have J2 : ∀ (e1 : DEnv), e1 0 = W32 xs → e1 3 = e 3 → e1 4 = i64 (2 * k : Nat) → e1 5 = .g (.lit (.int .u64 ((xs.getD (2 * k) 0 + 4294967296 * xs.getD (2 * k + 1) 0 : Nat) : Int))) → K e1 S := by
        intro e1 k0 k3 k4 k5
        have ft := And.intro k0 (And.intro k3 (And.intro k4 (And.intro k5 g4)))
        repeat (first | with_reducible refine pv_seq fun K hK => ?_ | ((with_reducible first | refine hK _ _ ?_ | (clear hK; refine hK _ _ ?_) | (clear hK; clear hK; refine hK _ _ ?_)); clear hK; try clear K) | refine W0 ?_ | exact Z | with_reducible intro b)
        refine RowD.appL hr (by decide) rfl (by simp [D.one]) ?_ ?_ fun d' S' hr' hS' => ?_
        · rw [rS_len]; simp; omega
        · rw [rS_len]; simp; omega
        repeat (first | with_reducible refine pv_seq fun K hK => ?_ | ((with_reducible first | refine hK _ _ ?_ | (clear hK; refine hK _ _ ?_) | (clear hK; clear hK; refine hK _ _ ?_)); clear hK; try clear K) | refine W0 ?_ | exact Z | with_reducible intro b)
        rw [rS_w, rS_app] at hr'
        refine ⟨⟨k + 1, os ++ [xs.getD (2 * k) 0 + 4294967296 * xs.getD (2 * k + 1) 0], by omega, by simp only [Nat.mul_add], by simp [hol], ?_, ?_, hr'⟩, ?_⟩
        · intro y hy
          simp only [List.mem_append, List.mem_singleton] at hy
          rcases hy with hy | rfl
          · exact hob y hy
          · omega
        · simp only [N32, N64] at hv ⊢
          rw [← hv, nval_append, nval_drop (i := 2 * k) ht, hol, show (18446744073709551616 : Nat) ^ k = 4294967296 ^ (2 * k) by rw [Nat.pow_mul]]
          have e1 : nval 4294967296 (xs.drop (2 * k + 1)) = xs.getD (2 * k + 1) 0 + 4294967296 * nval 4294967296 (xs.drop (2 * k + 2)) := by
            by_cases hlt : 2 * k + 1 < xs.length
            · exact nval_drop hlt
            · rw [nval_drop_all (by omega), nval_drop_all (by omega)]; simp [List.getD, List.getElem?_eq_none (Nat.le_of_not_lt hlt)]
          rw [e1, show 2 * (k + 1) = 2 * k + 2 by omega, Nat.pow_add]
          simp only [nval, Nat.mul_zero, Nat.add_zero, Nat.mul_add]
          have e2 : (4294967296 : Nat) ^ (2 * k) * 4294967296 ^ 2 * N32 (xs.drop (2 * k + 2)) = 4294967296 ^ (2 * k) * (4294967296 * (4294967296 * N32 (xs.drop (2 * k + 2)))) := by
            simp only [Nat.pow_succ, Nat.pow_zero, Nat.one_mul, Nat.mul_assoc]
          rw [e2]
          simp only [N32]
          omega
        · simp only [intD]; omega
      clear hK
      refine pv_cdD (fun ht2 => ?_) (fun ht2 => ?_)
      · have ft := And.intro g0 (And.intro g4 hm0)
        repeat (first | with_reducible refine pv_seq fun K hK => ?_ | ((with_reducible first | refine hK _ _ ?_ | (clear hK; refine hK _ _ ?_) | (clear hK; clear hK; refine hK _ _ ?_)); clear hK; try clear K) | refine W0 ?_ | exact Z | with_reducible intro b)
        have hm1 : xs.getD (2 * k + 1) 0 % 18446744073709551616 = xs.getD (2 * k + 1) 0 := Nat.mod_eq_of_lt (by omega)
        refine J2 _ Z Z Z ?_
        simp -implicitDefEqProofs only [ft, go_sem, seval]
        rw [hm1, shl32, wrap64_nat, or64_nat _ _ (by omega) (Nat.mod_lt _ (by decide)), or_shift32 h0 h1]
      · have ft := And.intro g0 (And.intro g4 hm0)
        repeat (first | with_reducible refine pv_seq fun K hK => ?_ | ((with_reducible first | refine hK _ _ ?_ | (clear hK; refine hK _ _ ?_) | (clear hK; clear hK; refine hK _ _ ?_)); clear hK; try clear K) | refine W0 ?_ | exact Z | with_reducible intro b)
        refine J2 _ Z Z Z ?_
        have : xs.getD (2 * k + 1) 0 = 0 := by simp [List.getD, List.getElem?_eq_none (Nat.le_of_not_lt ht2)]
        simp -implicitDefEqProofs only [ft, go_sem, seval, this, Nat.mul_zero, Nat.add_zero]
    · have ft := And.intro g0 (And.intro g4 hm0)
      repeat (first | with_reducible refine pv_seq fun K hK => ?_ | ((with_reducible first | refine hK _ _ ?_ | (clear hK; refine hK _ _ ?_) | (clear hK; clear hK; refine hK _ _ ?_)); clear hK; try clear K) | refine W0 ?_ | exact Z | with_reducible intro b)
      refine J _ _ os (by try simp -implicitDefEqProofs only [ft, go_sem, seval]; exact hr) ?_
      simp only [N32] at hv
      rw [nval_drop_all (by omega), Nat.mul_zero, Nat.add_zero] at hv
      have hn : N32 xs = n := by rw [← hxs]; exact nval_digs two32 n
      exact words_digs (hv.trans hn) hob (by rw [hxs]; omega)

end Go.V
namespace Go.V
open Go Go.RowKit Go.Proofs

theorem rd_ws {I : CI} {H : Array Obj} {k : IntKind} {B : Nat} {v : Value} {xs : List Nat} (h : RdG I H (eS (eK k) xs) v) (hx : ∀ x ∈ xs, x < B) : Ws k B H v xs := by
  refine ⟨?_, hx⟩
  unfold eS at h
  generalize hE : xs.map (eK k) = els at h
  have hlen : els.length = xs.length := by rw [← hE]; simp
  cases h with
  | nil =>
    have : xs = [] := by have := hlen.symm; simpa using this
    subst this
    exact ⟨by simp, .inl ⟨⟨_, rfl⟩, rfl⟩⟩
  | nilA a =>
    have : xs = [] := by have := hlen.symm; simpa using this
    subst this
    exact ⟨by simp, .inl ⟨⟨_, rfl⟩, rfl⟩⟩
  | sl _ b off n cap s cur el fr f hn h1 h2 hb hl hc hr =>
    subst hn
    rw [hlen] at h1 h2 ⊢
    refine ⟨by omega, .inr ⟨b, off, cap, cur, el, fr, rfl, h1, hb, fun j hj => ?_⟩⟩
    have hj' : j < xs.length := by omega
    have he : els[j]? = some (eK k (xs.getD j 0)) := by rw [← hE, List.getElem?_map, getD_some hj']; rfl
    have h3 := (hc j _ 0 (.lit (.int k ((xs.getD j 0 : Nat) : Int))) he rfl).2
    have hs : s = 1 := (hl _ (List.mem_of_getElem? he)).symm
    have h4 := (hr j _ 0 (.lit (.int k ((xs.getD j 0 : Nat) : Int))) he rfl).lit_inv
    rw [hs, h4] at h3
    simpa using h3

theorem rd_w64 {I : CI} {H : Array Obj} {v : Value} {xs : List Nat} (h : RdD I H (W64 xs) v) (hx : B64 xs) : U64s H v xs := rd_ws h.g_inv hx
theorem rd_w32 {I : CI} {H : Array Obj} {v : Value} {xs : List Nat} (h : RdD I H (W32 xs) v) (hx : B32 xs) : Ws .u32 4294967296 H v xs := rd_ws h.g_inv hx

theorem rd_res {I : CI} {H : Array Obj} {els : List (List G)} {v : Value} (h : RdG I H (.sl els) v) {m : Nat} (hm : m ≤ els.length) : RdG I H (.sl (els.take m)) (resl v m) := by
  generalize hE : G.sl els = x at h
  cases h with
  | lit v h => cases hE
  | nil => injection hE with hE; subst hE; simp at hm; subst hm; exact .nil
  | nilA a => injection hE with hE; subst hE; simp at hm; subst hm; exact .nilA a
  | sl _ b off n cap s cur el fr f hn h1 h2 hb hl hc hr =>
    injection hE with hE; subst hE
    have hl2 : (els.take m).length = m := by simp; omega
    have hat : ∀ (i : Nat) (es : List G), (els.take m)[i]? = some es → els[i]? = some es := by
      intro i es he
      rw [List.getElem?_take] at he
      split at he
      · exact he
      · cases he
    exact .sl (els.take m) b off m cap s cur el fr f hl2.symm (by omega) (by omega) hb (fun es he => hl es (List.mem_of_mem_take he)) (fun i es j g he hg => hc i es j g (hat i es he) hg) (fun i es j g he hg => hr i es j g (hat i es he) hg)

theorem own_rd {I : CI} {w w' : World} {el : TypeId} {k : IntKind} {B : Nat} {v : Value} {xs : List Nat} (h : OW el k B w' w.heap.size v xs) : RdG (nI I w w') w'.heap (eS (eK k) xs) v := by
  obtain ⟨h1, h2⟩ := h.own
  unfold eS
  rcases h2 with ⟨rfl, h0⟩ | ⟨g, cap, cur, rfl, hgb, hb, hn, hcm, hcs, htake⟩
  · have : xs = [] := List.eq_nil_of_length_eq_zero h0
    subst this
    exact .nil
  · have hlt : g < w'.heap.size := (Array.getElem?_eq_some_iff.1 hb).1
    have hat : ∀ (i : Nat) (es : List G), (xs.map (eK k))[i]? = some es → ∃ x, xs[i]? = some x ∧ es = eK k x := by
      intro i es he
      rw [List.getElem?_map] at he
      cases hx : xs[i]? with
      | none => rw [hx] at he; cases he
      | some x => rw [hx] at he; injection he with he; exact ⟨x, rfl, he.symm⟩
    have hcell : ∀ (i x : Nat), xs[i]? = some x → cur[i]? = some (.int k (x : Int)) := by
      intro i x hx
      have hi : i < xs.length := (List.getElem?_eq_some_iff.1 hx).1
      have h3 : (cur.toList.take (xs.length * 1))[i]? = (wc k xs)[i]? := by rw [htake]
      rw [List.getElem?_take, if_pos (by omega)] at h3
      simp only [Array.getElem?_toList] at h3
      rw [h3]
      simp [wc, hx]
    refine .sl _ g 0 _ cap 1 cur el (0, 0) (fun i _ => .int k ((xs.getD i 0 : Nat) : Int)) (by simp) (by simpa using hn) (by simpa using h.le) hb (fun es he => ?_) (fun i es j y he hg => ?_) (fun i es j y he hg => ?_)
    · obtain ⟨x, _, rfl⟩ := List.mem_map.1 he; rfl
    · obtain ⟨x, hx, rfl⟩ := hat i es he
      cases j with
      | zero =>
        refine ⟨.inr ⟨hgb, hlt⟩, ?_⟩
        have hi : i < xs.length := (List.getElem?_eq_some_iff.1 hx).1
        rw [getD_some hi] at hx
        injection hx with hx
        have := hcell i _ (getD_some hi)
        simpa using this
      | succ j => simp [eK] at hg
    · obtain ⟨x, hx, rfl⟩ := hat i es he
      cases j with
      | zero =>
        simp [eK] at hg
        subst hg
        have hi : i < xs.length := (List.getElem?_eq_some_iff.1 hx).1
        rw [getD_some hi] at hx
        injection hx with hx
        subst hx
        exact .lit _ rfl
      | succ j => simp [eK] at hg

theorem own_w64 {I : CI} {w w' : World} {v : Value} {xs : List Nat} (h : O64 w' w.heap.size v xs) : RdD (nI I w w') w'.heap (W64 xs) v := .g (own_rd h)

theorem gi_tab {I : CI} {w : World} (h : GI I w) : Tab w.heap := by
  have := h.gl _ (List.mem_singleton.2 rfl)
  cases this with
  | ip _ b o cur el fr f hb hc hr =>
    intro i hi
    have hg : ((List.range 64).map fun i => G.lit (.int .u8 ((Lib.deBruijn64tab.getD i 0 : Nat) : Int)))[i]? = some (.lit (.int .u8 ((Lib.deBruijn64tab.getD i 0 : Nat) : Int))) := by simp [hi]
    have h1 := (hc i _ hg).2
    rw [(hr i _ hg).lit_inv] at h1
    simp only [Nat.zero_add] at h1
    simp only [cellH, hb]
    simpa using h1

/-! ### Package nat -/
section
variable {xs ys : List Nat}

theorem p_cut (hx : B64 xs) : PC Tryd.prog 34 [W64 xs] fun d => d = W64 (D64 (N64 xs)) := by
  intro w I vs hG hv
  obtain ⟨v, rfl, h⟩ := hv.one
  refine (nat_cut (rd_w64 h hx)).mono ?_
  rintro r w' ⟨hE, rfl, _⟩
  refine ⟨I, _, hE, fun _ _ h => h, fun _ _ h => .inl h, fun b j hb => Nat.lt_of_lt_of_le (hG.old b j hb) hE.size, ?_, rfl⟩
  have hl : (D64 (N64 xs)).length ≤ xs.length := digs_le hx
  have h2 := rd_res h.g_inv (m := (D64 (N64 xs)).length) (by simpa using hl)
  rw [← List.map_take, take_digs_len two64 hx] at h2
  exact .g (h2.mono (fun _ _ h => h) (hev_ext hE))
theorem p_Right (hx : B64 xs) : PC Tryd.prog 13 [W64 xs] fun d => d = bl (decide ((D64 (N64 xs)).length = xs.length)) := pc_lit fun w I vs hG hv => by
  obtain ⟨v, rfl, h⟩ := hv.one
  exact (nat_Right (rd_w64 h hx)).mono fun r w' ⟨hE, hr⟩ => ⟨hE, by rw [hr]; rfl, by rw [hr]; rfl⟩
theorem p_Trim (hx : B64 xs) (hl : xs.length ≤ 1099511627776) : PC Tryd.prog 15 [W64 xs] fun d => d = W64 (D64 (N64 xs)) := pc_new fun w I vs hG hv => by
  obtain ⟨v, rfl, h⟩ := hv.one
  exact (nat_TrimO (rd_w64 h hx) hl).mono fun r w' ⟨hE, hr⟩ => ⟨hE, _, own_w64 hr, rfl⟩
theorem p_Bits (hx : B64 xs) (hl : xs.length ≤ 1099511627776) : PC Tryd.prog 17 [W64 xs] fun d => d = i64 (bitLen (N64 xs) : Nat) := pc_lit fun w I vs hG hv => by
  obtain ⟨v, rfl, h⟩ := hv.one
  exact (nat_Bits (rd_w64 h hx) (by omega)).mono fun r w' ⟨hE, hr⟩ => ⟨hE, by rw [hr]; rfl, by rw [hr]; rfl⟩
theorem p_Zeros (hx : B64 xs) (hl : xs.length ≤ 1099511627776) : PC Tryd.prog 19 [W64 xs] fun d => d = i64 (tz (N64 xs) : Nat) := pc_lit fun w I vs hG hv => by
  obtain ⟨v, rfl, h⟩ := hv.one
  exact (nat_Zeros (gi_tab hG) (rd_w64 h hx) (by omega)).mono fun r w' ⟨hE, hr⟩ => ⟨hE, by rw [hr]; rfl, by rw [hr]; rfl⟩
theorem p_Cmp (hx : B64 xs) (hy : B64 ys) (hl : xs.length ≤ 1099511627776) (hl' : ys.length ≤ 1099511627776) : PC Tryd.prog 23 [W64 xs, W64 ys] fun d => d = i64 (cmpI (N64 xs) (N64 ys)) := pc_lit fun w I vs hG hv => by
  obtain ⟨v, v', rfl, h, h'⟩ := hv.two
  exact (nat_Cmp (rd_w64 h hx) (rd_w64 h' hy) (by omega) (by omega)).mono fun r w' ⟨hE, hr⟩ => ⟨hE, by rw [hr]; rfl, by rw [hr]; rfl⟩
theorem p_Add (hx : B64 xs) (hy : B64 ys) (hl : xs.length ≤ 1099511627776) (hl' : ys.length ≤ 1099511627776) : PC Tryd.prog 24 [W64 xs, W64 ys] fun d => d = W64 (D64 (N64 xs + N64 ys)) := pc_new fun w I vs hG hv => by
  obtain ⟨v, v', rfl, h, h'⟩ := hv.two
  exact (nat_Add (rd_w64 h hx) (rd_w64 h' hy) hl hl').mono fun r w' ⟨hE, hr⟩ => ⟨hE, _, own_w64 hr, rfl⟩
theorem p_Sub (hx : B64 xs) (hy : B64 ys) (hl : xs.length ≤ 1099511627776) (hl' : ys.length ≤ 1099511627776) :
    PC Tryd.prog 22 [W64 xs, W64 ys] fun d => d = if N64 ys ≤ N64 xs then .tup [W64 (D64 (N64 xs - N64 ys)), bl true] else .tup [W64 [], bl false] := pc_new fun w I vs hG hv => by
  obtain ⟨v, v', rfl, h, h'⟩ := hv.two
  refine (nat_Sub (rd_w64 h hx) (rd_w64 h' hy) hl hl').mono ?_
  rintro r w' ⟨hE, ⟨hle, d, rfl, hd⟩ | ⟨hlt, rfl⟩⟩
  · exact ⟨hE, _, RdD.ofT (.cons (own_w64 hd) (.cons (.g (.lit _ rfl)) .nil)), by rw [if_pos hle]; rfl⟩
  · exact ⟨hE, _, RdD.ofT (.cons (.g .nil) (.cons (.g (.lit _ rfl)) .nil)), by rw [if_neg (by omega)]; rfl⟩
theorem p_Mul (hx : B64 xs) (hy : B64 ys) (hl : xs.length ≤ 1099511627776) (hl' : ys.length ≤ 1099511627776) : PC Tryd.prog 28 [W64 xs, W64 ys] fun d => d = W64 (D64 (N64 xs * N64 ys)) := pc_new fun w I vs hG hv => by
  obtain ⟨v, v', rfl, h, h'⟩ := hv.two
  exact (nat_Mul (rd_w64 h hx) (rd_w64 h' hy) hl hl').mono fun r w' ⟨hE, hr⟩ => ⟨hE, _, own_w64 hr, rfl⟩
theorem p_Up {n : Nat} (hx : B64 xs) (hl : xs.length ≤ 1099511627776) (hn : n ≤ 1099511627776) : PC Tryd.prog 48 [W64 xs, i64 n] fun d => d = W64 (D64 (N64 xs * 2 ^ n)) := pc_new fun w I vs hG hv => by
  obtain ⟨v, v', rfl, h, h'⟩ := hv.two
  obtain rfl := h'.lit_inv
  exact (nat_Up (rd_w64 h hx) hl hn).mono fun r w' ⟨hE, hr⟩ => ⟨hE, _, own_w64 hr, rfl⟩
theorem p_Down {n : Nat} (hx : B64 xs) (hl : xs.length ≤ 1099511627776) (hn : n ≤ 1099511627776) : PC Tryd.prog 47 [W64 xs, i64 n] fun d => d = W64 (D64 (N64 xs / 2 ^ n)) := pc_new fun w I vs hG hv => by
  obtain ⟨v, v', rfl, h, h'⟩ := hv.two
  obtain rfl := h'.lit_inv
  exact (nat_Down (rd_w64 h hx) hl hn).mono fun r w' ⟨hE, hr⟩ => ⟨hE, _, own_w64 hr, rfl⟩
theorem p_Shift {n : Int} (hx : B64 xs) (hl : xs.length ≤ 1099511627776) : PC Tryd.prog 31 [W64 xs, i64 n] fun d => d = W64 (D64 (shiftN (N64 xs) n)) := pc_new fun w I vs hG hv => by
  obtain ⟨v, v', rfl, h, h'⟩ := hv.two
  obtain rfl := h'.lit_inv
  exact (nat_Shift (rd_w64 h hx) hl).mono fun r w' ⟨hE, hr⟩ => ⟨hE, _, own_w64 hr, rfl⟩
theorem p_DivH (hx : B64 xs) (hy : B64 ys) (hl : xs.length ≤ 1099511627776) (hl' : ys.length ≤ 1099511627776) (hW : (D64 (N64 ys)).length ≤ 1 ∨ ByWords) :
    PC Tryd.prog 27 [W64 xs, W64 ys] fun d => d = if N64 ys = 0 then .tup [W64 [], W64 [], bl false] else .tup [W64 (D64 (N64 xs / N64 ys)), W64 (D64 (N64 xs % N64 ys)), bl true] := pc_new fun w I vs hG hv => by
  obtain ⟨v, v', rfl, h, h'⟩ := hv.two
  refine (nat_DivH (rd_w64 h hx) (rd_w64 h' hy) hl hl' hW).mono ?_
  rintro r w' ⟨hE, ⟨h0, rfl⟩ | ⟨h0, q, t, rfl, hq, ht⟩⟩
  · exact ⟨hE, _, RdD.ofT (.cons (.g .nil) (.cons (.g .nil) (.cons (.g (.lit _ rfl)) .nil))), by rw [if_pos h0]; rfl⟩
  · exact ⟨hE, _, RdD.ofT (.cons (own_w64 hq) (.cons (own_w64 ht) (.cons (.g (.lit _ rfl)) .nil))), by rw [if_neg (by omega)]; rfl⟩
end

/-! ### The document's numbers -/
theorem p_rBits {n : Nat} (hl : (D32 n).length ≤ 1099511627776) : PC Tryd.prog 18 [W32 (D32 n)] fun d => d = i64 (bitLen n : Nat) := pc_lit fun w I vs hG hv => by
  obtain ⟨v, rfl, h⟩ := hv.one
  exact (r_Bits (rd_w32 h (digs_lt two32 n)) hl).mono fun r w' ⟨hE, hr⟩ => ⟨hE, by rw [hr]; rfl, by rw [hr]; rfl⟩
theorem p_rZeros {n : Nat} (hl : (D32 n).length ≤ 1099511627776) : PC Tryd.prog 20 [W32 (D32 n)] fun d => d = i64 (tz n : Nat) := pc_lit fun w I vs hG hv => by
  obtain ⟨v, rfl, h⟩ := hv.one
  exact (r_Zeros (rd_w32 h (digs_lt two32 n)) hl).mono fun r w' ⟨hE, hr⟩ => ⟨hE, by rw [hr]; rfl, by rw [hr]; rfl⟩
theorem p_hWords {xs ys : List Nat} (hx : B64 xs) (hy : B64 ys) (hl : xs.length ≤ 1099511627776) (hl' : ys.length ≤ 1099511627776) : PC Tryd.prog 14 [W64 xs, W64 ys] fun d => d = bl (decide (xs = ys)) := pc_lit fun w I vs hG hv => by
  obtain ⟨v, v', rfl, h, h'⟩ := hv.two
  exact (h_Words (rd_w64 h hx) (rd_w64 h' hy) hl hl').mono fun r w' ⟨hE, hr⟩ => ⟨hE, by rw [hr]; rfl, by rw [hr]; rfl⟩

end Go.V

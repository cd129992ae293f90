/- Package nat: long division by words, over values as data: the quotient and the rest; Div. -/
import Derived.Test.YtilnmcabjkpohaaDoorDY
set_option linter.unusedSimpArgs false
set_option linter.unusedVariables false
set_option maxRecDepth 100000
namespace Go.V
open Go Go.RowKit Go.Proofs

/-- A divisor, by a power of two that brings its highest word's highest bit up: as many words. -/
theorem norm_len {B : List Nat} (hb : B64 B) (tB : NoTail B) (h2 : 2 ≤ B.length) :
    (D64 (N64 B * 2 ^ (64 - bitLen (B.getD (B.length - 1) 0)))).length = B.length ∧ B.getD (B.length - 1) 0 ≠ 0 ∧ 18446744073709551616 ^ (B.length - 1) ≤ N64 B := by
  have hne : B ≠ [] := by intro h; subst h; simp at h2
  have htop : B.getD (B.length - 1) 0 ≠ 0 := by
    refine tB _ ?_
    rw [List.getLast?_eq_getElem?, getD_some (by omega)]
  have hlast := nval_last (B := 18446744073709551616) hne
  have hlow : nval 18446744073709551616 (B.take (B.length - 1)) < 18446744073709551616 ^ (B.length - 1) := by
    have := nval_lt (B := 18446744073709551616) (by decide) (B.take (B.length - 1)) fun x hx => hb x (List.mem_of_mem_take hx)
    rwa [show (B.take (B.length - 1)).length = B.length - 1 by simp] at this
  have htw := get_lt hb (by decide) (B.length - 1)
  generalize B.getD (B.length - 1) 0 = t at *
  have hW : (18446744073709551616 : Nat) ^ (B.length - 1) ≤ N64 B := by
    rw [N64, hlast]
    have : 18446744073709551616 ^ (B.length - 1) * 1 ≤ 18446744073709551616 ^ (B.length - 1) * t := Nat.mul_le_mul_left _ (by omega)
    omega
  refine ⟨?_, htop, hW⟩
  have hbl := bitLen_le (n := t) (k := 64) htw
  obtain ⟨hs1, _⟩ := bitLen_spec t
  have hup : N64 B < 18446744073709551616 ^ (B.length - 1) * 2 ^ bitLen t := by
    rw [N64, hlast]
    have : 18446744073709551616 ^ (B.length - 1) * (t + 1) ≤ 18446744073709551616 ^ (B.length - 1) * 2 ^ bitLen t := Nat.mul_le_mul_left _ hs1
    rw [Nat.mul_add] at this; omega
  have hlt : N64 B * 2 ^ (64 - bitLen t) < 18446744073709551616 ^ B.length := by
    have h3 := Nat.mul_lt_mul_of_pos_right hup (Nat.two_pow_pos (64 - bitLen t))
    have h4 : 18446744073709551616 ^ (B.length - 1) * 2 ^ bitLen t * 2 ^ (64 - bitLen t) = 18446744073709551616 ^ B.length := by
      rw [Nat.mul_assoc, ← Nat.pow_add, show bitLen t + (64 - bitLen t) = 64 by omega]
      conv => rhs; rw [show B.length = B.length - 1 + 1 by omega, Nat.pow_succ]
    omega
  have h5 : (D64 (N64 B * 2 ^ (64 - bitLen t))).length ≤ B.length := digs_len_le (B := 18446744073709551616) (by decide) hlt
  have h6 : N64 B * 2 ^ (64 - bitLen t) < 18446744073709551616 ^ (D64 (N64 B * 2 ^ (64 - bitLen t))).length := lt_pow_len (B := 18446744073709551616) (by decide) (N64 B * 2 ^ (64 - bitLen t))
  rcases Nat.lt_or_ge (D64 (N64 B * 2 ^ (64 - bitLen t))).length B.length with h7 | h7
  · exfalso
    have h8 : 18446744073709551616 ^ (D64 (N64 B * 2 ^ (64 - bitLen t))).length ≤ 18446744073709551616 ^ (B.length - 1) := Nat.pow_le_pow_right (by decide) (by omega)
    have h9 : N64 B * 1 ≤ N64 B * 2 ^ (64 - bitLen t) := Nat.mul_le_mul_left _ (Nat.two_pow_pos _)
    omega
  · omega

set_option maxHeartbeats 4000000 in
theorem p_byWords {A B : List Nat} (ha : B64 A) (hb : B64 B) (hlA : A.length ≤ 1099511627776) (tA : NoTail A) (tB : NoTail B) (h2 : 2 ≤ B.length) (hle : N64 B ≤ N64 A) :
    PC Tryd.prog 44 [W64 A, W64 B] fun d => d = .tup [W64 (D64 (N64 A / N64 B)), W64 (D64 (N64 A % N64 B))] := by
  obtain ⟨hvl, htop, hBl⟩ := norm_len hb tB h2
  have htw := get_lt hb (by decide) (B.length - 1)
  have hA : N64 A < 18446744073709551616 ^ A.length := nval_lt (by decide) A ha
  have hBA : B.length ≤ A.length := by
    rcases Nat.lt_or_ge A.length B.length with h | h
    · exfalso
      have : (18446744073709551616 : Nat) ^ A.length ≤ 18446744073709551616 ^ (B.length - 1) := Nat.pow_le_pow_right (by decide) (by omega)
      omega
    · exact h
  have e1 : (B.length : Int) - 1 = ((B.length - 1 : Nat) : Int) := by omega
  have hs64 : 64 - bitLen (B.getD (B.length - 1) 0) ≤ 64 := by omega
  generalize hs : 64 - bitLen (B.getD (B.length - 1) 0) = s at *
  refine PC.body (args := [W64 A, W64 B]) (rs := [.tmp 4, .tmp 5]) mixed Tryd.func44 rfl (by kernel_rfl) (by kernel_rfl) (Nat.le_of_ble_eq_true rfl) rfl ?_
  repeat (first
   | (with_reducible first | refine pv_seq fun K hK => ?_ | refine pv_skip ?_ | refine pv_block ?_ | refine pv_scope ?_ | refine pv_label ?_)
   | (with_reducible refine pv_reg ?_; simp -implicitDefEqProofs only [comp_nil, comp_cons, compD_nil, compD_cons, gsl_none, gsl_some, List.getElem?_cons_zero, List.getElem?_cons_succ, Option.map_some, Option.bind_some, lapp_cons, lapp_nil])
   | (with_reducible refine pv_draw (id := 15) [(0, 0), (2, 0), (3, 0), (4, 0), (5, 0), (1, 3), (6, 3), (7, 0), (8, 0)] (by kernel_rfl) ?_; simp -implicitDefEqProofs only [comp_nil, comp_cons, compD_nil, compD_cons, gsl_none, gsl_some, List.getElem?_cons_zero, List.getElem?_cons_succ, Option.map_some, Option.bind_some, lapp_cons, lapp_nil]; simp -implicitDefEqProofs only [e1, hs, true_and, go_sem, seval])
   | (with_reducible refine pv_condT ?_ ?_; · simp -implicitDefEqProofs only [e1, hs, true_and, go_sem, seval] <;> rfl)
   | (with_reducible refine pv_condF ?_ ?_; · simp -implicitDefEqProofs only [e1, hs, true_and, go_sem, seval] <;> rfl)
   | (with_reducible refine pv_exit ?_; simp only [↓reduceIte, Nat.reduceEqDiff])
   | (with_reducible refine pv_ret ?_; simp -implicitDefEqProofs only [retC, retS, retR, resD, oneD, coeDs_nil, coeDs_cons, coeD_agg, coeD_g, coeD_nil, coeD_own, coeCs_nil, coeCs_cons, coeC_g, coeC_nil, coeC_own, e1, hs, true_and, go_sem, seval])
   | ((with_reducible first | refine hK _ _ ?_ | (clear hK; refine hK _ _ ?_) | (clear hK; clear hK; refine hK _ _ ?_)); clear hK; try clear K)
   | (simp -implicitDefEqProofs only [e1, hs, true_and, go_sem, seval])
   | (with_reducible intro b)
   | (with_reducible refine And.intro ?_ ?_; · first | assumption | omega | (unfold R64; omega)))
  refine call_is (p_lz64 htw) ?_
  repeat (first
   | (with_reducible first | refine pv_seq fun K hK => ?_ | refine pv_skip ?_ | refine pv_block ?_ | refine pv_scope ?_ | refine pv_label ?_)
   | (with_reducible refine pv_reg ?_; simp -implicitDefEqProofs only [comp_nil, comp_cons, compD_nil, compD_cons, gsl_none, gsl_some, List.getElem?_cons_zero, List.getElem?_cons_succ, Option.map_some, Option.bind_some, lapp_cons, lapp_nil])
   | (with_reducible refine pv_draw (id := 15) [(0, 0), (2, 0), (3, 0), (4, 0), (5, 0), (1, 3), (6, 3), (7, 0), (8, 0)] (by kernel_rfl) ?_; simp -implicitDefEqProofs only [comp_nil, comp_cons, compD_nil, compD_cons, gsl_none, gsl_some, List.getElem?_cons_zero, List.getElem?_cons_succ, Option.map_some, Option.bind_some, lapp_cons, lapp_nil]; simp -implicitDefEqProofs only [e1, hs, true_and, go_sem, seval])
   | (with_reducible refine pv_condT ?_ ?_; · simp -implicitDefEqProofs only [e1, hs, true_and, go_sem, seval] <;> rfl)
   | (with_reducible refine pv_condF ?_ ?_; · simp -implicitDefEqProofs only [e1, hs, true_and, go_sem, seval] <;> rfl)
   | (with_reducible refine pv_exit ?_; simp only [↓reduceIte, Nat.reduceEqDiff])
   | (with_reducible refine pv_ret ?_; simp -implicitDefEqProofs only [retC, retS, retR, resD, oneD, coeDs_nil, coeDs_cons, coeD_agg, coeD_g, coeD_nil, coeD_own, coeCs_nil, coeCs_cons, coeC_g, coeC_nil, coeC_own, e1, hs, true_and, go_sem, seval])
   | ((with_reducible first | refine hK _ _ ?_ | (clear hK; refine hK _ _ ?_) | (clear hK; clear hK; refine hK _ _ ?_)); clear hK; try clear K)
   | (simp -implicitDefEqProofs only [e1, hs, true_and, go_sem, seval])
   | (with_reducible intro b)
   | (with_reducible refine And.intro ?_ ?_; · first | assumption | omega | (unfold R64; omega)))
  refine call_is (p_Up hb (by omega) (by omega)) ?_
  repeat (first
   | (with_reducible first | refine pv_seq fun K hK => ?_ | refine pv_skip ?_ | refine pv_block ?_ | refine pv_scope ?_ | refine pv_label ?_)
   | (with_reducible refine pv_reg ?_; simp -implicitDefEqProofs only [comp_nil, comp_cons, compD_nil, compD_cons, gsl_none, gsl_some, List.getElem?_cons_zero, List.getElem?_cons_succ, Option.map_some, Option.bind_some, lapp_cons, lapp_nil])
   | (with_reducible refine pv_draw (id := 15) [(0, 0), (2, 0), (3, 0), (4, 0), (5, 0), (1, 3), (6, 3), (7, 0), (8, 0)] (by kernel_rfl) ?_; simp -implicitDefEqProofs only [comp_nil, comp_cons, compD_nil, compD_cons, gsl_none, gsl_some, List.getElem?_cons_zero, List.getElem?_cons_succ, Option.map_some, Option.bind_some, lapp_cons, lapp_nil]; simp -implicitDefEqProofs only [e1, hs, true_and, go_sem, seval])
   | (with_reducible refine pv_condT ?_ ?_; · simp -implicitDefEqProofs only [e1, hs, true_and, go_sem, seval] <;> rfl)
   | (with_reducible refine pv_condF ?_ ?_; · simp -implicitDefEqProofs only [e1, hs, true_and, go_sem, seval] <;> rfl)
   | (with_reducible refine pv_exit ?_; simp only [↓reduceIte, Nat.reduceEqDiff])
   | (with_reducible refine pv_ret ?_; simp -implicitDefEqProofs only [retC, retS, retR, resD, oneD, coeDs_nil, coeDs_cons, coeD_agg, coeD_g, coeD_nil, coeD_own, coeCs_nil, coeCs_cons, coeC_g, coeC_nil, coeC_own, e1, hs, true_and, go_sem, seval])
   | ((with_reducible first | refine hK _ _ ?_ | (clear hK; refine hK _ _ ?_) | (clear hK; clear hK; refine hK _ _ ?_)); clear hK; try clear K)
   | (simp -implicitDefEqProofs only [e1, hs, true_and, go_sem, seval])
   | (with_reducible intro b)
   | (with_reducible refine And.intro ?_ ?_; · first | assumption | omega | (unfold R64; omega)))
  refine call_is (p_Up ha (by omega) (by omega)) ?_
  have hUl : (D64 (N64 A * 2 ^ s)).length ≤ A.length + 1 := by
    refine digs_len_le (by decide) ?_
    rw [Nat.pow_succ]
    have h3 : (2 : Nat) ^ s ≤ 2 ^ 64 := Nat.pow_le_pow_right (by decide) hs64
    have h4 := Nat.mul_lt_mul_of_pos_right hA (Nat.two_pow_pos s)
    have h5 := Nat.mul_le_mul_left (18446744073709551616 ^ A.length) h3
    omega
  obtain ⟨V, hV⟩ : ∃ V, V = D64 (N64 B * 2 ^ s) := ⟨_, rfl⟩
  obtain ⟨U, hU⟩ : ∃ U, U = D64 (N64 A * 2 ^ s) := ⟨_, rfl⟩
  obtain ⟨u, hu⟩ : ∃ u, u = U ++ List.replicate (A.length + 1 - U.length) 0 := ⟨_, rfl⟩
  have hNV : nval 18446744073709551616 V = N64 B * 2 ^ s := by rw [hV]; exact nval_digs (by decide) _
  have hNu : nval 18446744073709551616 u = N64 A * 2 ^ s := by
    rw [hu, nval_append, nval_zeros _ _ (fun y hy => List.eq_of_mem_replicate hy), Nat.mul_zero, Nat.add_zero, hU]; exact nval_digs (by decide) _
  have hVb : B64 V := by rw [hV]; exact digs_lt (by decide) _
  have hub : B64 u := by
    rw [hu]; intro x hx
    rcases List.mem_append.1 hx with h | h
    · rw [hU] at h; exact digs_lt (by decide) _ x h
    · rw [List.eq_of_mem_replicate h]; decide
  rw [← hU] at hUl
  have hul : u.length = A.length + 1 := by rw [hu, List.length_append, List.length_replicate]; omega
  have hVt : 1 ≤ V.getD (V.length - 1) 0 := by
    have h3 : V.getD (V.length - 1) 0 ≠ 0 := by
      have h4 := digs_noTail (B := 18446744073709551616) (by decide) (N64 B * 2 ^ s)
      refine h4 _ ?_
      rw [show digs 18446744073709551616 (N64 B * 2 ^ s) = V from hV.symm, List.getLast?_eq_getElem?, getD_some (by rw [hV, hvl]; omega)]
    omega
  rw [← hU, ← hV]
  rw [← hV] at hvl
  have hrep : ∀ n, List.replicate n [D.g (.lit (.int .u64 0))] = rS (eK .u64) (List.replicate n 0) := fun n => rS_rep (f := eK .u64) (y := 0) rfl
  have J0 : ∀ (e : DEnv) (b1 : Nat), e 0 = W64 A → e 6 = i64 B.length → e 7 = i64 s → e 8 = W64 V → e 9 = .own (.l 27) b1 0 (A.length + 1) (A.length + 1) 1 → K e (updS noS (.l 27) (some ⟨b1, 1, 0, rS (eK .u64) u⟩)) := by
    intro e b1 f0 f6 f7 f8 f9
    have e2 : (A.length : Int) - (B.length : Int) = ((A.length - B.length : Nat) : Int) := by omega
    repeat (first
     | (with_reducible first | refine pv_seq fun K hK => ?_ | refine pv_skip ?_ | refine pv_block ?_ | refine pv_scope ?_ | refine pv_label ?_)
     | (with_reducible refine pv_reg ?_; simp -implicitDefEqProofs only [comp_nil, comp_cons, compD_nil, compD_cons, gsl_none, gsl_some, List.getElem?_cons_zero, List.getElem?_cons_succ, Option.map_some, Option.bind_some, lapp_cons, lapp_nil])
     | (with_reducible refine pv_draw (id := 15) [(0, 0), (2, 0), (3, 0), (4, 0), (5, 0), (1, 3), (6, 3), (7, 0), (8, 0)] (by kernel_rfl) ?_; simp -implicitDefEqProofs only [comp_nil, comp_cons, compD_nil, compD_cons, gsl_none, gsl_some, List.getElem?_cons_zero, List.getElem?_cons_succ, Option.map_some, Option.bind_some, lapp_cons, lapp_nil]; simp -implicitDefEqProofs only [f0, f6, f7, f8, f9, e2, hrep, true_and, go_sem, seval])
     | (with_reducible refine pv_condT ?_ ?_; · simp -implicitDefEqProofs only [f0, f6, f7, f8, f9, e2, hrep, true_and, go_sem, seval] <;> rfl)
     | (with_reducible refine pv_condF ?_ ?_; · simp -implicitDefEqProofs only [f0, f6, f7, f8, f9, e2, hrep, true_and, go_sem, seval] <;> rfl)
     | (with_reducible refine pv_exit ?_; simp only [↓reduceIte, Nat.reduceEqDiff])
     | (with_reducible refine pv_ret ?_; simp -implicitDefEqProofs only [retC, retS, retR, resD, oneD, coeDs_nil, coeDs_cons, coeD_agg, coeD_g, coeD_nil, coeD_own, coeCs_nil, coeCs_cons, coeC_g, coeC_nil, coeC_own, f0, f6, f7, f8, f9, e2, hrep, true_and, go_sem, seval])
     | ((with_reducible first | refine hK _ _ ?_ | (clear hK; refine hK _ _ ?_) | (clear hK; clear hK; refine hK _ _ ?_)); clear hK; try clear K)
     | (simp -implicitDefEqProofs only [f0, f6, f7, f8, f9, e2, hrep, true_and, go_sem, seval])
     | (with_reducible intro b)
     | (with_reducible refine And.intro ?_ ?_; · first | assumption | omega | (unfold R64; omega)))
    have J1 : ∀ (e : DEnv) (S : Store) (os out : List Nat), os.length = A.length + 1 → B64 os → out.length = A.length - B.length + 1 → B64 out → nval 18446744073709551616 os + nval 18446744073709551616 out * nval 18446744073709551616 V = N64 A * 2 ^ s → nval 18446744073709551616 os < nval 18446744073709551616 V →
        e 6 = i64 B.length → e 7 = i64 s → e 9 = .own (.l 27) b1 0 (A.length + 1) (A.length + 1) 1 → e 10 = .own (.l 38) b 0 (A.length - B.length + 1) (A.length - B.length + 1) 1 → S (.l 27) = some ⟨b1, 1, 0, rS (eK .u64) os⟩ → S (.l 38) = some ⟨b, 1, 0, rS (eK .u64) out⟩ → K e S := by
      intro e S os out hol ob hul ub hv hlt f6 f7 f9 f10 hS1 hS2
      have hto : out.take (A.length - B.length + 1) = out := List.take_of_length_le (by omega)
      have hNB : 0 < N64 B := Nat.lt_of_lt_of_le (Nat.pow_pos (by decide)) hBl
      have hps := Nat.two_pow_pos s
      rw [hNV] at hv hlt
      have ho : nval 18446744073709551616 out = N64 A / N64 B ∧ nval 18446744073709551616 os = N64 A % N64 B * 2 ^ s := by
        have h3 : N64 A * 2 ^ s / (N64 B * 2 ^ s) = N64 A / N64 B := Nat.mul_div_mul_right _ _ hps
        have h4 : N64 A * 2 ^ s % (N64 B * 2 ^ s) = N64 A % N64 B * 2 ^ s := Nat.mul_mod_mul_right _ _ _
        rw [← h3, ← h4, ← hv]
        constructor
        · rw [Nat.add_mul_div_right _ _ (Nat.mul_pos hNB hps), Nat.div_eq_of_lt hlt, Nat.zero_add]
        · rw [Nat.add_mul_mod_self_right, Nat.mod_eq_of_lt hlt]
      have hos : nval 18446744073709551616 (os.take B.length) = nval 18446744073709551616 os := nval_take (hi_zero (W := 18446744073709551616) (by
        refine Nat.lt_of_lt_of_le hlt ?_
        rw [← hNV, ← hvl]
        exact Nat.le_of_lt (nval_lt (by decide) V hVb)) (by decide))
      repeat (first
       | (with_reducible first | refine pv_seq fun K hK => ?_ | refine pv_skip ?_ | refine pv_block ?_ | refine pv_scope ?_ | refine pv_label ?_)
       | (with_reducible refine pv_reg ?_; simp -implicitDefEqProofs only [comp_nil, comp_cons, compD_nil, compD_cons, gsl_none, gsl_some, List.getElem?_cons_zero, List.getElem?_cons_succ, Option.map_some, Option.bind_some, lapp_cons, lapp_nil])
       | (with_reducible refine pv_draw (id := 15) [(0, 0), (2, 0), (3, 0), (4, 0), (5, 0), (1, 3), (6, 3), (7, 0), (8, 0)] (by kernel_rfl) ?_; simp -implicitDefEqProofs only [comp_nil, comp_cons, compD_nil, compD_cons, gsl_none, gsl_some, List.getElem?_cons_zero, List.getElem?_cons_succ, Option.map_some, Option.bind_some, lapp_cons, lapp_nil]; simp -implicitDefEqProofs only [f6, f7, f9, f10, hS1, hS2, rS_take, optLL_rS, hto, sl_eS, Nat.sub_zero, true_and, go_sem, seval])
       | (with_reducible refine pv_condT ?_ ?_; · simp -implicitDefEqProofs only [f6, f7, f9, f10, hS1, hS2, rS_take, optLL_rS, hto, sl_eS, Nat.sub_zero, true_and, go_sem, seval] <;> rfl)
       | (with_reducible refine pv_condF ?_ ?_; · simp -implicitDefEqProofs only [f6, f7, f9, f10, hS1, hS2, rS_take, optLL_rS, hto, sl_eS, Nat.sub_zero, true_and, go_sem, seval] <;> rfl)
       | (with_reducible refine pv_exit ?_; simp only [↓reduceIte, Nat.reduceEqDiff])
       | (with_reducible refine pv_ret ?_; simp -implicitDefEqProofs only [retC, retS, retR, resD, oneD, coeDs_nil, coeDs_cons, coeD_agg, coeD_g, coeD_nil, coeD_own, coeCs_nil, coeCs_cons, coeC_g, coeC_nil, coeC_own, f6, f7, f9, f10, hS1, hS2, rS_take, optLL_rS, hto, sl_eS, Nat.sub_zero, true_and, go_sem, seval])
       | ((with_reducible first | refine hK _ _ ?_ | (clear hK; refine hK _ _ ?_) | (clear hK; clear hK; refine hK _ _ ?_)); clear hK; try clear K)
       | (simp -implicitDefEqProofs only [f6, f7, f9, f10, hS1, hS2, rS_take, optLL_rS, hto, sl_eS, Nat.sub_zero, true_and, go_sem, seval])
       | (with_reducible intro b)
       | (with_reducible refine And.intro ?_ ?_; · first | assumption | omega | (unfold R64; omega)))
      refine PFC.coe ?_
      simp -implicitDefEqProofs only [coeDs_nil, coeDs_cons, coeD_agg, coeD_g, coeD_nil, coeD_own, coeCs_nil, coeCs_cons, coeC_g, coeC_nil, coeC_own, pureLL, pureL, tg_g, tg_nil, Nat.zero_add, Nat.le_refl, W64_l1, W64_l2, W32_l1, toG_W64, WW_1, WW_2, WW_3, f6, f7, f9, f10, hS1, hS2, rS_take, optLL_rS, hto, sl_eS, Nat.sub_zero, true_and, go_sem, seval]
      refine ⟨by rw [rS_len]; omega, ?_⟩
      refine call_is (p_cut ub) ?_
      repeat (first
       | (with_reducible first | refine pv_seq fun K hK => ?_ | refine pv_skip ?_ | refine pv_block ?_ | refine pv_scope ?_ | refine pv_label ?_)
       | (with_reducible refine pv_reg ?_; simp -implicitDefEqProofs only [comp_nil, comp_cons, compD_nil, compD_cons, gsl_none, gsl_some, List.getElem?_cons_zero, List.getElem?_cons_succ, Option.map_some, Option.bind_some, lapp_cons, lapp_nil])
       | (with_reducible refine pv_draw (id := 15) [(0, 0), (2, 0), (3, 0), (4, 0), (5, 0), (1, 3), (6, 3), (7, 0), (8, 0)] (by kernel_rfl) ?_; simp -implicitDefEqProofs only [comp_nil, comp_cons, compD_nil, compD_cons, gsl_none, gsl_some, List.getElem?_cons_zero, List.getElem?_cons_succ, Option.map_some, Option.bind_some, lapp_cons, lapp_nil]; simp -implicitDefEqProofs only [f6, f7, f9, f10, hS1, hS2, rS_take, optLL_rS, hto, sl_eS, Nat.sub_zero, true_and, go_sem, seval])
       | (with_reducible refine pv_condT ?_ ?_; · simp -implicitDefEqProofs only [f6, f7, f9, f10, hS1, hS2, rS_take, optLL_rS, hto, sl_eS, Nat.sub_zero, true_and, go_sem, seval] <;> rfl)
       | (with_reducible refine pv_condF ?_ ?_; · simp -implicitDefEqProofs only [f6, f7, f9, f10, hS1, hS2, rS_take, optLL_rS, hto, sl_eS, Nat.sub_zero, true_and, go_sem, seval] <;> rfl)
       | (with_reducible refine pv_exit ?_; simp only [↓reduceIte, Nat.reduceEqDiff])
       | (with_reducible refine pv_ret ?_; simp -implicitDefEqProofs only [retC, retS, retR, resD, oneD, coeDs_nil, coeDs_cons, coeD_agg, coeD_g, coeD_nil, coeD_own, coeCs_nil, coeCs_cons, coeC_g, coeC_nil, coeC_own, f6, f7, f9, f10, hS1, hS2, rS_take, optLL_rS, hto, sl_eS, Nat.sub_zero, true_and, go_sem, seval])
       | ((with_reducible first | refine hK _ _ ?_ | (clear hK; refine hK _ _ ?_) | (clear hK; clear hK; refine hK _ _ ?_)); clear hK; try clear K)
       | (simp -implicitDefEqProofs only [f6, f7, f9, f10, hS1, hS2, rS_take, optLL_rS, hto, sl_eS, Nat.sub_zero, true_and, go_sem, seval])
       | (with_reducible intro b)
       | (with_reducible refine And.intro ?_ ?_; · first | assumption | omega | (unfold R64; omega)))
      refine PFC.coe ?_
      simp -implicitDefEqProofs only [coeDs_nil, coeDs_cons, coeD_agg, coeD_g, coeD_nil, coeD_own, coeCs_nil, coeCs_cons, coeC_g, coeC_nil, coeC_own, pureLL, pureL, tg_g, tg_nil, Nat.zero_add, Nat.le_refl, W64_l1, W64_l2, W32_l1, toG_W64, WW_1, WW_2, WW_3, f6, f7, f9, f10, hS1, hS2, rS_take, optLL_rS, hto, sl_eS, Nat.sub_zero, true_and, go_sem, seval]
      refine ⟨by rw [rS_len]; omega, ?_⟩
      refine call_is (p_Down (xs := os.take B.length) (n := s) (fun x hx => ob x (List.mem_of_mem_take hx)) (by rw [List.length_take]; omega) (by omega)) ?_
      rw [show N64 (os.take B.length) / 2 ^ s = N64 A % N64 B by rw [show N64 (os.take B.length) = N64 A % N64 B * 2 ^ s from hos.trans ho.2, Nat.mul_div_cancel _ hps], show N64 out = N64 A / N64 B from ho.1]
      repeat (first
       | (with_reducible first | refine pv_seq fun K hK => ?_ | refine pv_skip ?_ | refine pv_block ?_ | refine pv_scope ?_ | refine pv_label ?_)
       | (with_reducible refine pv_reg ?_; simp -implicitDefEqProofs only [comp_nil, comp_cons, compD_nil, compD_cons, gsl_none, gsl_some, List.getElem?_cons_zero, List.getElem?_cons_succ, Option.map_some, Option.bind_some, lapp_cons, lapp_nil])
       | (with_reducible refine pv_draw (id := 15) [(0, 0), (2, 0), (3, 0), (4, 0), (5, 0), (1, 3), (6, 3), (7, 0), (8, 0)] (by kernel_rfl) ?_; simp -implicitDefEqProofs only [comp_nil, comp_cons, compD_nil, compD_cons, gsl_none, gsl_some, List.getElem?_cons_zero, List.getElem?_cons_succ, Option.map_some, Option.bind_some, lapp_cons, lapp_nil]; simp -implicitDefEqProofs only [f6, f7, f9, f10, hS1, hS2, rS_take, optLL_rS, hto, sl_eS, Nat.sub_zero, true_and, go_sem, seval])
       | (with_reducible refine pv_condT ?_ ?_; · simp -implicitDefEqProofs only [f6, f7, f9, f10, hS1, hS2, rS_take, optLL_rS, hto, sl_eS, Nat.sub_zero, true_and, go_sem, seval] <;> rfl)
       | (with_reducible refine pv_condF ?_ ?_; · simp -implicitDefEqProofs only [f6, f7, f9, f10, hS1, hS2, rS_take, optLL_rS, hto, sl_eS, Nat.sub_zero, true_and, go_sem, seval] <;> rfl)
       | (with_reducible refine pv_exit ?_; simp only [↓reduceIte, Nat.reduceEqDiff])
       | (with_reducible refine pv_ret ?_; simp -implicitDefEqProofs only [retC, retS, retR, resD, oneD, coeDs_nil, coeDs_cons, coeD_agg, coeD_g, coeD_nil, coeD_own, coeCs_nil, coeCs_cons, coeC_g, coeC_nil, coeC_own, f6, f7, f9, f10, hS1, hS2, rS_take, optLL_rS, hto, sl_eS, Nat.sub_zero, true_and, go_sem, seval])
       | ((with_reducible first | refine hK _ _ ?_ | (clear hK; refine hK _ _ ?_) | (clear hK; clear hK; refine hK _ _ ?_)); clear hK; try clear K)
       | (simp -implicitDefEqProofs only [f6, f7, f9, f10, hS1, hS2, rS_take, optLL_rS, hto, sl_eS, Nat.sub_zero, true_and, go_sem, seval])
       | (with_reducible intro b)
       | (with_reducible refine And.intro ?_ ?_; · first | assumption | omega | (unfold R64; omega)))
    clear hK
    refine pv_loop (fun e S => ∃ (k : Nat) (os out : List Nat), k ≤ A.length - B.length + 1 ∧ os.length = A.length + 1 ∧ B64 os ∧ out.length = A.length - B.length + 1 ∧ B64 out ∧ nval 18446744073709551616 os + 18446744073709551616 ^ k * (nval 18446744073709551616 (out.drop k) * nval 18446744073709551616 V) = N64 A * 2 ^ s ∧
      nval 18446744073709551616 os < nval 18446744073709551616 V * 18446744073709551616 ^ k ∧ e 6 = i64 B.length ∧ e 7 = i64 s ∧ e 8 = W64 V ∧ e 9 = .own (.l 27) b1 0 (A.length + 1) (A.length + 1) 1 ∧ e 10 = .own (.l 38) b 0 (A.length - B.length + 1) (A.length - B.length + 1) 1 ∧ e 11 = i64 ((k : Int) - 1) ∧
      S (.l 27) = some ⟨b1, 1, 0, rS (eK .u64) os⟩ ∧ S (.l 38) = some ⟨b, 1, 0, rS (eK .u64) out⟩) (fun e _ => (intD (e 11) + 1).toNat) ?_ ?_
    · refine ⟨A.length - B.length + 1, u, List.replicate (A.length - B.length + 1) 0, by omega, hul, hub, by simp, fun x hx => by rw [List.eq_of_mem_replicate hx]; decide, ?_, ?_, (by simp -implicitDefEqProofs only [f0, f6, f7, f8, f9, e2, hrep, true_and, go_sem, seval]), (by simp -implicitDefEqProofs only [f0, f6, f7, f8, f9, e2, hrep, true_and, go_sem, seval]), (by simp -implicitDefEqProofs only [f0, f6, f7, f8, f9, e2, hrep, true_and, go_sem, seval]), (by simp -implicitDefEqProofs only [f0, f6, f7, f8, f9, e2, hrep, true_and, go_sem, seval]), (by simp -implicitDefEqProofs only [f0, f6, f7, f8, f9, e2, hrep, true_and, go_sem, seval]), ?_, (by simp -implicitDefEqProofs only [f0, f6, f7, f8, f9, e2, hrep, true_and, go_sem, seval]), (by simp -implicitDefEqProofs only [f0, f6, f7, f8, f9, e2, hrep, true_and, go_sem, seval])⟩
      · rw [nval_drop_all (by simp), Nat.zero_mul, Nat.mul_zero, Nat.add_zero]; exact hNu
      · rw [hNu, hNV, Nat.mul_right_comm]
        refine Nat.mul_lt_mul_of_pos_right ?_ (Nat.two_pow_pos s)
        have h3 := Nat.mul_le_mul_right (18446744073709551616 ^ (A.length - B.length + 1)) hBl
        rw [← Nat.pow_add, show B.length - 1 + (A.length - B.length + 1) = A.length by omega] at h3
        omega
      · rw [show ((A.length - B.length + 1 : Nat) : Int) - 1 = ((A.length - B.length : Nat) : Int) by omega]; rfl
    · rintro e S ⟨k, os, out, hk, hol, ob, hutl, utb, hv, hlt, f6, f7, f8, f9, f10, f11, hS1, hS2⟩
      have hmz : (intD (e 11) + 1).toNat = k := by rw [f11]; simp only [i64, intD]; omega
      rcases Nat.eq_zero_or_pos k with rfl | hp
      · have hneg : ((0 : Int) ≤ ((0 : Nat) : Int) - 1) = False := eq_false (by omega)
        repeat (first
         | (with_reducible first | refine pv_seq fun K hK => ?_ | refine pv_skip ?_ | refine pv_block ?_ | refine pv_scope ?_ | refine pv_label ?_)
         | (with_reducible refine pv_reg ?_; simp -implicitDefEqProofs only [comp_nil, comp_cons, compD_nil, compD_cons, gsl_none, gsl_some, List.getElem?_cons_zero, List.getElem?_cons_succ, Option.map_some, Option.bind_some, lapp_cons, lapp_nil])
         | (with_reducible refine pv_draw (id := 15) [(0, 0), (2, 0), (3, 0), (4, 0), (5, 0), (1, 3), (6, 3), (7, 0), (8, 0)] (by kernel_rfl) ?_; simp -implicitDefEqProofs only [comp_nil, comp_cons, compD_nil, compD_cons, gsl_none, gsl_some, List.getElem?_cons_zero, List.getElem?_cons_succ, Option.map_some, Option.bind_some, lapp_cons, lapp_nil]; simp -implicitDefEqProofs only [f6, f7, f8, f9, f10, f11, hneg, true_and, go_sem, seval])
         | (with_reducible refine pv_condT ?_ ?_; · simp -implicitDefEqProofs only [f6, f7, f8, f9, f10, f11, hneg, true_and, go_sem, seval] <;> rfl)
         | (with_reducible refine pv_condF ?_ ?_; · simp -implicitDefEqProofs only [f6, f7, f8, f9, f10, f11, hneg, true_and, go_sem, seval] <;> rfl)
         | (with_reducible refine pv_exit ?_; simp only [↓reduceIte, Nat.reduceEqDiff])
         | (with_reducible refine pv_ret ?_; simp -implicitDefEqProofs only [retC, retS, retR, resD, oneD, coeDs_nil, coeDs_cons, coeD_agg, coeD_g, coeD_nil, coeD_own, coeCs_nil, coeCs_cons, coeC_g, coeC_nil, coeC_own, f6, f7, f8, f9, f10, f11, hneg, true_and, go_sem, seval])
         | ((with_reducible first | refine hK _ _ ?_ | (clear hK; refine hK _ _ ?_) | (clear hK; clear hK; refine hK _ _ ?_)); clear hK; try clear K)
         | (simp -implicitDefEqProofs only [f6, f7, f8, f9, f10, f11, hneg, true_and, go_sem, seval])
         | (with_reducible intro b)
         | (with_reducible refine And.intro ?_ ?_; · first | assumption | omega | (unfold R64; omega)))
        refine J1 _ _ os out hol ob hutl utb ?_ ?_ (by simp -implicitDefEqProofs only [f6, f7, f8, f9, f10, f11, hneg, true_and, go_sem, seval]) (by simp -implicitDefEqProofs only [f6, f7, f8, f9, f10, f11, hneg, true_and, go_sem, seval]) (by simp -implicitDefEqProofs only [f6, f7, f8, f9, f10, f11, hneg, true_and, go_sem, seval]) (by simp -implicitDefEqProofs only [f6, f7, f8, f9, f10, f11, hneg, true_and, go_sem, seval]) hS1 hS2
        · rw [List.drop_zero, Nat.pow_zero, Nat.one_mul] at hv; exact hv
        · rw [Nat.pow_zero, Nat.mul_one] at hlt; exact hlt
      · obtain ⟨j, rfl⟩ : ∃ j, k = j + 1 := ⟨k - 1, by omega⟩
        rw [cast_succ_sub] at f11
        have hG : Gs 18446744073709551616 j os V := ⟨by decide, ob, hVb, by omega, by omega, hVt, hlt⟩
        have hsl : j + B.length + 1 - j = V.length + 1 := by omega
        have hz := hG.zero
        repeat (first
         | (with_reducible first | refine pv_seq fun K hK => ?_ | refine pv_skip ?_ | refine pv_block ?_ | refine pv_scope ?_ | refine pv_label ?_)
         | (with_reducible refine pv_reg ?_; simp -implicitDefEqProofs only [comp_nil, comp_cons, compD_nil, compD_cons, gsl_none, gsl_some, List.getElem?_cons_zero, List.getElem?_cons_succ, Option.map_some, Option.bind_some, lapp_cons, lapp_nil])
         | (with_reducible refine pv_draw (id := 15) [(0, 0), (2, 0), (3, 0), (4, 0), (5, 0), (1, 3), (6, 3), (7, 0), (8, 0)] (by kernel_rfl) ?_; simp -implicitDefEqProofs only [comp_nil, comp_cons, compD_nil, compD_cons, gsl_none, gsl_some, List.getElem?_cons_zero, List.getElem?_cons_succ, Option.map_some, Option.bind_some, lapp_cons, lapp_nil]; simp -implicitDefEqProofs only [f6, f7, f8, f9, f10, f11, hS1, hS2, hsl, Nat.zero_add, true_and, go_sem, seval])
         | (with_reducible refine pv_condT ?_ ?_; · simp -implicitDefEqProofs only [f6, f7, f8, f9, f10, f11, hS1, hS2, hsl, Nat.zero_add, true_and, go_sem, seval] <;> rfl)
         | (with_reducible refine pv_condF ?_ ?_; · simp -implicitDefEqProofs only [f6, f7, f8, f9, f10, f11, hS1, hS2, hsl, Nat.zero_add, true_and, go_sem, seval] <;> rfl)
         | (with_reducible refine pv_exit ?_; simp only [↓reduceIte, Nat.reduceEqDiff])
         | (with_reducible refine pv_ret ?_; simp -implicitDefEqProofs only [retC, retS, retR, resD, oneD, coeDs_nil, coeDs_cons, coeD_agg, coeD_g, coeD_nil, coeD_own, coeCs_nil, coeCs_cons, coeC_g, coeC_nil, coeC_own, f6, f7, f8, f9, f10, f11, hS1, hS2, hsl, Nat.zero_add, true_and, go_sem, seval])
         | ((with_reducible first | refine hK _ _ ?_ | (clear hK; refine hK _ _ ?_) | (clear hK; clear hK; refine hK _ _ ?_)); clear hK; try clear K)
         | (simp -implicitDefEqProofs only [f6, f7, f8, f9, f10, f11, hS1, hS2, hsl, Nat.zero_add, true_and, go_sem, seval])
         | (with_reducible intro b)
         | (with_reducible refine And.intro ?_ ?_; · first | assumption | omega | (unfold R64; omega)))
        refine p_guess hS1 hG (by omega) (fun q hqW hq1 hq2 => ?_)
        repeat (first
         | (with_reducible first | refine pv_seq fun K hK => ?_ | refine pv_skip ?_ | refine pv_block ?_ | refine pv_scope ?_ | refine pv_label ?_)
         | (with_reducible refine pv_reg ?_; simp -implicitDefEqProofs only [comp_nil, comp_cons, compD_nil, compD_cons, gsl_none, gsl_some, List.getElem?_cons_zero, List.getElem?_cons_succ, Option.map_some, Option.bind_some, lapp_cons, lapp_nil])
         | (with_reducible refine pv_draw (id := 15) [(0, 0), (2, 0), (3, 0), (4, 0), (5, 0), (1, 3), (6, 3), (7, 0), (8, 0)] (by kernel_rfl) ?_; simp -implicitDefEqProofs only [comp_nil, comp_cons, compD_nil, compD_cons, gsl_none, gsl_some, List.getElem?_cons_zero, List.getElem?_cons_succ, Option.map_some, Option.bind_some, lapp_cons, lapp_nil]; simp -implicitDefEqProofs only [f6, f7, f8, f9, f10, f11, hS1, hS2, hsl, Nat.zero_add, true_and, go_sem, seval])
         | (with_reducible refine pv_condT ?_ ?_; · simp -implicitDefEqProofs only [f6, f7, f8, f9, f10, f11, hS1, hS2, hsl, Nat.zero_add, true_and, go_sem, seval] <;> rfl)
         | (with_reducible refine pv_condF ?_ ?_; · simp -implicitDefEqProofs only [f6, f7, f8, f9, f10, f11, hS1, hS2, hsl, Nat.zero_add, true_and, go_sem, seval] <;> rfl)
         | (with_reducible refine pv_exit ?_; simp only [↓reduceIte, Nat.reduceEqDiff])
         | (with_reducible refine pv_ret ?_; simp -implicitDefEqProofs only [retC, retS, retR, resD, oneD, coeDs_nil, coeDs_cons, coeD_agg, coeD_g, coeD_nil, coeD_own, coeCs_nil, coeCs_cons, coeC_g, coeC_nil, coeC_own, f6, f7, f8, f9, f10, f11, hS1, hS2, hsl, Nat.zero_add, true_and, go_sem, seval])
         | ((with_reducible first | refine hK _ _ ?_ | (clear hK; refine hK _ _ ?_) | (clear hK; clear hK; refine hK _ _ ?_)); clear hK; try clear K)
         | (simp -implicitDefEqProofs only [f6, f7, f8, f9, f10, f11, hS1, hS2, hsl, Nat.zero_add, true_and, go_sem, seval])
         | (with_reducible intro b)
         | (with_reducible refine And.intro ?_ ?_; · first | assumption | omega | (unfold R64; omega)))
        refine p_less hS1 ob hVb hqW (Nat.zero_le _) (by omega) (by omega) (fun us' r hul' ub' hout hv' => ?_)
        repeat (first
         | (with_reducible first | refine pv_seq fun K hK => ?_ | refine pv_skip ?_ | refine pv_block ?_ | refine pv_scope ?_ | refine pv_label ?_)
         | (with_reducible refine pv_reg ?_; simp -implicitDefEqProofs only [comp_nil, comp_cons, compD_nil, compD_cons, gsl_none, gsl_some, List.getElem?_cons_zero, List.getElem?_cons_succ, Option.map_some, Option.bind_some, lapp_cons, lapp_nil])
         | (with_reducible refine pv_draw (id := 15) [(0, 0), (2, 0), (3, 0), (4, 0), (5, 0), (1, 3), (6, 3), (7, 0), (8, 0)] (by kernel_rfl) ?_; simp -implicitDefEqProofs only [comp_nil, comp_cons, compD_nil, compD_cons, gsl_none, gsl_some, List.getElem?_cons_zero, List.getElem?_cons_succ, Option.map_some, Option.bind_some, lapp_cons, lapp_nil]; simp -implicitDefEqProofs only [f6, f7, f8, f9, f10, f11, hS1, hS2, hsl, Nat.zero_add, true_and, go_sem, seval])
         | (with_reducible refine pv_condT ?_ ?_; · simp -implicitDefEqProofs only [f6, f7, f8, f9, f10, f11, hS1, hS2, hsl, Nat.zero_add, true_and, go_sem, seval] <;> rfl)
         | (with_reducible refine pv_condF ?_ ?_; · simp -implicitDefEqProofs only [f6, f7, f8, f9, f10, f11, hS1, hS2, hsl, Nat.zero_add, true_and, go_sem, seval] <;> rfl)
         | (with_reducible refine pv_exit ?_; simp only [↓reduceIte, Nat.reduceEqDiff])
         | (with_reducible refine pv_ret ?_; simp -implicitDefEqProofs only [retC, retS, retR, resD, oneD, coeDs_nil, coeDs_cons, coeD_agg, coeD_g, coeD_nil, coeD_own, coeCs_nil, coeCs_cons, coeC_g, coeC_nil, coeC_own, f6, f7, f8, f9, f10, f11, hS1, hS2, hsl, Nat.zero_add, true_and, go_sem, seval])
         | ((with_reducible first | refine hK _ _ ?_ | (clear hK; refine hK _ _ ?_) | (clear hK; clear hK; refine hK _ _ ?_)); clear hK; try clear K)
         | (simp -implicitDefEqProofs only [f6, f7, f8, f9, f10, f11, hS1, hS2, hsl, Nat.zero_add, true_and, go_sem, seval])
         | (with_reducible intro b)
         | (with_reducible refine And.intro ?_ ?_; · first | assumption | omega | (unfold R64; omega)))
        have J2 : ∀ (e : DEnv) (S : Store) (us2 : List Nat), us2.length = A.length + 1 → B64 us2 → nval 18446744073709551616 us2 + 18446744073709551616 ^ j * (hG.q * nval 18446744073709551616 V) = nval 18446744073709551616 os → nval 18446744073709551616 us2 < nval 18446744073709551616 V * 18446744073709551616 ^ j →
            e 6 = i64 B.length → e 7 = i64 s → e 8 = W64 V → e 9 = .own (.l 27) b1 0 (A.length + 1) (A.length + 1) 1 → e 10 = .own (.l 38) b 0 (A.length - B.length + 1) (A.length - B.length + 1) 1 → e 11 = i64 j → e 12 = w64 hG.q → S (.l 27) = some ⟨b1, 1, 0, rS (eK .u64) us2⟩ → S (.l 38) = some ⟨b, 1, 0, rS (eK .u64) out⟩ → K e S := by
          intro e S us2 hl2 hb2 hv2 hlt2 f6 f7 f8 f9 f10 f11 f12 hS1 hS2
          have g0 := rS_at (k := .u64) (xs := out) (i := j) (by omega)
          repeat (first
           | (with_reducible first | refine pv_seq fun K hK => ?_ | refine pv_skip ?_ | refine pv_block ?_ | refine pv_scope ?_ | refine pv_label ?_)
           | (with_reducible refine pv_reg ?_; simp -implicitDefEqProofs only [comp_nil, comp_cons, compD_nil, compD_cons, gsl_none, gsl_some, List.getElem?_cons_zero, List.getElem?_cons_succ, Option.map_some, Option.bind_some, lapp_cons, lapp_nil])
           | (with_reducible refine pv_draw (id := 15) [(0, 0), (2, 0), (3, 0), (4, 0), (5, 0), (1, 3), (6, 3), (7, 0), (8, 0)] (by kernel_rfl) ?_; simp -implicitDefEqProofs only [comp_nil, comp_cons, compD_nil, compD_cons, gsl_none, gsl_some, List.getElem?_cons_zero, List.getElem?_cons_succ, Option.map_some, Option.bind_some, lapp_cons, lapp_nil]; simp -implicitDefEqProofs only [f6, f7, f8, f9, f10, f11, f12, hS1, hS2, g0, D.one, Nat.le_refl, Nat.zero_add, true_and, go_sem, seval])
           | (with_reducible refine pv_condT ?_ ?_; · simp -implicitDefEqProofs only [f6, f7, f8, f9, f10, f11, f12, hS1, hS2, g0, D.one, Nat.le_refl, Nat.zero_add, true_and, go_sem, seval] <;> rfl)
           | (with_reducible refine pv_condF ?_ ?_; · simp -implicitDefEqProofs only [f6, f7, f8, f9, f10, f11, f12, hS1, hS2, g0, D.one, Nat.le_refl, Nat.zero_add, true_and, go_sem, seval] <;> rfl)
           | (with_reducible refine pv_exit ?_; simp only [↓reduceIte, Nat.reduceEqDiff])
           | (with_reducible refine pv_ret ?_; simp -implicitDefEqProofs only [retC, retS, retR, resD, oneD, coeDs_nil, coeDs_cons, coeD_agg, coeD_g, coeD_nil, coeD_own, coeCs_nil, coeCs_cons, coeC_g, coeC_nil, coeC_own, f6, f7, f8, f9, f10, f11, f12, hS1, hS2, g0, D.one, Nat.le_refl, Nat.zero_add, true_and, go_sem, seval])
           | ((with_reducible first | refine hK _ _ ?_ | (clear hK; refine hK _ _ ?_) | (clear hK; clear hK; refine hK _ _ ?_)); clear hK; try clear K)
           | (simp -implicitDefEqProofs only [f6, f7, f8, f9, f10, f11, f12, hS1, hS2, g0, D.one, Nat.le_refl, Nat.zero_add, true_and, go_sem, seval])
           | (with_reducible intro b)
           | (with_reducible refine And.intro ?_ ?_; · first | assumption | omega | (unfold R64; omega)))
          refine ⟨⟨j, us2, out.set j hG.q, by omega, hl2, hb2, by simp [hutl], set_lt utb hG.q_lt, ?_, hlt2, rfl, rfl, rfl⟩, ?_⟩
          · rw [nval_drop (xs := out.set j hG.q) (i := j) (by rw [List.length_set]; omega), getD_set, if_pos ⟨rfl, by omega⟩, List.drop_set_of_lt (by omega), ← hv, ← hv2, Nat.add_mul, Nat.mul_add, Nat.pow_succ]
            generalize nval 18446744073709551616 (out.drop (j + 1)) = o
            rw [Nat.mul_assoc 18446744073709551616, Nat.mul_assoc (18446744073709551616 ^ j)]
            omega
          · rw [hmz]; simp only [intD]; omega
        clear hK
        cases r with
        | false =>
          repeat (first
           | (with_reducible first | refine pv_seq fun K hK => ?_ | refine pv_skip ?_ | refine pv_block ?_ | refine pv_scope ?_ | refine pv_label ?_)
           | (with_reducible refine pv_reg ?_; simp -implicitDefEqProofs only [comp_nil, comp_cons, compD_nil, compD_cons, gsl_none, gsl_some, List.getElem?_cons_zero, List.getElem?_cons_succ, Option.map_some, Option.bind_some, lapp_cons, lapp_nil])
           | (with_reducible refine pv_draw (id := 15) [(0, 0), (2, 0), (3, 0), (4, 0), (5, 0), (1, 3), (6, 3), (7, 0), (8, 0)] (by kernel_rfl) ?_; simp -implicitDefEqProofs only [comp_nil, comp_cons, compD_nil, compD_cons, gsl_none, gsl_some, List.getElem?_cons_zero, List.getElem?_cons_succ, Option.map_some, Option.bind_some, lapp_cons, lapp_nil]; simp -implicitDefEqProofs only [f6, f7, f8, f9, f10, f11, hS1, hS2, hsl, Nat.zero_add, true_and, go_sem, seval])
           | (with_reducible refine pv_condT ?_ ?_; · simp -implicitDefEqProofs only [f6, f7, f8, f9, f10, f11, hS1, hS2, hsl, Nat.zero_add, true_and, go_sem, seval] <;> rfl)
           | (with_reducible refine pv_condF ?_ ?_; · simp -implicitDefEqProofs only [f6, f7, f8, f9, f10, f11, hS1, hS2, hsl, Nat.zero_add, true_and, go_sem, seval] <;> rfl)
           | (with_reducible refine pv_exit ?_; simp only [↓reduceIte, Nat.reduceEqDiff])
           | (with_reducible refine pv_ret ?_; simp -implicitDefEqProofs only [retC, retS, retR, resD, oneD, coeDs_nil, coeDs_cons, coeD_agg, coeD_g, coeD_nil, coeD_own, coeCs_nil, coeCs_cons, coeC_g, coeC_nil, coeC_own, f6, f7, f8, f9, f10, f11, hS1, hS2, hsl, Nat.zero_add, true_and, go_sem, seval])
           | ((with_reducible first | refine hK _ _ ?_ | (clear hK; refine hK _ _ ?_) | (clear hK; clear hK; refine hK _ _ ?_)); clear hK; try clear K)
           | (simp -implicitDefEqProofs only [f6, f7, f8, f9, f10, f11, hS1, hS2, hsl, Nat.zero_add, true_and, go_sem, seval])
           | (with_reducible intro b)
           | (with_reducible refine And.intro ?_ ?_; · first | assumption | omega | (unfold R64; omega)))
          have hv3 : nval 18446744073709551616 us' + 18446744073709551616 ^ j * (q * nval 18446744073709551616 V) = nval 18446744073709551616 os := by simpa using hv'
          obtain ⟨rfl, h4⟩ := hG.take hv3 hq1
          exact J2 _ _ us' (by omega) ub' hv3 h4 (by simp -implicitDefEqProofs only [f6, f7, f8, f9, f10, f11, hS1, hS2, hsl, Nat.zero_add, true_and, go_sem, seval]) (by simp -implicitDefEqProofs only [f6, f7, f8, f9, f10, f11, hS1, hS2, hsl, Nat.zero_add, true_and, go_sem, seval]) (by simp -implicitDefEqProofs only [f6, f7, f8, f9, f10, f11, hS1, hS2, hsl, Nat.zero_add, true_and, go_sem, seval]) (by simp -implicitDefEqProofs only [f6, f7, f8, f9, f10, f11, hS1, hS2, hsl, Nat.zero_add, true_and, go_sem, seval]) (by simp -implicitDefEqProofs only [f6, f7, f8, f9, f10, f11, hS1, hS2, hsl, Nat.zero_add, true_and, go_sem, seval]) (by simp -implicitDefEqProofs only [f6, f7, f8, f9, f10, f11, hS1, hS2, hsl, Nat.zero_add, true_and, go_sem, seval]) (by simp -implicitDefEqProofs only [f6, f7, f8, f9, f10, f11, hS1, hS2, hsl, Nat.zero_add, true_and, go_sem, seval]) (by simp -implicitDefEqProofs only [f6, f7, f8, f9, f10, f11, hS1, hS2, hsl, Nat.zero_add, true_and, go_sem, seval]) (by simp -implicitDefEqProofs only [f6, f7, f8, f9, f10, f11, hS1, hS2, hsl, Nat.zero_add, true_and, go_sem, seval])
        | true =>
          have hX1 : nval 18446744073709551616 us' < 18446744073709551616 ^ (j + V.length + 1) := hi_lt (by decide) ub' fun i hi => by rw [hout i (.inr hi)]; exact hz i hi
          have hv3 : nval 18446744073709551616 us' + 18446744073709551616 ^ j * (q * nval 18446744073709551616 V) = nval 18446744073709551616 os + 18446744073709551616 ^ (j + V.length + 1) := by simpa using hv'
          have hq0 : 0 < q := by
            rcases Nat.eq_zero_or_pos q with rfl | h
            · rw [Nat.zero_mul, Nat.mul_zero] at hv3; omega
            · exact h
          have hw : IntKind.u64.wrap ((q : Int) - 1) = ((q - 1 : Nat) : Int) := by rw [show (q : Int) - 1 = ((q - 1 : Nat) : Int) by omega, wrap64_nat, Nat.mod_eq_of_lt (by omega)]
          repeat (first
           | (with_reducible first | refine pv_seq fun K hK => ?_ | refine pv_skip ?_ | refine pv_block ?_ | refine pv_scope ?_ | refine pv_label ?_)
           | (with_reducible refine pv_reg ?_; simp -implicitDefEqProofs only [comp_nil, comp_cons, compD_nil, compD_cons, gsl_none, gsl_some, List.getElem?_cons_zero, List.getElem?_cons_succ, Option.map_some, Option.bind_some, lapp_cons, lapp_nil])
           | (with_reducible refine pv_draw (id := 15) [(0, 0), (2, 0), (3, 0), (4, 0), (5, 0), (1, 3), (6, 3), (7, 0), (8, 0)] (by kernel_rfl) ?_; simp -implicitDefEqProofs only [comp_nil, comp_cons, compD_nil, compD_cons, gsl_none, gsl_some, List.getElem?_cons_zero, List.getElem?_cons_succ, Option.map_some, Option.bind_some, lapp_cons, lapp_nil]; simp -implicitDefEqProofs only [f6, f7, f8, f9, f10, f11, hS1, hS2, hsl, Nat.zero_add, hw, updS_updS, true_and, go_sem, seval])
           | (with_reducible refine pv_condT ?_ ?_; · simp -implicitDefEqProofs only [f6, f7, f8, f9, f10, f11, hS1, hS2, hsl, Nat.zero_add, hw, updS_updS, true_and, go_sem, seval] <;> rfl)
           | (with_reducible refine pv_condF ?_ ?_; · simp -implicitDefEqProofs only [f6, f7, f8, f9, f10, f11, hS1, hS2, hsl, Nat.zero_add, hw, updS_updS, true_and, go_sem, seval] <;> rfl)
           | (with_reducible refine pv_exit ?_; simp only [↓reduceIte, Nat.reduceEqDiff])
           | (with_reducible refine pv_ret ?_; simp -implicitDefEqProofs only [retC, retS, retR, resD, oneD, coeDs_nil, coeDs_cons, coeD_agg, coeD_g, coeD_nil, coeD_own, coeCs_nil, coeCs_cons, coeC_g, coeC_nil, coeC_own, f6, f7, f8, f9, f10, f11, hS1, hS2, hsl, Nat.zero_add, hw, updS_updS, true_and, go_sem, seval])
           | ((with_reducible first | refine hK _ _ ?_ | (clear hK; refine hK _ _ ?_) | (clear hK; clear hK; refine hK _ _ ?_)); clear hK; try clear K)
           | (simp -implicitDefEqProofs only [f6, f7, f8, f9, f10, f11, hS1, hS2, hsl, Nat.zero_add, hw, updS_updS, true_and, go_sem, seval])
           | (with_reducible intro b)
           | (with_reducible refine And.intro ?_ ?_; · first | assumption | omega | (unfold R64; omega)))
          refine p_more (us := us') (p := 0) updS_at ub' hVb (Nat.zero_le _) (by omega) (by omega) (fun us2 c hl2 hb2 hout2 hv2 hc => ?_)
          have hX2 : nval 18446744073709551616 us2 < 18446744073709551616 ^ (j + V.length + 1) := hi_lt (by decide) hb2 fun i hi => by rw [hout2 i (.inr hi), hout i (.inr hi)]; exact hz i hi
          obtain ⟨h3, h4, h5⟩ := hG.back hv3 hX1 hq2 hv2 hX2 hc
          obtain rfl : q = hG.q + 1 := h3
          rw [Nat.add_sub_cancel]
          repeat (first
           | (with_reducible first | refine pv_seq fun K hK => ?_ | refine pv_skip ?_ | refine pv_block ?_ | refine pv_scope ?_ | refine pv_label ?_)
           | (with_reducible refine pv_reg ?_; simp -implicitDefEqProofs only [comp_nil, comp_cons, compD_nil, compD_cons, gsl_none, gsl_some, List.getElem?_cons_zero, List.getElem?_cons_succ, Option.map_some, Option.bind_some, lapp_cons, lapp_nil])
           | (with_reducible refine pv_draw (id := 15) [(0, 0), (2, 0), (3, 0), (4, 0), (5, 0), (1, 3), (6, 3), (7, 0), (8, 0)] (by kernel_rfl) ?_; simp -implicitDefEqProofs only [comp_nil, comp_cons, compD_nil, compD_cons, gsl_none, gsl_some, List.getElem?_cons_zero, List.getElem?_cons_succ, Option.map_some, Option.bind_some, lapp_cons, lapp_nil]; simp -implicitDefEqProofs only [f6, f7, f8, f9, f10, f11, hS1, hS2, hsl, Nat.zero_add, hw, updS_updS, true_and, go_sem, seval])
           | (with_reducible refine pv_condT ?_ ?_; · simp -implicitDefEqProofs only [f6, f7, f8, f9, f10, f11, hS1, hS2, hsl, Nat.zero_add, hw, updS_updS, true_and, go_sem, seval] <;> rfl)
           | (with_reducible refine pv_condF ?_ ?_; · simp -implicitDefEqProofs only [f6, f7, f8, f9, f10, f11, hS1, hS2, hsl, Nat.zero_add, hw, updS_updS, true_and, go_sem, seval] <;> rfl)
           | (with_reducible refine pv_exit ?_; simp only [↓reduceIte, Nat.reduceEqDiff])
           | (with_reducible refine pv_ret ?_; simp -implicitDefEqProofs only [retC, retS, retR, resD, oneD, coeDs_nil, coeDs_cons, coeD_agg, coeD_g, coeD_nil, coeD_own, coeCs_nil, coeCs_cons, coeC_g, coeC_nil, coeC_own, f6, f7, f8, f9, f10, f11, hS1, hS2, hsl, Nat.zero_add, hw, updS_updS, true_and, go_sem, seval])
           | ((with_reducible first | refine hK _ _ ?_ | (clear hK; refine hK _ _ ?_) | (clear hK; clear hK; refine hK _ _ ?_)); clear hK; try clear K)
           | (simp -implicitDefEqProofs only [f6, f7, f8, f9, f10, f11, hS1, hS2, hsl, Nat.zero_add, hw, updS_updS, true_and, go_sem, seval])
           | (with_reducible intro b)
           | (with_reducible refine And.intro ?_ ?_; · first | assumption | omega | (unfold R64; omega)))
          exact J2 _ _ us2 (by omega) hb2 h4 h5 (by simp -implicitDefEqProofs only [f6, f7, f8, f9, f10, f11, hS1, hS2, hsl, Nat.zero_add, hw, updS_updS, true_and, go_sem, seval]) (by simp -implicitDefEqProofs only [f6, f7, f8, f9, f10, f11, hS1, hS2, hsl, Nat.zero_add, hw, updS_updS, true_and, go_sem, seval]) (by simp -implicitDefEqProofs only [f6, f7, f8, f9, f10, f11, hS1, hS2, hsl, Nat.zero_add, hw, updS_updS, true_and, go_sem, seval]) (by simp -implicitDefEqProofs only [f6, f7, f8, f9, f10, f11, hS1, hS2, hsl, Nat.zero_add, hw, updS_updS, true_and, go_sem, seval]) (by simp -implicitDefEqProofs only [f6, f7, f8, f9, f10, f11, hS1, hS2, hsl, Nat.zero_add, hw, updS_updS, true_and, go_sem, seval]) (by simp -implicitDefEqProofs only [f6, f7, f8, f9, f10, f11, hS1, hS2, hsl, Nat.zero_add, hw, updS_updS, true_and, go_sem, seval]) (by simp -implicitDefEqProofs only [f6, f7, f8, f9, f10, f11, hS1, hS2, hsl, Nat.zero_add, hw, updS_updS, true_and, go_sem, seval]) (by simp -implicitDefEqProofs only [f6, f7, f8, f9, f10, f11, hS1, hS2, hsl, Nat.zero_add, hw, updS_updS, true_and, go_sem, seval]) (by simp -implicitDefEqProofs only [f6, f7, f8, f9, f10, f11, hS1, hS2, hsl, Nat.zero_add, hw, updS_updS, true_and, go_sem, seval])
  repeat (first
   | (with_reducible first | refine pv_seq fun K hK => ?_ | refine pv_skip ?_ | refine pv_block ?_ | refine pv_scope ?_ | refine pv_label ?_)
   | (with_reducible refine pv_reg ?_; simp -implicitDefEqProofs only [comp_nil, comp_cons, compD_nil, compD_cons, gsl_none, gsl_some, List.getElem?_cons_zero, List.getElem?_cons_succ, Option.map_some, Option.bind_some, lapp_cons, lapp_nil])
   | (with_reducible refine pv_draw (id := 15) [(0, 0), (2, 0), (3, 0), (4, 0), (5, 0), (1, 3), (6, 3), (7, 0), (8, 0)] (by kernel_rfl) ?_; simp -implicitDefEqProofs only [comp_nil, comp_cons, compD_nil, compD_cons, gsl_none, gsl_some, List.getElem?_cons_zero, List.getElem?_cons_succ, Option.map_some, Option.bind_some, lapp_cons, lapp_nil]; simp -implicitDefEqProofs only [e1, hs, hrep, rS_len, hUl, rS_take, rS_drop, rS_app, List.take_zero, Nat.zero_add, updS_updS, true_and, go_sem, seval])
   | (with_reducible refine pv_condT ?_ ?_; · simp -implicitDefEqProofs only [e1, hs, hrep, rS_len, hUl, rS_take, rS_drop, rS_app, List.take_zero, Nat.zero_add, updS_updS, true_and, go_sem, seval] <;> rfl)
   | (with_reducible refine pv_condF ?_ ?_; · simp -implicitDefEqProofs only [e1, hs, hrep, rS_len, hUl, rS_take, rS_drop, rS_app, List.take_zero, Nat.zero_add, updS_updS, true_and, go_sem, seval] <;> rfl)
   | (with_reducible refine pv_exit ?_; simp only [↓reduceIte, Nat.reduceEqDiff])
   | (with_reducible refine pv_ret ?_; simp -implicitDefEqProofs only [retC, retS, retR, resD, oneD, coeDs_nil, coeDs_cons, coeD_agg, coeD_g, coeD_nil, coeD_own, coeCs_nil, coeCs_cons, coeC_g, coeC_nil, coeC_own, e1, hs, hrep, rS_len, hUl, rS_take, rS_drop, rS_app, List.take_zero, Nat.zero_add, updS_updS, true_and, go_sem, seval])
   | ((with_reducible first | refine hK _ _ ?_ | (clear hK; refine hK _ _ ?_) | (clear hK; clear hK; refine hK _ _ ?_)); clear hK; try clear K)
   | (simp -implicitDefEqProofs only [e1, hs, hrep, rS_len, hUl, rS_take, rS_drop, rS_app, List.take_zero, Nat.zero_add, updS_updS, true_and, go_sem, seval])
   | (with_reducible intro b)
   | (with_reducible refine And.intro ?_ ?_; · first | assumption | omega | (unfold R64; omega)))
  refine ⟨by simp, ?_⟩
  rw [List.take_length, List.drop_replicate, ← hu]
  exact J0 _ _ (by simp -implicitDefEqProofs only [e1, hs, hrep, rS_len, hUl, rS_take, rS_drop, rS_app, List.take_zero, Nat.zero_add, updS_updS, true_and, go_sem, seval]) (by simp -implicitDefEqProofs only [e1, hs, hrep, rS_len, hUl, rS_take, rS_drop, rS_app, List.take_zero, Nat.zero_add, updS_updS, true_and, go_sem, seval]) (by simp -implicitDefEqProofs only [e1, hs, hrep, rS_len, hUl, rS_take, rS_drop, rS_app, List.take_zero, Nat.zero_add, updS_updS, true_and, go_sem, seval]) (by simp -implicitDefEqProofs only [e1, hs, hrep, rS_len, hUl, rS_take, rS_drop, rS_app, List.take_zero, Nat.zero_add, updS_updS, true_and, go_sem, seval]) (by simp -implicitDefEqProofs only [e1, hs, hrep, rS_len, hUl, rS_take, rS_drop, rS_app, List.take_zero, Nat.zero_add, updS_updS, true_and, go_sem, seval])

end Go.V

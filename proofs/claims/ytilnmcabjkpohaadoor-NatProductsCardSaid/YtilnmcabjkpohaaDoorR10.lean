/- The document's numbers: quotient and rest, over values as data. -/
import Derived.Test.YtilnmcabjkpohaaDoorR9
import Derived.Test.YtilnmcabjkpohaaDoorR4
import Derived.Test.YtilnmcabjkpohaaDoorB2
set_option linter.unusedSimpArgs false
set_option linter.unusedVariables false
set_option maxRecDepth 100000
namespace Go.V
open Go Go.RowKit Go.Proofs

theorem len_lt {R n j : Nat} (h : R < 4294967296 * n) (hn : (D32 n).length ≤ j) : (D32 R).length ≤ j + 1 := by
  refine digs_len_le two32 (Nat.lt_of_lt_of_le h ?_)
  rw [Nat.pow_succ, Nat.mul_comm]
  exact Nat.mul_le_mul_right _ (Nat.le_of_lt (Nat.lt_of_lt_of_le (lt_pow_len two32 n) (Nat.pow_le_pow_right (by decide) hn)))

theorem lt_bitLen (m : Nat) : m < 2 ^ bitLen m := by
  unfold bitLen
  split
  · omega
  · rename_i h; exact Nat.lt_log2_self
theorem bitLen_le32 (m : Nat) : bitLen m ≤ 32 * (D32 m).length := by
  refine bl_le ?_
  have := lt_pow_len two32 m
  rwa [show (4294967296 : Nat) = 2 ^ 32 from rfl, ← Nat.pow_mul] at this

theorem p_rDiv {m n : Nat} (h0 : 0 < n) (hlm : (D32 m).length ≤ 1000000) (hln : (D32 n).length ≤ 1000000) : PC Tryd.prog 30 [W32 (D32 m), W32 (D32 n)] fun d => d = .tup [W32 (D32 (m / n)), W32 (D32 (m % n))] := by
  have hbm : B32 (D32 m) := digs_lt two32 m
  have hnm : nval 4294967296 (D32 m) = m := nval_digs two32 m
  obtain ⟨L, hL⟩ : ∃ L, (D32 m).length = L := ⟨_, rfl⟩
  refine PC.body (args := [W32 (D32 m), W32 (D32 n)]) (rs := [.tmp 4, .tmp 5]) mixed Tryd.func30 rfl (by kernel_rfl) (by kernel_rfl) (Nat.le_of_ble_eq_true rfl) rfl ?_
  repeat (first
   | (with_reducible first | refine pv_seq fun K hK => ?_ | refine pv_skip ?_ | refine pv_block ?_ | refine pv_scope ?_ | refine pv_label ?_)
   | (with_reducible refine pv_reg ?_; simp -implicitDefEqProofs only [comp_nil, comp_cons, compD_nil, compD_cons, gsl_none, gsl_some, List.getElem?_cons_zero, List.getElem?_cons_succ, Option.map_some, Option.bind_some, lapp_cons, lapp_nil])
   | (with_reducible refine pv_draw (id := 10) [(0, 0), (1, 0), (2, 0), (3, 0), (4, 1), (5, 0), (6, 0), (7, 0), (8, 0), (9, 0), (10, 3)] (by kernel_rfl) ?_; simp -implicitDefEqProofs only [comp_nil, comp_cons, compD_nil, compD_cons, gsl_none, gsl_some, List.getElem?_cons_zero, List.getElem?_cons_succ, Option.map_some, Option.bind_some, lapp_cons, lapp_nil]; simp -implicitDefEqProofs only [true_and, go_sem, seval])
   | (with_reducible refine pv_condT ?_ ?_; · simp -implicitDefEqProofs only [true_and, go_sem, seval] <;> rfl)
   | (with_reducible refine pv_condF ?_ ?_; · simp -implicitDefEqProofs only [true_and, go_sem, seval] <;> rfl)
   | (with_reducible refine pv_exit ?_; simp only [↓reduceIte, Nat.reduceEqDiff])
   | (with_reducible refine pv_ret ?_; simp -implicitDefEqProofs only [retC, retS, retR, resD, oneD, coeDs_nil, coeDs_cons, coeD_agg, coeD_g, coeD_nil, coeD_own, coeCs_nil, coeCs_cons, coeC_g, coeC_nil, coeC_own, true_and, go_sem, seval])
   | ((with_reducible first | refine hK _ _ ?_ | (clear hK; refine hK _ _ ?_) | (clear hK; clear hK; refine hK _ _ ?_)); clear hK; try clear K)
   | (simp -implicitDefEqProofs only [true_and, go_sem, seval])
   | (with_reducible intro b)
   | (with_reducible refine And.intro ?_ ?_; · first | assumption | omega | (unfold R64; omega)))
  refine call_is (p_rBits (by omega)) ?_
  have hbl : bitLen m ≤ 32 * L := by rw [← hL]; exact bitLen_le32 m
  have hbt : m < 2 ^ bitLen m := lt_bitLen m
  repeat (first
   | (with_reducible first | refine pv_seq fun K hK => ?_ | refine pv_skip ?_ | refine pv_block ?_ | refine pv_scope ?_ | refine pv_label ?_)
   | (with_reducible refine pv_reg ?_; simp -implicitDefEqProofs only [comp_nil, comp_cons, compD_nil, compD_cons, gsl_none, gsl_some, List.getElem?_cons_zero, List.getElem?_cons_succ, Option.map_some, Option.bind_some, lapp_cons, lapp_nil])
   | (with_reducible refine pv_draw (id := 10) [(0, 0), (1, 0), (2, 0), (3, 0), (4, 1), (5, 0), (6, 0), (7, 0), (8, 0), (9, 0), (10, 3)] (by kernel_rfl) ?_; simp -implicitDefEqProofs only [comp_nil, comp_cons, compD_nil, compD_cons, gsl_none, gsl_some, List.getElem?_cons_zero, List.getElem?_cons_succ, Option.map_some, Option.bind_some, lapp_cons, lapp_nil]; simp -implicitDefEqProofs only [true_and, go_sem, seval])
   | (with_reducible refine pv_condT ?_ ?_; · simp -implicitDefEqProofs only [true_and, go_sem, seval] <;> rfl)
   | (with_reducible refine pv_condF ?_ ?_; · simp -implicitDefEqProofs only [true_and, go_sem, seval] <;> rfl)
   | (with_reducible refine pv_exit ?_; simp only [↓reduceIte, Nat.reduceEqDiff])
   | (with_reducible refine pv_ret ?_; simp -implicitDefEqProofs only [retC, retS, retR, resD, oneD, coeDs_nil, coeDs_cons, coeD_agg, coeD_g, coeD_nil, coeD_own, coeCs_nil, coeCs_cons, coeC_g, coeC_nil, coeC_own, true_and, go_sem, seval])
   | ((with_reducible first | refine hK _ _ ?_ | (clear hK; refine hK _ _ ?_) | (clear hK; clear hK; refine hK _ _ ?_)); clear hK; try clear K)
   | (simp -implicitDefEqProofs only [true_and, go_sem, seval])
   | (with_reducible intro b)
   | (with_reducible refine And.intro ?_ ?_; · first | assumption | omega | (unfold R64; omega)))
  have J : ∀ (e : DEnv) (S : Store) (q : List Nat), RowD S (.l 11) 1 (e 6) (rS (eK .u32) q) → B32 q → nval 4294967296 q = m / n → q.length = L → (e 7 = W32 (D32 (m % n)) ∨ (e 7 = .nil ∧ m % n = 0)) → K e S := by
    intro e S q hr hb hv hl h7
    repeat (first
     | (with_reducible first | refine pv_seq fun K hK => ?_ | refine pv_skip ?_ | refine pv_block ?_ | refine pv_scope ?_ | refine pv_label ?_)
     | (with_reducible refine pv_reg ?_; simp -implicitDefEqProofs only [comp_nil, comp_cons, compD_nil, compD_cons, gsl_none, gsl_some, List.getElem?_cons_zero, List.getElem?_cons_succ, Option.map_some, Option.bind_some, lapp_cons, lapp_nil])
     | (with_reducible refine pv_draw (id := 10) [(0, 0), (1, 0), (2, 0), (3, 0), (4, 1), (5, 0), (6, 0), (7, 0), (8, 0), (9, 0), (10, 3)] (by kernel_rfl) ?_; simp -implicitDefEqProofs only [comp_nil, comp_cons, compD_nil, compD_cons, gsl_none, gsl_some, List.getElem?_cons_zero, List.getElem?_cons_succ, Option.map_some, Option.bind_some, lapp_cons, lapp_nil]; simp -implicitDefEqProofs only [true_and, go_sem, seval])
     | (with_reducible refine pv_condT ?_ ?_; · simp -implicitDefEqProofs only [true_and, go_sem, seval] <;> rfl)
     | (with_reducible refine pv_condF ?_ ?_; · simp -implicitDefEqProofs only [true_and, go_sem, seval] <;> rfl)
     | (with_reducible refine pv_exit ?_; simp only [↓reduceIte, Nat.reduceEqDiff])
     | (with_reducible refine pv_ret ?_; simp -implicitDefEqProofs only [retC, retS, retR, resD, oneD, coeDs_nil, coeDs_cons, coeD_agg, coeD_g, coeD_nil, coeD_own, coeCs_nil, coeCs_cons, coeC_g, coeC_nil, coeC_own, true_and, go_sem, seval])
     | ((with_reducible first | refine hK _ _ ?_ | (clear hK; refine hK _ _ ?_) | (clear hK; clear hK; refine hK _ _ ?_)); clear hK; try clear K)
     | (simp -implicitDefEqProofs only [true_and, go_sem, seval])
     | (with_reducible intro b)
     | (with_reducible refine And.intro ?_ ?_; · first | assumption | omega | (unfold R64; omega)))
    refine PFC.coe (hr.coe1 fun S' _ _ => ?_)
    refine call_is (p_trim hb (by omega)) ?_
    rw [show N32 q = m / n from hv]
    rcases h7 with h7 | ⟨h7, hz⟩
    · repeat (first
       | (with_reducible first | refine pv_seq fun K hK => ?_ | refine pv_skip ?_ | refine pv_block ?_ | refine pv_scope ?_ | refine pv_label ?_)
       | (with_reducible refine pv_reg ?_; simp -implicitDefEqProofs only [comp_nil, comp_cons, compD_nil, compD_cons, gsl_none, gsl_some, List.getElem?_cons_zero, List.getElem?_cons_succ, Option.map_some, Option.bind_some, lapp_cons, lapp_nil])
       | (with_reducible refine pv_draw (id := 10) [(0, 0), (1, 0), (2, 0), (3, 0), (4, 1), (5, 0), (6, 0), (7, 0), (8, 0), (9, 0), (10, 3)] (by kernel_rfl) ?_; simp -implicitDefEqProofs only [comp_nil, comp_cons, compD_nil, compD_cons, gsl_none, gsl_some, List.getElem?_cons_zero, List.getElem?_cons_succ, Option.map_some, Option.bind_some, lapp_cons, lapp_nil]; simp -implicitDefEqProofs only [h7, true_and, go_sem, seval])
       | (with_reducible refine pv_condT ?_ ?_; · simp -implicitDefEqProofs only [h7, true_and, go_sem, seval] <;> rfl)
       | (with_reducible refine pv_condF ?_ ?_; · simp -implicitDefEqProofs only [h7, true_and, go_sem, seval] <;> rfl)
       | (with_reducible refine pv_exit ?_; simp only [↓reduceIte, Nat.reduceEqDiff])
       | (with_reducible refine pv_ret ?_; simp -implicitDefEqProofs only [retC, retS, retR, resD, oneD, coeDs_nil, coeDs_cons, coeD_agg, coeD_g, coeD_nil, coeD_own, coeCs_nil, coeCs_cons, coeC_g, coeC_nil, coeC_own, h7, true_and, go_sem, seval])
       | ((with_reducible first | refine hK _ _ ?_ | (clear hK; refine hK _ _ ?_) | (clear hK; clear hK; refine hK _ _ ?_)); clear hK; try clear K)
       | (simp -implicitDefEqProofs only [h7, true_and, go_sem, seval])
       | (with_reducible intro b)
       | (with_reducible refine And.intro ?_ ?_; · first | assumption | omega | (unfold R64; omega)))
    · repeat (first
       | (with_reducible first | refine pv_seq fun K hK => ?_ | refine pv_skip ?_ | refine pv_block ?_ | refine pv_scope ?_ | refine pv_label ?_)
       | (with_reducible refine pv_reg ?_; simp -implicitDefEqProofs only [comp_nil, comp_cons, compD_nil, compD_cons, gsl_none, gsl_some, List.getElem?_cons_zero, List.getElem?_cons_succ, Option.map_some, Option.bind_some, lapp_cons, lapp_nil])
       | (with_reducible refine pv_draw (id := 10) [(0, 0), (1, 0), (2, 0), (3, 0), (4, 1), (5, 0), (6, 0), (7, 0), (8, 0), (9, 0), (10, 3)] (by kernel_rfl) ?_; simp -implicitDefEqProofs only [comp_nil, comp_cons, compD_nil, compD_cons, gsl_none, gsl_some, List.getElem?_cons_zero, List.getElem?_cons_succ, Option.map_some, Option.bind_some, lapp_cons, lapp_nil]; simp -implicitDefEqProofs only [h7, hz, true_and, go_sem, seval])
       | (with_reducible refine pv_condT ?_ ?_; · simp -implicitDefEqProofs only [h7, hz, true_and, go_sem, seval] <;> rfl)
       | (with_reducible refine pv_condF ?_ ?_; · simp -implicitDefEqProofs only [h7, hz, true_and, go_sem, seval] <;> rfl)
       | (with_reducible refine pv_exit ?_; simp only [↓reduceIte, Nat.reduceEqDiff])
       | (with_reducible refine pv_ret ?_; simp -implicitDefEqProofs only [retC, retS, retR, resD, oneD, coeDs_nil, coeDs_cons, coeD_agg, coeD_g, coeD_nil, coeD_own, coeCs_nil, coeCs_cons, coeC_g, coeC_nil, coeC_own, h7, hz, true_and, go_sem, seval])
       | ((with_reducible first | refine hK _ _ ?_ | (clear hK; refine hK _ _ ?_) | (clear hK; clear hK; refine hK _ _ ?_)); clear hK; try clear K)
       | (simp -implicitDefEqProofs only [h7, hz, true_and, go_sem, seval])
       | (with_reducible intro b)
       | (with_reducible refine And.intro ?_ ?_; · first | assumption | omega | (unfold R64; omega)))
      rw [D32, D32, digs_zero]; rfl
  clear hK
  refine pv_loop (fun e S => ∃ (k : Nat) (q : List Nat), k ≤ bitLen m ∧ q.length = L ∧ B32 q ∧ nval 4294967296 q = 2 ^ k * (m / 2 ^ k / n) ∧ e 0 = W32 (D32 m) ∧ e 1 = W32 (D32 n) ∧ e 6 = .own (.l 11) b 0 L L 1 ∧ (e 7 = W32 (D32 (m / 2 ^ k % n)) ∨ (e 7 = .nil ∧ m / 2 ^ k % n = 0)) ∧ e 8 = i64 ((k : Int) - 1) ∧ S (.l 11) = some ⟨b, 1, 0, rS (eK .u32) q⟩) (fun e _ => (intD (e 8) + 1).toNat) ?_ ?_
  · have hd0 : m / 2 ^ bitLen m = 0 := Nat.div_eq_of_lt hbt
    refine ⟨bitLen m, List.replicate L 0, Nat.le_refl _, by simp, fun x hx => by rw [List.eq_of_mem_replicate hx]; decide, ?_, (by simp -implicitDefEqProofs only [true_and, go_sem, seval]), (by simp -implicitDefEqProofs only [true_and, go_sem, seval]), ?_, .inr ⟨rfl, by rw [hd0, Nat.zero_mod]⟩, (by simp -implicitDefEqProofs only [true_and, go_sem, seval]), ?_⟩
    · rw [nval_zeros _ _ (fun y hy => List.eq_of_mem_replicate hy), hd0, Nat.zero_div, Nat.mul_zero]
    · try simp -implicitDefEqProofs only [true_and, go_sem, seval]
      rw [hL]
    · rw [← rS_rep (f := eK .u32) (y := 0) rfl, ← hL]; rfl
  · rintro e S ⟨k, q, hk, hql, hqb, hv, g0, g1, g6, g7, g8, hS⟩
    have hmz : (intD (e 8) + 1).toNat = k := by rw [g8]; simp only [intD, i64]; omega
    rcases Nat.eq_zero_or_pos k with rfl | hp
    · have g8 : e 8 = i64 (-1) := g8
      repeat (first
       | (with_reducible first | refine pv_seq fun K hK => ?_ | refine pv_skip ?_ | refine pv_block ?_ | refine pv_scope ?_ | refine pv_label ?_)
       | (with_reducible refine pv_reg ?_; simp -implicitDefEqProofs only [comp_nil, comp_cons, compD_nil, compD_cons, gsl_none, gsl_some, List.getElem?_cons_zero, List.getElem?_cons_succ, Option.map_some, Option.bind_some, lapp_cons, lapp_nil])
       | (with_reducible refine pv_draw (id := 10) [(0, 0), (1, 0), (2, 0), (3, 0), (4, 1), (5, 0), (6, 0), (7, 0), (8, 0), (9, 0), (10, 3)] (by kernel_rfl) ?_; simp -implicitDefEqProofs only [comp_nil, comp_cons, compD_nil, compD_cons, gsl_none, gsl_some, List.getElem?_cons_zero, List.getElem?_cons_succ, Option.map_some, Option.bind_some, lapp_cons, lapp_nil]; simp -implicitDefEqProofs only [g0, g1, g6, g8, true_and, go_sem, seval])
       | (with_reducible refine pv_condT ?_ ?_; · simp -implicitDefEqProofs only [g0, g1, g6, g8, true_and, go_sem, seval] <;> rfl)
       | (with_reducible refine pv_condF ?_ ?_; · simp -implicitDefEqProofs only [g0, g1, g6, g8, true_and, go_sem, seval] <;> rfl)
       | (with_reducible refine pv_exit ?_; simp only [↓reduceIte, Nat.reduceEqDiff])
       | (with_reducible refine pv_ret ?_; simp -implicitDefEqProofs only [retC, retS, retR, resD, oneD, coeDs_nil, coeDs_cons, coeD_agg, coeD_g, coeD_nil, coeD_own, coeCs_nil, coeCs_cons, coeC_g, coeC_nil, coeC_own, g0, g1, g6, g8, true_and, go_sem, seval])
       | ((with_reducible first | refine hK _ _ ?_ | (clear hK; refine hK _ _ ?_) | (clear hK; clear hK; refine hK _ _ ?_)); clear hK; try clear K)
       | (simp -implicitDefEqProofs only [g0, g1, g6, g8, true_and, go_sem, seval])
       | (with_reducible intro b)
       | (with_reducible refine And.intro ?_ ?_; · first | assumption | omega | (unfold R64; omega)))
      simp only [Nat.pow_zero, Nat.div_one, Nat.one_mul] at hv g7
      exact J _ _ q (by try simp -implicitDefEqProofs only [g0, g1, g6, g8, true_and, go_sem, seval]; exact .own (by rw [rS_len]; omega) hS) hqb hv hql (by try simp -implicitDefEqProofs only [g0, g1, g6, g8, true_and, go_sem, seval]; exact g7)
    · obtain ⟨i, rfl⟩ : ∃ i, k = i + 1 := ⟨k - 1, by omega⟩
      rw [cast_succ_sub] at g8
      have hRn : m / 2 ^ (i + 1) % n < n := Nat.mod_lt _ h0
      have hlR : (D32 (m / 2 ^ (i + 1) % n)).length ≤ 1000001 := len_lt (by omega) hln
      have cl : ∀ K' : D → Store → Prop, K' (W32 (D32 (2 * (m / 2 ^ (i + 1) % n)))) S → PFC Tryd.prog 46 [e 7, .g (.lit (.int .i64 1))] S K' := by
        intro K' h
        rcases g7 with g7 | ⟨g7, hz⟩
        · rw [g7]
          refine call_is (p_rLeft (n := 1) (digs_lt two32 _) (by omega) (by decide)) ?_
          rw [show N32 (D32 (m / 2 ^ (i + 1) % n)) = m / 2 ^ (i + 1) % n from nval_digs two32 _, Nat.pow_one, Nat.mul_comm]
          exact h
        · rw [g7]
          refine PFC.coe ?_
          simp -implicitDefEqProofs only [coeDs_nil, coeDs_cons, coeD_agg, coeD_g, coeD_nil, coeD_own, coeCs_nil, coeCs_cons, coeC_g, coeC_nil, coeC_own, pureLL, pureL, tg_g, tg_nil, Nat.zero_add, Nat.le_refl, W64_l1, W64_l2, W32_l1, toG_W64, WW_1, WW_2, WW_3, true_and, go_sem, seval]
          refine call_is (p_rLeft (A := []) (n := 1) (fun x hx => by cases hx) (by decide) (by decide)) ?_
          rw [hz] at h
          exact h
      have hiA : i / 32 < (D32 m).length := by omega
      have hiL : i / 32 < L := by omega
      have hr33 : i % 32 ≤ 32 := by omega
      have hbit := bit_of hbm i
      rw [hnm] at hbit
      have hx32 := get_lt hbm (by decide) (i / 32)
      have hand := and1 (x := (D32 m).getD (i / 32) 0 / 2 ^ (i % 32)) (Nat.lt_of_le_of_lt (Nat.div_le_self _ _) hx32)
      repeat (first
       | (with_reducible first | refine pv_seq fun K hK => ?_ | refine pv_skip ?_ | refine pv_block ?_ | refine pv_scope ?_ | refine pv_label ?_)
       | (with_reducible refine pv_reg ?_; simp -implicitDefEqProofs only [comp_nil, comp_cons, compD_nil, compD_cons, gsl_none, gsl_some, List.getElem?_cons_zero, List.getElem?_cons_succ, Option.map_some, Option.bind_some, lapp_cons, lapp_nil])
       | (with_reducible refine pv_draw (id := 10) [(0, 0), (1, 0), (2, 0), (3, 0), (4, 1), (5, 0), (6, 0), (7, 0), (8, 0), (9, 0), (10, 3)] (by kernel_rfl) ?_; simp -implicitDefEqProofs only [comp_nil, comp_cons, compD_nil, compD_cons, gsl_none, gsl_some, List.getElem?_cons_zero, List.getElem?_cons_succ, Option.map_some, Option.bind_some, lapp_cons, lapp_nil]; simp -implicitDefEqProofs only [g0, g1, g6, g8, tdiv32, tmod32, hr33, hand, true_and, go_sem, seval])
       | (with_reducible refine pv_condT ?_ ?_; · simp -implicitDefEqProofs only [g0, g1, g6, g8, tdiv32, tmod32, hr33, hand, true_and, go_sem, seval] <;> rfl)
       | (with_reducible refine pv_condF ?_ ?_; · simp -implicitDefEqProofs only [g0, g1, g6, g8, tdiv32, tmod32, hr33, hand, true_and, go_sem, seval] <;> rfl)
       | (with_reducible refine pv_exit ?_; simp only [↓reduceIte, Nat.reduceEqDiff])
       | (with_reducible refine pv_ret ?_; simp -implicitDefEqProofs only [retC, retS, retR, resD, oneD, coeDs_nil, coeDs_cons, coeD_agg, coeD_g, coeD_nil, coeD_own, coeCs_nil, coeCs_cons, coeC_g, coeC_nil, coeC_own, g0, g1, g6, g8, tdiv32, tmod32, hr33, hand, true_and, go_sem, seval])
       | ((with_reducible first | refine hK _ _ ?_ | (clear hK; refine hK _ _ ?_) | (clear hK; clear hK; refine hK _ _ ?_)); clear hK; try clear K)
       | (simp -implicitDefEqProofs only [g0, g1, g6, g8, tdiv32, tmod32, hr33, hand, true_and, go_sem, seval])
       | (with_reducible intro b)
       | (with_reducible refine And.intro ?_ ?_; · first | assumption | omega | (unfold R64; omega)))
      refine cl _ ?_
      repeat (first
       | (with_reducible first | refine pv_seq fun K hK => ?_ | refine pv_skip ?_ | refine pv_block ?_ | refine pv_scope ?_ | refine pv_label ?_)
       | (with_reducible refine pv_reg ?_; simp -implicitDefEqProofs only [comp_nil, comp_cons, compD_nil, compD_cons, gsl_none, gsl_some, List.getElem?_cons_zero, List.getElem?_cons_succ, Option.map_some, Option.bind_some, lapp_cons, lapp_nil])
       | (with_reducible refine pv_draw (id := 10) [(0, 0), (1, 0), (2, 0), (3, 0), (4, 1), (5, 0), (6, 0), (7, 0), (8, 0), (9, 0), (10, 3)] (by kernel_rfl) ?_; simp -implicitDefEqProofs only [comp_nil, comp_cons, compD_nil, compD_cons, gsl_none, gsl_some, List.getElem?_cons_zero, List.getElem?_cons_succ, Option.map_some, Option.bind_some, lapp_cons, lapp_nil]; simp -implicitDefEqProofs only [g0, g1, g6, g8, tdiv32, tmod32, hr33, hand, true_and, go_sem, seval])
       | (with_reducible refine pv_condT ?_ ?_; · simp -implicitDefEqProofs only [g0, g1, g6, g8, tdiv32, tmod32, hr33, hand, true_and, go_sem, seval] <;> rfl)
       | (with_reducible refine pv_condF ?_ ?_; · simp -implicitDefEqProofs only [g0, g1, g6, g8, tdiv32, tmod32, hr33, hand, true_and, go_sem, seval] <;> rfl)
       | (with_reducible refine pv_exit ?_; simp only [↓reduceIte, Nat.reduceEqDiff])
       | (with_reducible refine pv_ret ?_; simp -implicitDefEqProofs only [retC, retS, retR, resD, oneD, coeDs_nil, coeDs_cons, coeD_agg, coeD_g, coeD_nil, coeD_own, coeCs_nil, coeCs_cons, coeC_g, coeC_nil, coeC_own, g0, g1, g6, g8, tdiv32, tmod32, hr33, hand, true_and, go_sem, seval])
       | ((with_reducible first | refine hK _ _ ?_ | (clear hK; refine hK _ _ ?_) | (clear hK; clear hK; refine hK _ _ ?_)); clear hK; try clear K)
       | (simp -implicitDefEqProofs only [g0, g1, g6, g8, tdiv32, tmod32, hr33, hand, true_and, go_sem, seval])
       | (with_reducible intro b)
       | (with_reducible refine And.intro ?_ ?_; · first | assumption | omega | (unfold R64; omega)))
      have hdb := div_bit (X := m / 2 ^ (i + 1)) (b := m / 2 ^ i % 2) h0 (Nat.mod_lt _ (by decide))
      rw [← half_bit m i] at hdb
      have hb2 : m / 2 ^ i % 2 < 2 := Nat.mod_lt _ (by decide)
      have JB : ∀ (e1 : DEnv) (S1 : Store), e1 0 = W32 (D32 m) → e1 1 = W32 (D32 n) → e1 6 = .own (.l 11) b 0 L L 1 → e1 8 = i64 i → e1 7 = W32 (D32 (2 * (m / 2 ^ (i + 1) % n) + m / 2 ^ i % 2)) → S1 (.l 11) = some ⟨b, 1, 0, rS (eK .u32) q⟩ → K e1 S1 := by
        intro e1 S1 k0 k1 k6 k8 k7 kS
        generalize hR : 2 * (m / 2 ^ (i + 1) % n) + m / 2 ^ i % 2 = R at hdb k7
        have hlR2 : (D32 R).length ≤ 1000001 := len_lt (by omega) hln
        repeat (first
         | (with_reducible first | refine pv_seq fun K hK => ?_ | refine pv_skip ?_ | refine pv_block ?_ | refine pv_scope ?_ | refine pv_label ?_)
         | (with_reducible refine pv_reg ?_; simp -implicitDefEqProofs only [comp_nil, comp_cons, compD_nil, compD_cons, gsl_none, gsl_some, List.getElem?_cons_zero, List.getElem?_cons_succ, Option.map_some, Option.bind_some, lapp_cons, lapp_nil])
         | (with_reducible refine pv_draw (id := 10) [(0, 0), (1, 0), (2, 0), (3, 0), (4, 1), (5, 0), (6, 0), (7, 0), (8, 0), (9, 0), (10, 3)] (by kernel_rfl) ?_; simp -implicitDefEqProofs only [comp_nil, comp_cons, compD_nil, compD_cons, gsl_none, gsl_some, List.getElem?_cons_zero, List.getElem?_cons_succ, Option.map_some, Option.bind_some, lapp_cons, lapp_nil]; simp -implicitDefEqProofs only [k0, k1, k6, k7, k8, true_and, go_sem, seval])
         | (with_reducible refine pv_condT ?_ ?_; · simp -implicitDefEqProofs only [k0, k1, k6, k7, k8, true_and, go_sem, seval] <;> rfl)
         | (with_reducible refine pv_condF ?_ ?_; · simp -implicitDefEqProofs only [k0, k1, k6, k7, k8, true_and, go_sem, seval] <;> rfl)
         | (with_reducible refine pv_exit ?_; simp only [↓reduceIte, Nat.reduceEqDiff])
         | (with_reducible refine pv_ret ?_; simp -implicitDefEqProofs only [retC, retS, retR, resD, oneD, coeDs_nil, coeDs_cons, coeD_agg, coeD_g, coeD_nil, coeD_own, coeCs_nil, coeCs_cons, coeC_g, coeC_nil, coeC_own, k0, k1, k6, k7, k8, true_and, go_sem, seval])
         | ((with_reducible first | refine hK _ _ ?_ | (clear hK; refine hK _ _ ?_) | (clear hK; clear hK; refine hK _ _ ?_)); clear hK; try clear K)
         | (simp -implicitDefEqProofs only [k0, k1, k6, k7, k8, true_and, go_sem, seval])
         | (with_reducible intro b)
         | (with_reducible refine And.intro ?_ ?_; · first | assumption | omega | (unfold R64; omega)))
        refine call_is (p_rCmp (by omega) (by omega)) ?_
        by_cases hc : n ≤ R
        · rw [if_pos hc] at hdb
          have hcm : 0 ≤ cmpI (R : Int) (n : Int) := by unfold cmpI; rw [if_neg (by omega)]; split <;> decide
          repeat (first
           | (with_reducible first | refine pv_seq fun K hK => ?_ | refine pv_skip ?_ | refine pv_block ?_ | refine pv_scope ?_ | refine pv_label ?_)
           | (with_reducible refine pv_reg ?_; simp -implicitDefEqProofs only [comp_nil, comp_cons, compD_nil, compD_cons, gsl_none, gsl_some, List.getElem?_cons_zero, List.getElem?_cons_succ, Option.map_some, Option.bind_some, lapp_cons, lapp_nil])
           | (with_reducible refine pv_draw (id := 10) [(0, 0), (1, 0), (2, 0), (3, 0), (4, 1), (5, 0), (6, 0), (7, 0), (8, 0), (9, 0), (10, 3)] (by kernel_rfl) ?_; simp -implicitDefEqProofs only [comp_nil, comp_cons, compD_nil, compD_cons, gsl_none, gsl_some, List.getElem?_cons_zero, List.getElem?_cons_succ, Option.map_some, Option.bind_some, lapp_cons, lapp_nil]; simp -implicitDefEqProofs only [k0, k1, k6, k7, k8, hcm, true_and, go_sem, seval])
           | (with_reducible refine pv_condT ?_ ?_; · simp -implicitDefEqProofs only [k0, k1, k6, k7, k8, hcm, true_and, go_sem, seval] <;> rfl)
           | (with_reducible refine pv_condF ?_ ?_; · simp -implicitDefEqProofs only [k0, k1, k6, k7, k8, hcm, true_and, go_sem, seval] <;> rfl)
           | (with_reducible refine pv_exit ?_; simp only [↓reduceIte, Nat.reduceEqDiff])
           | (with_reducible refine pv_ret ?_; simp -implicitDefEqProofs only [retC, retS, retR, resD, oneD, coeDs_nil, coeDs_cons, coeD_agg, coeD_g, coeD_nil, coeD_own, coeCs_nil, coeCs_cons, coeC_g, coeC_nil, coeC_own, k0, k1, k6, k7, k8, hcm, true_and, go_sem, seval])
           | ((with_reducible first | refine hK _ _ ?_ | (clear hK; refine hK _ _ ?_) | (clear hK; clear hK; refine hK _ _ ?_)); clear hK; try clear K)
           | (simp -implicitDefEqProofs only [k0, k1, k6, k7, k8, hcm, true_and, go_sem, seval])
           | (with_reducible intro b)
           | (with_reducible refine And.intro ?_ ?_; · first | assumption | omega | (unfold R64; omega)))
          refine call_is (p_rSub (digs_lt two32 _) (digs_lt two32 _) (by omega) (by rw [N32, N32, nval_digs two32, nval_digs two32]; exact hc)) ?_
          rw [N32, N32, nval_digs two32, nval_digs two32]
          have h2r : 2 ^ (i % 32) < 4294967296 := Nat.lt_of_lt_of_le (Nat.pow_lt_pow_right (by decide) (Nat.mod_lt i (by decide : 32 > 0))) (by decide)
          have hshl : IntKind.u32.wrap ((1 : Int) * 2 ^ (i % 32)) = ((2 ^ (i % 32) : Nat) : Int) := by
            rw [show (1 : Int) * 2 ^ (i % 32) = ((2 ^ (i % 32) : Nat) : Int) by simp, wrap32_nat, Nat.mod_eq_of_lt h2r]
          have hor := or32_nat (q.getD (i / 32) 0) (2 ^ (i % 32)) (get_lt hqb (by decide) _) h2r
          have hget : (rS (eK .u32) q)[i / 32]? = some [.g (.lit (.int .u32 (q.getD (i / 32) 0 : Nat)))] := by
            rw [rS_get, getD_some (by omega)]; rfl
          repeat (first
           | (with_reducible first | refine pv_seq fun K hK => ?_ | refine pv_skip ?_ | refine pv_block ?_ | refine pv_scope ?_ | refine pv_label ?_)
           | (with_reducible refine pv_reg ?_; simp -implicitDefEqProofs only [comp_nil, comp_cons, compD_nil, compD_cons, gsl_none, gsl_some, List.getElem?_cons_zero, List.getElem?_cons_succ, Option.map_some, Option.bind_some, lapp_cons, lapp_nil])
           | (with_reducible refine pv_draw (id := 10) [(0, 0), (1, 0), (2, 0), (3, 0), (4, 1), (5, 0), (6, 0), (7, 0), (8, 0), (9, 0), (10, 3)] (by kernel_rfl) ?_; simp -implicitDefEqProofs only [comp_nil, comp_cons, compD_nil, compD_cons, gsl_none, gsl_some, List.getElem?_cons_zero, List.getElem?_cons_succ, Option.map_some, Option.bind_some, lapp_cons, lapp_nil]; simp -implicitDefEqProofs only [k0, k1, k6, k7, k8, kS, hr33, hget, hshl, hor, tdiv32, tmod32, Nat.zero_add, D.one, Nat.le_refl, true_and, go_sem, seval])
           | (with_reducible refine pv_condT ?_ ?_; · simp -implicitDefEqProofs only [k0, k1, k6, k7, k8, kS, hr33, hget, hshl, hor, tdiv32, tmod32, Nat.zero_add, D.one, Nat.le_refl, true_and, go_sem, seval] <;> rfl)
           | (with_reducible refine pv_condF ?_ ?_; · simp -implicitDefEqProofs only [k0, k1, k6, k7, k8, kS, hr33, hget, hshl, hor, tdiv32, tmod32, Nat.zero_add, D.one, Nat.le_refl, true_and, go_sem, seval] <;> rfl)
           | (with_reducible refine pv_exit ?_; simp only [↓reduceIte, Nat.reduceEqDiff])
           | (with_reducible refine pv_ret ?_; simp -implicitDefEqProofs only [retC, retS, retR, resD, oneD, coeDs_nil, coeDs_cons, coeD_agg, coeD_g, coeD_nil, coeD_own, coeCs_nil, coeCs_cons, coeC_g, coeC_nil, coeC_own, k0, k1, k6, k7, k8, kS, hr33, hget, hshl, hor, tdiv32, tmod32, Nat.zero_add, D.one, Nat.le_refl, true_and, go_sem, seval])
           | ((with_reducible first | refine hK _ _ ?_ | (clear hK; refine hK _ _ ?_) | (clear hK; clear hK; refine hK _ _ ?_)); clear hK; try clear K)
           | (simp -implicitDefEqProofs only [k0, k1, k6, k7, k8, kS, hr33, hget, hshl, hor, tdiv32, tmod32, Nat.zero_add, D.one, Nat.le_refl, true_and, go_sem, seval])
           | (with_reducible intro b)
           | (with_reducible refine And.intro ?_ ?_; · first | assumption | omega | (unfold R64; omega)))
          refine ⟨⟨i, q.set (i / 32) (q.getD (i / 32) 0 ||| 2 ^ (i % 32)), by omega, by simp [hql], ?_, ?_, ?_, rfl, ?_⟩, ?_⟩
          · exact set_lt hqb (Nat.or_lt_two_pow (n := 32) (get_lt hqb (by decide) _) h2r)
          · rw [set_bit hqb (by omega) hv, hdb.1]
          · left; rw [hdb.2]
          · rw [← rS_set (f := eK .u32) (y := q.getD (i / 32) 0 ||| 2 ^ (i % 32)) rfl]; rfl
          · rw [hmz]; simp only [intD]; omega
        · rw [if_neg hc] at hdb
          have hcm : ¬ 0 ≤ cmpI (R : Int) (n : Int) := by unfold cmpI; rw [if_pos (by omega)]; decide
          repeat (first
           | (with_reducible first | refine pv_seq fun K hK => ?_ | refine pv_skip ?_ | refine pv_block ?_ | refine pv_scope ?_ | refine pv_label ?_)
           | (with_reducible refine pv_reg ?_; simp -implicitDefEqProofs only [comp_nil, comp_cons, compD_nil, compD_cons, gsl_none, gsl_some, List.getElem?_cons_zero, List.getElem?_cons_succ, Option.map_some, Option.bind_some, lapp_cons, lapp_nil])
           | (with_reducible refine pv_draw (id := 10) [(0, 0), (1, 0), (2, 0), (3, 0), (4, 1), (5, 0), (6, 0), (7, 0), (8, 0), (9, 0), (10, 3)] (by kernel_rfl) ?_; simp -implicitDefEqProofs only [comp_nil, comp_cons, compD_nil, compD_cons, gsl_none, gsl_some, List.getElem?_cons_zero, List.getElem?_cons_succ, Option.map_some, Option.bind_some, lapp_cons, lapp_nil]; simp -implicitDefEqProofs only [k0, k1, k6, k7, k8, hcm, true_and, go_sem, seval])
           | (with_reducible refine pv_condT ?_ ?_; · simp -implicitDefEqProofs only [k0, k1, k6, k7, k8, hcm, true_and, go_sem, seval] <;> rfl)
           | (with_reducible refine pv_condF ?_ ?_; · simp -implicitDefEqProofs only [k0, k1, k6, k7, k8, hcm, true_and, go_sem, seval] <;> rfl)
           | (with_reducible refine pv_exit ?_; simp only [↓reduceIte, Nat.reduceEqDiff])
           | (with_reducible refine pv_ret ?_; simp -implicitDefEqProofs only [retC, retS, retR, resD, oneD, coeDs_nil, coeDs_cons, coeD_agg, coeD_g, coeD_nil, coeD_own, coeCs_nil, coeCs_cons, coeC_g, coeC_nil, coeC_own, k0, k1, k6, k7, k8, hcm, true_and, go_sem, seval])
           | ((with_reducible first | refine hK _ _ ?_ | (clear hK; refine hK _ _ ?_) | (clear hK; clear hK; refine hK _ _ ?_)); clear hK; try clear K)
           | (simp -implicitDefEqProofs only [k0, k1, k6, k7, k8, hcm, true_and, go_sem, seval])
           | (with_reducible intro b)
           | (with_reducible refine And.intro ?_ ?_; · first | assumption | omega | (unfold R64; omega)))
          refine ⟨⟨i, q, by omega, hql, hqb, ?_, ?_, rfl, kS⟩, ?_⟩
          · rw [hv, hdb.1, Nat.pow_succ, Nat.mul_assoc]
          · left; rw [hdb.2]
          · rw [hmz]; simp only [intD]; omega
      clear hK
      refine pv_condD (by simp -implicitDefEqProofs only [g0, g1, g6, g8, true_and, go_sem, seval] <;> rfl) (fun ht => ?_) (fun ht => ?_)
      · have hb1 : m / 2 ^ i % 2 = 1 := by omega
        repeat (first
         | (with_reducible first | refine pv_seq fun K hK => ?_ | refine pv_skip ?_ | refine pv_block ?_ | refine pv_scope ?_ | refine pv_label ?_)
         | (with_reducible refine pv_reg ?_; simp -implicitDefEqProofs only [comp_nil, comp_cons, compD_nil, compD_cons, gsl_none, gsl_some, List.getElem?_cons_zero, List.getElem?_cons_succ, Option.map_some, Option.bind_some, lapp_cons, lapp_nil])
         | (with_reducible refine pv_draw (id := 10) [(0, 0), (1, 0), (2, 0), (3, 0), (4, 1), (5, 0), (6, 0), (7, 0), (8, 0), (9, 0), (10, 3)] (by kernel_rfl) ?_; simp -implicitDefEqProofs only [comp_nil, comp_cons, compD_nil, compD_cons, gsl_none, gsl_some, List.getElem?_cons_zero, List.getElem?_cons_succ, Option.map_some, Option.bind_some, lapp_cons, lapp_nil]; simp -implicitDefEqProofs only [g0, g1, g6, g8, true_and, go_sem, seval])
         | (with_reducible refine pv_condT ?_ ?_; · simp -implicitDefEqProofs only [g0, g1, g6, g8, true_and, go_sem, seval] <;> rfl)
         | (with_reducible refine pv_condF ?_ ?_; · simp -implicitDefEqProofs only [g0, g1, g6, g8, true_and, go_sem, seval] <;> rfl)
         | (with_reducible refine pv_exit ?_; simp only [↓reduceIte, Nat.reduceEqDiff])
         | (with_reducible refine pv_ret ?_; simp -implicitDefEqProofs only [retC, retS, retR, resD, oneD, coeDs_nil, coeDs_cons, coeD_agg, coeD_g, coeD_nil, coeD_own, coeCs_nil, coeCs_cons, coeC_g, coeC_nil, coeC_own, g0, g1, g6, g8, true_and, go_sem, seval])
         | ((with_reducible first | refine hK _ _ ?_ | (clear hK; refine hK _ _ ?_) | (clear hK; clear hK; refine hK _ _ ?_)); clear hK; try clear K)
         | (simp -implicitDefEqProofs only [g0, g1, g6, g8, true_and, go_sem, seval])
         | (with_reducible intro b)
         | (with_reducible refine And.intro ?_ ?_; · first | assumption | omega | (unfold R64; omega)))
        refine PFC.coe ?_
        simp -implicitDefEqProofs only [coeDs_nil, coeDs_cons, coeD_agg, coeD_g, coeD_nil, coeD_own, coeCs_nil, coeCs_cons, coeC_g, coeC_nil, coeC_own, pureLL, pureL, tg_g, tg_nil, Nat.zero_add, Nat.le_refl, W64_l1, W64_l2, W32_l1, toG_W64, WW_1, WW_2, WW_3, g0, g1, g6, g8, true_and, go_sem, seval]
        refine call_is (p_rAdd (A := D32 (2 * (m / 2 ^ (i + 1) % n))) (B := [1]) (digs_lt two32 _) (by decide) (by have := len_lt (R := 2 * (m / 2 ^ (i + 1) % n)) (by omega) hln; omega) (by decide)) ?_
        rw [show N32 (D32 (2 * (m / 2 ^ (i + 1) % n))) = 2 * (m / 2 ^ (i + 1) % n) from nval_digs two32 _, show N32 [1] = 1 from rfl]
        repeat (first
         | (with_reducible first | refine pv_seq fun K hK => ?_ | refine pv_skip ?_ | refine pv_block ?_ | refine pv_scope ?_ | refine pv_label ?_)
         | (with_reducible refine pv_reg ?_; simp -implicitDefEqProofs only [comp_nil, comp_cons, compD_nil, compD_cons, gsl_none, gsl_some, List.getElem?_cons_zero, List.getElem?_cons_succ, Option.map_some, Option.bind_some, lapp_cons, lapp_nil])
         | (with_reducible refine pv_draw (id := 10) [(0, 0), (1, 0), (2, 0), (3, 0), (4, 1), (5, 0), (6, 0), (7, 0), (8, 0), (9, 0), (10, 3)] (by kernel_rfl) ?_; simp -implicitDefEqProofs only [comp_nil, comp_cons, compD_nil, compD_cons, gsl_none, gsl_some, List.getElem?_cons_zero, List.getElem?_cons_succ, Option.map_some, Option.bind_some, lapp_cons, lapp_nil]; simp -implicitDefEqProofs only [g0, g1, g6, g8, true_and, go_sem, seval])
         | (with_reducible refine pv_condT ?_ ?_; · simp -implicitDefEqProofs only [g0, g1, g6, g8, true_and, go_sem, seval] <;> rfl)
         | (with_reducible refine pv_condF ?_ ?_; · simp -implicitDefEqProofs only [g0, g1, g6, g8, true_and, go_sem, seval] <;> rfl)
         | (with_reducible refine pv_exit ?_; simp only [↓reduceIte, Nat.reduceEqDiff])
         | (with_reducible refine pv_ret ?_; simp -implicitDefEqProofs only [retC, retS, retR, resD, oneD, coeDs_nil, coeDs_cons, coeD_agg, coeD_g, coeD_nil, coeD_own, coeCs_nil, coeCs_cons, coeC_g, coeC_nil, coeC_own, g0, g1, g6, g8, true_and, go_sem, seval])
         | ((with_reducible first | refine hK _ _ ?_ | (clear hK; refine hK _ _ ?_) | (clear hK; clear hK; refine hK _ _ ?_)); clear hK; try clear K)
         | (simp -implicitDefEqProofs only [g0, g1, g6, g8, true_and, go_sem, seval])
         | (with_reducible intro b)
         | (with_reducible refine And.intro ?_ ?_; · first | assumption | omega | (unfold R64; omega)))
        exact JB _ _ (by simp -implicitDefEqProofs only [g0, g1, g6, g8, true_and, go_sem, seval]) (by simp -implicitDefEqProofs only [g0, g1, g6, g8, true_and, go_sem, seval]) (by simp -implicitDefEqProofs only [g0, g1, g6, g8, true_and, go_sem, seval]) (by simp -implicitDefEqProofs only [g0, g1, g6, g8, true_and, go_sem, seval]) (by rw [hb1]; try simp -implicitDefEqProofs only [g0, g1, g6, g8, true_and, go_sem, seval]) (by try simp -implicitDefEqProofs only [g0, g1, g6, g8, true_and, go_sem, seval]; exact hS)
      · have hb1 : m / 2 ^ i % 2 = 0 := by omega
        repeat (first
         | (with_reducible first | refine pv_seq fun K hK => ?_ | refine pv_skip ?_ | refine pv_block ?_ | refine pv_scope ?_ | refine pv_label ?_)
         | (with_reducible refine pv_reg ?_; simp -implicitDefEqProofs only [comp_nil, comp_cons, compD_nil, compD_cons, gsl_none, gsl_some, List.getElem?_cons_zero, List.getElem?_cons_succ, Option.map_some, Option.bind_some, lapp_cons, lapp_nil])
         | (with_reducible refine pv_draw (id := 10) [(0, 0), (1, 0), (2, 0), (3, 0), (4, 1), (5, 0), (6, 0), (7, 0), (8, 0), (9, 0), (10, 3)] (by kernel_rfl) ?_; simp -implicitDefEqProofs only [comp_nil, comp_cons, compD_nil, compD_cons, gsl_none, gsl_some, List.getElem?_cons_zero, List.getElem?_cons_succ, Option.map_some, Option.bind_some, lapp_cons, lapp_nil]; simp -implicitDefEqProofs only [g0, g1, g6, g8, true_and, go_sem, seval])
         | (with_reducible refine pv_condT ?_ ?_; · simp -implicitDefEqProofs only [g0, g1, g6, g8, true_and, go_sem, seval] <;> rfl)
         | (with_reducible refine pv_condF ?_ ?_; · simp -implicitDefEqProofs only [g0, g1, g6, g8, true_and, go_sem, seval] <;> rfl)
         | (with_reducible refine pv_exit ?_; simp only [↓reduceIte, Nat.reduceEqDiff])
         | (with_reducible refine pv_ret ?_; simp -implicitDefEqProofs only [retC, retS, retR, resD, oneD, coeDs_nil, coeDs_cons, coeD_agg, coeD_g, coeD_nil, coeD_own, coeCs_nil, coeCs_cons, coeC_g, coeC_nil, coeC_own, g0, g1, g6, g8, true_and, go_sem, seval])
         | ((with_reducible first | refine hK _ _ ?_ | (clear hK; refine hK _ _ ?_) | (clear hK; clear hK; refine hK _ _ ?_)); clear hK; try clear K)
         | (simp -implicitDefEqProofs only [g0, g1, g6, g8, true_and, go_sem, seval])
         | (with_reducible intro b)
         | (with_reducible refine And.intro ?_ ?_; · first | assumption | omega | (unfold R64; omega)))
        exact JB _ _ (by simp -implicitDefEqProofs only [g0, g1, g6, g8, true_and, go_sem, seval]) (by simp -implicitDefEqProofs only [g0, g1, g6, g8, true_and, go_sem, seval]) (by simp -implicitDefEqProofs only [g0, g1, g6, g8, true_and, go_sem, seval]) (by simp -implicitDefEqProofs only [g0, g1, g6, g8, true_and, go_sem, seval]) (by rw [show 2 * (m / 2 ^ (i + 1) % n) + m / 2 ^ i % 2 = 2 * (m / 2 ^ (i + 1) % n) by omega]; try simp -implicitDefEqProofs only [g0, g1, g6, g8, true_and, go_sem, seval]) hS

end Go.V

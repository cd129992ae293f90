/- Package nat: long division by words, over values as data: a number by a word taken away, and given back. -/
import Derived.Test.YtilnmcabjkpohaaDoorDX
set_option linter.unusedSimpArgs false
set_option linter.unusedVariables false
set_option maxRecDepth 100000
namespace Go.V
open Go Go.RowKit Go.Proofs

set_option maxHeartbeats 4000000 in
theorem p_less {k : Nm} {S : Store} {Q : D → Store → Prop} {b j cap p q : Nat} {us V : List Nat} (hS : S k = some ⟨b, 1, p, rS (eK .u64) us⟩) (ub : B64 us) (vb : B64 V) (hq : q < 18446744073709551616) (hp : p ≤ j) (hlen : j + V.length + 1 ≤ us.length) (hl : us.length ≤ 2199023255552)
    (hQ : ∀ us' r, us'.length = us.length → B64 us' → (∀ i, (i < j ∨ j + V.length + 1 ≤ i) → us'.getD i 0 = us.getD i 0) → nval 18446744073709551616 us' + 18446744073709551616 ^ j * (q * nval 18446744073709551616 V) = nval 18446744073709551616 us + 18446744073709551616 ^ (j + V.length + 1) * (if r = true then 1 else 0) →
      Q (bl r) (updS S k (some ⟨b, 1, p, rS (eK .u64) us'⟩))) : PFC Tryd.prog 55 [.own k b j (V.length + 1) cap 1, W64 V, w64 q] S Q := by
  refine PFC.body (args := [.own k b j (V.length + 1) cap 1, W64 V, w64 q]) (rs := [.tmp 6]) mixed Tryd.func55 rfl (by kernel_rfl) (by kernel_rfl) (Nat.le_of_ble_eq_true rfl) rfl ?_
  repeat (first
   | (with_reducible first | refine pv_seq fun K hK => ?_ | refine pv_skip ?_ | refine pv_block ?_ | refine pv_scope ?_ | refine pv_label ?_)
   | (with_reducible refine pv_reg ?_; simp -implicitDefEqProofs only [comp_nil, comp_cons, compD_nil, compD_cons, gsl_none, gsl_some, List.getElem?_cons_zero, List.getElem?_cons_succ, Option.map_some, Option.bind_some, lapp_cons, lapp_nil])
   | (fail)
   | (with_reducible refine pv_condT ?_ ?_; · simp -implicitDefEqProofs only [upS_up, true_and, go_sem, seval] <;> rfl)
   | (with_reducible refine pv_condF ?_ ?_; · simp -implicitDefEqProofs only [upS_up, true_and, go_sem, seval] <;> rfl)
   | (with_reducible refine pv_exit ?_; simp only [↓reduceIte, Nat.reduceEqDiff])
   | (with_reducible refine pv_ret ?_; simp -implicitDefEqProofs only [retC, retS, retR, resD, oneD, coeDs_nil, coeDs_cons, coeD_agg, coeD_g, coeD_nil, coeD_own, coeCs_nil, coeCs_cons, coeC_g, coeC_nil, coeC_own, upS_up, true_and, go_sem, seval])
   | ((with_reducible first | refine hK _ _ ?_ | (clear hK; refine hK _ _ ?_) | (clear hK; clear hK; refine hK _ _ ?_)); clear hK; try clear K)
   | (simp -implicitDefEqProofs only [upS_up, true_and, go_sem, seval])
   | (with_reducible intro b)
   | (with_reducible refine And.intro ?_ ?_; · first | assumption | omega | (unfold R64; omega)))
  have J : ∀ (e : DEnv) (os : List Nat) (c bo : Nat), os.length = us.length → B64 os → (∀ m, (m < j ∨ j + V.length ≤ m) → os.getD m 0 = us.getD m 0) → c < 18446744073709551616 → bo ≤ 1 →
      nval 18446744073709551616 os + 18446744073709551616 ^ j * (q * nval 18446744073709551616 V) = nval 18446744073709551616 us + 18446744073709551616 ^ (j + V.length) * (bo + c) →
      e 0 = .own (.up k) b j (V.length + 1) cap 1 → e 1 = W64 V → e 7 = w64 c → e 8 = w64 bo → K e (updS (upS S) (.up k) (some ⟨b, 1, p, rS (eK .u64) os⟩)) := by
    intro e os c bo hol ob hout hc hbo hv f0 f1 f7 f8
    have g0 := rS_at (k := .u64) (xs := os) (i := j + V.length) (by omega)
    have hu := get_lt ob (by decide) (j + V.length)
    have hw := less_word (lo := c) (b := bo) hu hc hbo
    have hstep := sub_step (W := 18446744073709551616) (i := j + V.length) (c := bo) (b := c) (d := 0) (os := os) (S := 18446744073709551616 ^ j * (q * nval 18446744073709551616 V)) (T := nval 18446744073709551616 us) (by omega) hw (by rw [Nat.mul_zero, Nat.add_zero]; exact hv)
    have hlt : (os.getD (j + V.length) 0 + 18446744073709551616 - c - bo) % 18446744073709551616 < 18446744073709551616 := Nat.mod_lt _ (by decide)
    repeat (first
     | (with_reducible first | refine pv_seq fun K hK => ?_ | refine pv_skip ?_ | refine pv_block ?_ | refine pv_scope ?_ | refine pv_label ?_)
     | (with_reducible refine pv_reg ?_; simp -implicitDefEqProofs only [comp_nil, comp_cons, compD_nil, compD_cons, gsl_none, gsl_some, List.getElem?_cons_zero, List.getElem?_cons_succ, Option.map_some, Option.bind_some, lapp_cons, lapp_nil])
     | (fail)
     | (with_reducible refine pv_condT ?_ ?_; · simp -implicitDefEqProofs only [f0, f1, f7, f8, g0, updS_updS, D.one, Nat.le_refl, Nat.zero_add, true_and, go_sem, seval] <;> rfl)
     | (with_reducible refine pv_condF ?_ ?_; · simp -implicitDefEqProofs only [f0, f1, f7, f8, g0, updS_updS, D.one, Nat.le_refl, Nat.zero_add, true_and, go_sem, seval] <;> rfl)
     | (with_reducible refine pv_exit ?_; simp only [↓reduceIte, Nat.reduceEqDiff])
     | (with_reducible refine pv_ret ?_; simp -implicitDefEqProofs only [retC, retS, retR, resD, oneD, coeDs_nil, coeDs_cons, coeD_agg, coeD_g, coeD_nil, coeD_own, coeCs_nil, coeCs_cons, coeC_g, coeC_nil, coeC_own, f0, f1, f7, f8, g0, updS_updS, D.one, Nat.le_refl, Nat.zero_add, true_and, go_sem, seval])
     | ((with_reducible first | refine hK _ _ ?_ | (clear hK; refine hK _ _ ?_) | (clear hK; clear hK; refine hK _ _ ?_)); clear hK; try clear K)
     | (simp -implicitDefEqProofs only [f0, f1, f7, f8, g0, updS_updS, D.one, Nat.le_refl, Nat.zero_add, true_and, go_sem, seval])
     | (with_reducible intro b)
     | (with_reducible refine And.intro ?_ ?_; · first | assumption | omega | (unfold R64; omega)))
    refine call_is (p_sub64 (x := os.getD (j + V.length) 0) (y := c) (c := bo) hbo) ?_
    repeat (first
     | (with_reducible first | refine pv_seq fun K hK => ?_ | refine pv_skip ?_ | refine pv_block ?_ | refine pv_scope ?_ | refine pv_label ?_)
     | (with_reducible refine pv_reg ?_; simp -implicitDefEqProofs only [comp_nil, comp_cons, compD_nil, compD_cons, gsl_none, gsl_some, List.getElem?_cons_zero, List.getElem?_cons_succ, Option.map_some, Option.bind_some, lapp_cons, lapp_nil])
     | (fail)
     | (with_reducible refine pv_condT ?_ ?_; · simp -implicitDefEqProofs only [f0, f1, f7, f8, g0, updS_updS, D.one, Nat.le_refl, Nat.zero_add, true_and, go_sem, seval] <;> rfl)
     | (with_reducible refine pv_condF ?_ ?_; · simp -implicitDefEqProofs only [f0, f1, f7, f8, g0, updS_updS, D.one, Nat.le_refl, Nat.zero_add, true_and, go_sem, seval] <;> rfl)
     | (with_reducible refine pv_exit ?_; simp only [↓reduceIte, Nat.reduceEqDiff])
     | (with_reducible refine pv_ret ?_; simp -implicitDefEqProofs only [retC, retS, retR, resD, oneD, coeDs_nil, coeDs_cons, coeD_agg, coeD_g, coeD_nil, coeD_own, coeCs_nil, coeCs_cons, coeC_g, coeC_nil, coeC_own, f0, f1, f7, f8, g0, updS_updS, D.one, Nat.le_refl, Nat.zero_add, true_and, go_sem, seval])
     | ((with_reducible first | refine hK _ _ ?_ | (clear hK; refine hK _ _ ?_) | (clear hK; clear hK; refine hK _ _ ?_)); clear hK; try clear K)
     | (simp -implicitDefEqProofs only [f0, f1, f7, f8, g0, updS_updS, D.one, Nat.le_refl, Nat.zero_add, true_and, go_sem, seval])
     | (with_reducible intro b)
     | (with_reducible refine And.intro ?_ ?_; · first | assumption | omega | (unfold R64; omega)))
    refine hQ _ _ (by simp [hol]) (set_lt ob hlt) (fun m hm => ?_) ?_
    · rw [getD_set, if_neg (by omega)]; exact hout m (by omega)
    · rw [hstep]; congr 2
      by_cases hlt : os.getD (j + V.length) 0 < c + bo
      · simp [hlt]
      · simp [hlt]
  clear hK
  refine pv_loop (fun e S' => ∃ (i : Nat) (os : List Nat) (c bo : Nat), i ≤ V.length ∧ os.length = us.length ∧ B64 os ∧ (∀ m, (m < j ∨ j + i ≤ m) → os.getD m 0 = us.getD m 0) ∧ c < 18446744073709551616 ∧ bo ≤ 1 ∧
      nval 18446744073709551616 os + 18446744073709551616 ^ j * (q * nval 18446744073709551616 V) = nval 18446744073709551616 us + 18446744073709551616 ^ (j + i) * (bo + (c + q * nval 18446744073709551616 (V.drop i))) ∧
      e 0 = .own (.up k) b j (V.length + 1) cap 1 ∧ e 1 = W64 V ∧ e 2 = w64 q ∧ e 7 = w64 c ∧ e 8 = w64 bo ∧ e 14 = W64 V ∧ e 15 = i64 V.length ∧ e 16 = i64 i ∧ S' = updS (upS S) (.up k) (some ⟨b, 1, p, rS (eK .u64) os⟩)) (fun e _ => V.length - (intD (e 16)).toNat) ?_ ?_
  · refine ⟨0, us, 0, 0, by omega, rfl, ub, fun _ _ => rfl, by decide, by decide, by rw [List.drop_zero, Nat.zero_add, Nat.zero_add, Nat.add_zero], (by simp -implicitDefEqProofs only [upS_up, true_and, go_sem, seval]), (by simp -implicitDefEqProofs only [upS_up, true_and, go_sem, seval]), (by simp -implicitDefEqProofs only [upS_up, true_and, go_sem, seval]), (by simp -implicitDefEqProofs only [upS_up, true_and, go_sem, seval]), (by simp -implicitDefEqProofs only [upS_up, true_and, go_sem, seval]), (by simp -implicitDefEqProofs only [upS_up, true_and, go_sem, seval]), (by simp -implicitDefEqProofs only [upS_up, true_and, go_sem, seval]), (by simp -implicitDefEqProofs only [upS_up, true_and, go_sem, seval]), (updS_same (S := upS S) (k := .up k) hS).symm⟩
  · rintro e _ ⟨i, os, c, bo, hi, hol, ob, hout, hc, hbo, hv, f0, f1, f2, f7, f8, f14, f15, f16, rfl⟩
    have hmz : (intD (e 16)).toNat = i := by rw [f16]; rfl
    repeat (first
     | (with_reducible first | refine pv_seq fun K hK => ?_ | refine pv_skip ?_ | refine pv_block ?_ | refine pv_scope ?_ | refine pv_label ?_)
     | (with_reducible refine pv_reg ?_; simp -implicitDefEqProofs only [comp_nil, comp_cons, compD_nil, compD_cons, gsl_none, gsl_some, List.getElem?_cons_zero, List.getElem?_cons_succ, Option.map_some, Option.bind_some, lapp_cons, lapp_nil])
     | (fail)
     | (with_reducible refine pv_condT ?_ ?_; · simp -implicitDefEqProofs only [f0, f1, f2, f7, f8, f14, f15, f16, updS_updS, D.one, Nat.le_refl, Nat.zero_add, true_and, go_sem, seval] <;> rfl)
     | (with_reducible refine pv_condF ?_ ?_; · simp -implicitDefEqProofs only [f0, f1, f2, f7, f8, f14, f15, f16, updS_updS, D.one, Nat.le_refl, Nat.zero_add, true_and, go_sem, seval] <;> rfl)
     | (with_reducible refine pv_exit ?_; simp only [↓reduceIte, Nat.reduceEqDiff])
     | (with_reducible refine pv_ret ?_; simp -implicitDefEqProofs only [retC, retS, retR, resD, oneD, coeDs_nil, coeDs_cons, coeD_agg, coeD_g, coeD_nil, coeD_own, coeCs_nil, coeCs_cons, coeC_g, coeC_nil, coeC_own, f0, f1, f2, f7, f8, f14, f15, f16, updS_updS, D.one, Nat.le_refl, Nat.zero_add, true_and, go_sem, seval])
     | ((with_reducible first | refine hK _ _ ?_ | (clear hK; refine hK _ _ ?_) | (clear hK; clear hK; refine hK _ _ ?_)); clear hK; try clear K)
     | (simp -implicitDefEqProofs only [f0, f1, f2, f7, f8, f14, f15, f16, updS_updS, D.one, Nat.le_refl, Nat.zero_add, true_and, go_sem, seval])
     | (with_reducible intro b)
     | (with_reducible refine And.intro ?_ ?_; · first | assumption | omega | (unfold R64; omega)))
    refine pv_condD (by simp -implicitDefEqProofs only [f0, f1, f2, f7, f8, f14, f15, f16, updS_updS, D.one, Nat.le_refl, Nat.zero_add, true_and, go_sem, seval] <;> rfl) (fun ht => ?_) (fun ht => ?_)
    · have ha := get_lt vb (by decide) i
      have g0 := rS_at (k := .u64) (xs := os) (i := j + i) (by omega)
      have hu := get_lt ob (by decide) (j + i)
      obtain ⟨m1, m2⟩ := mul_carry (W := 18446744073709551616) (x := q * V.getD i 0) (c := c) (by decide)
      have hcl := carry_lt (W := 18446744073709551616) hq ha hc
      have hlol : (q * V.getD i 0 + c) % 18446744073709551616 < 18446744073709551616 := Nat.mod_lt _ (by decide)
      have hw := less_word (lo := (q * V.getD i 0 + c) % 18446744073709551616) (b := bo) hu hlol hbo
      have hdm := Nat.div_add_mod (q * V.getD i 0 + c) 18446744073709551616
      have hstep := sub_step (W := 18446744073709551616) (i := j + i) (c := bo) (b := (q * V.getD i 0 + c) % 18446744073709551616) (d := (q * V.getD i 0 + c) / 18446744073709551616 + q * nval 18446744073709551616 (V.drop (i + 1))) (os := os) (S := 18446744073709551616 ^ j * (q * nval 18446744073709551616 V)) (T := nval 18446744073709551616 us) (by omega) hw (by
        rw [hv, nval_drop ht]; congr 2
        generalize nval 18446744073709551616 (V.drop (i + 1)) = D at *
        rw [Nat.mul_add q, Nat.mul_left_comm q]; omega)
      have hlt : (os.getD (j + i) 0 + 18446744073709551616 - (q * V.getD i 0 + c) % 18446744073709551616 - bo) % 18446744073709551616 < 18446744073709551616 := Nat.mod_lt _ (by decide)
      have hm3 : ((q * V.getD i 0 + c) / 18446744073709551616) % 18446744073709551616 = (q * V.getD i 0 + c) / 18446744073709551616 := Nat.mod_eq_of_lt hcl
      repeat (first
       | (with_reducible first | refine pv_seq fun K hK => ?_ | refine pv_skip ?_ | refine pv_block ?_ | refine pv_scope ?_ | refine pv_label ?_)
       | (with_reducible refine pv_reg ?_; simp -implicitDefEqProofs only [comp_nil, comp_cons, compD_nil, compD_cons, gsl_none, gsl_some, List.getElem?_cons_zero, List.getElem?_cons_succ, Option.map_some, Option.bind_some, lapp_cons, lapp_nil])
       | (fail)
       | (with_reducible refine pv_condT ?_ ?_; · simp -implicitDefEqProofs only [f0, f1, f2, f7, f8, f14, f15, f16, g0, updS_updS, D.one, Nat.le_refl, Nat.zero_add, true_and, go_sem, seval] <;> rfl)
       | (with_reducible refine pv_condF ?_ ?_; · simp -implicitDefEqProofs only [f0, f1, f2, f7, f8, f14, f15, f16, g0, updS_updS, D.one, Nat.le_refl, Nat.zero_add, true_and, go_sem, seval] <;> rfl)
       | (with_reducible refine pv_exit ?_; simp only [↓reduceIte, Nat.reduceEqDiff])
       | (with_reducible refine pv_ret ?_; simp -implicitDefEqProofs only [retC, retS, retR, resD, oneD, coeDs_nil, coeDs_cons, coeD_agg, coeD_g, coeD_nil, coeD_own, coeCs_nil, coeCs_cons, coeC_g, coeC_nil, coeC_own, f0, f1, f2, f7, f8, f14, f15, f16, g0, updS_updS, D.one, Nat.le_refl, Nat.zero_add, true_and, go_sem, seval])
       | ((with_reducible first | refine hK _ _ ?_ | (clear hK; refine hK _ _ ?_) | (clear hK; clear hK; refine hK _ _ ?_)); clear hK; try clear K)
       | (simp -implicitDefEqProofs only [f0, f1, f2, f7, f8, f14, f15, f16, g0, updS_updS, D.one, Nat.le_refl, Nat.zero_add, true_and, go_sem, seval])
       | (with_reducible intro b)
       | (with_reducible refine And.intro ?_ ?_; · first | assumption | omega | (unfold R64; omega)))
      refine call_is (p_mul64 hq ha) ?_
      repeat (first
       | (with_reducible first | refine pv_seq fun K hK => ?_ | refine pv_skip ?_ | refine pv_block ?_ | refine pv_scope ?_ | refine pv_label ?_)
       | (with_reducible refine pv_reg ?_; simp -implicitDefEqProofs only [comp_nil, comp_cons, compD_nil, compD_cons, gsl_none, gsl_some, List.getElem?_cons_zero, List.getElem?_cons_succ, Option.map_some, Option.bind_some, lapp_cons, lapp_nil])
       | (fail)
       | (with_reducible refine pv_condT ?_ ?_; · simp -implicitDefEqProofs only [f0, f1, f2, f7, f8, f14, f15, f16, g0, updS_updS, D.one, Nat.le_refl, Nat.zero_add, true_and, go_sem, seval] <;> rfl)
       | (with_reducible refine pv_condF ?_ ?_; · simp -implicitDefEqProofs only [f0, f1, f2, f7, f8, f14, f15, f16, g0, updS_updS, D.one, Nat.le_refl, Nat.zero_add, true_and, go_sem, seval] <;> rfl)
       | (with_reducible refine pv_exit ?_; simp only [↓reduceIte, Nat.reduceEqDiff])
       | (with_reducible refine pv_ret ?_; simp -implicitDefEqProofs only [retC, retS, retR, resD, oneD, coeDs_nil, coeDs_cons, coeD_agg, coeD_g, coeD_nil, coeD_own, coeCs_nil, coeCs_cons, coeC_g, coeC_nil, coeC_own, f0, f1, f2, f7, f8, f14, f15, f16, g0, updS_updS, D.one, Nat.le_refl, Nat.zero_add, true_and, go_sem, seval])
       | ((with_reducible first | refine hK _ _ ?_ | (clear hK; refine hK _ _ ?_) | (clear hK; clear hK; refine hK _ _ ?_)); clear hK; try clear K)
       | (simp -implicitDefEqProofs only [f0, f1, f2, f7, f8, f14, f15, f16, g0, updS_updS, D.one, Nat.le_refl, Nat.zero_add, true_and, go_sem, seval])
       | (with_reducible intro b)
       | (with_reducible refine And.intro ?_ ?_; · first | assumption | omega | (unfold R64; omega)))
      refine call_is (p_add64 (x := q * V.getD i 0 % 18446744073709551616) (y := c) (c := 0) (by decide)) ?_
      simp only [Nat.add_zero, m1]
      repeat (first
       | (with_reducible first | refine pv_seq fun K hK => ?_ | refine pv_skip ?_ | refine pv_block ?_ | refine pv_scope ?_ | refine pv_label ?_)
       | (with_reducible refine pv_reg ?_; simp -implicitDefEqProofs only [comp_nil, comp_cons, compD_nil, compD_cons, gsl_none, gsl_some, List.getElem?_cons_zero, List.getElem?_cons_succ, Option.map_some, Option.bind_some, lapp_cons, lapp_nil])
       | (fail)
       | (with_reducible refine pv_condT ?_ ?_; · simp -implicitDefEqProofs only [f0, f1, f2, f7, f8, f14, f15, f16, g0, updS_updS, D.one, Nat.le_refl, Nat.zero_add, m2, hm3, true_and, go_sem, seval] <;> rfl)
       | (with_reducible refine pv_condF ?_ ?_; · simp -implicitDefEqProofs only [f0, f1, f2, f7, f8, f14, f15, f16, g0, updS_updS, D.one, Nat.le_refl, Nat.zero_add, m2, hm3, true_and, go_sem, seval] <;> rfl)
       | (with_reducible refine pv_exit ?_; simp only [↓reduceIte, Nat.reduceEqDiff])
       | (with_reducible refine pv_ret ?_; simp -implicitDefEqProofs only [retC, retS, retR, resD, oneD, coeDs_nil, coeDs_cons, coeD_agg, coeD_g, coeD_nil, coeD_own, coeCs_nil, coeCs_cons, coeC_g, coeC_nil, coeC_own, f0, f1, f2, f7, f8, f14, f15, f16, g0, updS_updS, D.one, Nat.le_refl, Nat.zero_add, m2, hm3, true_and, go_sem, seval])
       | ((with_reducible first | refine hK _ _ ?_ | (clear hK; refine hK _ _ ?_) | (clear hK; clear hK; refine hK _ _ ?_)); clear hK; try clear K)
       | (simp -implicitDefEqProofs only [f0, f1, f2, f7, f8, f14, f15, f16, g0, updS_updS, D.one, Nat.le_refl, Nat.zero_add, m2, hm3, true_and, go_sem, seval])
       | (with_reducible intro b)
       | (with_reducible refine And.intro ?_ ?_; · first | assumption | omega | (unfold R64; omega)))
      refine call_is (p_sub64 (x := os.getD (j + i) 0) (y := (q * V.getD i 0 + c) % 18446744073709551616) (c := bo) hbo) ?_
      repeat (first
       | (with_reducible first | refine pv_seq fun K hK => ?_ | refine pv_skip ?_ | refine pv_block ?_ | refine pv_scope ?_ | refine pv_label ?_)
       | (with_reducible refine pv_reg ?_; simp -implicitDefEqProofs only [comp_nil, comp_cons, compD_nil, compD_cons, gsl_none, gsl_some, List.getElem?_cons_zero, List.getElem?_cons_succ, Option.map_some, Option.bind_some, lapp_cons, lapp_nil])
       | (fail)
       | (with_reducible refine pv_condT ?_ ?_; · simp -implicitDefEqProofs only [f0, f1, f2, f7, f8, f14, f15, f16, g0, updS_updS, D.one, Nat.le_refl, Nat.zero_add, m2, hm3, true_and, go_sem, seval] <;> rfl)
       | (with_reducible refine pv_condF ?_ ?_; · simp -implicitDefEqProofs only [f0, f1, f2, f7, f8, f14, f15, f16, g0, updS_updS, D.one, Nat.le_refl, Nat.zero_add, m2, hm3, true_and, go_sem, seval] <;> rfl)
       | (with_reducible refine pv_exit ?_; simp only [↓reduceIte, Nat.reduceEqDiff])
       | (with_reducible refine pv_ret ?_; simp -implicitDefEqProofs only [retC, retS, retR, resD, oneD, coeDs_nil, coeDs_cons, coeD_agg, coeD_g, coeD_nil, coeD_own, coeCs_nil, coeCs_cons, coeC_g, coeC_nil, coeC_own, f0, f1, f2, f7, f8, f14, f15, f16, g0, updS_updS, D.one, Nat.le_refl, Nat.zero_add, m2, hm3, true_and, go_sem, seval])
       | ((with_reducible first | refine hK _ _ ?_ | (clear hK; refine hK _ _ ?_) | (clear hK; clear hK; refine hK _ _ ?_)); clear hK; try clear K)
       | (simp -implicitDefEqProofs only [f0, f1, f2, f7, f8, f14, f15, f16, g0, updS_updS, D.one, Nat.le_refl, Nat.zero_add, m2, hm3, true_and, go_sem, seval])
       | (with_reducible intro b)
       | (with_reducible refine And.intro ?_ ?_; · first | assumption | omega | (unfold R64; omega)))
      refine ⟨⟨i + 1, os.set (j + i) ((os.getD (j + i) 0 + 18446744073709551616 - (q * V.getD i 0 + c) % 18446744073709551616 - bo) % 18446744073709551616), (q * V.getD i 0 + c) / 18446744073709551616, if os.getD (j + i) 0 < (q * V.getD i 0 + c) % 18446744073709551616 + bo then 1 else 0,
        by omega, by simp [hol], set_lt ob hlt, fun m hm => ?_, hcl, by split <;> decide, hstep, rfl, rfl, rfl, rfl⟩, by simp only [intD]; omega⟩
      rw [getD_set, if_neg (by omega)]; exact hout m (by omega)
    · repeat (first
       | (with_reducible first | refine pv_seq fun K hK => ?_ | refine pv_skip ?_ | refine pv_block ?_ | refine pv_scope ?_ | refine pv_label ?_)
       | (with_reducible refine pv_reg ?_; simp -implicitDefEqProofs only [comp_nil, comp_cons, compD_nil, compD_cons, gsl_none, gsl_some, List.getElem?_cons_zero, List.getElem?_cons_succ, Option.map_some, Option.bind_some, lapp_cons, lapp_nil])
       | (fail)
       | (with_reducible refine pv_condT ?_ ?_; · simp -implicitDefEqProofs only [f0, f1, f2, f7, f8, f14, f15, f16, g0, updS_updS, D.one, Nat.le_refl, Nat.zero_add, m2, hm3, true_and, go_sem, seval] <;> rfl)
       | (with_reducible refine pv_condF ?_ ?_; · simp -implicitDefEqProofs only [f0, f1, f2, f7, f8, f14, f15, f16, g0, updS_updS, D.one, Nat.le_refl, Nat.zero_add, m2, hm3, true_and, go_sem, seval] <;> rfl)
       | (with_reducible refine pv_exit ?_; simp only [↓reduceIte, Nat.reduceEqDiff])
       | (with_reducible refine pv_ret ?_; simp -implicitDefEqProofs only [retC, retS, retR, resD, oneD, coeDs_nil, coeDs_cons, coeD_agg, coeD_g, coeD_nil, coeD_own, coeCs_nil, coeCs_cons, coeC_g, coeC_nil, coeC_own, f0, f1, f2, f7, f8, f14, f15, f16, g0, updS_updS, D.one, Nat.le_refl, Nat.zero_add, m2, hm3, true_and, go_sem, seval])
       | ((with_reducible first | refine hK _ _ ?_ | (clear hK; refine hK _ _ ?_) | (clear hK; clear hK; refine hK _ _ ?_)); clear hK; try clear K)
       | (simp -implicitDefEqProofs only [f0, f1, f2, f7, f8, f14, f15, f16, g0, updS_updS, D.one, Nat.le_refl, Nat.zero_add, m2, hm3, true_and, go_sem, seval])
       | (with_reducible intro b)
       | (with_reducible refine And.intro ?_ ?_; · first | assumption | omega | (unfold R64; omega)))
      obtain rfl : i = V.length := by omega
      refine J _ os c bo hol ob hout hc hbo ?_ f0 f1 f7 f8
      rw [hv, nval_drop_all (Nat.le_refl _), Nat.mul_zero, Nat.add_zero]

set_option maxHeartbeats 4000000 in
theorem p_more {k : Nm} {S : Store} {Q : D → Store → Prop} {b j cap p : Nat} {us V : List Nat} (hS : S k = some ⟨b, 1, p, rS (eK .u64) us⟩) (ub : B64 us) (vb : B64 V) (hp : p ≤ j) (hlen : j + V.length + 1 ≤ us.length) (hl : us.length ≤ 2199023255552)
    (hQ : ∀ us' c, us'.length = us.length → B64 us' → (∀ i, (i < j ∨ j + V.length + 1 ≤ i) → us'.getD i 0 = us.getD i 0) → nval 18446744073709551616 us' + 18446744073709551616 ^ (j + V.length + 1) * c = nval 18446744073709551616 us + 18446744073709551616 ^ j * nval 18446744073709551616 V → c ≤ 1 →
      Q (.tup []) (updS S k (some ⟨b, 1, p, rS (eK .u64) us'⟩))) : PFC Tryd.prog 56 [.own k b j (V.length + 1) cap 1, W64 V] S Q := by
  refine PFC.body (args := [.own k b j (V.length + 1) cap 1, W64 V]) (rs := []) mixed Tryd.func56 rfl (by kernel_rfl) (by kernel_rfl) (Nat.le_of_ble_eq_true rfl) rfl ?_
  repeat (first
   | (with_reducible first | refine pv_seq fun K hK => ?_ | refine pv_skip ?_ | refine pv_block ?_ | refine pv_scope ?_ | refine pv_label ?_)
   | (with_reducible refine pv_reg ?_; simp -implicitDefEqProofs only [comp_nil, comp_cons, compD_nil, compD_cons, gsl_none, gsl_some, List.getElem?_cons_zero, List.getElem?_cons_succ, Option.map_some, Option.bind_some, lapp_cons, lapp_nil])
   | (fail)
   | (with_reducible refine pv_condT ?_ ?_; · simp -implicitDefEqProofs only [upS_up, true_and, go_sem, seval] <;> rfl)
   | (with_reducible refine pv_condF ?_ ?_; · simp -implicitDefEqProofs only [upS_up, true_and, go_sem, seval] <;> rfl)
   | (with_reducible refine pv_exit ?_; simp only [↓reduceIte, Nat.reduceEqDiff])
   | (with_reducible refine pv_ret ?_; simp -implicitDefEqProofs only [retC, retS, retR, resD, oneD, coeDs_nil, coeDs_cons, coeD_agg, coeD_g, coeD_nil, coeD_own, coeCs_nil, coeCs_cons, coeC_g, coeC_nil, coeC_own, upS_up, true_and, go_sem, seval])
   | ((with_reducible first | refine hK _ _ ?_ | (clear hK; refine hK _ _ ?_) | (clear hK; clear hK; refine hK _ _ ?_)); clear hK; try clear K)
   | (simp -implicitDefEqProofs only [upS_up, true_and, go_sem, seval])
   | (with_reducible intro b)
   | (with_reducible refine And.intro ?_ ?_; · first | assumption | omega | (unfold R64; omega)))
  have J : ∀ (e : DEnv) (os : List Nat) (c : Nat), os.length = us.length → B64 os → (∀ m, (m < j ∨ j + V.length ≤ m) → os.getD m 0 = us.getD m 0) → c ≤ 1 →
      nval 18446744073709551616 os + 18446744073709551616 ^ (j + V.length) * c = nval 18446744073709551616 us + 18446744073709551616 ^ j * nval 18446744073709551616 V →
      e 0 = .own (.up k) b j (V.length + 1) cap 1 → e 1 = W64 V → e 4 = w64 c → K e (updS (upS S) (.up k) (some ⟨b, 1, p, rS (eK .u64) os⟩)) := by
    intro e os c hol ob hout hc hv f0 f1 f4
    have g0 := rS_at (k := .u64) (xs := os) (i := j + V.length) (by omega)
    have hu := get_lt ob (by decide) (j + V.length)
    have hstep := add_step (W := 18446744073709551616) (i := j + V.length) (s := os.getD (j + V.length) 0 + c) (c := c) (b := 0) (d := 0) (os := os) (T := nval 18446744073709551616 us + 18446744073709551616 ^ j * nval 18446744073709551616 V) (by decide) (by omega) (by omega) (by simpa using hv)
    repeat (first
     | (with_reducible first | refine pv_seq fun K hK => ?_ | refine pv_skip ?_ | refine pv_block ?_ | refine pv_scope ?_ | refine pv_label ?_)
     | (with_reducible refine pv_reg ?_; simp -implicitDefEqProofs only [comp_nil, comp_cons, compD_nil, compD_cons, gsl_none, gsl_some, List.getElem?_cons_zero, List.getElem?_cons_succ, Option.map_some, Option.bind_some, lapp_cons, lapp_nil])
     | (fail)
     | (with_reducible refine pv_condT ?_ ?_; · simp -implicitDefEqProofs only [f0, f1, f4, g0, updS_updS, D.one, Nat.le_refl, Nat.zero_add, true_and, go_sem, seval] <;> rfl)
     | (with_reducible refine pv_condF ?_ ?_; · simp -implicitDefEqProofs only [f0, f1, f4, g0, updS_updS, D.one, Nat.le_refl, Nat.zero_add, true_and, go_sem, seval] <;> rfl)
     | (with_reducible refine pv_exit ?_; simp only [↓reduceIte, Nat.reduceEqDiff])
     | (with_reducible refine pv_ret ?_; simp -implicitDefEqProofs only [retC, retS, retR, resD, oneD, coeDs_nil, coeDs_cons, coeD_agg, coeD_g, coeD_nil, coeD_own, coeCs_nil, coeCs_cons, coeC_g, coeC_nil, coeC_own, f0, f1, f4, g0, updS_updS, D.one, Nat.le_refl, Nat.zero_add, true_and, go_sem, seval])
     | ((with_reducible first | refine hK _ _ ?_ | (clear hK; refine hK _ _ ?_) | (clear hK; clear hK; refine hK _ _ ?_)); clear hK; try clear K)
     | (simp -implicitDefEqProofs only [f0, f1, f4, g0, updS_updS, D.one, Nat.le_refl, Nat.zero_add, true_and, go_sem, seval])
     | (with_reducible intro b)
     | (with_reducible refine And.intro ?_ ?_; · first | assumption | omega | (unfold R64; omega)))
    simp -implicitDefEqProofs only [retC, retS, retR, resD, oneD, coeDs_nil, coeDs_cons, coeD_agg, coeD_g, coeD_nil, coeD_own, coeCs_nil, coeCs_cons, coeC_g, coeC_nil, coeC_own, f0, f1, f4, g0, updS_updS, D.one, Nat.le_refl, Nat.zero_add, true_and, go_sem, seval]
    refine hQ _ _ (by simp [hol]) (set_lt ob (Nat.mod_lt _ (by decide))) (fun m hm => ?_) hstep (by omega)
    rw [getD_set, if_neg (by omega)]; exact hout m (by omega)
  clear hK
  refine pv_loop (fun e S' => ∃ (i : Nat) (os : List Nat) (c : Nat), i ≤ V.length ∧ os.length = us.length ∧ B64 os ∧ (∀ m, (m < j ∨ j + i ≤ m) → os.getD m 0 = us.getD m 0) ∧ c ≤ 1 ∧
      nval 18446744073709551616 os + 18446744073709551616 ^ (j + i) * (c + nval 18446744073709551616 (V.drop i)) = nval 18446744073709551616 us + 18446744073709551616 ^ j * nval 18446744073709551616 V ∧
      e 0 = .own (.up k) b j (V.length + 1) cap 1 ∧ e 1 = W64 V ∧ e 4 = w64 c ∧ e 7 = W64 V ∧ e 8 = i64 V.length ∧ e 9 = i64 i ∧ S' = updS (upS S) (.up k) (some ⟨b, 1, p, rS (eK .u64) os⟩)) (fun e _ => V.length - (intD (e 9)).toNat) ?_ ?_
  · refine ⟨0, us, 0, by omega, rfl, ub, fun _ _ => rfl, by decide, by simp, (by simp -implicitDefEqProofs only [upS_up, true_and, go_sem, seval]), (by simp -implicitDefEqProofs only [upS_up, true_and, go_sem, seval]), (by simp -implicitDefEqProofs only [upS_up, true_and, go_sem, seval]), (by simp -implicitDefEqProofs only [upS_up, true_and, go_sem, seval]), (by simp -implicitDefEqProofs only [upS_up, true_and, go_sem, seval]), (by simp -implicitDefEqProofs only [upS_up, true_and, go_sem, seval]), (updS_same (S := upS S) (k := .up k) hS).symm⟩
  · rintro e _ ⟨i, os, c, hi, hol, ob, hout, hc, hv, f0, f1, f4, f7, f8, f9, rfl⟩
    have hmz : (intD (e 9)).toNat = i := by rw [f9]; rfl
    repeat (first
     | (with_reducible first | refine pv_seq fun K hK => ?_ | refine pv_skip ?_ | refine pv_block ?_ | refine pv_scope ?_ | refine pv_label ?_)
     | (with_reducible refine pv_reg ?_; simp -implicitDefEqProofs only [comp_nil, comp_cons, compD_nil, compD_cons, gsl_none, gsl_some, List.getElem?_cons_zero, List.getElem?_cons_succ, Option.map_some, Option.bind_some, lapp_cons, lapp_nil])
     | (fail)
     | (with_reducible refine pv_condT ?_ ?_; · simp -implicitDefEqProofs only [f0, f1, f4, f7, f8, f9, updS_updS, D.one, Nat.le_refl, Nat.zero_add, true_and, go_sem, seval] <;> rfl)
     | (with_reducible refine pv_condF ?_ ?_; · simp -implicitDefEqProofs only [f0, f1, f4, f7, f8, f9, updS_updS, D.one, Nat.le_refl, Nat.zero_add, true_and, go_sem, seval] <;> rfl)
     | (with_reducible refine pv_exit ?_; simp only [↓reduceIte, Nat.reduceEqDiff])
     | (with_reducible refine pv_ret ?_; simp -implicitDefEqProofs only [retC, retS, retR, resD, oneD, coeDs_nil, coeDs_cons, coeD_agg, coeD_g, coeD_nil, coeD_own, coeCs_nil, coeCs_cons, coeC_g, coeC_nil, coeC_own, f0, f1, f4, f7, f8, f9, updS_updS, D.one, Nat.le_refl, Nat.zero_add, true_and, go_sem, seval])
     | ((with_reducible first | refine hK _ _ ?_ | (clear hK; refine hK _ _ ?_) | (clear hK; clear hK; refine hK _ _ ?_)); clear hK; try clear K)
     | (simp -implicitDefEqProofs only [f0, f1, f4, f7, f8, f9, updS_updS, D.one, Nat.le_refl, Nat.zero_add, true_and, go_sem, seval])
     | (with_reducible intro b)
     | (with_reducible refine And.intro ?_ ?_; · first | assumption | omega | (unfold R64; omega)))
    refine pv_condD (by simp -implicitDefEqProofs only [f0, f1, f4, f7, f8, f9, updS_updS, D.one, Nat.le_refl, Nat.zero_add, true_and, go_sem, seval] <;> rfl) (fun ht => ?_) (fun ht => ?_)
    · have ha := get_lt vb (by decide) i
      have g0 := rS_at (k := .u64) (xs := os) (i := j + i) (by omega)
      have hu := get_lt ob (by decide) (j + i)
      have hstep := add_step (W := 18446744073709551616) (i := j + i) (s := os.getD (j + i) 0 + V.getD i 0 + c) (c := c) (b := V.getD i 0) (d := nval 18446744073709551616 (V.drop (i + 1))) (os := os) (T := nval 18446744073709551616 us + 18446744073709551616 ^ j * nval 18446744073709551616 V) (by decide) (by omega) rfl (by rw [← nval_drop ht]; exact hv)
      repeat (first
       | (with_reducible first | refine pv_seq fun K hK => ?_ | refine pv_skip ?_ | refine pv_block ?_ | refine pv_scope ?_ | refine pv_label ?_)
       | (with_reducible refine pv_reg ?_; simp -implicitDefEqProofs only [comp_nil, comp_cons, compD_nil, compD_cons, gsl_none, gsl_some, List.getElem?_cons_zero, List.getElem?_cons_succ, Option.map_some, Option.bind_some, lapp_cons, lapp_nil])
       | (fail)
       | (with_reducible refine pv_condT ?_ ?_; · simp -implicitDefEqProofs only [f0, f1, f4, f7, f8, f9, g0, updS_updS, D.one, Nat.le_refl, Nat.zero_add, true_and, go_sem, seval] <;> rfl)
       | (with_reducible refine pv_condF ?_ ?_; · simp -implicitDefEqProofs only [f0, f1, f4, f7, f8, f9, g0, updS_updS, D.one, Nat.le_refl, Nat.zero_add, true_and, go_sem, seval] <;> rfl)
       | (with_reducible refine pv_exit ?_; simp only [↓reduceIte, Nat.reduceEqDiff])
       | (with_reducible refine pv_ret ?_; simp -implicitDefEqProofs only [retC, retS, retR, resD, oneD, coeDs_nil, coeDs_cons, coeD_agg, coeD_g, coeD_nil, coeD_own, coeCs_nil, coeCs_cons, coeC_g, coeC_nil, coeC_own, f0, f1, f4, f7, f8, f9, g0, updS_updS, D.one, Nat.le_refl, Nat.zero_add, true_and, go_sem, seval])
       | ((with_reducible first | refine hK _ _ ?_ | (clear hK; refine hK _ _ ?_) | (clear hK; clear hK; refine hK _ _ ?_)); clear hK; try clear K)
       | (simp -implicitDefEqProofs only [f0, f1, f4, f7, f8, f9, g0, updS_updS, D.one, Nat.le_refl, Nat.zero_add, true_and, go_sem, seval])
       | (with_reducible intro b)
       | (with_reducible refine And.intro ?_ ?_; · first | assumption | omega | (unfold R64; omega)))
      refine call_is (p_add64 (x := os.getD (j + i) 0) (y := V.getD i 0) (c := c) hc) ?_
      repeat (first
       | (with_reducible first | refine pv_seq fun K hK => ?_ | refine pv_skip ?_ | refine pv_block ?_ | refine pv_scope ?_ | refine pv_label ?_)
       | (with_reducible refine pv_reg ?_; simp -implicitDefEqProofs only [comp_nil, comp_cons, compD_nil, compD_cons, gsl_none, gsl_some, List.getElem?_cons_zero, List.getElem?_cons_succ, Option.map_some, Option.bind_some, lapp_cons, lapp_nil])
       | (fail)
       | (with_reducible refine pv_condT ?_ ?_; · simp -implicitDefEqProofs only [f0, f1, f4, f7, f8, f9, g0, updS_updS, D.one, Nat.le_refl, Nat.zero_add, true_and, go_sem, seval] <;> rfl)
       | (with_reducible refine pv_condF ?_ ?_; · simp -implicitDefEqProofs only [f0, f1, f4, f7, f8, f9, g0, updS_updS, D.one, Nat.le_refl, Nat.zero_add, true_and, go_sem, seval] <;> rfl)
       | (with_reducible refine pv_exit ?_; simp only [↓reduceIte, Nat.reduceEqDiff])
       | (with_reducible refine pv_ret ?_; simp -implicitDefEqProofs only [retC, retS, retR, resD, oneD, coeDs_nil, coeDs_cons, coeD_agg, coeD_g, coeD_nil, coeD_own, coeCs_nil, coeCs_cons, coeC_g, coeC_nil, coeC_own, f0, f1, f4, f7, f8, f9, g0, updS_updS, D.one, Nat.le_refl, Nat.zero_add, true_and, go_sem, seval])
       | ((with_reducible first | refine hK _ _ ?_ | (clear hK; refine hK _ _ ?_) | (clear hK; clear hK; refine hK _ _ ?_)); clear hK; try clear K)
       | (simp -implicitDefEqProofs only [f0, f1, f4, f7, f8, f9, g0, updS_updS, D.one, Nat.le_refl, Nat.zero_add, true_and, go_sem, seval])
       | (with_reducible intro b)
       | (with_reducible refine And.intro ?_ ?_; · first | assumption | omega | (unfold R64; omega)))
      refine ⟨⟨i + 1, os.set (j + i) ((os.getD (j + i) 0 + V.getD i 0 + c) % 18446744073709551616), (os.getD (j + i) 0 + V.getD i 0 + c) / 18446744073709551616,
        by omega, by simp [hol], set_lt ob (Nat.mod_lt _ (by decide)), fun m hm => ?_, by omega, hstep, rfl, rfl, rfl⟩, by simp only [intD]; omega⟩
      rw [getD_set, if_neg (by omega)]; exact hout m (by omega)
    · repeat (first
       | (with_reducible first | refine pv_seq fun K hK => ?_ | refine pv_skip ?_ | refine pv_block ?_ | refine pv_scope ?_ | refine pv_label ?_)
       | (with_reducible refine pv_reg ?_; simp -implicitDefEqProofs only [comp_nil, comp_cons, compD_nil, compD_cons, gsl_none, gsl_some, List.getElem?_cons_zero, List.getElem?_cons_succ, Option.map_some, Option.bind_some, lapp_cons, lapp_nil])
       | (fail)
       | (with_reducible refine pv_condT ?_ ?_; · simp -implicitDefEqProofs only [f0, f1, f4, f7, f8, f9, g0, updS_updS, D.one, Nat.le_refl, Nat.zero_add, true_and, go_sem, seval] <;> rfl)
       | (with_reducible refine pv_condF ?_ ?_; · simp -implicitDefEqProofs only [f0, f1, f4, f7, f8, f9, g0, updS_updS, D.one, Nat.le_refl, Nat.zero_add, true_and, go_sem, seval] <;> rfl)
       | (with_reducible refine pv_exit ?_; simp only [↓reduceIte, Nat.reduceEqDiff])
       | (with_reducible refine pv_ret ?_; simp -implicitDefEqProofs only [retC, retS, retR, resD, oneD, coeDs_nil, coeDs_cons, coeD_agg, coeD_g, coeD_nil, coeD_own, coeCs_nil, coeCs_cons, coeC_g, coeC_nil, coeC_own, f0, f1, f4, f7, f8, f9, g0, updS_updS, D.one, Nat.le_refl, Nat.zero_add, true_and, go_sem, seval])
       | ((with_reducible first | refine hK _ _ ?_ | (clear hK; refine hK _ _ ?_) | (clear hK; clear hK; refine hK _ _ ?_)); clear hK; try clear K)
       | (simp -implicitDefEqProofs only [f0, f1, f4, f7, f8, f9, g0, updS_updS, D.one, Nat.le_refl, Nat.zero_add, true_and, go_sem, seval])
       | (with_reducible intro b)
       | (with_reducible refine And.intro ?_ ?_; · first | assumption | omega | (unfold R64; omega)))
      obtain rfl : i = V.length := by omega
      refine J _ os c hol ob hout hc ?_ f0 f1 f4
      rw [nval_drop_all (Nat.le_refl _), Nat.add_zero] at hv
      exact hv

end Go.V

/- The statement RoundRises of layer 3. -/
import Derived.Test.YtjilhcofkcnplaaDoorPW
set_option linter.unusedSimpArgs false
set_option linter.unusedVariables false
set_option maxRecDepth 100000
namespace Go.V
open Go Go.RowKit Go.Proofs
def qE9_7_5 : PT := (.lin [(0, 0)] (.fork3 1 3 (.lin [] (.fork 2 3 (.lin [] (.fork 3 3 (.lin [(4, 0), (5, 0), (6, 0), (7, 3), (8, 3), (9, 0)] .nil) 7 3 (.lin [(3, 3), (4, 0), (5, 0), (6, 0), (8, 3), (9, 0)] .nil))) 7 3 (.lin [(2, 3), (3, 3), (4, 0), (5, 0), (6, 0), (8, 3), (9, 0)] .nil))) 2 3 (.lin [] (.fork 1 3 (.lin [] (.fork 3 3 (.lin [(4, 0), (5, 0), (6, 0), (7, 3), (8, 3), (9, 0)] .nil) 7 3 (.lin [(3, 3), (4, 0), (5, 0), (6, 0), (8, 3), (9, 0)] .nil))) 7 3 (.lin [(1, 3), (3, 3), (4, 0), (5, 0), (6, 0), (8, 3), (9, 0)] .nil))) 7 3 (.lin [] (.fork 1 3 (.lin [(2, 3), (3, 3), (4, 0), (5, 0), (6, 0), (8, 3), (9, 0)] .nil) 2 3 (.lin [(1, 3), (3, 3), (4, 0), (5, 0), (6, 0), (8, 3), (9, 0)] .nil)))))
attribute [go_sem] qE9_7_5

theorem cmpD_nn {a b : Dyadic} (h : b ≤ a) : (0 ≤ cmpD a b) = True := by
  apply eq_true
  unfold cmpD
  by_cases h1 : a < b
  · grind
  · rw [if_neg h1]; split <;> decide
set_option maxHeartbeats 4000000 in
theorem p_RoundRises {w : List Nat} {up : Bool} (hb : B64 w) : PC Tryd.prog 7 [W64 w, bl up] fun d => d = bl true := by
  refine PC.body (args := [W64 w, bl up]) (rs := [.tmp 4]) mixed Tryd.func7 rfl (by kernel_rfl) (by kernel_rfl) (Nat.le_of_ble_eq_true rfl) rfl ?_
  repeat (first | (with_reducible first | refine pv_seq fun K hK => ?_ | refine pv_reg ?_ | refine pv_drawT (id := 5) qE9_7_5 (by kernel_rfl) ?_) | ((with_reducible first | refine hK _ _ ?_ | (clear hK; refine hK _ _ ?_) | (clear hK; clear hK; refine hK _ _ ?_)); clear hK; try clear K) | simp -implicitDefEqProofs only [true_and, true_and, go_sem, seval] | with_reducible intro b | (with_reducible refine And.intro ?_ ?_; · first | assumption | omega | (unfold R64; omega)) | refine call_is (by exact p_known3) ?_ | (refine ExtC_is ?_; simp -implicitDefEqProofs only [true_and, true_and, go_sem, seval]; refine ext_is (by exact p_known3) ?_) | (refine PFC.coe ?_; simp -implicitDefEqProofs only [true_and, true_and, go_sem, seval]; refine call_is (by exact p_known3) ?_))
  refine p_Of (fun b0 => ?_)
  repeat (first | (with_reducible first | refine pv_seq fun K hK => ?_ | refine pv_reg ?_ | refine pv_drawT (id := 5) qE9_7_5 (by kernel_rfl) ?_) | ((with_reducible first | refine hK _ _ ?_ | (clear hK; refine hK _ _ ?_) | (clear hK; clear hK; refine hK _ _ ?_)); clear hK; try clear K) | simp -implicitDefEqProofs only [true_and, true_and, go_sem, seval] | with_reducible intro b | (with_reducible refine And.intro ?_ ?_; · first | assumption | omega | (unfold R64; omega)))
  refine p_smallD (i := 0) (by simp -implicitDefEqProofs only [updS, upS, if_true]; rfl) hb (by omega) (fun x sx bx => ?_)
  repeat (first | (with_reducible first | refine pv_seq fun K hK => ?_ | refine pv_reg ?_ | refine pv_drawT (id := 5) qE9_7_5 (by kernel_rfl) ?_) | ((with_reducible first | refine hK _ _ ?_ | (clear hK; refine hK _ _ ?_) | (clear hK; clear hK; refine hK _ _ ?_)); clear hK; try clear K) | simp -implicitDefEqProofs only [true_and, true_and, go_sem, seval] | with_reducible intro b | (with_reducible refine And.intro ?_ ?_; · first | assumption | omega | (unfold R64; omega)))
  refine p_smallD (i := 1) (by simp -implicitDefEqProofs only [updS, upS, if_true]; rfl) hb (by omega) (fun y sy by' => ?_)
  repeat (first | (with_reducible first | refine pv_seq fun K hK => ?_ | refine pv_reg ?_ | refine pv_drawT (id := 5) qE9_7_5 (by kernel_rfl) ?_) | ((with_reducible first | refine hK _ _ ?_ | (clear hK; refine hK _ _ ?_) | (clear hK; clear hK; refine hK _ _ ?_)); clear hK; try clear K) | simp -implicitDefEqProofs only [true_and, true_and, go_sem, seval] | with_reducible intro b | (with_reducible refine And.intro ?_ ?_; · first | assumption | omega | (unfold R64; omega)))
  refine p_dPrec (i := 2) (by simp -implicitDefEqProofs only [updS, upS, if_true]; rfl) hb (by omega) (fun p j3 p1 p2 l3 => ?_)
  have ox := sx.ok (by decide) (by decide); have oy := sy.ok (by decide) (by decide)
  repeat (first | (with_reducible first | refine pv_seq fun K hK => ?_ | refine pv_reg ?_ | refine pv_drawT (id := 5) qE9_7_5 (by kernel_rfl) ?_) | ((with_reducible first | refine hK _ _ ?_ | (clear hK; refine hK _ _ ?_) | (clear hK; clear hK; refine hK _ _ ?_)); clear hK; try clear K) | simp -implicitDefEqProofs only [true_and, true_and, go_sem, seval] | with_reducible intro b | (with_reducible refine And.intro ?_ ?_; · first | assumption | omega | (unfold R64; omega)))
  rename_i b6
  have J : ∀ (e : DEnv) (S : Store) (b9 : Nat) (d : Dyadic), OkD d → e 1 = bl up → e 6 = .ptr (.l 6) b6 0 0 3 → e 7 = .ptr (.l 7) b 0 0 3 → e 8 = i64 p → e 9 = .ptr (.l 9) b9 0 0 3 → e 10 = i64 (numR (d * x)).2 →
      S (.l 6) = some ⟨b6, 3, 0, [[bl (nuOf x).neg, i64 (nuOf x).exp, W64 (nuOf x).w]]⟩ → S (.l 7) = some ⟨b, 3, 0, [[bl (nuOf y).neg, i64 (nuOf y).exp, W64 (nuOf y).w]]⟩ →
      S (.l 9) = some ⟨b9, 3, 0, [[bl (numR (d * x)).1.neg, i64 (numR (d * x)).1.exp, W64 (numR (d * x)).1.w]]⟩ → K e S := by
    intro e S b9 d od g1 g6 g7 g8 g9 g10 s6 s7 s9
    refine hK _ _ ?_
    clear hK
    refine pv_seq fun K hK => ?_
    have J2 : ∀ (e : DEnv) (S : Store) (u v : Dyadic), OkD u → OkD v → Pb 6 u → Pb 6 v → u ≤ v → e 1 = bl up → e 6 = .ptr (.l 6) b6 0 0 3 → e 7 = .ptr (.l 7) b 0 0 3 → e 8 = i64 p → e 9 = .ptr (.l 9) b9 0 0 3 → e 10 = i64 (numR (d * x)).2 →
        S (.l 6) = some ⟨b6, 3, 0, [[bl (nuOf u).neg, i64 (nuOf u).exp, W64 (nuOf u).w]]⟩ → S (.l 7) = some ⟨b, 3, 0, [[bl (nuOf v).neg, i64 (nuOf v).exp, W64 (nuOf v).w]]⟩ →
        S (.l 9) = some ⟨b9, 3, 0, [[bl (numR (d * x)).1.neg, i64 (numR (d * x)).1.exp, W64 (numR (d * x)).1.w]]⟩ → K e S := by
      intro e S u v ou ov pu pv huv g1 g6 g7 g8 g9 g10 s6 s7 s9
      refine hK _ _ ?_
      clear hK
      have ru : rd p up u = u := rd_fix (Nat.lt_of_lt_of_le pu (Nat.pow_le_pow_right (by decide) (by omega)))
      have rv' : rd p up v = v := rd_fix (Nat.lt_of_lt_of_le pv (Nat.pow_le_pow_right (by decide) (by omega)))
      have q1 := p_FitD (p := p) (up := up) ou p1 p2; rw [ru, numR_ok ou] at q1
      have q2 := p_FitD (p := p) (up := up) ov p1 p2; rw [rv', numR_ok ov] at q2
      have q3 := p_nCmpD ou ov
      have k3 := cmpD_le huv
      have q4 := p_nSameD (b := u) ou; rw [decide_eq_true rfl] at q4
      have q5 := p_nSameD (b := v) ov; rw [decide_eq_true rfl] at q5
      generalize cmpD u v = c2 at *
      generalize nuOf u = U at *
      generalize nuOf v = V at *
      obtain ⟨t3, e3, w3⟩ := U
      obtain ⟨t4, e4, w4⟩ := V
      simp only at s6 s7
      repeat (first | (with_reducible first | refine pv_seq fun K hK => ?_ | refine pv_reg ?_ | refine pv_drawT (id := 5) qE9_7_5 (by kernel_rfl) ?_) | ((with_reducible first | refine hK _ _ ?_ | (clear hK; refine hK _ _ ?_) | (clear hK; clear hK; refine hK _ _ ?_)); clear hK; try clear K) | simp -implicitDefEqProofs only [g1, g6, g7, g8, g9, g10, s6, s7, s9, k3, true_and, go_sem, seval] | with_reducible intro b | (with_reducible refine And.intro ?_ ?_; · first | assumption | omega | (unfold R64; omega)) | refine call_is (by first | exact q1 | exact q2) ?_ | (refine ExtC_is ?_; simp -implicitDefEqProofs only [g1, g6, g7, g8, g9, g10, s6, s7, s9, k3, true_and, go_sem, seval]; refine ext_is (by first | exact q1 | exact q2) ?_) | (refine PFC.coe ?_; simp -implicitDefEqProofs only [g1, g6, g7, g8, g9, g10, s6, s7, s9, k3, true_and, go_sem, seval]; refine call_is (by first | exact q1 | exact q2) ?_))
      rename_i K1 hK1
      have J3 : ∀ (e : DEnv) (S : Store), e 1 = bl up → e 8 = i64 p → e 9 = .ptr (.l 9) b9 0 0 3 → e 10 = i64 (numR (d * x)).2 →
          S (.l 9) = some ⟨b9, 3, 0, [[bl (numR (d * x)).1.neg, i64 (numR (d * x)).1.exp, W64 (numR (d * x)).1.w]]⟩ → K1 e S := by
        clear g1 g6 g7 g8 g9 g10 s6 s7 s9 q1 q2 q3 q4 q5
        intro e S g1 g8 g9 g10 s9
        refine hK1 _ _ ?_
        clear hK hK1
        by_cases oz : OkD (d * x)
        · rw [numR_ok oz] at g10 s9
          have q6 := p_FitD (p := p) (up := up) oz p1 p2
          by_cases oc : OkD (rd p up (d * x))
          · rw [numR_ok oc] at q6
            have rc : rd p (!up) (rd p up (d * x)) = rd p up (d * x) := rd_fix (rd_pb (by omega))
            have q7 := p_FitD (p := p) (up := !up) oc p1 p2; rw [rc, numR_ok oc] at q7
            have q8 := p_nSameD (b := rd p up (d * x)) oc; rw [decide_eq_true rfl] at q8
            have q9 := p_nCmpD oc oz
            have k9 : up = true → (0 ≤ cmpD (rd p up (d * x)) (d * x)) = True := fun h => by rw [h]; exact cmpD_nn (le_up _ _)
            have k10 : up = false → (cmpD (rd p up (d * x)) (d * x) ≤ 0) = True := fun h => by rw [h]; exact cmpD_le0 (dn_le _ _)
            generalize cmpD (rd p up (d * x)) (d * x) = c1 at *
            generalize nuOf (rd p up (d * x)) = C at *
            generalize nuOf (d * x) = Z at *
            obtain ⟨t1, e1, w1⟩ := C
            obtain ⟨t2, e2, w2⟩ := Z
            simp only at s9
            cases up
            · have k := k10 rfl
              repeat (first | (with_reducible first | refine pv_seq fun K hK => ?_ | refine pv_reg ?_ | refine pv_drawT (id := 5) qE9_7_5 (by kernel_rfl) ?_) | ((with_reducible first | refine hK _ _ ?_ | (clear hK; refine hK _ _ ?_) | (clear hK; clear hK; refine hK _ _ ?_)); clear hK; try clear K) | simp -implicitDefEqProofs only [g1, g8, g9, g10, s9, k, true_and, go_sem, seval] | with_reducible intro b | (with_reducible refine And.intro ?_ ?_; · first | assumption | omega | (unfold R64; omega)) | refine call_is (by first | exact q6 | exact q7 | exact q8 | exact q9) ?_ | (refine ExtC_is ?_; simp -implicitDefEqProofs only [g1, g8, g9, g10, s9, k, true_and, go_sem, seval]; refine ext_is (by first | exact q6 | exact q7 | exact q8 | exact q9) ?_) | (refine PFC.coe ?_; simp -implicitDefEqProofs only [g1, g8, g9, g10, s9, k, true_and, go_sem, seval]; refine call_is (by first | exact q6 | exact q7 | exact q8 | exact q9) ?_))
            · have k := k9 rfl
              repeat (first | (with_reducible first | refine pv_seq fun K hK => ?_ | refine pv_reg ?_ | refine pv_drawT (id := 5) qE9_7_5 (by kernel_rfl) ?_) | ((with_reducible first | refine hK _ _ ?_ | (clear hK; refine hK _ _ ?_) | (clear hK; clear hK; refine hK _ _ ?_)); clear hK; try clear K) | simp -implicitDefEqProofs only [g1, g8, g9, g10, s9, k, true_and, go_sem, seval] | with_reducible intro b | (with_reducible refine And.intro ?_ ?_; · first | assumption | omega | (unfold R64; omega)) | refine call_is (by first | exact q6 | exact q7 | exact q8 | exact q9) ?_ | (refine ExtC_is ?_; simp -implicitDefEqProofs only [g1, g8, g9, g10, s9, k, true_and, go_sem, seval]; refine ext_is (by first | exact q6 | exact q7 | exact q8 | exact q9) ?_) | (refine PFC.coe ?_; simp -implicitDefEqProofs only [g1, g8, g9, g10, s9, k, true_and, go_sem, seval]; refine call_is (by first | exact q6 | exact q7 | exact q8 | exact q9) ?_))
          · rw [numR_over oc] at q6
            generalize nuOf (d * x) = Z at *
            obtain ⟨t2, e2, w2⟩ := Z
            simp only at s9
            repeat (first | (with_reducible first | refine pv_seq fun K hK => ?_ | refine pv_reg ?_ | refine pv_drawT (id := 5) qE9_7_5 (by kernel_rfl) ?_) | ((with_reducible first | refine hK _ _ ?_ | (clear hK; refine hK _ _ ?_) | (clear hK; clear hK; refine hK _ _ ?_)); clear hK; try clear K) | simp -implicitDefEqProofs only [g1, g8, g9, g10, s9, true_and, go_sem, seval] | with_reducible intro b | (with_reducible refine And.intro ?_ ?_; · first | assumption | omega | (unfold R64; omega)) | refine call_is (by exact q6) ?_ | (refine ExtC_is ?_; simp -implicitDefEqProofs only [g1, g8, g9, g10, s9, true_and, go_sem, seval]; refine ext_is (by exact q6) ?_) | (refine PFC.coe ?_; simp -implicitDefEqProofs only [g1, g8, g9, g10, s9, true_and, go_sem, seval]; refine call_is (by exact q6) ?_))
        · rw [numR_over oz] at g10 s9
          repeat (first | (with_reducible first | refine pv_seq fun K hK => ?_ | refine pv_reg ?_ | refine pv_drawT (id := 5) qE9_7_5 (by kernel_rfl) ?_) | ((with_reducible first | refine hK _ _ ?_ | (clear hK; refine hK _ _ ?_) | (clear hK; clear hK; refine hK _ _ ?_)); clear hK; try clear K) | simp -implicitDefEqProofs only [g1, g8, g9, g10, s9, true_and, go_sem, seval] | with_reducible intro b | (with_reducible refine And.intro ?_ ?_; · first | assumption | omega | (unfold R64; omega)))
      clear hK1
      repeat (first | (with_reducible first | refine pv_seq fun K hK => ?_ | refine pv_reg ?_ | refine pv_drawT (id := 5) qE9_7_5 (by kernel_rfl) ?_) | ((with_reducible first | refine hK _ _ ?_ | (clear hK; refine hK _ _ ?_) | (clear hK; clear hK; refine hK _ _ ?_)); clear hK; try clear K) | simp -implicitDefEqProofs only [g1, g6, g7, g8, g9, g10, s6, s7, s9, k3, true_and, go_sem, seval] | with_reducible intro b | (with_reducible refine And.intro ?_ ?_; · first | assumption | omega | (unfold R64; omega)) | refine call_is (by first | exact q3 | exact q4 | exact q5) ?_ | (refine ExtC_is ?_; simp -implicitDefEqProofs only [g1, g6, g7, g8, g9, g10, s6, s7, s9, k3, true_and, go_sem, seval]; refine ext_is (by first | exact q3 | exact q4 | exact q5) ?_) | (refine PFC.coe ?_; simp -implicitDefEqProofs only [g1, g6, g7, g8, g9, g10, s6, s7, s9, k3, true_and, go_sem, seval]; refine call_is (by first | exact q3 | exact q4 | exact q5) ?_))
      exact J3 _ _ (by simp -implicitDefEqProofs only [g1, g6, g7, g8, g9, g10, s6, s7, s9, k3, true_and, go_sem, seval]) (by simp -implicitDefEqProofs only [g1, g6, g7, g8, g9, g10, s6, s7, s9, k3, true_and, go_sem, seval]) (by simp -implicitDefEqProofs only [g1, g6, g7, g8, g9, g10, s6, s7, s9, k3, true_and, go_sem, seval]) (by simp -implicitDefEqProofs only [g1, g6, g7, g8, g9, g10, s6, s7, s9, k3, true_and, go_sem, seval]) (by simp -implicitDefEqProofs only [g1, g6, g7, g8, g9, g10, s6, s7, s9, k3, true_and, go_sem, seval])
    clear hK
    have q0 := p_nCmpD ox oy
    by_cases h : y < x
    · have k1 : (0 < cmpD x y) = True := eq_true (cmpD_gt0.2 h)
      repeat (first | (with_reducible first | refine pv_seq fun K hK => ?_ | refine pv_reg ?_ | refine pv_drawT (id := 5) qE9_7_5 (by kernel_rfl) ?_) | ((with_reducible first | refine hK _ _ ?_ | (clear hK; refine hK _ _ ?_) | (clear hK; clear hK; refine hK _ _ ?_)); clear hK; try clear K) | simp -implicitDefEqProofs only [g1, g6, g7, g8, g9, g10, s6, s7, s9, k1, true_and, go_sem, seval] | with_reducible intro b | (with_reducible refine And.intro ?_ ?_; · first | assumption | omega | (unfold R64; omega)) | refine call_is (by exact q0) ?_ | (refine ExtC_is ?_; simp -implicitDefEqProofs only [g1, g6, g7, g8, g9, g10, s6, s7, s9, k1, true_and, go_sem, seval]; refine ext_is (by exact q0) ?_) | (refine PFC.coe ?_; simp -implicitDefEqProofs only [g1, g6, g7, g8, g9, g10, s6, s7, s9, k1, true_and, go_sem, seval]; refine call_is (by exact q0) ?_))
      exact J2 _ _ y x oy ox by' bx (by grind) (by simp -implicitDefEqProofs only [g1, g6, g7, g8, g9, g10, s6, s7, s9, k1, true_and, go_sem, seval]) (by simp -implicitDefEqProofs only [g1, g6, g7, g8, g9, g10, s6, s7, s9, k1, true_and, go_sem, seval]) (by simp -implicitDefEqProofs only [g1, g6, g7, g8, g9, g10, s6, s7, s9, k1, true_and, go_sem, seval]) (by simp -implicitDefEqProofs only [g1, g6, g7, g8, g9, g10, s6, s7, s9, k1, true_and, go_sem, seval]) (by simp -implicitDefEqProofs only [g1, g6, g7, g8, g9, g10, s6, s7, s9, k1, true_and, go_sem, seval]) (by simp -implicitDefEqProofs only [g1, g6, g7, g8, g9, g10, s6, s7, s9, k1, true_and, go_sem, seval]) (by simp -implicitDefEqProofs only [g1, g6, g7, g8, g9, g10, s6, s7, s9, k1, true_and, go_sem, seval]) (by simp -implicitDefEqProofs only [g1, g6, g7, g8, g9, g10, s6, s7, s9, k1, true_and, go_sem, seval]) (by simp -implicitDefEqProofs only [g1, g6, g7, g8, g9, g10, s6, s7, s9, k1, true_and, go_sem, seval])
    · have k1 : (0 < cmpD x y) = False := cmpD_le (by grind)
      repeat (first | (with_reducible first | refine pv_seq fun K hK => ?_ | refine pv_reg ?_ | refine pv_drawT (id := 5) qE9_7_5 (by kernel_rfl) ?_) | ((with_reducible first | refine hK _ _ ?_ | (clear hK; refine hK _ _ ?_) | (clear hK; clear hK; refine hK _ _ ?_)); clear hK; try clear K) | simp -implicitDefEqProofs only [g1, g6, g7, g8, g9, g10, s6, s7, s9, k1, true_and, go_sem, seval] | with_reducible intro b | (with_reducible refine And.intro ?_ ?_; · first | assumption | omega | (unfold R64; omega)) | refine call_is (by exact q0) ?_ | (refine ExtC_is ?_; simp -implicitDefEqProofs only [g1, g6, g7, g8, g9, g10, s6, s7, s9, k1, true_and, go_sem, seval]; refine ext_is (by exact q0) ?_) | (refine PFC.coe ?_; simp -implicitDefEqProofs only [g1, g6, g7, g8, g9, g10, s6, s7, s9, k1, true_and, go_sem, seval]; refine call_is (by exact q0) ?_))
      exact J2 _ _ x y ox oy bx by' (by grind) (by simp -implicitDefEqProofs only [g1, g6, g7, g8, g9, g10, s6, s7, s9, k1, true_and, go_sem, seval]) (by simp -implicitDefEqProofs only [g1, g6, g7, g8, g9, g10, s6, s7, s9, k1, true_and, go_sem, seval]) (by simp -implicitDefEqProofs only [g1, g6, g7, g8, g9, g10, s6, s7, s9, k1, true_and, go_sem, seval]) (by simp -implicitDefEqProofs only [g1, g6, g7, g8, g9, g10, s6, s7, s9, k1, true_and, go_sem, seval]) (by simp -implicitDefEqProofs only [g1, g6, g7, g8, g9, g10, s6, s7, s9, k1, true_and, go_sem, seval]) (by simp -implicitDefEqProofs only [g1, g6, g7, g8, g9, g10, s6, s7, s9, k1, true_and, go_sem, seval]) (by simp -implicitDefEqProofs only [g1, g6, g7, g8, g9, g10, s6, s7, s9, k1, true_and, go_sem, seval]) (by simp -implicitDefEqProofs only [g1, g6, g7, g8, g9, g10, s6, s7, s9, k1, true_and, go_sem, seval]) (by simp -implicitDefEqProofs only [g1, g6, g7, g8, g9, g10, s6, s7, s9, k1, true_and, go_sem, seval])
  clear hK
  have qd : ∀ (S : Store) (Q : D → Store → Prop) , S (.r 0 0) = some ⟨b0, 2, 0, [[W64 w, i64 j3]]⟩ → (∀ (d : Dyadic) (j : Nat), OkD d → Q (NU (nuOf d)) (updS S (.r 0 0) (some ⟨b0, 2, 0, [[W64 w, i64 (j : Int)]]⟩))) → PFC Tryd.prog 16 [.ptr (.r 0 0) b0 0 0 2] S Q := fun S Q hS hQ =>
    p_dnum hS hb (by omega) (fun d j o _ => hQ d j o)
  have qm : ∀ (d : Dyadic) (S : Store) (Q : D → Store → Prop), OkD d → Q (NE (numR (d * x))) S → PFC Tryd.prog 22 [NU (nuOf d), NU (nuOf x)] S Q := fun d S Q od hq => call_is (p_nMulD od ox) hq
  repeat' (first | (with_reducible refine And.intro ?_ ?_) | (refine qd _ _ (by simp -implicitDefEqProofs only [updS, upS, if_true]; rfl) (fun d j od => ?_)) | (refine qm _ _ _ (by assumption) ?_) | (simp -implicitDefEqProofs only [true_and, true_and, go_sem, seval]) | (with_reducible intro b))
  all_goals exact J _ _ _ _ (by assumption) (by simp -implicitDefEqProofs only [true_and, true_and, go_sem, seval]) (by simp -implicitDefEqProofs only [true_and, true_and, go_sem, seval]) (by simp -implicitDefEqProofs only [true_and, true_and, go_sem, seval]) (by simp -implicitDefEqProofs only [true_and, true_and, go_sem, seval]) (by first | rfl | (simp -implicitDefEqProofs only [true_and, true_and, go_sem, seval] <;> rfl)) (by first | rfl | (simp -implicitDefEqProofs only [true_and, true_and, go_sem, seval] <;> rfl)) (by simp -implicitDefEqProofs only [true_and, true_and, go_sem, seval]) (by simp -implicitDefEqProofs only [true_and, true_and, go_sem, seval]) (by first | rfl | (simp -implicitDefEqProofs only [true_and, true_and, go_sem, seval] <;> rfl))
end Go.V

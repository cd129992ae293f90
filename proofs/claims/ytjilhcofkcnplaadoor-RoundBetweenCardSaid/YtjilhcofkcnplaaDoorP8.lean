/- The statements RoundBetween, RoundDivides, RoundRises of layer 3. -/
import Derived.Test.YtjilhcofkcnplaaDoorPW
set_option linter.unusedSimpArgs false
set_option linter.unusedVariables false
set_option maxRecDepth 100000
namespace Go.V
open Go Go.RowKit Go.Proofs

theorem bitsD {p : Nat} {a : Dyadic} (ha : OkD a) : PC Tryd.prog 24 [W64 (nuOf a).w] fun d => d = i64 (bitLen (fN a) : Nat) := by
  have h := p_Bits (xs := (nuOf a).w) (ha.sz).b (by have := (ha.sz).len; omega)
  rw [nuOf_f] at h ⊢
  simp only at h ⊢
  rw [show N64 (digs 18446744073709551616 (fN a)) = fN a from N64_D64 _] at h
  exact h
theorem p_nSignD {a : Dyadic} (ha : OkD a) : PC Tryd.prog 20 [NU (nuOf a)] fun d => d = i64 (sgnD a) := by
  have := p_nSign (ha.sz).wl (by decide)
  rw [show rv (nuOf a) = a by unfold rv; rw [rightB_nuOf, decide_eq_true ha, if_pos rfl, val_nuOf]] at this
  exact this
theorem cmpD_ge {a b : Dyadic} (h : b ≤ a) : (cmpD a b < 0) = False := by
  apply eq_false
  unfold cmpD
  by_cases h1 : a < b
  · grind
  · rw [if_neg h1]; split <;> decide

theorem sgn_mul_le {y x a : Dyadic} (h : 0 < y → a ≤ x) (h2 : y < 0 → x ≤ a) : (sgnD y * cmpD a x ≤ 0) = True := by
  apply eq_true
  unfold sgnD
  by_cases h1 : y < 0
  · rw [if_pos h1]
    have := cmpD_ge (h2 h1)
    have h3 := cmpD_range a x
    simp only [eq_iff_iff, iff_false] at this
    omega
  · rw [if_neg h1]
    by_cases h4 : 0 < y
    · rw [if_pos h4]
      have := cmpD_le (h h4)
      simp only [eq_iff_iff, iff_false] at this
      omega
    · rw [if_neg h4]; omega
theorem sgn_mul_ge {y x a : Dyadic} (h : 0 < y → x ≤ a) (h2 : y < 0 → a ≤ x) : (0 ≤ sgnD y * cmpD a x) = True := by
  apply eq_true
  unfold sgnD
  by_cases h1 : y < 0
  · rw [if_pos h1]
    have := cmpD_le (h2 h1)
    simp only [eq_iff_iff, iff_false] at this
    omega
  · rw [if_neg h1]
    by_cases h4 : 0 < y
    · rw [if_pos h4]
      have := cmpD_ge (h h4)
      simp only [eq_iff_iff, iff_false] at this
      omega
    · rw [if_neg h4]; omega
theorem dv_neg {p : Nat} {x y : Dyadic} (hp : 1 ≤ p) (hy : y < 0) : x ≤ rd p false (quo p x y) * y ∧ rd p true (quo p x y) * y ≤ x := by
  have hy0 : y ≠ 0 := by grind
  have e : quo p x y = - quo p x (-y) := by
    have := quo_negr (p := p) (a := x) (b := -y) (by grind)
    rw [show - -y = y by grind] at this; exact this
  have h1 := quo_dn (p := p) (a := x) (b := -y) hp (by grind)
  have h2 := quo_up (p := p) (a := x) (b := -y) hp (by grind)
  rw [e, rd_neg, rd_neg]
  simp only [Bool.not_false, Bool.not_true]
  constructor <;> grind
set_option maxHeartbeats 2000000 in
theorem p_RoundDivides {w : List Nat} (hb : B64 w) : PC Tryd.prog 6 [W64 w] fun d => d = bl true := by
  refine PC.body (args := [W64 w]) (rs := [.tmp 2]) mixed Tryd.func6 rfl (by kernel_rfl) (by kernel_rfl) (Nat.le_of_ble_eq_true rfl) rfl ?_
  repeat (first | (with_reducible first | refine pv_seq fun K hK => ?_ | refine pv_reg ?_) | ((with_reducible first | refine hK _ _ ?_ | (clear hK; refine hK _ _ ?_) | (clear hK; clear hK; refine hK _ _ ?_)); clear hK; try clear K) | simp -implicitDefEqProofs only [true_and, true_and, go_sem, seval] | with_reducible intro b | (with_reducible refine And.intro ?_ ?_; · first | assumption | omega | (unfold R64; omega)) | refine call_is (by exact p_known3) ?_ | (refine ExtC_is ?_; simp -implicitDefEqProofs only [true_and, true_and, go_sem, seval]; refine ext_is (by exact p_known3) ?_) | (refine PFC.coe ?_; simp -implicitDefEqProofs only [true_and, true_and, go_sem, seval]; refine call_is (by exact p_known3) ?_))
  refine p_Of (fun b0 => ?_)
  repeat (first | (with_reducible first | refine pv_seq fun K hK => ?_ | refine pv_reg ?_) | ((with_reducible first | refine hK _ _ ?_ | (clear hK; refine hK _ _ ?_) | (clear hK; clear hK; refine hK _ _ ?_)); clear hK; try clear K) | simp -implicitDefEqProofs only [true_and, true_and, go_sem, seval] | with_reducible intro b | (with_reducible refine And.intro ?_ ?_; · first | assumption | omega | (unfold R64; omega)))
  refine p_smallD (i := 0) (by simp -implicitDefEqProofs only [updS, upS, if_true]; rfl) hb (by omega) (fun x sx _ => ?_)
  repeat (first | (with_reducible first | refine pv_seq fun K hK => ?_ | refine pv_reg ?_) | ((with_reducible first | refine hK _ _ ?_ | (clear hK; refine hK _ _ ?_) | (clear hK; clear hK; refine hK _ _ ?_)); clear hK; try clear K) | simp -implicitDefEqProofs only [true_and, true_and, go_sem, seval] | with_reducible intro b | (with_reducible refine And.intro ?_ ?_; · first | assumption | omega | (unfold R64; omega)))
  refine p_smallD (i := 1) (by simp -implicitDefEqProofs only [updS, upS, if_true]; rfl) hb (by omega) (fun y sy _ => ?_)
  repeat (first | (with_reducible first | refine pv_seq fun K hK => ?_ | refine pv_reg ?_) | ((with_reducible first | refine hK _ _ ?_ | (clear hK; refine hK _ _ ?_) | (clear hK; clear hK; refine hK _ _ ?_)); clear hK; try clear K) | simp -implicitDefEqProofs only [true_and, true_and, go_sem, seval] | with_reducible intro b | (with_reducible refine And.intro ?_ ?_; · first | assumption | omega | (unfold R64; omega)))
  refine p_dPrec (i := 2) (by simp -implicitDefEqProofs only [updS, upS, if_true]; rfl) hb (by omega) (fun p j3 p1 p2 l3 => ?_)
  have ox := sx.ok (by decide) (by decide); have oy := sy.ok (by decide) (by decide)
  have qL := p_rdDiv (p := p) (up := false) (ox.sz).wl (oy.sz).wl; rw [dvR_D ox oy p1 p2] at qL
  have qH := p_rdDiv (p := p) (up := true) (ox.sz).wl (oy.sz).wl; rw [dvR_D ox oy p1 p2] at qH
  have qS := p_nSignD oy
  by_cases h0 : y = 0
  · rw [if_pos h0] at qL qH
    have k0 : (sgnD y = 0) = True := eq_true (sgnD_zero.2 h0)
    have qZ := p_hZero (x := nu0) (by decide)
    rw [show decide (nu0 = nu0) = true by decide] at qZ
    generalize sgnD y = sg at *
    generalize nuOf x = X at *
    generalize nuOf y = Y at *
    obtain ⟨s1, e1, w1⟩ := X
    obtain ⟨s2, e2, w2⟩ := Y
    repeat (first | (with_reducible first | refine pv_seq fun K hK => ?_ | refine pv_reg ?_) | ((with_reducible first | refine hK _ _ ?_ | (clear hK; refine hK _ _ ?_) | (clear hK; clear hK; refine hK _ _ ?_)); clear hK; try clear K) | simp -implicitDefEqProofs only [k0, true_and, go_sem, seval] | with_reducible intro b | (with_reducible refine And.intro ?_ ?_; · first | assumption | omega | (unfold R64; omega)) | refine call_is (by first | exact qL | exact qH | exact qS | exact qZ) ?_ | (refine ExtC_is ?_; simp -implicitDefEqProofs only [k0, true_and, go_sem, seval]; refine ext_is (by first | exact qL | exact qH | exact qS | exact qZ) ?_) | (refine PFC.coe ?_; simp -implicitDefEqProofs only [k0, true_and, go_sem, seval]; refine call_is (by first | exact qL | exact qH | exact qS | exact qZ) ?_))
  · rw [if_neg h0] at qL qH
    have k0 : (sgnD y = 0) = False := eq_false (fun h => h0 (sgnD_zero.1 h))
    have bq := Bx.quo (p := p) sx.bx sy.bx
    have bl1 := bq.rd (up := false) (p := p) (by omega)
    have bh1 := bq.rd (up := true) (p := p) (by omega)
    have ol := bl1.ok (by omega) (by omega)
    have oh := bh1.ok (by omega) (by omega)
    have oa := (bl1.mul sy.bx).ok (by omega) (by omega)
    have ob := (bh1.mul sy.bx).ok (by omega) (by omega)
    rw [numR_ok ol] at qL
    rw [numR_ok oh] at qH
    have qA := p_nMulD ol oy; rw [numR_ok oa] at qA
    have qB := p_nMulD oh oy; rw [numR_ok ob] at qB
    have qC := p_nCmpD oa ox
    have qD := p_nCmpD ob ox
    have qE := bitsD (p := p) ol
    have qF := bitsD (p := p) oh
    have h1 : y < 0 → _ := fun h => dv_neg (p := p) (x := x) (by omega) h
    have k1 := sgn_mul_le (y := y) (x := x) (a := rd p false (quo p x y) * y) (fun h => quo_dn (by omega) h) (fun h => (h1 h).1)
    have k2 := sgn_mul_ge (y := y) (x := x) (a := rd p true (quo p x y) * y) (fun h => quo_up (by omega) h) (fun h => (h1 h).2)
    have k3 : (((bitLen (fN (rd p false (quo p x y))) : Nat) : Int) ≤ (p : Int)) = True := eq_true (by have := Pb.bits (rd_pb (p := p) (up := false) (d := quo p x y) (by omega)); omega)
    have k4 : (((bitLen (fN (rd p true (quo p x y))) : Nat) : Int) ≤ (p : Int)) = True := eq_true (by have := Pb.bits (rd_pb (p := p) (up := true) (d := quo p x y) (by omega)); omega)
    have r1 := sgnD_range y
    have r2 := cmpD_range (rd p false (quo p x y) * y) x
    have r3 := cmpD_range (rd p true (quo p x y) * y) x
    generalize sgnD y = sg at *
    generalize cmpD (rd p false (quo p x y) * y) x = c1 at *
    generalize cmpD (rd p true (quo p x y) * y) x = c2 at *
    generalize nuOf (rd p false (quo p x y) * y) = A at *
    generalize nuOf (rd p true (quo p x y) * y) = B at *
    generalize nuOf (rd p false (quo p x y)) = L at *
    generalize nuOf (rd p true (quo p x y)) = H at *
    generalize nuOf x = X at *
    generalize nuOf y = Y at *
    obtain ⟨s1, e1, w1⟩ := X
    obtain ⟨s2, e2, w2⟩ := Y
    obtain ⟨s3, e3, w3⟩ := A
    obtain ⟨s4, e4, w4⟩ := B
    obtain ⟨s5, e5, w5⟩ := L
    obtain ⟨s6, e6, w6⟩ := H
    have m1 : R64 (sg * c1) := by
      unfold R64
      rcases (show sg = -1 ∨ sg = 0 ∨ sg = 1 by omega) with rfl | rfl | rfl <;> omega
    have m2 : R64 (sg * c2) := by
      unfold R64
      rcases (show sg = -1 ∨ sg = 0 ∨ sg = 1 by omega) with rfl | rfl | rfl <;> omega
    repeat (first | (with_reducible first | refine pv_seq fun K hK => ?_ | refine pv_reg ?_) | ((with_reducible first | refine hK _ _ ?_ | (clear hK; refine hK _ _ ?_) | (clear hK; clear hK; refine hK _ _ ?_)); clear hK; try clear K) | simp -implicitDefEqProofs only [k0, k1, k2, k3, k4, true_and, go_sem, seval] | with_reducible intro b | (with_reducible refine And.intro ?_ ?_; · first | assumption | omega | (unfold R64; omega)) | refine call_is (by first | exact qL | exact qH | exact qS | exact qA | exact qB | exact qC | exact qD | exact qE | exact qF) ?_ | (refine ExtC_is ?_; simp -implicitDefEqProofs only [k0, k1, k2, k3, k4, true_and, go_sem, seval]; refine ext_is (by first | exact qL | exact qH | exact qS | exact qA | exact qB | exact qC | exact qD | exact qE | exact qF) ?_) | (refine PFC.coe ?_; simp -implicitDefEqProofs only [k0, k1, k2, k3, k4, true_and, go_sem, seval]; refine call_is (by first | exact qL | exact qH | exact qS | exact qA | exact qB | exact qC | exact qD | exact qE | exact qF) ?_))

theorem rd_mid {p : Nat} {v m : Dyadic} (hp : 1 ≤ p) (h : m + m = rd p false v + rd p true v) : rd p false m = rd p false v := by
  have l1 := dn_le p v
  have l2 := le_up p v
  have h1 : rd p false v ≤ rd p false m := dn_max hp (rd_pb hp) (by grind)
  have h2 := dn_le p m
  have hc : Pb p (rd p false m) := rd_pb hp
  by_cases h3 : rd p false m ≤ v
  · have := dn_max hp hc h3; grind
  · have := up_min (d := v) hp hc (by grind); grind
set_option maxHeartbeats 2000000 in
theorem p_RoundBetween {w : List Nat} {kind : Int} (hb : B64 w) (hk : (Lit.int .u8 kind).wf = true) : PC Tryd.prog 8 [W64 w, .g (.lit (.int .u8 kind))] fun d => d = bl true := by
  refine PC.body (args := [W64 w, .g (.lit (.int .u8 kind))]) (rs := [.tmp 4]) mixed Tryd.func8 rfl (by kernel_rfl) (by kernel_rfl) (Nat.le_of_ble_eq_true rfl) rfl ?_
  repeat (first | (with_reducible first | refine pv_seq fun K hK => ?_ | refine pv_reg ?_) | ((with_reducible first | refine hK _ _ ?_ | (clear hK; refine hK _ _ ?_) | (clear hK; clear hK; refine hK _ _ ?_)); clear hK; try clear K) | simp -implicitDefEqProofs only [true_and, true_and, go_sem, seval] | with_reducible intro b | (with_reducible refine And.intro ?_ ?_; · first | assumption | omega | (unfold R64; omega)) | refine call_is (by exact p_known3) ?_ | (refine ExtC_is ?_; simp -implicitDefEqProofs only [true_and, true_and, go_sem, seval]; refine ext_is (by exact p_known3) ?_) | (refine PFC.coe ?_; simp -implicitDefEqProofs only [true_and, true_and, go_sem, seval]; refine call_is (by exact p_known3) ?_))
  refine p_Of (fun b0 => ?_)
  repeat (first | (with_reducible first | refine pv_seq fun K hK => ?_ | refine pv_reg ?_) | ((with_reducible first | refine hK _ _ ?_ | (clear hK; refine hK _ _ ?_) | (clear hK; clear hK; refine hK _ _ ?_)); clear hK; try clear K) | simp -implicitDefEqProofs only [true_and, true_and, go_sem, seval] | with_reducible intro b | (with_reducible refine And.intro ?_ ?_; · first | assumption | omega | (unfold R64; omega)))
  refine p_smallD (i := 0) (by simp -implicitDefEqProofs only [updS, upS, if_true]; rfl) hb (by omega) (fun x sx _ => ?_)
  repeat (first | (with_reducible first | refine pv_seq fun K hK => ?_ | refine pv_reg ?_) | ((with_reducible first | refine hK _ _ ?_ | (clear hK; refine hK _ _ ?_) | (clear hK; clear hK; refine hK _ _ ?_)); clear hK; try clear K) | simp -implicitDefEqProofs only [true_and, true_and, go_sem, seval] | with_reducible intro b | (with_reducible refine And.intro ?_ ?_; · first | assumption | omega | (unfold R64; omega)))
  refine p_smallD (i := 1) (by simp -implicitDefEqProofs only [updS, upS, if_true]; rfl) hb (by omega) (fun y sy _ => ?_)
  repeat (first | (with_reducible first | refine pv_seq fun K hK => ?_ | refine pv_reg ?_) | ((with_reducible first | refine hK _ _ ?_ | (clear hK; refine hK _ _ ?_) | (clear hK; clear hK; refine hK _ _ ?_)); clear hK; try clear K) | simp -implicitDefEqProofs only [true_and, true_and, go_sem, seval] | with_reducible intro b | (with_reducible refine And.intro ?_ ?_; · first | assumption | omega | (unfold R64; omega)))
  refine p_dPrec (i := 2) (by simp -implicitDefEqProofs only [updS, upS, if_true]; rfl) hb (by omega) (fun p j3 p1 p2 l3 => ?_)
  have ox := sx.ok (by decide) (by decide); have oy := sy.ok (by decide) (by decide)
  repeat (first | (with_reducible first | refine pv_seq fun K hK => ?_ | refine pv_reg ?_) | ((with_reducible first | refine hK _ _ ?_ | (clear hK; refine hK _ _ ?_) | (clear hK; clear hK; refine hK _ _ ?_)); clear hK; try clear K) | simp -implicitDefEqProofs only [true_and, true_and, go_sem, seval] | with_reducible intro b | (with_reducible refine And.intro ?_ ?_; · first | assumption | omega | (unfold R64; omega)))
  rename_i b9 b10
  have J : ∀ (e : DEnv) (S : Store) (k q : Nat) (v : Dyadic), Sm k q v → k ≤ 28 → q ≤ 12 → e 8 = i64 p → e 9 = .ptr (.l 9) b9 0 0 3 → e 10 = .ptr (.l 10) b10 0 0 3 → e 11 = .ptr (.l 11) b 0 0 3 → e 12 = i64 0 → e 13 = i64 0 → e 14 = i64 0 →
      S (.l 9) = some ⟨b9, 3, 0, [[bl (nuOf v).neg, i64 (nuOf v).exp, W64 (nuOf v).w]]⟩ → S (.l 10) = some ⟨b10, 3, 0, [[bl (nuOf (rd p false v)).neg, i64 (nuOf (rd p false v)).exp, W64 (nuOf (rd p false v)).w]]⟩ →
      S (.l 11) = some ⟨b, 3, 0, [[bl (nuOf (rd p true v)).neg, i64 (nuOf (rd p true v)).exp, W64 (nuOf (rd p true v)).w]]⟩ → K e S := by
    intro e S k q v sv hk1 hq1 g8 g9 g10 g11 g12 g13 g14 s9 s10 s11
    refine hK _ _ ?_
    clear hK
    have ov := sv.ok (by omega) (by omega)
    have sl := sv.rd (p := p) (up := false); have ol := sl.ok (by omega) (by omega)
    have sh := sv.rd (p := p) (up := true); have oh := sh.ok (by omega) (by omega)
    have ss := sl.add sh; have os := ss.ok (by omega) (by omega)
    obtain ⟨m, sm, hm, qH⟩ := p_halfD ss (by omega) (by omega)
    have om := sm.ok (by omega) (by omega)
    have hmid := rd_mid (p := p) (by omega) hm
    have q1 := p_nCmpD ol ov
    have q2 := p_nCmpD ov oh
    have q3 := bitsD (p := p) ol
    have q4 := bitsD (p := p) oh
    have q5 := p_nAddD ol oh; rw [numR_ok os] at q5
    have q6 := p_FitD (p := p) (up := false) om p1 p2; rw [hmid, numR_ok ol] at q6
    have q7 := p_nSameD (b := rd p false v) ol; rw [decide_eq_true rfl] at q7
    have k1 := cmpD_le (dn_le p v)
    have k2 := cmpD_le (le_up p v)
    have k3 : ((p : Int) < ((bitLen (fN (rd p false v)) : Nat) : Int)) = False := eq_false (by have := Pb.bits (rd_pb (p := p) (up := false) (d := v) (by omega)); omega)
    have k4 : ((p : Int) < ((bitLen (fN (rd p true v)) : Nat) : Int)) = False := eq_false (by have := Pb.bits (rd_pb (p := p) (up := true) (d := v) (by omega)); omega)
    generalize cmpD (rd p false v) v = c1 at *
    generalize cmpD v (rd p true v) = c2 at *
    generalize nuOf (rd p false v + rd p true v) = A at *
    generalize nuOf (rd p false v) = L at *
    generalize nuOf (rd p true v) = H at *
    generalize nuOf m = M at *
    generalize nuOf v = V at *
    obtain ⟨t1, e1, w1⟩ := A
    obtain ⟨t2, e2, w2⟩ := L
    obtain ⟨t3, e3, w3⟩ := H
    obtain ⟨t4, e4, w4⟩ := M
    obtain ⟨t5, e5, w5⟩ := V
    simp only at s9 s10 s11 q3 q4
    repeat (first | (with_reducible first | refine pv_seq fun K hK => ?_ | refine pv_reg ?_) | ((with_reducible first | refine hK _ _ ?_ | (clear hK; refine hK _ _ ?_) | (clear hK; clear hK; refine hK _ _ ?_)); clear hK; try clear K) | simp -implicitDefEqProofs only [g8, g9, g10, g11, g12, g13, g14, s9, s10, s11, k1, k2, k3, k4, true_and, go_sem, seval] | with_reducible intro b | (with_reducible refine And.intro ?_ ?_; · first | assumption | omega | (unfold R64; omega)) | refine call_is (by first | exact q1 | exact q2 | exact q3 | exact q4 | exact q5 | exact qH | exact q6 | exact q7) ?_ | (refine ExtC_is ?_; simp -implicitDefEqProofs only [g8, g9, g10, g11, g12, g13, g14, s9, s10, s11, k1, k2, k3, k4, true_and, go_sem, seval]; refine ext_is (by first | exact q1 | exact q2 | exact q3 | exact q4 | exact q5 | exact qH | exact q6 | exact q7) ?_) | (refine PFC.coe ?_; simp -implicitDefEqProofs only [g8, g9, g10, g11, g12, g13, g14, s9, s10, s11, k1, k2, k3, k4, true_and, go_sem, seval]; refine call_is (by first | exact q1 | exact q2 | exact q3 | exact q4 | exact q5 | exact qH | exact q6 | exact q7) ?_))
  clear hK
  have a1 := sx.add sy; have a2 := a1.ok (by decide) (by decide)
  have m1 := sx.sub sy; have m2 := m1.ok (by decide) (by decide)
  have u1 := sx.mul sy; have u2 := u1.ok (by decide) (by decide)
  have go : ∀ (up : Bool) (k q : Nat) (v : Dyadic), Sm k q v → k ≤ 28 → q ≤ 12 → numR (rd p up v) = (nuOf (rd p up v), 0) := fun up k q v sv hk1 hq1 => numR_ok (sv.rd.ok (by omega) (by omega))
  have A0 := p_nAddD ox oy; rw [numR_ok a2] at A0
  have A1 := p_rdAdd (p := p) (up := false) (ox.sz).wl (oy.sz).wl; rw [opP_D ox oy p1 p2, val_nuOf, val_nuOf, go _ _ _ _ a1 (by decide) (by decide)] at A1
  have A2 := p_rdAdd (p := p) (up := true) (ox.sz).wl (oy.sz).wl; rw [opP_D ox oy p1 p2, val_nuOf, val_nuOf, go _ _ _ _ a1 (by decide) (by decide)] at A2
  have M0 := p_nSubD ox oy; rw [numR_ok m2] at M0
  have M1 := p_rdSub (p := p) (up := false) (ox.sz).wl (oy.sz).wl; rw [opP_D ox oy p1 p2, val_nuOf, val_nuOf, go _ _ _ _ m1 (by decide) (by decide)] at M1
  have M2 := p_rdSub (p := p) (up := true) (ox.sz).wl (oy.sz).wl; rw [opP_D ox oy p1 p2, val_nuOf, val_nuOf, go _ _ _ _ m1 (by decide) (by decide)] at M2
  have U0 := p_nMulD ox oy; rw [numR_ok u2] at U0
  have U1 := p_rdMul (p := p) (up := false) (ox.sz).wl (oy.sz).wl; rw [opP_D ox oy p1 p2, val_nuOf, val_nuOf, go _ _ _ _ u1 (by decide) (by decide)] at U1
  have U2 := p_rdMul (p := p) (up := true) (ox.sz).wl (oy.sz).wl; rw [opP_D ox oy p1 p2, val_nuOf, val_nuOf, go _ _ _ _ u1 (by decide) (by decide)] at U2
  have JA := fun e S => J e S _ _ _ a1 (by decide) (by decide)
  have JM := fun e S => J e S _ _ _ m1 (by decide) (by decide)
  have JU := fun e S => J e S _ _ _ u1 (by decide) (by decide)
  clear J
  by_cases h0 : kind.tmod 3 = 0
  · repeat (first | (with_reducible first | refine pv_seq fun K hK => ?_ | refine pv_reg ?_) | ((with_reducible first | refine hK _ _ ?_ | (clear hK; refine hK _ _ ?_) | (clear hK; clear hK; refine hK _ _ ?_)); clear hK; try clear K) | simp -implicitDefEqProofs only [eq_true h0, true_and, go_sem, seval] | with_reducible intro b | (with_reducible refine And.intro ?_ ?_; · first | assumption | omega | (unfold R64; omega)) | refine call_is (by first | exact A0 | exact A1 | exact A2) ?_ | (refine ExtC_is ?_; simp -implicitDefEqProofs only [eq_true h0, true_and, go_sem, seval]; refine ext_is (by first | exact A0 | exact A1 | exact A2) ?_) | (refine PFC.coe ?_; simp -implicitDefEqProofs only [eq_true h0, true_and, go_sem, seval]; refine call_is (by first | exact A0 | exact A1 | exact A2) ?_))
    exact JA _ _ (by simp -implicitDefEqProofs only [eq_true h0, true_and, go_sem, seval]) (by simp -implicitDefEqProofs only [eq_true h0, true_and, go_sem, seval]) (by simp -implicitDefEqProofs only [eq_true h0, true_and, go_sem, seval]) (by simp -implicitDefEqProofs only [eq_true h0, true_and, go_sem, seval]) (by simp -implicitDefEqProofs only [eq_true h0, true_and, go_sem, seval]) (by simp -implicitDefEqProofs only [eq_true h0, true_and, go_sem, seval]) (by simp -implicitDefEqProofs only [eq_true h0, true_and, go_sem, seval]) (by simp -implicitDefEqProofs only [eq_true h0, true_and, go_sem, seval]) (by simp -implicitDefEqProofs only [eq_true h0, true_and, go_sem, seval]) (by simp -implicitDefEqProofs only [eq_true h0, true_and, go_sem, seval])
  · by_cases h1 : kind.tmod 3 = 1
    · repeat (first | (with_reducible first | refine pv_seq fun K hK => ?_ | refine pv_reg ?_) | ((with_reducible first | refine hK _ _ ?_ | (clear hK; refine hK _ _ ?_) | (clear hK; clear hK; refine hK _ _ ?_)); clear hK; try clear K) | simp -implicitDefEqProofs only [eq_false h0, eq_true h1, true_and, go_sem, seval] | with_reducible intro b | (with_reducible refine And.intro ?_ ?_; · first | assumption | omega | (unfold R64; omega)) | refine call_is (by first | exact M0 | exact M1 | exact M2) ?_ | (refine ExtC_is ?_; simp -implicitDefEqProofs only [eq_false h0, eq_true h1, true_and, go_sem, seval]; refine ext_is (by first | exact M0 | exact M1 | exact M2) ?_) | (refine PFC.coe ?_; simp -implicitDefEqProofs only [eq_false h0, eq_true h1, true_and, go_sem, seval]; refine call_is (by first | exact M0 | exact M1 | exact M2) ?_))
      exact JM _ _ (by simp -implicitDefEqProofs only [eq_false h0, eq_true h1, true_and, go_sem, seval]) (by simp -implicitDefEqProofs only [eq_false h0, eq_true h1, true_and, go_sem, seval]) (by simp -implicitDefEqProofs only [eq_false h0, eq_true h1, true_and, go_sem, seval]) (by simp -implicitDefEqProofs only [eq_false h0, eq_true h1, true_and, go_sem, seval]) (by simp -implicitDefEqProofs only [eq_false h0, eq_true h1, true_and, go_sem, seval]) (by simp -implicitDefEqProofs only [eq_false h0, eq_true h1, true_and, go_sem, seval]) (by simp -implicitDefEqProofs only [eq_false h0, eq_true h1, true_and, go_sem, seval]) (by simp -implicitDefEqProofs only [eq_false h0, eq_true h1, true_and, go_sem, seval]) (by simp -implicitDefEqProofs only [eq_false h0, eq_true h1, true_and, go_sem, seval]) (by simp -implicitDefEqProofs only [eq_false h0, eq_true h1, true_and, go_sem, seval])
    · repeat (first | (with_reducible first | refine pv_seq fun K hK => ?_ | refine pv_reg ?_) | ((with_reducible first | refine hK _ _ ?_ | (clear hK; refine hK _ _ ?_) | (clear hK; clear hK; refine hK _ _ ?_)); clear hK; try clear K) | simp -implicitDefEqProofs only [eq_false h0, eq_false h1, true_and, go_sem, seval] | with_reducible intro b | (with_reducible refine And.intro ?_ ?_; · first | assumption | omega | (unfold R64; omega)) | refine call_is (by first | exact U0 | exact U1 | exact U2) ?_ | (refine ExtC_is ?_; simp -implicitDefEqProofs only [eq_false h0, eq_false h1, true_and, go_sem, seval]; refine ext_is (by first | exact U0 | exact U1 | exact U2) ?_) | (refine PFC.coe ?_; simp -implicitDefEqProofs only [eq_false h0, eq_false h1, true_and, go_sem, seval]; refine call_is (by first | exact U0 | exact U1 | exact U2) ?_))
      exact JU _ _ (by simp -implicitDefEqProofs only [eq_false h0, eq_false h1, true_and, go_sem, seval]) (by simp -implicitDefEqProofs only [eq_false h0, eq_false h1, true_and, go_sem, seval]) (by simp -implicitDefEqProofs only [eq_false h0, eq_false h1, true_and, go_sem, seval]) (by simp -implicitDefEqProofs only [eq_false h0, eq_false h1, true_and, go_sem, seval]) (by simp -implicitDefEqProofs only [eq_false h0, eq_false h1, true_and, go_sem, seval]) (by simp -implicitDefEqProofs only [eq_false h0, eq_false h1, true_and, go_sem, seval]) (by simp -implicitDefEqProofs only [eq_false h0, eq_false h1, true_and, go_sem, seval]) (by simp -implicitDefEqProofs only [eq_false h0, eq_false h1, true_and, go_sem, seval]) (by simp -implicitDefEqProofs only [eq_false h0, eq_false h1, true_and, go_sem, seval]) (by simp -implicitDefEqProofs only [eq_false h0, eq_false h1, true_and, go_sem, seval])
end Go.V

/- The statements RoundFits, RoundReckons, RoundDrawn of layer 3. -/
import Derived.Test.YtjilhcofkcnplaaDoorPR
import Derived.Test.YtjilhcofkcnplaaDoorPW2
import Derived.Test.YtjilhcofkcnplaaDoorPSP
set_option linter.unusedSimpArgs false
set_option linter.unusedVariables false
set_option maxRecDepth 100000
namespace Go.V
open Go Go.RowKit Go.Proofs

theorem r64_wf {j : Int} (hj : (Lit.int .i64 j).wf = true) : R64 j := by unfold R64; simp [Lit.wf, IntKind.min, IntKind.max, IntKind.signed, IntKind.bits] at hj; omega
theorem p_RoundFitsW {x : Nu} {p : Int} {up : Bool} (hx : B64 x.w) : PC Tryd.prog 3 [NU x, i64 p, bl up] fun d => d = bl true := by
  have pL := p_light3 (xs := [x]) (by simp)
  have qF := p_rFit (p := p) (up := up) hx
  have pE := same_rfl (fitR_len (x := x) (p := p) (up := up))
  by_cases hl : ∀ z ∈ [x], z.w.length ≤ 70
  · rw [decide_eq_true hl] at pL
    have pF := p_Fit (k := 70) (p := p) (up := up) ⟨hx, hl x (by simp)⟩
    generalize fitR x p up = q at *
    obtain ⟨⟨n1, e1, w1⟩, er⟩ := q
    obtain ⟨neg, exp, w⟩ := x
    simp only at pE
    have k1 : (er = er) = True := eq_true rfl
    refine PC.body (args := [NU ⟨neg, exp, w⟩, i64 p, bl up]) (rs := [.tmp 6]) mixed Tryd.func3 rfl (by kernel_rfl) (by kernel_rfl) (Nat.le_of_ble_eq_true rfl) rfl ?_
    repeat (first | (with_reducible first | refine pv_seq fun K hK => ?_ | refine pv_reg ?_) | ((with_reducible first | refine hK _ _ ?_ | (clear hK; refine hK _ _ ?_) | (clear hK; clear hK; refine hK _ _ ?_)); clear hK; try clear K) | simp -implicitDefEqProofs only [k1, true_and, go_sem, seval] | with_reducible intro b | (with_reducible refine And.intro ?_ ?_; · first | assumption | omega | (unfold R64; omega)) | refine call_is (by first | exact p_known3 | exact pL | exact pF | exact qF | exact pE) ?_ | (refine ExtC_is ?_; simp -implicitDefEqProofs only [k1, true_and, go_sem, seval]; refine ext_is (by first | exact p_known3 | exact pL | exact pF | exact qF | exact pE) ?_) | (refine PFC.coe ?_; simp -implicitDefEqProofs only [k1, true_and, go_sem, seval]; refine call_is (by first | exact p_known3 | exact pL | exact pF | exact qF | exact pE) ?_))
  · rw [decide_eq_false hl] at pL
    obtain ⟨neg, exp, w⟩ := x
    refine PC.body (args := [NU ⟨neg, exp, w⟩, i64 p, bl up]) (rs := [.tmp 6]) mixed Tryd.func3 rfl (by kernel_rfl) (by kernel_rfl) (Nat.le_of_ble_eq_true rfl) rfl ?_
    repeat (first | (with_reducible first | refine pv_seq fun K hK => ?_ | refine pv_reg ?_) | ((with_reducible first | refine hK _ _ ?_ | (clear hK; refine hK _ _ ?_) | (clear hK; clear hK; refine hK _ _ ?_)); clear hK; try clear K) | simp -implicitDefEqProofs only [true_and, true_and, go_sem, seval] | with_reducible intro b | (with_reducible refine And.intro ?_ ?_; · first | assumption | omega | (unfold R64; omega)) | refine call_is (by first | exact p_known3 | exact pL) ?_ | (refine ExtC_is ?_; simp -implicitDefEqProofs only [true_and, true_and, go_sem, seval]; refine ext_is (by first | exact p_known3 | exact pL) ?_) | (refine PFC.coe ?_; simp -implicitDefEqProofs only [true_and, true_and, go_sem, seval]; refine call_is (by first | exact p_known3 | exact pL) ?_))
theorem p_RoundFits {x : Nu} {p : Int} {up : Bool} (hx : B64 x.w) (hp : (Lit.int .i64 p).wf = true) : PC Tryd.prog 3 [NU x, i64 p, bl up] fun d => d = bl true := p_RoundFitsW (p := p) (up := up) hx

theorem p_RoundReckons {x y : Nu} {p : Int} {up : Bool} (hx : B64 x.w) (hy : B64 y.w) (hp : (Lit.int .i64 p).wf = true) : PC Tryd.prog 4 [NU x, NU y, i64 p, bl up] fun d => d = bl true := by
  have pL := p_light3 (xs := [x, y]) (by simp)
  by_cases hl : ∀ z ∈ [x, y], z.w.length ≤ 70
  · rw [decide_eq_true hl] at pL
    have pF := p_four3 (k := 70) (p := p) (up := up) ⟨hx, hl x (by simp)⟩ ⟨hy, hl y (by simp)⟩
    obtain ⟨neg, exp, w⟩ := x
    obtain ⟨neg', exp', w'⟩ := y
    refine PC.body (args := [NU ⟨neg, exp, w⟩, NU ⟨neg', exp', w'⟩, i64 p, bl up]) (rs := [.tmp 8]) mixed Tryd.func4 rfl (by kernel_rfl) (by kernel_rfl) (Nat.le_of_ble_eq_true rfl) rfl ?_
    repeat (first | (with_reducible first | refine pv_seq fun K hK => ?_ | refine pv_reg ?_) | ((with_reducible first | refine hK _ _ ?_ | (clear hK; refine hK _ _ ?_) | (clear hK; clear hK; refine hK _ _ ?_)); clear hK; try clear K) | simp -implicitDefEqProofs only [true_and, true_and, go_sem, seval] | with_reducible intro b | (with_reducible refine And.intro ?_ ?_; · first | assumption | omega | (unfold R64; omega)) | refine call_is (by first | exact p_known3 | exact pL | exact pF) ?_ | (refine ExtC_is ?_; simp -implicitDefEqProofs only [true_and, true_and, go_sem, seval]; refine ext_is (by first | exact p_known3 | exact pL | exact pF) ?_) | (refine PFC.coe ?_; simp -implicitDefEqProofs only [true_and, true_and, go_sem, seval]; refine call_is (by first | exact p_known3 | exact pL | exact pF) ?_))
  · rw [decide_eq_false hl] at pL
    obtain ⟨neg, exp, w⟩ := x
    obtain ⟨neg', exp', w'⟩ := y
    refine PC.body (args := [NU ⟨neg, exp, w⟩, NU ⟨neg', exp', w'⟩, i64 p, bl up]) (rs := [.tmp 8]) mixed Tryd.func4 rfl (by kernel_rfl) (by kernel_rfl) (Nat.le_of_ble_eq_true rfl) rfl ?_
    repeat (first | (with_reducible first | refine pv_seq fun K hK => ?_ | refine pv_reg ?_) | ((with_reducible first | refine hK _ _ ?_ | (clear hK; refine hK _ _ ?_) | (clear hK; clear hK; refine hK _ _ ?_)); clear hK; try clear K) | simp -implicitDefEqProofs only [true_and, true_and, go_sem, seval] | with_reducible intro b | (with_reducible refine And.intro ?_ ?_; · first | assumption | omega | (unfold R64; omega)) | refine call_is (by first | exact p_known3 | exact pL) ?_ | (refine ExtC_is ?_; simp -implicitDefEqProofs only [true_and, true_and, go_sem, seval]; refine ext_is (by first | exact p_known3 | exact pL) ?_) | (refine PFC.coe ?_; simp -implicitDefEqProofs only [true_and, true_and, go_sem, seval]; refine call_is (by first | exact p_known3 | exact pL) ?_))

theorem p_RoundDrawn {w : List Nat} {up : Bool} (hb : B64 w) : PC Tryd.prog 5 [W64 w, bl up] fun d => d = bl true := by
  refine PC.body (args := [W64 w, bl up]) (rs := [.tmp 4]) mixed Tryd.func5 rfl (by kernel_rfl) (by kernel_rfl) (Nat.le_of_ble_eq_true rfl) rfl ?_
  repeat (first | (with_reducible first | refine pv_seq fun K hK => ?_ | refine pv_reg ?_) | ((with_reducible first | refine hK _ _ ?_ | (clear hK; refine hK _ _ ?_) | (clear hK; clear hK; refine hK _ _ ?_)); clear hK; try clear K) | simp -implicitDefEqProofs only [true_and, true_and, go_sem, seval] | with_reducible intro b | (with_reducible refine And.intro ?_ ?_; · first | assumption | omega | (unfold R64; omega)) | refine call_is (by exact p_known3) ?_ | (refine ExtC_is ?_; simp -implicitDefEqProofs only [true_and, true_and, go_sem, seval]; refine ext_is (by exact p_known3) ?_) | (refine PFC.coe ?_; simp -implicitDefEqProofs only [true_and, true_and, go_sem, seval]; refine call_is (by exact p_known3) ?_))
  refine p_Of (fun b0 => ?_)
  repeat (first | (with_reducible first | refine pv_seq fun K hK => ?_ | refine pv_reg ?_) | ((with_reducible first | refine hK _ _ ?_ | (clear hK; refine hK _ _ ?_) | (clear hK; clear hK; refine hK _ _ ?_)); clear hK; try clear K) | simp -implicitDefEqProofs only [true_and, true_and, go_sem, seval] | with_reducible intro b | (with_reducible refine And.intro ?_ ?_; · first | assumption | omega | (unfold R64; omega)))
  refine p_dnum (i := 0) (by simp -implicitDefEqProofs only [updS, upS, if_true]; rfl) hb (by omega) (fun d1 j1 o1 l1 => ?_)
  repeat (first | (with_reducible first | refine pv_seq fun K hK => ?_ | refine pv_reg ?_) | ((with_reducible first | refine hK _ _ ?_ | (clear hK; refine hK _ _ ?_) | (clear hK; clear hK; refine hK _ _ ?_)); clear hK; try clear K) | simp -implicitDefEqProofs only [true_and, true_and, go_sem, seval] | with_reducible intro b | (with_reducible refine And.intro ?_ ?_; · first | assumption | omega | (unfold R64; omega)))
  refine p_dnum (i := j1) (by simp -implicitDefEqProofs only [updS, upS, if_true]; rfl) hb (by omega) (fun d2 j2 o2 l2 => ?_)
  repeat (first | (with_reducible first | refine pv_seq fun K hK => ?_ | refine pv_reg ?_) | ((with_reducible first | refine hK _ _ ?_ | (clear hK; refine hK _ _ ?_) | (clear hK; clear hK; refine hK _ _ ?_)); clear hK; try clear K) | simp -implicitDefEqProofs only [true_and, true_and, go_sem, seval] | with_reducible intro b | (with_reducible refine And.intro ?_ ?_; · first | assumption | omega | (unfold R64; omega)))
  refine p_dPrec (i := j2) (by simp -implicitDefEqProofs only [updS, upS, if_true]; rfl) hb (by omega) (fun p j3 p1 p2 l3 => ?_)
  have q1 := p_four3 (p := p) (up := up) (o1.sz).wl (o2.sz).wl
  have q2 := p_four3 (p := p) (up := up) (o2.sz).wl (o2.sz).wl
  have q3 := p_RoundFitsW (p := p) (up := up) (o1.sz).b
  generalize nuOf d1 = x at *
  generalize nuOf d2 = y at *
  obtain ⟨s1, e1, w1⟩ := x
  obtain ⟨s2, e2, w2⟩ := y
  repeat (first | (with_reducible first | refine pv_seq fun K hK => ?_ | refine pv_reg ?_) | ((with_reducible first | refine hK _ _ ?_ | (clear hK; refine hK _ _ ?_) | (clear hK; clear hK; refine hK _ _ ?_)); clear hK; try clear K) | simp -implicitDefEqProofs only [true_and, true_and, go_sem, seval] | with_reducible intro b | (with_reducible refine And.intro ?_ ?_; · first | assumption | omega | (unfold R64; omega)) | refine call_is (by first | exact q1 | exact q2 | exact q3) ?_ | (refine ExtC_is ?_; simp -implicitDefEqProofs only [true_and, true_and, go_sem, seval]; refine ext_is (by first | exact q1 | exact q2 | exact q3) ?_) | (refine PFC.coe ?_; simp -implicitDefEqProofs only [true_and, true_and, go_sem, seval]; refine call_is (by first | exact q1 | exact q2 | exact q3) ?_))
end Go.V

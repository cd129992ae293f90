/- The statements' own small functions: NatBack. -/
import Derived.Test.YtilnmcabjkpohaaDoorM
import Derived.Test.YtilnmcabjkpohaaDoorDV
set_option linter.unusedSimpArgs false
set_option linter.unusedVariables false
set_option maxRecDepth 100000
namespace Go.V
open Go Go.RowKit Go.Proofs

theorem shiftN_up {a n : Nat} (h : n ≤ 262144) : shiftN a (n : Int) = a * 2 ^ n := by
  unfold shiftN; rw [if_neg (by omega)]; congr 2; omega
theorem shiftN_back {a n : Nat} (h : n ≤ 262144) : shiftN (a * 2 ^ n) (-(n : Int)) = a := by
  unfold shiftN
  split
  · rw [show min (- -(n : Int)).toNat 262144 = n by omega, Nat.mul_div_cancel _ (Nat.two_pow_pos n)]
  · obtain rfl : n = 0 := by omega
    simp
theorem cmpI_ge {a b : Int} : (0 ≤ cmpI a b) = (b ≤ a) := by
  unfold cmpI; split
  · simp; omega
  · split <;> simp <;> omega

theorem arith_64 {n : Int} {K : Value → Prop} : arith .i64 n K = (R64 n ∧ K (.int .i64 n)) := rfl

theorem p_NatBack {xs ys zs : List Nat} {n : Int} (hx : B64 xs) (hy : B64 ys) (hz : B64 zs) (hn0 : (Lit.int .u8 n).wf = true) : PC Tryd.prog 7 [W64 xs, W64 ys, W64 zs, .g (.lit (.int .u8 n))] fun d => d = bl true := by
  have hn : 0 ≤ n ∧ n < 256 := by simp [Lit.wf, IntKind.min, IntKind.max, IntKind.signed, IntKind.bits] at hn0; omega
  obtain ⟨n, rfl⟩ := Int.eq_ofNat_of_zero_le hn.1
  have hn8 : n < 256 := by omega
  refine PC.body (args := [W64 xs, W64 ys, W64 zs, .g (.lit (.int .u8 (n : Int)))]) (rs := [.tmp 8]) mixed Tryd.func7 rfl (by kernel_rfl) (by kernel_rfl) (Nat.le_of_ble_eq_true rfl) rfl ?_
  repeat (first
   | (with_reducible first | refine pv_seq fun K hK => ?_ | refine pv_skip ?_ | refine pv_block ?_ | refine pv_scope ?_ | refine pv_label ?_)
   | (with_reducible refine pv_reg ?_; simp -implicitDefEqProofs only [comp_nil, comp_cons, compD_nil, compD_cons, gsl_none, gsl_some, List.getElem?_cons_zero, List.getElem?_cons_succ, Option.map_some, Option.bind_some, lapp_cons, lapp_nil])
   | (fail)
   | (with_reducible refine pv_condT ?_ ?_; · simp -implicitDefEqProofs only [true_and, go_sem, seval] <;> rfl)
   | (with_reducible refine pv_condF ?_ ?_; · simp -implicitDefEqProofs only [true_and, go_sem, seval] <;> rfl)
   | (with_reducible refine pv_exit ?_; simp only [↓reduceIte, Nat.reduceEqDiff])
   | (with_reducible refine pv_ret ?_; simp -implicitDefEqProofs only [retC, retS, retR, resD, oneD, coeDs_nil, coeDs_cons, coeD_agg, coeD_g, coeD_nil, coeD_own, coeCs_nil, coeCs_cons, coeC_g, coeC_nil, coeC_own, true_and, go_sem, seval])
   | ((with_reducible first | refine hK _ _ ?_ | (clear hK; refine hK _ _ ?_) | (clear hK; clear hK; refine hK _ _ ?_)); clear hK; try clear K)
   | (simp -implicitDefEqProofs only [true_and, go_sem, seval])
   | (with_reducible intro b)
   | (with_reducible refine And.intro ?_ ?_; · first | assumption | omega | (unfold R64; omega)))
  refine call_is p_known ?_
  repeat (first
   | (with_reducible first | refine pv_seq fun K hK => ?_ | refine pv_skip ?_ | refine pv_block ?_ | refine pv_scope ?_ | refine pv_label ?_)
   | (with_reducible refine pv_reg ?_; simp -implicitDefEqProofs only [comp_nil, comp_cons, compD_nil, compD_cons, gsl_none, gsl_some, List.getElem?_cons_zero, List.getElem?_cons_succ, Option.map_some, Option.bind_some, lapp_cons, lapp_nil])
   | (fail)
   | (with_reducible refine pv_condT ?_ ?_; · simp -implicitDefEqProofs only [true_and, go_sem, seval] <;> rfl)
   | (with_reducible refine pv_condF ?_ ?_; · simp -implicitDefEqProofs only [true_and, go_sem, seval] <;> rfl)
   | (with_reducible refine pv_exit ?_; simp only [↓reduceIte, Nat.reduceEqDiff])
   | (with_reducible refine pv_ret ?_; simp -implicitDefEqProofs only [retC, retS, retR, resD, oneD, coeDs_nil, coeDs_cons, coeD_agg, coeD_g, coeD_nil, coeD_own, coeCs_nil, coeCs_cons, coeC_g, coeC_nil, coeC_own, true_and, go_sem, seval])
   | ((with_reducible first | refine hK _ _ ?_ | (clear hK; refine hK _ _ ?_) | (clear hK; clear hK; refine hK _ _ ?_)); clear hK; try clear K)
   | (simp -implicitDefEqProofs only [true_and, go_sem, seval])
   | (with_reducible intro b)
   | (with_reducible refine And.intro ?_ ?_; · first | assumption | omega | (unfold R64; omega)))
  refine PFC.coe ?_
  simp -implicitDefEqProofs only [coeDs_nil, coeDs_cons, coeD_agg, coeD_g, coeD_nil, coeD_own, coeCs_nil, coeCs_cons, coeC_g, coeC_nil, coeC_own, pureLL, pureL, tg_g, tg_nil, Nat.zero_add, Nat.le_refl, W64_l1, W64_l2, W32_l1, toG_W64, WW_1, WW_2, WW_3, true_and, go_sem, seval]
  refine call_is (p_few (xss := [xs, ys, zs]) (by simp)) ?_
  by_cases hl : xs.length ≤ 40 ∧ ys.length ≤ 40 ∧ zs.length ≤ 40
  · have hf : decide (∀ l ∈ [xs, ys, zs], l.length ≤ 40) = true := by simpa using hl
    rw [hf]
    have X := Wd.x hx hl.1; have Y := Wd.x hy hl.2.1; have Z := Wd.x hz hl.2.2
    have x := nlt hx hl.1; have y := nlt hy hl.2.1; have z := nlt hz hl.2.2
    have sxy := Mw_add x y
    have SXY := Wd.d (Mw_up sxy (show 41 ≤ 1000 by decide))
    have pxy := Mw_mul x y
    have PXY := Wd.d (Mw_up pxy (show 80 ≤ 1000 by decide))
    have hw : IntKind.i64.wrap (n : Int) = (n : Int) := by simp [IntKind.wrap, IntKind.signed, IntKind.bits]; omega
    have hsub := p_Sub SXY.1 hy SXY.2.2 Y.2.2
    rw [SXY.2.1, if_pos (Nat.le_add_left _ _), Nat.add_sub_cancel] at hsub
    have pup := p_Shift (n := (n : Int)) hx X.2.2
    rw [shiftN_up (by omega)] at pup
    have xn : N64 xs * 2 ^ n < Mw 44 := Mw_mul (k := 40) (j := 4) x (Nat.lt_of_lt_of_le (Nat.pow_lt_pow_right (by decide) hn8) (by unfold Mw; decide))
    have XN := Wd.d (Mw_up xn (show 44 ≤ 1000 by decide))
    have pdn := p_Shift (n := -(n : Int)) XN.1 XN.2.2
    rw [XN.2.1, shiftN_back (by omega)] at pdn
    repeat (first
     | (with_reducible first | refine pv_seq fun K hK => ?_ | refine pv_skip ?_ | refine pv_block ?_ | refine pv_scope ?_ | refine pv_label ?_)
     | (with_reducible refine pv_reg ?_; simp -implicitDefEqProofs only [comp_nil, comp_cons, compD_nil, compD_cons, gsl_none, gsl_some, List.getElem?_cons_zero, List.getElem?_cons_succ, Option.map_some, Option.bind_some, lapp_cons, lapp_nil])
     | (fail)
     | (with_reducible refine pv_condT ?_ ?_; · simp -implicitDefEqProofs only [hw, true_and, go_sem, seval] <;> rfl)
     | (with_reducible refine pv_condF ?_ ?_; · simp -implicitDefEqProofs only [hw, true_and, go_sem, seval] <;> rfl)
     | (with_reducible refine pv_exit ?_; simp only [↓reduceIte, Nat.reduceEqDiff])
     | (with_reducible refine pv_ret ?_; simp -implicitDefEqProofs only [retC, retS, retR, resD, oneD, coeDs_nil, coeDs_cons, coeD_agg, coeD_g, coeD_nil, coeD_own, coeCs_nil, coeCs_cons, coeC_g, coeC_nil, coeC_own, hw, true_and, go_sem, seval])
     | ((with_reducible first | refine hK _ _ ?_ | (clear hK; refine hK _ _ ?_) | (clear hK; clear hK; refine hK _ _ ?_)); clear hK; try clear K)
     | (simp -implicitDefEqProofs only [hw, true_and, go_sem, seval])
     | (with_reducible intro b)
     | (with_reducible refine And.intro ?_ ?_; · first | assumption | omega | (unfold R64; omega)))
    refine call_is (w_Add X Y) ?_
    repeat (first
     | (with_reducible first | refine pv_seq fun K hK => ?_ | refine pv_skip ?_ | refine pv_block ?_ | refine pv_scope ?_ | refine pv_label ?_)
     | (with_reducible refine pv_reg ?_; simp -implicitDefEqProofs only [comp_nil, comp_cons, compD_nil, compD_cons, gsl_none, gsl_some, List.getElem?_cons_zero, List.getElem?_cons_succ, Option.map_some, Option.bind_some, lapp_cons, lapp_nil])
     | (fail)
     | (with_reducible refine pv_condT ?_ ?_; · simp -implicitDefEqProofs only [hw, true_and, go_sem, seval] <;> rfl)
     | (with_reducible refine pv_condF ?_ ?_; · simp -implicitDefEqProofs only [hw, true_and, go_sem, seval] <;> rfl)
     | (with_reducible refine pv_exit ?_; simp only [↓reduceIte, Nat.reduceEqDiff])
     | (with_reducible refine pv_ret ?_; simp -implicitDefEqProofs only [retC, retS, retR, resD, oneD, coeDs_nil, coeDs_cons, coeD_agg, coeD_g, coeD_nil, coeD_own, coeCs_nil, coeCs_cons, coeC_g, coeC_nil, coeC_own, hw, true_and, go_sem, seval])
     | ((with_reducible first | refine hK _ _ ?_ | (clear hK; refine hK _ _ ?_) | (clear hK; clear hK; refine hK _ _ ?_)); clear hK; try clear K)
     | (simp -implicitDefEqProofs only [hw, true_and, go_sem, seval])
     | (with_reducible intro b)
     | (with_reducible refine And.intro ?_ ?_; · first | assumption | omega | (unfold R64; omega)))
    refine call_is hsub ?_
    repeat (first
     | (with_reducible first | refine pv_seq fun K hK => ?_ | refine pv_skip ?_ | refine pv_block ?_ | refine pv_scope ?_ | refine pv_label ?_)
     | (with_reducible refine pv_reg ?_; simp -implicitDefEqProofs only [comp_nil, comp_cons, compD_nil, compD_cons, gsl_none, gsl_some, List.getElem?_cons_zero, List.getElem?_cons_succ, Option.map_some, Option.bind_some, lapp_cons, lapp_nil])
     | (fail)
     | (with_reducible refine pv_condT ?_ ?_; · simp -implicitDefEqProofs only [hw, true_and, go_sem, seval] <;> rfl)
     | (with_reducible refine pv_condF ?_ ?_; · simp -implicitDefEqProofs only [hw, true_and, go_sem, seval] <;> rfl)
     | (with_reducible refine pv_exit ?_; simp only [↓reduceIte, Nat.reduceEqDiff])
     | (with_reducible refine pv_ret ?_; simp -implicitDefEqProofs only [retC, retS, retR, resD, oneD, coeDs_nil, coeDs_cons, coeD_agg, coeD_g, coeD_nil, coeD_own, coeCs_nil, coeCs_cons, coeC_g, coeC_nil, coeC_own, hw, true_and, go_sem, seval])
     | ((with_reducible first | refine hK _ _ ?_ | (clear hK; refine hK _ _ ?_) | (clear hK; clear hK; refine hK _ _ ?_)); clear hK; try clear K)
     | (simp -implicitDefEqProofs only [hw, true_and, go_sem, seval])
     | (with_reducible intro b)
     | (with_reducible refine And.intro ?_ ?_; · first | assumption | omega | (unfold R64; omega)))
    refine call_is (p_Trim hx X.2.2) ?_
    repeat (first
     | (with_reducible first | refine pv_seq fun K hK => ?_ | refine pv_skip ?_ | refine pv_block ?_ | refine pv_scope ?_ | refine pv_label ?_)
     | (with_reducible refine pv_reg ?_; simp -implicitDefEqProofs only [comp_nil, comp_cons, compD_nil, compD_cons, gsl_none, gsl_some, List.getElem?_cons_zero, List.getElem?_cons_succ, Option.map_some, Option.bind_some, lapp_cons, lapp_nil])
     | (fail)
     | (with_reducible refine pv_condT ?_ ?_; · simp -implicitDefEqProofs only [hw, true_and, go_sem, seval] <;> rfl)
     | (with_reducible refine pv_condF ?_ ?_; · simp -implicitDefEqProofs only [hw, true_and, go_sem, seval] <;> rfl)
     | (with_reducible refine pv_exit ?_; simp only [↓reduceIte, Nat.reduceEqDiff])
     | (with_reducible refine pv_ret ?_; simp -implicitDefEqProofs only [retC, retS, retR, resD, oneD, coeDs_nil, coeDs_cons, coeD_agg, coeD_g, coeD_nil, coeD_own, coeCs_nil, coeCs_cons, coeC_g, coeC_nil, coeC_own, hw, true_and, go_sem, seval])
     | ((with_reducible first | refine hK _ _ ?_ | (clear hK; refine hK _ _ ?_) | (clear hK; clear hK; refine hK _ _ ?_)); clear hK; try clear K)
     | (simp -implicitDefEqProofs only [hw, true_and, go_sem, seval])
     | (with_reducible intro b)
     | (with_reducible refine And.intro ?_ ?_; · first | assumption | omega | (unfold R64; omega)))
    refine call_is (w_Words (Mw_up x (by decide)) rfl) ?_
    repeat (first
     | (with_reducible first | refine pv_seq fun K hK => ?_ | refine pv_skip ?_ | refine pv_block ?_ | refine pv_scope ?_ | refine pv_label ?_)
     | (with_reducible refine pv_reg ?_; simp -implicitDefEqProofs only [comp_nil, comp_cons, compD_nil, compD_cons, gsl_none, gsl_some, List.getElem?_cons_zero, List.getElem?_cons_succ, Option.map_some, Option.bind_some, lapp_cons, lapp_nil])
     | (fail)
     | (with_reducible refine pv_condT ?_ ?_; · simp -implicitDefEqProofs only [hw, true_and, go_sem, seval] <;> rfl)
     | (with_reducible refine pv_condF ?_ ?_; · simp -implicitDefEqProofs only [hw, true_and, go_sem, seval] <;> rfl)
     | (with_reducible refine pv_exit ?_; simp only [↓reduceIte, Nat.reduceEqDiff])
     | (with_reducible refine pv_ret ?_; simp -implicitDefEqProofs only [retC, retS, retR, resD, oneD, coeDs_nil, coeDs_cons, coeD_agg, coeD_g, coeD_nil, coeD_own, coeCs_nil, coeCs_cons, coeC_g, coeC_nil, coeC_own, hw, true_and, go_sem, seval])
     | ((with_reducible first | refine hK _ _ ?_ | (clear hK; refine hK _ _ ?_) | (clear hK; clear hK; refine hK _ _ ?_)); clear hK; try clear K)
     | (simp -implicitDefEqProofs only [hw, true_and, go_sem, seval])
     | (with_reducible intro b)
     | (with_reducible refine And.intro ?_ ?_; · first | assumption | omega | (unfold R64; omega)))
    refine call_is pup ?_
    repeat (first
     | (with_reducible first | refine pv_seq fun K hK => ?_ | refine pv_skip ?_ | refine pv_block ?_ | refine pv_scope ?_ | refine pv_label ?_)
     | (with_reducible refine pv_reg ?_; simp -implicitDefEqProofs only [comp_nil, comp_cons, compD_nil, compD_cons, gsl_none, gsl_some, List.getElem?_cons_zero, List.getElem?_cons_succ, Option.map_some, Option.bind_some, lapp_cons, lapp_nil])
     | (fail)
     | (with_reducible refine pv_condT ?_ ?_; · simp -implicitDefEqProofs only [hw, arith_64, Int.zero_sub, true_and, go_sem, seval] <;> rfl)
     | (with_reducible refine pv_condF ?_ ?_; · simp -implicitDefEqProofs only [hw, arith_64, Int.zero_sub, true_and, go_sem, seval] <;> rfl)
     | (with_reducible refine pv_exit ?_; simp only [↓reduceIte, Nat.reduceEqDiff])
     | (with_reducible refine pv_ret ?_; simp -implicitDefEqProofs only [retC, retS, retR, resD, oneD, coeDs_nil, coeDs_cons, coeD_agg, coeD_g, coeD_nil, coeD_own, coeCs_nil, coeCs_cons, coeC_g, coeC_nil, coeC_own, hw, arith_64, Int.zero_sub, true_and, go_sem, seval])
     | ((with_reducible first | refine hK _ _ ?_ | (clear hK; refine hK _ _ ?_) | (clear hK; clear hK; refine hK _ _ ?_)); clear hK; try clear K)
     | (simp -implicitDefEqProofs only [hw, arith_64, Int.zero_sub, true_and, go_sem, seval])
     | (with_reducible intro b)
     | (with_reducible refine And.intro ?_ ?_; · first | assumption | omega | (unfold R64; omega)))
    refine call_is pdn ?_
    repeat (first
     | (with_reducible first | refine pv_seq fun K hK => ?_ | refine pv_skip ?_ | refine pv_block ?_ | refine pv_scope ?_ | refine pv_label ?_)
     | (with_reducible refine pv_reg ?_; simp -implicitDefEqProofs only [comp_nil, comp_cons, compD_nil, compD_cons, gsl_none, gsl_some, List.getElem?_cons_zero, List.getElem?_cons_succ, Option.map_some, Option.bind_some, lapp_cons, lapp_nil])
     | (fail)
     | (with_reducible refine pv_condT ?_ ?_; · simp -implicitDefEqProofs only [hw, arith_64, Int.zero_sub, true_and, go_sem, seval] <;> rfl)
     | (with_reducible refine pv_condF ?_ ?_; · simp -implicitDefEqProofs only [hw, arith_64, Int.zero_sub, true_and, go_sem, seval] <;> rfl)
     | (with_reducible refine pv_exit ?_; simp only [↓reduceIte, Nat.reduceEqDiff])
     | (with_reducible refine pv_ret ?_; simp -implicitDefEqProofs only [retC, retS, retR, resD, oneD, coeDs_nil, coeDs_cons, coeD_agg, coeD_g, coeD_nil, coeD_own, coeCs_nil, coeCs_cons, coeC_g, coeC_nil, coeC_own, hw, arith_64, Int.zero_sub, true_and, go_sem, seval])
     | ((with_reducible first | refine hK _ _ ?_ | (clear hK; refine hK _ _ ?_) | (clear hK; clear hK; refine hK _ _ ?_)); clear hK; try clear K)
     | (simp -implicitDefEqProofs only [hw, arith_64, Int.zero_sub, true_and, go_sem, seval])
     | (with_reducible intro b)
     | (with_reducible refine And.intro ?_ ?_; · first | assumption | omega | (unfold R64; omega)))
    refine call_is (w_Words (Mw_up x (by decide)) rfl) ?_
    repeat (first
     | (with_reducible first | refine pv_seq fun K hK => ?_ | refine pv_skip ?_ | refine pv_block ?_ | refine pv_scope ?_ | refine pv_label ?_)
     | (with_reducible refine pv_reg ?_; simp -implicitDefEqProofs only [comp_nil, comp_cons, compD_nil, compD_cons, gsl_none, gsl_some, List.getElem?_cons_zero, List.getElem?_cons_succ, Option.map_some, Option.bind_some, lapp_cons, lapp_nil])
     | (fail)
     | (with_reducible refine pv_condT ?_ ?_; · simp -implicitDefEqProofs only [hw, arith_64, Int.zero_sub, true_and, go_sem, seval] <;> rfl)
     | (with_reducible refine pv_condF ?_ ?_; · simp -implicitDefEqProofs only [hw, arith_64, Int.zero_sub, true_and, go_sem, seval] <;> rfl)
     | (with_reducible refine pv_exit ?_; simp only [↓reduceIte, Nat.reduceEqDiff])
     | (with_reducible refine pv_ret ?_; simp -implicitDefEqProofs only [retC, retS, retR, resD, oneD, coeDs_nil, coeDs_cons, coeD_agg, coeD_g, coeD_nil, coeD_own, coeCs_nil, coeCs_cons, coeC_g, coeC_nil, coeC_own, hw, arith_64, Int.zero_sub, true_and, go_sem, seval])
     | ((with_reducible first | refine hK _ _ ?_ | (clear hK; refine hK _ _ ?_) | (clear hK; clear hK; refine hK _ _ ?_)); clear hK; try clear K)
     | (simp -implicitDefEqProofs only [hw, arith_64, Int.zero_sub, true_and, go_sem, seval])
     | (with_reducible intro b)
     | (with_reducible refine And.intro ?_ ?_; · first | assumption | omega | (unfold R64; omega)))
    have pC := p_Cmp hz hy Z.2.2 Y.2.2
    refine call_is pC ?_
    have hcm := cmpI_ge (a := (N64 zs : Int)) (b := (N64 ys : Int))
    repeat (first
     | (with_reducible first | refine pv_seq fun K hK => ?_ | refine pv_skip ?_ | refine pv_block ?_ | refine pv_scope ?_ | refine pv_label ?_)
     | (with_reducible refine pv_reg ?_; simp -implicitDefEqProofs only [comp_nil, comp_cons, compD_nil, compD_cons, gsl_none, gsl_some, List.getElem?_cons_zero, List.getElem?_cons_succ, Option.map_some, Option.bind_some, lapp_cons, lapp_nil])
     | (fail)
     | (with_reducible refine pv_condT ?_ ?_; · simp -implicitDefEqProofs only [hcm, true_and, go_sem, seval] <;> rfl)
     | (with_reducible refine pv_condF ?_ ?_; · simp -implicitDefEqProofs only [hcm, true_and, go_sem, seval] <;> rfl)
     | (with_reducible refine pv_exit ?_; simp only [↓reduceIte, Nat.reduceEqDiff])
     | (with_reducible refine pv_ret ?_; simp -implicitDefEqProofs only [retC, retS, retR, resD, oneD, coeDs_nil, coeDs_cons, coeD_agg, coeD_g, coeD_nil, coeD_own, coeCs_nil, coeCs_cons, coeC_g, coeC_nil, coeC_own, hcm, true_and, go_sem, seval])
     | ((with_reducible first | refine hK _ _ ?_ | (clear hK; refine hK _ _ ?_) | (clear hK; clear hK; refine hK _ _ ?_)); clear hK; try clear K)
     | (simp -implicitDefEqProofs only [hcm, true_and, go_sem, seval])
     | (with_reducible intro b)
     | (with_reducible refine And.intro ?_ ?_; · first | assumption | omega | (unfold R64; omega)))
    refine pv_condD (by simp -implicitDefEqProofs only [hcm, true_and, go_sem, seval] <;> rfl) (fun ht => ?_) (fun ht => ?_)
    · repeat (first
       | (with_reducible first | refine pv_seq fun K hK => ?_ | refine pv_skip ?_ | refine pv_block ?_ | refine pv_scope ?_ | refine pv_label ?_)
       | (with_reducible refine pv_reg ?_; simp -implicitDefEqProofs only [comp_nil, comp_cons, compD_nil, compD_cons, gsl_none, gsl_some, List.getElem?_cons_zero, List.getElem?_cons_succ, Option.map_some, Option.bind_some, lapp_cons, lapp_nil])
       | (fail)
       | (with_reducible refine pv_condT ?_ ?_; · simp -implicitDefEqProofs only [hcm, true_and, go_sem, seval] <;> rfl)
       | (with_reducible refine pv_condF ?_ ?_; · simp -implicitDefEqProofs only [hcm, true_and, go_sem, seval] <;> rfl)
       | (with_reducible refine pv_exit ?_; simp only [↓reduceIte, Nat.reduceEqDiff])
       | (with_reducible refine pv_ret ?_; simp -implicitDefEqProofs only [retC, retS, retR, resD, oneD, coeDs_nil, coeDs_cons, coeD_agg, coeD_g, coeD_nil, coeD_own, coeCs_nil, coeCs_cons, coeC_g, coeC_nil, coeC_own, hcm, true_and, go_sem, seval])
       | ((with_reducible first | refine hK _ _ ?_ | (clear hK; refine hK _ _ ?_) | (clear hK; clear hK; refine hK _ _ ?_)); clear hK; try clear K)
       | (simp -implicitDefEqProofs only [hcm, true_and, go_sem, seval])
       | (with_reducible intro b)
       | (with_reducible refine And.intro ?_ ?_; · first | assumption | omega | (unfold R64; omega)))
    · have hlt : N64 zs < N64 ys := by omega
      have s2 := Mw_add pxy (Mw_up z (show 40 ≤ 80 by decide))
      have S2 := Wd.d (Mw_up s2 (show 81 ≤ 1000 by decide))
      have hdiv := p_Div S2.1 hy S2.2.2 Y.2.2
      rw [S2.2.1, if_neg (by omega), Nat.mul_comm (N64 xs), Nat.mul_add_div (by omega), Nat.mul_add_mod, Nat.div_eq_of_lt hlt, Nat.mod_eq_of_lt hlt, Nat.add_zero, Nat.mul_comm (N64 ys)] at hdiv
      repeat (first
       | (with_reducible first | refine pv_seq fun K hK => ?_ | refine pv_skip ?_ | refine pv_block ?_ | refine pv_scope ?_ | refine pv_label ?_)
       | (with_reducible refine pv_reg ?_; simp -implicitDefEqProofs only [comp_nil, comp_cons, compD_nil, compD_cons, gsl_none, gsl_some, List.getElem?_cons_zero, List.getElem?_cons_succ, Option.map_some, Option.bind_some, lapp_cons, lapp_nil])
       | (fail)
       | (with_reducible refine pv_condT ?_ ?_; · simp -implicitDefEqProofs only [hcm, true_and, go_sem, seval] <;> rfl)
       | (with_reducible refine pv_condF ?_ ?_; · simp -implicitDefEqProofs only [hcm, true_and, go_sem, seval] <;> rfl)
       | (with_reducible refine pv_exit ?_; simp only [↓reduceIte, Nat.reduceEqDiff])
       | (with_reducible refine pv_ret ?_; simp -implicitDefEqProofs only [retC, retS, retR, resD, oneD, coeDs_nil, coeDs_cons, coeD_agg, coeD_g, coeD_nil, coeD_own, coeCs_nil, coeCs_cons, coeC_g, coeC_nil, coeC_own, hcm, true_and, go_sem, seval])
       | ((with_reducible first | refine hK _ _ ?_ | (clear hK; refine hK _ _ ?_) | (clear hK; clear hK; refine hK _ _ ?_)); clear hK; try clear K)
       | (simp -implicitDefEqProofs only [hcm, true_and, go_sem, seval])
       | (with_reducible intro b)
       | (with_reducible refine And.intro ?_ ?_; · first | assumption | omega | (unfold R64; omega)))
      refine call_is (w_Mul X Y) ?_
      repeat (first
       | (with_reducible first | refine pv_seq fun K hK => ?_ | refine pv_skip ?_ | refine pv_block ?_ | refine pv_scope ?_ | refine pv_label ?_)
       | (with_reducible refine pv_reg ?_; simp -implicitDefEqProofs only [comp_nil, comp_cons, compD_nil, compD_cons, gsl_none, gsl_some, List.getElem?_cons_zero, List.getElem?_cons_succ, Option.map_some, Option.bind_some, lapp_cons, lapp_nil])
       | (fail)
       | (with_reducible refine pv_condT ?_ ?_; · simp -implicitDefEqProofs only [hcm, true_and, go_sem, seval] <;> rfl)
       | (with_reducible refine pv_condF ?_ ?_; · simp -implicitDefEqProofs only [hcm, true_and, go_sem, seval] <;> rfl)
       | (with_reducible refine pv_exit ?_; simp only [↓reduceIte, Nat.reduceEqDiff])
       | (with_reducible refine pv_ret ?_; simp -implicitDefEqProofs only [retC, retS, retR, resD, oneD, coeDs_nil, coeDs_cons, coeD_agg, coeD_g, coeD_nil, coeD_own, coeCs_nil, coeCs_cons, coeC_g, coeC_nil, coeC_own, hcm, true_and, go_sem, seval])
       | ((with_reducible first | refine hK _ _ ?_ | (clear hK; refine hK _ _ ?_) | (clear hK; clear hK; refine hK _ _ ?_)); clear hK; try clear K)
       | (simp -implicitDefEqProofs only [hcm, true_and, go_sem, seval])
       | (with_reducible intro b)
       | (with_reducible refine And.intro ?_ ?_; · first | assumption | omega | (unfold R64; omega)))
      refine call_is (w_Add PXY Z) ?_
      repeat (first
       | (with_reducible first | refine pv_seq fun K hK => ?_ | refine pv_skip ?_ | refine pv_block ?_ | refine pv_scope ?_ | refine pv_label ?_)
       | (with_reducible refine pv_reg ?_; simp -implicitDefEqProofs only [comp_nil, comp_cons, compD_nil, compD_cons, gsl_none, gsl_some, List.getElem?_cons_zero, List.getElem?_cons_succ, Option.map_some, Option.bind_some, lapp_cons, lapp_nil])
       | (fail)
       | (with_reducible refine pv_condT ?_ ?_; · simp -implicitDefEqProofs only [hcm, true_and, go_sem, seval] <;> rfl)
       | (with_reducible refine pv_condF ?_ ?_; · simp -implicitDefEqProofs only [hcm, true_and, go_sem, seval] <;> rfl)
       | (with_reducible refine pv_exit ?_; simp only [↓reduceIte, Nat.reduceEqDiff])
       | (with_reducible refine pv_ret ?_; simp -implicitDefEqProofs only [retC, retS, retR, resD, oneD, coeDs_nil, coeDs_cons, coeD_agg, coeD_g, coeD_nil, coeD_own, coeCs_nil, coeCs_cons, coeC_g, coeC_nil, coeC_own, hcm, true_and, go_sem, seval])
       | ((with_reducible first | refine hK _ _ ?_ | (clear hK; refine hK _ _ ?_) | (clear hK; clear hK; refine hK _ _ ?_)); clear hK; try clear K)
       | (simp -implicitDefEqProofs only [hcm, true_and, go_sem, seval])
       | (with_reducible intro b)
       | (with_reducible refine And.intro ?_ ?_; · first | assumption | omega | (unfold R64; omega)))
      refine call_is hdiv ?_
      repeat (first
       | (with_reducible first | refine pv_seq fun K hK => ?_ | refine pv_skip ?_ | refine pv_block ?_ | refine pv_scope ?_ | refine pv_label ?_)
       | (with_reducible refine pv_reg ?_; simp -implicitDefEqProofs only [comp_nil, comp_cons, compD_nil, compD_cons, gsl_none, gsl_some, List.getElem?_cons_zero, List.getElem?_cons_succ, Option.map_some, Option.bind_some, lapp_cons, lapp_nil])
       | (fail)
       | (with_reducible refine pv_condT ?_ ?_; · simp -implicitDefEqProofs only [hcm, true_and, go_sem, seval] <;> rfl)
       | (with_reducible refine pv_condF ?_ ?_; · simp -implicitDefEqProofs only [hcm, true_and, go_sem, seval] <;> rfl)
       | (with_reducible refine pv_exit ?_; simp only [↓reduceIte, Nat.reduceEqDiff])
       | (with_reducible refine pv_ret ?_; simp -implicitDefEqProofs only [retC, retS, retR, resD, oneD, coeDs_nil, coeDs_cons, coeD_agg, coeD_g, coeD_nil, coeD_own, coeCs_nil, coeCs_cons, coeC_g, coeC_nil, coeC_own, hcm, true_and, go_sem, seval])
       | ((with_reducible first | refine hK _ _ ?_ | (clear hK; refine hK _ _ ?_) | (clear hK; clear hK; refine hK _ _ ?_)); clear hK; try clear K)
       | (simp -implicitDefEqProofs only [hcm, true_and, go_sem, seval])
       | (with_reducible intro b)
       | (with_reducible refine And.intro ?_ ?_; · first | assumption | omega | (unfold R64; omega)))
      refine call_is (w_Words (Mw_up x (by decide)) rfl) ?_
      repeat (first
       | (with_reducible first | refine pv_seq fun K hK => ?_ | refine pv_skip ?_ | refine pv_block ?_ | refine pv_scope ?_ | refine pv_label ?_)
       | (with_reducible refine pv_reg ?_; simp -implicitDefEqProofs only [comp_nil, comp_cons, compD_nil, compD_cons, gsl_none, gsl_some, List.getElem?_cons_zero, List.getElem?_cons_succ, Option.map_some, Option.bind_some, lapp_cons, lapp_nil])
       | (fail)
       | (with_reducible refine pv_condT ?_ ?_; · simp -implicitDefEqProofs only [hcm, true_and, go_sem, seval] <;> rfl)
       | (with_reducible refine pv_condF ?_ ?_; · simp -implicitDefEqProofs only [hcm, true_and, go_sem, seval] <;> rfl)
       | (with_reducible refine pv_exit ?_; simp only [↓reduceIte, Nat.reduceEqDiff])
       | (with_reducible refine pv_ret ?_; simp -implicitDefEqProofs only [retC, retS, retR, resD, oneD, coeDs_nil, coeDs_cons, coeD_agg, coeD_g, coeD_nil, coeD_own, coeCs_nil, coeCs_cons, coeC_g, coeC_nil, coeC_own, hcm, true_and, go_sem, seval])
       | ((with_reducible first | refine hK _ _ ?_ | (clear hK; refine hK _ _ ?_) | (clear hK; clear hK; refine hK _ _ ?_)); clear hK; try clear K)
       | (simp -implicitDefEqProofs only [hcm, true_and, go_sem, seval])
       | (with_reducible intro b)
       | (with_reducible refine And.intro ?_ ?_; · first | assumption | omega | (unfold R64; omega)))
      refine call_is (p_Trim hz Z.2.2) ?_
      repeat (first
       | (with_reducible first | refine pv_seq fun K hK => ?_ | refine pv_skip ?_ | refine pv_block ?_ | refine pv_scope ?_ | refine pv_label ?_)
       | (with_reducible refine pv_reg ?_; simp -implicitDefEqProofs only [comp_nil, comp_cons, compD_nil, compD_cons, gsl_none, gsl_some, List.getElem?_cons_zero, List.getElem?_cons_succ, Option.map_some, Option.bind_some, lapp_cons, lapp_nil])
       | (fail)
       | (with_reducible refine pv_condT ?_ ?_; · simp -implicitDefEqProofs only [hcm, true_and, go_sem, seval] <;> rfl)
       | (with_reducible refine pv_condF ?_ ?_; · simp -implicitDefEqProofs only [hcm, true_and, go_sem, seval] <;> rfl)
       | (with_reducible refine pv_exit ?_; simp only [↓reduceIte, Nat.reduceEqDiff])
       | (with_reducible refine pv_ret ?_; simp -implicitDefEqProofs only [retC, retS, retR, resD, oneD, coeDs_nil, coeDs_cons, coeD_agg, coeD_g, coeD_nil, coeD_own, coeCs_nil, coeCs_cons, coeC_g, coeC_nil, coeC_own, hcm, true_and, go_sem, seval])
       | ((with_reducible first | refine hK _ _ ?_ | (clear hK; refine hK _ _ ?_) | (clear hK; clear hK; refine hK _ _ ?_)); clear hK; try clear K)
       | (simp -implicitDefEqProofs only [hcm, true_and, go_sem, seval])
       | (with_reducible intro b)
       | (with_reducible refine And.intro ?_ ?_; · first | assumption | omega | (unfold R64; omega)))
      refine call_is (w_Words (Mw_up z (by decide)) rfl) ?_
      repeat (first
       | (with_reducible first | refine pv_seq fun K hK => ?_ | refine pv_skip ?_ | refine pv_block ?_ | refine pv_scope ?_ | refine pv_label ?_)
       | (with_reducible refine pv_reg ?_; simp -implicitDefEqProofs only [comp_nil, comp_cons, compD_nil, compD_cons, gsl_none, gsl_some, List.getElem?_cons_zero, List.getElem?_cons_succ, Option.map_some, Option.bind_some, lapp_cons, lapp_nil])
       | (fail)
       | (with_reducible refine pv_condT ?_ ?_; · simp -implicitDefEqProofs only [hcm, true_and, go_sem, seval] <;> rfl)
       | (with_reducible refine pv_condF ?_ ?_; · simp -implicitDefEqProofs only [hcm, true_and, go_sem, seval] <;> rfl)
       | (with_reducible refine pv_exit ?_; simp only [↓reduceIte, Nat.reduceEqDiff])
       | (with_reducible refine pv_ret ?_; simp -implicitDefEqProofs only [retC, retS, retR, resD, oneD, coeDs_nil, coeDs_cons, coeD_agg, coeD_g, coeD_nil, coeD_own, coeCs_nil, coeCs_cons, coeC_g, coeC_nil, coeC_own, hcm, true_and, go_sem, seval])
       | ((with_reducible first | refine hK _ _ ?_ | (clear hK; refine hK _ _ ?_) | (clear hK; clear hK; refine hK _ _ ?_)); clear hK; try clear K)
       | (simp -implicitDefEqProofs only [hcm, true_and, go_sem, seval])
       | (with_reducible intro b)
       | (with_reducible refine And.intro ?_ ?_; · first | assumption | omega | (unfold R64; omega)))
  · have hf : decide (∀ l ∈ [xs, ys, zs], l.length ≤ 40) = false := by simpa using hl
    rw [hf]
    repeat (first
     | (with_reducible first | refine pv_seq fun K hK => ?_ | refine pv_skip ?_ | refine pv_block ?_ | refine pv_scope ?_ | refine pv_label ?_)
     | (with_reducible refine pv_reg ?_; simp -implicitDefEqProofs only [comp_nil, comp_cons, compD_nil, compD_cons, gsl_none, gsl_some, List.getElem?_cons_zero, List.getElem?_cons_succ, Option.map_some, Option.bind_some, lapp_cons, lapp_nil])
     | (fail)
     | (with_reducible refine pv_condT ?_ ?_; · simp -implicitDefEqProofs only [true_and, go_sem, seval] <;> rfl)
     | (with_reducible refine pv_condF ?_ ?_; · simp -implicitDefEqProofs only [true_and, go_sem, seval] <;> rfl)
     | (with_reducible refine pv_exit ?_; simp only [↓reduceIte, Nat.reduceEqDiff])
     | (with_reducible refine pv_ret ?_; simp -implicitDefEqProofs only [retC, retS, retR, resD, oneD, coeDs_nil, coeDs_cons, coeD_agg, coeD_g, coeD_nil, coeD_own, coeCs_nil, coeCs_cons, coeC_g, coeC_nil, coeC_own, true_and, go_sem, seval])
     | ((with_reducible first | refine hK _ _ ?_ | (clear hK; refine hK _ _ ?_) | (clear hK; clear hK; refine hK _ _ ?_)); clear hK; try clear K)
     | (simp -implicitDefEqProofs only [true_and, go_sem, seval])
     | (with_reducible intro b)
     | (with_reducible refine And.intro ?_ ?_; · first | assumption | omega | (unfold R64; omega)))

end Go.V

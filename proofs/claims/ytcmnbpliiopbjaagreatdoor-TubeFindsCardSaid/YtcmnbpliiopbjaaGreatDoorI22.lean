/- The seat's deck: intervals, numbers and parts of intervals. -/
import Derived.Test.YtcmnbpliiopbjaaGreatDoorI5
import Derived.Test.YtcmnbpliiopbjaaGreatDoorI7
import Derived.Test.YtcmnbpliiopbjaaGreatDoorPS
set_option linter.unusedSimpArgs false
set_option linter.unusedVariables false
set_option maxRecDepth 100000
namespace Go.V
open Go Go.RowKit Go.Proofs

theorem p_Between {a b : Dyadic} (ha : OkD a) (hb : OkD b) : PC Tryz.prog 10 [NU (nuOf a), NU (nuOf b)] fun d => d = IV (ivD (loD a b) (hiD a b)) := by
  have pC := p_rCmpD ha hb
  have k1 : (0 < cmpD a b) = (b < a) := cmpD_0lt
  unfold loD hiD ivD
  by_cases h : b < a
  · rw [if_pos h, if_neg (by grind)]
    rw [eq_true h] at k1
    generalize cmpD a b = c at *
    generalize nuOf a = X at *
    generalize nuOf b = Y at *
    obtain ⟨n1, e1, w1⟩ := X
    obtain ⟨n2, e2, w2⟩ := Y
    refine PB (rs := [.cell 4 34]) Tryz.func10 ?_
    have ft := k1
    exact Wk
  · rw [if_neg h, show (if a < b then b else a) = b by split <;> grind]
    rw [eq_false h] at k1
    generalize cmpD a b = c at *
    generalize nuOf a = X at *
    generalize nuOf b = Y at *
    obtain ⟨n1, e1, w1⟩ := X
    obtain ⟨n2, e2, w2⟩ := Y
    refine PB (rs := [.cell 4 34]) Tryz.func10 ?_
    have ft := k1
    exact Wk
theorem lo_le_hi (a b : Dyadic) : loD a b ≤ hiD a b := by have h1 := loD_le a b; have h2 := hiD_ge a b; grind
theorem abs_nn (d : Dyadic) : 0 ≤ absD d := dy_nn _ _
theorem p_dYes {k : Nm} {S : Store} {Q : D → Store → Prop} {b i n : Nat} {w : List Nat} (hS : S k = some ⟨b, 2, 0, [[W64 w, i64 i]]⟩) (hb : B64 w) (hi : i ≤ 1000000000) (hn : 0 < n) (hn2 : n ≤ 1099511627776)
    (hQ : ∀ t, Q (bl t) (updS S k (some ⟨b, 2, 0, [[W64 w, i64 ((i + 1 : Nat) : Int)]]⟩))) : PFC Tryz.prog 74 [.ptr k b 0 0 2, i64 n] S Q := by
  refine PFB (rs := [.tmp 4]) Tryz.func74 ?_
  repeat (first | with_reducible refine pv_seq fun K hK => ?_ | ((with_reducible first | refine hK _ _ ?_ | (clear hK; refine hK _ _ ?_) | (clear hK; clear hK; refine hK _ _ ?_)); clear hK; try clear K) | refine W0 ?_ | exact Z | with_reducible intro b)
  refine p_dN (n := n) (i := i) (by simp -implicitDefEqProofs only [updS, upS]; exact hS) hb (by omega) hn hn2 (fun r hr => ?_)
  have hq := hQ (decide ((r : Int) = (n : Int) - 1))
  repeat (first | with_reducible refine pv_seq fun K hK => ?_ | ((with_reducible first | refine hK _ _ ?_ | (clear hK; refine hK _ _ ?_) | (clear hK; clear hK; refine hK _ _ ?_)); clear hK; try clear K) | refine W0 ?_ | exact Z | with_reducible intro b)
  exact hq
set_option maxHeartbeats 1000000 in
theorem p_dSmallIv {k : Nm} {S : Store} {Q : D → Store → Prop} {b i : Nat} {w : List Nat} (hS : S k = some ⟨b, 2, 0, [[W64 w, i64 i]]⟩) (hb : B64 w) (hi : i ≤ 900000000)
    (hQ : ∀ (x y : Dyadic) (j : Nat), Sm 14 6 x → Sm 14 6 y → x ≤ y → j ≤ i + 3 → Q (IV (ivD x y)) (updS S k (some ⟨b, 2, 0, [[W64 w, i64 (j : Int)]]⟩))) : PFC Tryz.prog 47 [.ptr k b 0 0 2] S Q := by
  refine PFB (rs := [.cell 2 34]) Tryz.func47 ?_
  repeat (first | with_reducible refine pv_seq fun K hK => ?_ | ((with_reducible first | refine hK _ _ ?_ | (clear hK; refine hK _ _ ?_) | (clear hK; clear hK; refine hK _ _ ?_)); clear hK; try clear K) | refine W0 ?_ | exact Z | with_reducible intro b)
  refine p_dYes (n := 3) (i := i) (by simp -implicitDefEqProofs only [updS, upS]; exact hS) hb (by omega) (by decide) (by decide) (fun r => ?_)
  cases r
  · repeat (first | with_reducible refine pv_seq fun K hK => ?_ | ((with_reducible first | refine hK _ _ ?_ | (clear hK; refine hK _ _ ?_) | (clear hK; clear hK; refine hK _ _ ?_)); clear hK; try clear K) | refine W0 ?_ | exact Z | with_reducible intro b)
    refine p_smallD (i := i + 1) (by simp -implicitDefEqProofs only [updS, upS, if_true]; rfl) hb (by omega) (fun d sd bd => ?_)
    repeat (first | with_reducible refine pv_seq fun K hK => ?_ | ((with_reducible first | refine hK _ _ ?_ | (clear hK; refine hK _ _ ?_) | (clear hK; clear hK; refine hK _ _ ?_)); clear hK; try clear K) | refine W0 ?_ | exact Z | with_reducible intro b)
    refine p_smallD (i := i + 2) (by simp -implicitDefEqProofs only [updS, upS, if_true]; rfl) hb (by omega) (fun c sc bc => ?_)
    have od := sd.ok (by decide) (by decide)
    have oc := sc.ok (by decide) (by decide)
    have pB := p_Between od oc
    have hq := hQ (loD d c) (hiD d c) (i + 3) (by unfold loD; split <;> assumption) (by unfold hiD; split <;> assumption) (lo_le_hi d c) (by omega)
    repeat (first | with_reducible refine pv_seq fun K hK => ?_ | ((with_reducible first | refine hK _ _ ?_ | (clear hK; refine hK _ _ ?_) | (clear hK; clear hK; refine hK _ _ ?_)); clear hK; try clear K) | refine W ?_ | exact Z | with_reducible intro b)
    simp only [updS_updS]
    exact hq
  · repeat (first | with_reducible refine pv_seq fun K hK => ?_ | ((with_reducible first | refine hK _ _ ?_ | (clear hK; refine hK _ _ ?_) | (clear hK; clear hK; refine hK _ _ ?_)); clear hK; try clear K) | refine W0 ?_ | exact Z | with_reducible intro b)
    refine p_smallD (i := i + 1) (by simp -implicitDefEqProofs only [updS, upS, if_true]; rfl) hb (by omega) (fun d sd bd => ?_)
    have pP := p_rPoint (x := nuOf d)
    have hq := hQ d d (i + 2) sd sd (by grind) (by omega)
    repeat (first | with_reducible refine pv_seq fun K hK => ?_ | ((with_reducible first | refine hK _ _ ?_ | (clear hK; refine hK _ _ ?_) | (clear hK; clear hK; refine hK _ _ ?_)); clear hK; try clear K) | refine W ?_ | exact Z | with_reducible intro b)
    simp only [updS_updS]
    exact hq
end Go.V

/- The statement IvPowers of layer 5. -/
import Derived.Test.YtkjjmhdlcebnnaaGreatDoorZI25
set_option linter.unusedSimpArgs false
set_option linter.unusedVariables false
set_option maxRecDepth 100000
namespace Go.V
open Go Go.RowKit Go.Proofs

set_option maxHeartbeats 2000000 in
theorem p_IvPowers {a : Iv} {w : List Nat} {k p : Int} (ha : Bi a) (hb : B64 w) : PC Tryz.prog 5 [IV a, W64 w, i64 k, i64 p] fun d => d = bl true := by
  have pK := p_known5
  have pL := p_light5 (xs := [a]) (by simp)
  by_cases hl : ∀ z ∈ [a], lightI z
  · rw [decide_eq_true hl] at pL
    have hw := ha.wi (hl a (by simp))
    have c1 := p_iPow (k := k) (p := p) hw
    have c2 := p_rPow (k := k) (p := p) hw
    have s1 := same_ln (pwI_len (a := a) (k := k) (p := p))
    clear hl ha hw
    generalize pwI a k p = q at *
    obtain ⟨⟨⟨n1, e1, w1⟩, ⟨n2, e2, w2⟩⟩, r⟩ := q
    obtain ⟨⟨n5, e5, w5⟩, ⟨n6, e6, w6⟩⟩ := a
    rw [← II_1] at pL
    simp only [eI_0] at pL
    have k1 : (r = r) = True := eq_true rfl
    refine PB (rs := [.tmp 8]) Tryz.func5 ?_
    have ft := k1
    repeat (first | with_reducible refine pv_seq fun K hK => ?_ | ((with_reducible first | refine hK _ _ ?_ | (clear hK; refine hK _ _ ?_) | (clear hK; clear hK; refine hK _ _ ?_)); clear hK; try clear K) | refine W ?_ | exact Z | with_reducible intro b)
    refine p_Of (fun b0 => ?_)
    repeat (first | with_reducible refine pv_seq fun K hK => ?_ | ((with_reducible first | refine hK _ _ ?_ | (clear hK; refine hK _ _ ?_) | (clear hK; clear hK; refine hK _ _ ?_)); clear hK; try clear K) | refine W0 ?_ | exact Z | with_reducible intro b)
    refine p_dIv (i := 0) (by simp -implicitDefEqProofs only [updS, upS, if_true]; rfl) hb (by omega) (fun x y j1 ox oy hxy l1 => ?_)
    repeat (first | with_reducible refine pv_seq fun K hK => ?_ | ((with_reducible first | refine hK _ _ ?_ | (clear hK; refine hK _ _ ?_) | (clear hK; clear hK; refine hK _ _ ?_)); clear hK; try clear K) | refine W0 ?_ | exact Z | with_reducible intro b)
    refine p_dPrec (i := j1) (by simp -implicitDefEqProofs only [updS, upS, if_true]; rfl) hb (by omega) (fun q j3 p1 p2 l3 => ?_)
    repeat (first | with_reducible refine pv_seq fun K hK => ?_ | ((with_reducible first | refine hK _ _ ?_ | (clear hK; refine hK _ _ ?_) | (clear hK; clear hK; refine hK _ _ ?_)); clear hK; try clear K) | refine W ?_ | exact Z | with_reducible intro b)
    have J : ∀ (e : DEnv) (S : Store), K e S := by
      intro e S
      have ft := true_and
      exact Wk
    clear hK
    refine pv_loop (fun e S => ∃ (i b10 : Nat), i ≤ 9 ∧ e 16 = i64 i ∧ e 11 = i64 q ∧ e 10 = .ptr (.l 10) b10 0 0 6 ∧ S (.l 10) = some ⟨b10, 6, 0, [[bl (nuOf x).neg, i64 (nuOf x).exp, W64 (nuOf x).w, bl (nuOf y).neg, i64 (nuOf y).exp, W64 (nuOf y).w]]⟩) (fun e _ => 9 - (intD (e 16)).toNat) ?_ ?_
    · have ft := true_and
      exact ⟨0, _, by omega, Zr, Zr, Zr, Zr⟩
    · rintro e S ⟨i, b10, hi, g16, g11, g10, s10⟩
      clear c1 c2 s1
      have wa := wi_D ox oy
      have c1 := p_iPow (k := (i : Int)) (p := q) wa
      have c2 := p_rPow (k := (i : Int)) (p := q) wa
      have s1 := same_ln (pwI_len (a := ivD x y) (k := (i : Int)) (p := q))
      generalize pwI (ivD x y) i q = t at *
      obtain ⟨⟨⟨m1, f1, v1⟩, ⟨m2, f2, v2⟩⟩, r2⟩ := t
      unfold ivD at *
      have k2 : (r2 = r2) = True := eq_true rfl
      by_cases h8 : i ≤ 8
      · have k8 : ((i : Int) ≤ 8) = True := eq_true (by omega)
        have ft := And.intro g16 (And.intro g11 (And.intro g10 (And.intro s10 (And.intro k8 k2))))
        repeat (first | with_reducible refine pv_seq fun K hK => ?_ | ((with_reducible first | refine hK _ _ ?_ | (clear hK; refine hK _ _ ?_) | (clear hK; clear hK; refine hK _ _ ?_)); clear hK; try clear K) | refine W ?_ | exact Z | with_reducible intro b)
        refine ⟨⟨i + 1, b10, by omega, rfl, rfl, rfl⟩, by simp only [intD]; omega⟩
      · have k8 : ((i : Int) ≤ 8) = False := eq_false (by omega)
        have ft := And.intro g16 (And.intro g11 (And.intro g10 (And.intro s10 k8)))
        repeat (first | with_reducible refine pv_seq fun K hK => ?_ | ((with_reducible first | refine hK _ _ ?_ | (clear hK; refine hK _ _ ?_) | (clear hK; clear hK; refine hK _ _ ?_)); clear hK; try clear K) | refine W0 ?_ | exact Z | with_reducible intro b)
        exact J _ _
  · rw [decide_eq_false hl] at pL
    obtain ⟨⟨n5, e5, w5⟩, ⟨n6, e6, w6⟩⟩ := a
    rw [← II_1] at pL
    simp only [eI_0] at pL
    refine PB (rs := [.tmp 8]) Tryz.func5 ?_
    exact Wk
end Go.V

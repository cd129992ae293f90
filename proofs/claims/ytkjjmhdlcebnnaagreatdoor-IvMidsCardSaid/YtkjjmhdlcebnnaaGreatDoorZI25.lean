/- The statements IvReckons, IvParts, IvMids, IvRounds of layer 5. -/
import Derived.Test.YtkjjmhdlcebnnaaGreatDoorZIH
set_option linter.unusedSimpArgs false
set_option linter.unusedVariables false
set_option maxRecDepth 100000
namespace Go.V
open Go Go.RowKit Go.Proofs
def qI25_8_11 : List (Nat × Nat) := [(0, 0), (1, 0), (2, 0), (3, 0), (4, 0), (5, 0), (6, 0), (7, 0), (8, 0), (9, 0), (10, 0), (11, 0), (12, 0), (13, 0), (14, 1), (15, 1), (16, 3), (17, 0), (18, 0), (19, 1), (20, 1), (21, 3), (22, 0), (23, 0), (24, 1), (25, 1), (26, 3), (27, 0), (28, 0), (29, 1), (31, 2), (30, 4), (32, 3), (33, 3), (34, 0), (35, 0)]
attribute [go_sem] qI25_8_11
/-- An interval of words that come in. -/
structure Bi (a : Iv) : Prop where
  lo : B64 a.lo.w
  hi : B64 a.hi.w
theorem Bi.wi {a : Iv} (h : Bi a) (hl : lightI a) : Wi 70 a := ⟨⟨h.lo, hl.1⟩, ⟨h.hi, hl.2⟩⟩
theorem p_IvReckons {a b : Iv} {p : Int} (ha : Bi a) (hb : Bi b) : PC Tryz.prog 3 [IV a, IV b, i64 p] fun d => d = bl true := by
  have pK := p_known5
  have pL := p_light5 (xs := [a, b]) (by simp)
  by_cases hl : ∀ z ∈ [a, b], lightI z
  · rw [decide_eq_true hl] at pL
    have pF := p_four5 (p := p) (ha.wi (hl a (by simp))) (hb.wi (hl b (by simp)))
    obtain ⟨⟨n1, e1, w1⟩, ⟨n2, e2, w2⟩⟩ := a
    obtain ⟨⟨n3, e3, w3⟩, ⟨n4, e4, w4⟩⟩ := b
    rw [← II_2] at pL
    simp only [eI_0] at pL
    refine PB (rs := [.tmp 6]) Tryz.func3 ?_
    exact Wk
  · rw [decide_eq_false hl] at pL
    obtain ⟨⟨n1, e1, w1⟩, ⟨n2, e2, w2⟩⟩ := a
    obtain ⟨⟨n3, e3, w3⟩, ⟨n4, e4, w4⟩⟩ := b
    rw [← II_2] at pL
    simp only [eI_0] at pL
    refine PB (rs := [.tmp 6]) Tryz.func3 ?_
    exact Wk
theorem p_IvParts {a b : Iv} {x : Nu} (ha : Bi a) (hb : Bi b) (hx : B64 x.w) : PC Tryz.prog 9 [IV a, IV b, NU x] fun d => d = bl true := by
  have pK := p_known5
  have pL := p_light5 (xs := [a, b]) (by simp)
  by_cases hl : ∀ z ∈ [a, b], lightI z
  · rw [decide_eq_true hl] at pL
    by_cases h7 : x.w.length ≤ 70
    · have pF := p_parts (ha.wi (hl a (by simp))) (hb.wi (hl b (by simp))) ⟨hx, h7⟩ (by decide)
      have k7 : ((70 : Int) < (x.w.length : Int)) = False := eq_false (by omega)
      obtain ⟨⟨n1, e1, w1⟩, ⟨n2, e2, w2⟩⟩ := a
      obtain ⟨⟨n3, e3, w3⟩, ⟨n4, e4, w4⟩⟩ := b
      obtain ⟨n5, e5, w5⟩ := x
      rw [← II_2] at pL
      simp only [eI_0] at pL
      simp only at k7
      refine PB (rs := [.tmp 6]) Tryz.func9 ?_
      have ft := k7
      exact Wk
    · have k7 : ((70 : Int) < (x.w.length : Int)) = True := eq_true (by omega)
      obtain ⟨⟨n1, e1, w1⟩, ⟨n2, e2, w2⟩⟩ := a
      obtain ⟨⟨n3, e3, w3⟩, ⟨n4, e4, w4⟩⟩ := b
      obtain ⟨n5, e5, w5⟩ := x
      rw [← II_2] at pL
      simp only [eI_0] at pL
      simp only at k7
      refine PB (rs := [.tmp 6]) Tryz.func9 ?_
      have ft := k7
      exact Wk
  · rw [decide_eq_false hl] at pL
    obtain ⟨⟨n1, e1, w1⟩, ⟨n2, e2, w2⟩⟩ := a
    obtain ⟨⟨n3, e3, w3⟩, ⟨n4, e4, w4⟩⟩ := b
    obtain ⟨n5, e5, w5⟩ := x
    rw [← II_2] at pL
    simp only [eI_0] at pL
    refine PB (rs := [.tmp 6]) Tryz.func9 ?_
    exact Wk
theorem mdI_len {a : Iv} {p : Int} : (mdI a p).1.w.length ≤ 1099511627776 := by
  unfold mdI; split
  · exact numR_len
  · decide
theorem rdI_len {a : Iv} {p : Int} : (rdI a p).1.w.length ≤ 1099511627776 := by
  unfold rdI; split
  · exact numR_len
  · exact Nat.zero_le _
theorem wdI_len {a : Iv} {p : Int} : (wdI a p).1.w.length ≤ 1099511627776 := by
  unfold wdI; split
  · exact numR_len
  · decide
set_option maxHeartbeats 1000000 in
theorem p_IvMids {a : Iv} {p : Int} (ha : Bi a) : PC Tryz.prog 8 [IV a, i64 p] fun d => d = bl true := by
  have pK := p_known5
  have pL := p_light5 (xs := [a]) (by simp)
  by_cases hl : ∀ z ∈ [a], lightI z
  · rw [decide_eq_true hl] at pL
    have hw := ha.wi (hl a (by simp))
    have c1 := p_iMid (p := p) hw
    have c2 := p_iRad (p := p) hw
    have c3 := p_iWide (p := p) hw
    have c4 := p_rMid (p := p) hw
    have c5 := p_rRad (p := p) hw
    have c6 := p_rWide (p := p) hw
    have c7 := p_MagI hw
    have c8 := p_rMag hw
    have s1 := same_rfl (mdI_len (a := a) (p := p))
    have s2 := same_rfl (rdI_len (a := a) (p := p))
    have s3 := same_rfl (wdI_len (a := a) (p := p))
    have s4 := same_rfl (magI_len hw)
    clear hl ha hw
    generalize mdI a p = q1 at *
    generalize rdI a p = q2 at *
    generalize wdI a p = q3 at *
    generalize magI a = q4 at *
    obtain ⟨⟨n1, e1, w1⟩, r1⟩ := q1
    obtain ⟨⟨n2, e2, w2⟩, r2⟩ := q2
    obtain ⟨⟨n3, e3, w3⟩, r3⟩ := q3
    obtain ⟨n4, e4, w4⟩ := q4
    obtain ⟨⟨n5, e5, w5⟩, ⟨n6, e6, w6⟩⟩ := a
    rw [← II_1] at pL
    simp only [eI_0] at pL
    have k1 : (r1 = r1) = True := eq_true rfl
    have k2 : (r2 = r2) = True := eq_true rfl
    have k3 : (r3 = r3) = True := eq_true rfl
    have d1 := @dl 11 qI25_8_11
    refine PB (rs := [.tmp 4]) Tryz.func8 ?_
    have ft := And.intro k1 (And.intro k2 k3)
    exact Wk
  · rw [decide_eq_false hl] at pL
    obtain ⟨⟨n5, e5, w5⟩, ⟨n6, e6, w6⟩⟩ := a
    rw [← II_1] at pL
    simp only [eI_0] at pL
    have d1 := @dl 11 qI25_8_11
    refine PB (rs := [.tmp 4]) Tryz.func8 ?_
    exact Wk
theorem hfD_two (d : Dyadic) : hfD d + hfD d = d := by
  have e2 : dy false 1 (-1) + dy false 1 (-1) = 1 := by decide
  unfold hfD
  generalize dy false 1 (-1) = t at *
  grind
theorem numR_two {d : Dyadic} : (OkD d ∧ numR d = (nuOf d, 0)) ∨ numR d = (nu0, 2) := by
  by_cases h : OkD d
  · exact .inl ⟨h, numR_ok h⟩
  · exact .inr (numR_over h)
set_option maxHeartbeats 4000000 in
theorem p_IvRounds {w : List Nat} (hb : B64 w) : PC Tryz.prog 11 [W64 w] fun d => d = bl true := by
  have pK := p_known5
  refine PB (rs := [.tmp 2]) Tryz.func11 ?_
  repeat (first | with_reducible refine pv_seq fun K hK => ?_ | ((with_reducible first | refine hK _ _ ?_ | (clear hK; refine hK _ _ ?_) | (clear hK; clear hK; refine hK _ _ ?_)); clear hK; try clear K) | refine W ?_ | exact Z | with_reducible intro b)
  refine p_Of (fun b0 => ?_)
  repeat (first | with_reducible refine pv_seq fun K hK => ?_ | ((with_reducible first | refine hK _ _ ?_ | (clear hK; refine hK _ _ ?_) | (clear hK; clear hK; refine hK _ _ ?_)); clear hK; try clear K) | refine W0 ?_ | exact Z | with_reducible intro b)
  refine p_dIv (i := 0) (by simp -implicitDefEqProofs only [updS, upS, if_true]; rfl) hb (by omega) (fun x y j1 ox oy hxy l1 => ?_)
  repeat (first | with_reducible refine pv_seq fun K hK => ?_ | ((with_reducible first | refine hK _ _ ?_ | (clear hK; refine hK _ _ ?_) | (clear hK; clear hK; refine hK _ _ ?_)); clear hK; try clear K) | refine W0 ?_ | exact Z | with_reducible intro b)
  refine p_dPrec (i := j1) (by simp -implicitDefEqProofs only [updS, upS, if_true]; rfl) hb (by omega) (fun p j3 p1 p2 l3 => ?_)
  have wa := wi_D ox oy
  have c0 := p_IvMids (a := ivD x y) (p := p) ⟨wa.lo.b, wa.hi.b⟩
  have c1 := p_iMid (p := p) wa
  have c2 := p_iRad (p := p) wa
  have c3 := p_iWide (p := p) wa
  have hP := okP_of p1 p2
  have hR : rightI (ivD x y) = true := by rw [rightI_D ox oy]; exact decide_eq_true hxy
  have hm : mdI (ivD x y) p = numR (hiD x (rd p false (hfD (x + y)))) := by
    unfold mdI; rw [hR, hP]; unfold ivD; rw [val_nuOf, val_nuOf]; rfl
  have hw : wdI (ivD x y) p = numR (rd p true (y - x)) := by
    unfold wdI; rw [hR, hP]; unfold ivD; rw [val_nuOf, val_nuOf]; rfl
  rw [hm] at c1
  rw [hw] at c3
  rcases numR_two (d := hiD x (rd p false (hfD (x + y)))) with ⟨om, em⟩ | em
  · have hr : rdI (ivD x y) p = numR (rd p true (hiD (y - hiD x (rd p false (hfD (x + y)))) (hiD x (rd p false (hfD (x + y))) - x))) := by
      unfold rdI; rw [hm, em, if_pos rfl]; unfold ivD; rw [val_nuOf, val_nuOf, val_nuOf]; rfl
    rw [hr] at c2
    rw [em] at c1
    have m1 : x ≤ hiD x (rd p false (hfD (x + y))) := (hiD_ge _ _).1
    have m2 : hiD x (rd p false (hfD (x + y))) ≤ y := by
      have h1 := dn_le p (hfD (x + y))
      have h2 := hfD_two (x + y)
      rcases (hiD_ge x (rd p false (hfD (x + y)))).2.2 with e | e <;> rw [e]
      · exact hxy
      · grind
    clear hm hw hr em
    generalize hiD x (rd p false (hfD (x + y))) = m at *
    have g1 := le_up p (hiD (y - m) (m - x))
    have g2 := hiD_ge (y - m) (m - x)
    have g3 := le_up p (y - x)
    generalize hiD (y - m) (m - x) = h at *
    rcases numR_two (d := rd p true h) with ⟨oh, eh⟩ | eh
    · rw [eh] at c2
      generalize rd p true h = r at *
      rcases numR_two (d := rd p true (y - x)) with ⟨ow, ew⟩ | ew
      · rw [ew] at c3
        generalize rd p true (y - x) = v at *
        have d1 := p_nSubD om oh
        have d2 := p_nAddD om oh
        have d3 := p_nSubD oy ox
        have c4 := p_HasI wa (om.sz).b
        rw [hasR_D ox oy om m1 m2] at c4
        unfold ivD at *
        have k1 : (numR (m - r) = (nu0, 2)) ∨ ∃ k, (PC Tryz.prog 44 [NU (nuOf (m - r)), NU (nuOf x)] fun d => d = i64 k) ∧ (k ≤ 0) = True ∧ numR (m - r) = (nuOf (m - r), 0) := by
          rcases numR_two (d := m - r) with ⟨o, e⟩ | e
          · exact .inr ⟨_, p_nCmpD o ox, cmpD_le0 (by grind), e⟩
          · exact .inl e
        have k2 : (numR (m + r) = (nu0, 2)) ∨ ∃ k, (PC Tryz.prog 44 [NU (nuOf y), NU (nuOf (m + r))] fun d => d = i64 k) ∧ (k ≤ 0) = True ∧ numR (m + r) = (nuOf (m + r), 0) := by
          rcases numR_two (d := m + r) with ⟨o, e⟩ | e
          · exact .inr ⟨_, p_nCmpD oy o, cmpD_le0 (by grind), e⟩
          · exact .inl e
        have k3 : (numR (y - x) = (nu0, 2)) ∨ ∃ k, (PC Tryz.prog 44 [NU (nuOf (y - x)), NU (nuOf v)] fun d => d = i64 k) ∧ (k ≤ 0) = True ∧ numR (y - x) = (nuOf (y - x), 0) := by
          rcases numR_two (d := y - x) with ⟨o, e⟩ | e
          · exact .inr ⟨_, p_nCmpD o ow, cmpD_le0 (by grind), e⟩
          · exact .inl e
        clear g1 g2 g3 m1 m2
        generalize m - r = t1 at *
        generalize m + r = t2 at *
        generalize y - x = t3 at *
        rcases k1 with e1 | ⟨z1, q1, kz1, e1⟩ <;> rcases k2 with e2 | ⟨z2, q2, kz2, e2⟩ <;> rcases k3 with e3 | ⟨z3, q3, kz3, e3⟩ <;> rw [e1] at d1 <;> rw [e2] at d2 <;> rw [e3] at d3
        all_goals try unfold nu0 at *
        · exact Wk
        · have ft := kz3
          exact Wk
        · have ft := kz2
          exact Wk
        · have ft := And.intro kz2 kz3
          exact Wk
        · have ft := kz1
          exact Wk
        · have ft := And.intro kz1 kz3
          exact Wk
        · have ft := And.intro kz1 kz2
          exact Wk
        · have ft := And.intro kz1 (And.intro kz2 kz3)
          exact Wk
      · rw [ew] at c3
        (try unfold ivD at *); (try unfold nu0 at *)
        exact Wk
    · rw [eh] at c2
      rcases numR_two (d := rd p true (y - x)) with ⟨ow, ew⟩ | ew <;> rw [ew] at c3
      all_goals (try unfold ivD at *); all_goals (try unfold nu0 at *)
      · exact Wk
      · exact Wk
  · have hr : rdI (ivD x y) p = (nu0, 2) := by
      unfold rdI; rw [hm, em, if_neg (by decide)]
    rw [hr] at c2
    rw [em] at c1
    rcases numR_two (d := rd p true (y - x)) with ⟨ow, ew⟩ | ew <;> rw [ew] at c3
    all_goals (try unfold ivD at *); all_goals (try unfold nu0 at *)
    · exact Wk
    · exact Wk
end Go.V

/- Package tube over values as data: what covers what. -/
import Derived.Test.YtcmnbpliiopbjaaGreatDoorU18
set_option linter.unusedSimpArgs false
set_option linter.unusedVariables false
set_option maxRecDepth 100000
namespace Go.V
open Go Go.RowKit Go.Proofs
def qU19_21_7 : List (Nat × Nat) := [(0, 0), (1, 0), (2, 0), (3, 0), (4, 0), (5, 0), (6, 0), (7, 0), (8, 0), (9, 1), (10, 0), (11, 1), (12, 0), (13, 0)]
def qU19_21_9 : List (Nat × Nat) := [(0, 0), (1, 0), (2, 0), (3, 0), (4, 0), (5, 1), (6, 0), (7, 0), (8, 0), (9, 1), (10, 3), (11, 0), (12, 0)]
attribute [go_sem] qU19_21_7 qU19_21_9

theorem lastT_n {l : List Sg} (hg : ∀ s ∈ l, OkP s) : Wl 65536 (lastT l).t1 ∧ rightB (lastT l).t1 = true := by
  rcases lastT_ok hg with h | h
  · rw [h, show sg0.t1 = nuOf (e8 0) from nuOf_0.symm]
    have o := e8_ok (show 0 ≤ 2000 by decide)
    exact ⟨(o.sz).wl, by rw [rightB_nuOf]; exact decide_eq_true o⟩
  · exact ⟨h.b, h.rb⟩
set_option maxHeartbeats 4000000 in
theorem p_Covers {a z : List Sg} (la : a.length ≤ 100000) (lb : z.length ≤ 100000) (ga : ∀ s ∈ a, OkP s) (gb : ∀ s ∈ z, OkP s) : PC Tryz.prog 21 [SS a, SS z] fun d => d = bl (coversB a z) := by
  have pA := p_tRight la ga
  have pB := p_tRight lb gb
  have pC := p_Steps la ga
  have pD := p_Steps lb gb
  have pE := p_Until la ga
  have pF := p_Until lb gb
  have pG := p_nCmpR (lastT_n ga).1 (lastT_n gb).1 (by decide) (lastT_n ga).2 (lastT_n gb).2
  have kc := cmp_eq0 (lastT a).t1.val (lastT z).t1.val
  have kx : coversB a z = (tubeB a && tubeB z && decide ((lastT a).to = (lastT z).to) && decide (cmpD (lastT a).t1.val (lastT z).t1.val = 0) && allIn a z) := by
    unfold coversB; simp only [kc]
  rw [kx]
  clear kx kc
  generalize cmpD (lastT a).t1.val (lastT z).t1.val = c at *
  generalize (lastT a).to = ta at *
  generalize (lastT z).to = tb at *
  generalize (lastT a).t1 = ua at *
  generalize (lastT z).t1 = ub at *
  obtain ⟨n8, x8, w8⟩ := ua
  obtain ⟨n9, x9, w9⟩ := ub
  unfold SS at pA pB pC pD pE pF ⊢
  generalize hr : (tubeB a && tubeB z && decide (ta = tb) && decide (c = 0) && allIn a z) = r
  have d1 := @dl 7 qU19_21_7
  have d2 := @dl 9 qU19_21_9
  refine PB (rs := [.tmp 4]) Tryz.func21 ?_
  cases h1 : tubeB a
  · rw [h1] at pA hr
    have : r = false := by rw [← hr]; rfl
    subst this
    exact Wk
  rw [h1] at pA hr
  cases h2 : tubeB z
  · rw [h2] at pB hr
    have : r = false := by rw [← hr]; rfl
    subst this
    exact Wk
  rw [h2] at pB hr
  by_cases h3 : ta = tb
  · have h3' := eq_true h3
    by_cases h4 : c = 0
    · have h4' := eq_true h4
      have hr2 : allIn a z = r := by rw [← hr, decide_eq_true h3, decide_eq_true h4]; simp
      clear hr
      have ft := And.intro h3' h4'
      repeat (first | with_reducible refine pv_seq fun K hK => ?_ | ((with_reducible first | refine hK _ _ ?_ | (clear hK; refine hK _ _ ?_) | (clear hK; clear hK; refine hK _ _ ?_)); clear hK; try clear K) | refine W ?_ | exact Z | with_reducible intro b)
      have J : ∀ (e : DEnv) (S : Store), r = true → K e S := by
        intro e S h
        subst h
        exact Wk
      clear hK
      refine pv_loop (fun e S => ∃ j i : Nat, j ≤ z.length ∧ i ≤ a.length ∧ e 0 = .g (eS eG a) ∧ e 31 = .g (eS eG z) ∧ e 32 = i64 z.length ∧ e 33 = i64 j ∧ e 5 = i64 i ∧ (∀ q, q < j → inSome a (gS z q) = true) ∧ (∀ k, k < i → ∀ q, j ≤ q → q < z.length → (gS a k).to < (gS z q).fr)) (fun e _ => z.length - (intD (e 33)).toNat) ?_ ?_
      · exact ⟨0, 0, Nat.zero_le _, Nat.zero_le _, Zr, Zr, Zr, Zr, Zr, fun q h => by omega, fun k h => by omega⟩
      · rintro e S ⟨j, i, hj, hi, g0, g31, g32, g33, g5, hz, hk⟩
        have ft := And.intro g0 (And.intro g31 (And.intro g32 (And.intro g33 g5)))
        repeat (first | with_reducible refine pv_seq fun K hK => ?_ | ((with_reducible first | refine hK _ _ ?_ | (clear hK; refine hK _ _ ?_) | (clear hK; clear hK; refine hK _ _ ?_)); clear hK; try clear K) | refine W0 ?_ | exact Z | with_reducible intro b)
        refine pv_cdD (fun ht => ?_) (fun ht => ?_)
        · have hjl : j < z.length := by omega
          have qb := gS_at hjl
          have os := gb _ (gS_mem hjl)
          have fs := (rightS_f (tube_row h2 hjl).1).2.1
          have hfr : ∀ q, j ≤ q → q < z.length → (gS z j).fr ≤ (gS z q).fr := fun q h3 h4 => tube_fr h2 h3 h4
          have hk2 : ∀ k, k < i → (gS a k).to < (gS z j).fr := fun k h => hk k h j (Nat.le_refl _) hjl
          have hno : inSome a (gS z j) = false → r = false := fun h => by rw [← hr2]; exact allIn_no hjl h
          have hyes : inSome a (gS z j) = true → ∀ q, q < j + 1 → inSome a (gS z q) = true := fun h q hq => by
            rcases Nat.lt_or_ge q j with h1 | h1
            · exact hz q h1
            · obtain rfl : q = j := by omega
              exact h
          clear hk hz
          generalize gS z j = s at *
          obtain ⟨fr, to, ⟨n0, x0, w0⟩, ⟨n1, x1, w1⟩, bx⟩ := s
          have ft := And.intro g0 (And.intro g31 (And.intro g32 (And.intro g33 (And.intro g5 qb))))
          repeat (first | with_reducible refine pv_seq fun K hK => ?_ | ((with_reducible first | refine hK _ _ ?_ | (clear hK; refine hK _ _ ?_) | (clear hK; clear hK; refine hK _ _ ?_)); clear hK; try clear K) | refine W0 ?_ | exact Z | with_reducible intro b)
          have hm0 : (intD (e 33)).toNat = j := by rw [g33]; exact Int.toNat_natCast j
          refine pv_loop (fun e T => ∃ (i : Nat), i ≤ a.length ∧ e 0 = .g (eS eG a) ∧ e 31 = .g (eS eG z) ∧ e 32 = i64 z.length ∧ e 33 = i64 j ∧ e 5 = i64 i ∧ e 7 = .ptr (.l 7) b 0 0 9 ∧ T (.l 7) = some ⟨b, 9, 0, [[i64 fr, i64 to, bl n0, i64 x0, W64 w0, bl n1, i64 x1, W64 w1, .g (eS eI bx)]]⟩ ∧ (∀ k, k < i → (gS a k).to < fr)) (fun e _ => a.length - (intD (e 5)).toNat) ?_ ?_
          · exact ⟨i, hi, Zr, Zr, Zr, Zr, Zr, Zr, Zr, hk2⟩
          clear hk2
          rintro e T ⟨i, hi, g0, g31, g32, g33, g5, g7, s7, hk⟩
          by_cases hia : i < a.length
          · have hia' : ((i : Int) < (a.length : Int)) = True := eq_true (by omega)
            have hne : ((i : Int) = (a.length : Int)) = False := eq_false (by omega)
            have qa := gS_at hia
            have oa := ga _ (gS_mem hia)
            have pW := p_within os oa
            have hk3 : (gS a i).to < fr → ∀ k, k < i + 1 → (gS a k).to < fr := fun h k hk' => by
              rcases Nat.lt_or_ge k i with h1 | h1
              · exact hk k h1
              · obtain rfl : k = i := by omega
                exact h
            have hmis : ¬ (gS a i).to < fr → withinB ⟨fr, to, ⟨n0, x0, w0⟩, ⟨n1, x1, w1⟩, bx⟩ (gS a i) = false → r = false := fun h h' => hno (inSome_at (i := i) h1 fs hi hk fun _ => ⟨by show fr ≤ _; omega, h'⟩)
            have hhit : withinB ⟨fr, to, ⟨n0, x0, w0⟩, ⟨n1, x1, w1⟩, bx⟩ (gS a i) = true → ∀ q, q < j + 1 → inSome a (gS z q) = true := fun h => hyes (inSome_yes hia h)
            clear hno hyes oa os
            generalize gS a i = p at *
            obtain ⟨fr2, to2, ⟨n2, x2, w2⟩, ⟨n3, x3, w3⟩, bx2⟩ := p
            generalize withinB ⟨fr, to, ⟨n0, x0, w0⟩, ⟨n1, x1, w1⟩, bx⟩ ⟨fr2, to2, ⟨n2, x2, w2⟩, ⟨n3, x3, w3⟩, bx2⟩ = wb at *
            by_cases hto : to2 < fr
            · have hto' := eq_true hto
              have ft := And.intro g0 (And.intro g31 (And.intro g32 (And.intro g33 (And.intro g5 (And.intro g7 (And.intro s7 (And.intro hia' (And.intro qa hto'))))))))
              repeat (first | with_reducible refine pv_seq fun K hK => ?_ | ((with_reducible first | refine hK _ _ ?_ | (clear hK; refine hK _ _ ?_) | (clear hK; clear hK; refine hK _ _ ?_)); clear hK; try clear K) | refine W0 ?_ | exact Z | with_reducible intro b)
              exact ⟨⟨i + 1, by omega, rfl, hk3 hto⟩, by simp only [intD]; omega⟩
            · have hto' := eq_false hto
              cases wb
              · have h := hmis hto rfl
                subst h
                clear hmis hhit hk3 hk
                have ft := And.intro g0 (And.intro g31 (And.intro g32 (And.intro g33 (And.intro g5 (And.intro g7 (And.intro s7 (And.intro hia' (And.intro qa (And.intro hto' hne)))))))))
                exact Wk
              · have hz2 := hhit rfl
                have hk4 : ∀ k, k < i → ∀ q, j + 1 ≤ q → q < z.length → (gS a k).to < (gS z q).fr := fun k h q h5 h6 => by
                  have := hk k h
                  have := hfr q (by omega) h6
                  show (gS a k).to < (gS z q).fr
                  simp only at this
                  omega
                clear hmis hhit hk3 hk
                have ft := And.intro g0 (And.intro g31 (And.intro g32 (And.intro g33 (And.intro g5 (And.intro g7 (And.intro s7 (And.intro hia' (And.intro qa (And.intro hto' hne)))))))))
                repeat (first | with_reducible refine pv_seq fun K hK => ?_ | ((with_reducible first | refine hK _ _ ?_ | (clear hK; refine hK _ _ ?_) | (clear hK; clear hK; refine hK _ _ ?_)); clear hK; try clear K) | refine W ?_ | exact Z | with_reducible intro b)
                exact ⟨⟨j + 1, i, by omega, hi, rfl, rfl, hz2, hk4⟩, by rw [hm0]; simp only [intD]; omega⟩
          · obtain rfl : i = a.length := by omega
            have hia' : ((a.length : Int) < (a.length : Int)) = False := eq_false (by omega)
            have h := hno (inSome_at (i := a.length) h1 fs hi hk fun h => by omega)
            subst h
            clear hno hyes hk
            have ft := And.intro g0 (And.intro g31 (And.intro g32 (And.intro g33 (And.intro g5 (And.intro g7 (And.intro s7 hia'))))))
            exact Wk
        · obtain rfl : j = z.length := by omega
          repeat (first | with_reducible refine pv_seq fun K hK => ?_ | ((with_reducible first | refine hK _ _ ?_ | (clear hK; refine hK _ _ ?_) | (clear hK; clear hK; refine hK _ _ ?_)); clear hK; try clear K) | refine W0 ?_ | exact Z | with_reducible intro b)
          refine J _ _ ?_
          rw [← hr2]; exact decide_eq_true hz
    · have h4' := eq_false h4
      have : r = false := by rw [← hr, decide_eq_false h4]; simp
      subst this
      have ft := And.intro h3' h4'
      exact Wk
  · have h3' := eq_false h3
    have : r = false := by rw [← hr, decide_eq_false h3]; simp
    subst this
    have ft := h3'
    exact Wk
end Go.V

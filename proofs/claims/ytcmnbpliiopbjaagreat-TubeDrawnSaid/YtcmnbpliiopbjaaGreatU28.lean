/- The document's tubes: what covers what. -/
import Derived.Test.YtcmnbpliiopbjaaGreatU27
set_option linter.unusedSimpArgs false
set_option linter.unusedVariables false
set_option maxRecDepth 100000
namespace Go.V
open Go Go.RowKit Go.Proofs
def qU28_30_10 : List (Nat × Nat) := [(0, 0), (1, 0), (2, 0), (3, 0), (4, 0), (5, 0), (6, 1), (7, 0), (8, 0), (9, 0), (10, 0), (11, 1), (12, 0), (13, 0), (14, 0), (15, 0), (16, 0), (17, 0), (18, 1), (19, 0), (20, 0), (21, 0), (22, 0), (23, 1), (24, 0), (25, 0), (26, 0), (27, 0), (28, 0), (29, 0), (30, 0), (31, 1), (32, 0), (33, 0), (34, 0), (35, 0), (36, 1), (37, 3), (38, 0), (39, 0), (40, 0), (41, 0), (42, 0), (43, 0), (44, 0), (45, 1), (46, 0), (47, 0), (48, 0), (49, 0), (50, 1), (51, 3), (52, 0), (53, 0), (54, 0), (55, 0), (56, 0), (57, 0), (58, 0), (59, 1), (60, 0), (61, 0), (62, 0), (63, 0), (64, 1), (65, 3), (66, 0), (67, 0), (68, 0)]
attribute [go_sem] qU28_30_10

set_option maxHeartbeats 4000000 in
theorem p_rCovers {a b : List Sg} (la : a.length ≤ 100000) (lb : b.length ≤ 100000) (ga : ∀ s ∈ a, OkP s) (gb : ∀ s ∈ b, OkP s) : PC Tryz.prog 30 [SS a, SS b] fun d => d = bl (coversB a b) := by
  have pA := p_rTube la ga
  have pB := p_rTube lb gb
  have pC := p_rSteps la ga
  have pD := p_rSteps lb gb
  have pE := p_rUntil la ga
  have pF := p_rUntil lb gb
  have pG := p_rCmpNum (lastT_n ga).1.b (lastT_n gb).1.b
  rw [(lastT_n ga).2, (lastT_n gb).2, Bool.and_self, if_pos rfl] at pG
  have kc := cmp_eq0 (lastT a).t1.val (lastT b).t1.val
  have kx : coversB a b = (tubeB a && tubeB b && decide ((lastT a).to = (lastT b).to) && decide (cmpD (lastT a).t1.val (lastT b).t1.val = 0) && allIn a b) := by
    unfold coversB; simp only [kc]
  rw [kx]
  clear kx kc
  generalize cmpD (lastT a).t1.val (lastT b).t1.val = c at *
  generalize (lastT a).to = ta at *
  generalize (lastT b).to = tb at *
  generalize (lastT a).t1 = ua at *
  generalize (lastT b).t1 = ub at *
  obtain ⟨n8, x8, w8⟩ := ua
  obtain ⟨n9, x9, w9⟩ := ub
  unfold SS at pA pB pC pD pE pF ⊢
  generalize hr : (tubeB a && tubeB b && decide (ta = tb) && decide (c = 0) && allIn a b) = r
  have d1 := @df Tryz.prog 10 qU28_30_10
  refine PB (rs := [.tmp 4]) Tryz.func30 ?_
  cases h1 : tubeB a
  · rw [h1] at pA hr
    have : r = false := by rw [← hr]; rfl
    subst this
    exact Wk
  rw [h1] at pA hr
  cases h2 : tubeB b
  · rw [h2] at pB hr
    have : r = false := by rw [← hr]; rfl
    subst this
    exact Wk
  rw [h2] at pB hr
  by_cases h3 : ta = tb
  · have h3' := eq_true h3
    by_cases h4 : c = 0
    · have h4' := eq_true h4
      have hr2 : allIn a b = r := by rw [← hr, decide_eq_true h3, decide_eq_true h4]; simp
      clear hr
      have ft := And.intro h3' h4'
      repeat (first | with_reducible refine pv_seq fun K hK => ?_ | ((with_reducible first | refine hK _ _ ?_ | (clear hK; refine hK _ _ ?_) | (clear hK; clear hK; refine hK _ _ ?_)); clear hK; try clear K) | refine W ?_ | exact Z | with_reducible intro b)
      have J : ∀ (e : DEnv) (S : Store), r = true → K e S := by
        intro e S h
        subst h
        exact Wk
      clear hK
      refine pv_loop (fun e S => ∃ j : Nat, j ≤ b.length ∧ e 0 = .g (eS eG a) ∧ e 1 = .g (eS eG b) ∧ e 5 = i64 j ∧ (∀ q, q < j → inSome a (gS b q) = true)) (fun e _ => b.length - (intD (e 5)).toNat) ?_ ?_
      · exact ⟨0, Nat.zero_le _, Zr, Zr, Zr, fun q h => by omega⟩
      · rintro e S ⟨j, hj, g0, g1, g5, hz⟩
        have ft := And.intro g0 (And.intro g1 g5)
        repeat (first | with_reducible refine pv_seq fun K hK => ?_ | ((with_reducible first | refine hK _ _ ?_ | (clear hK; refine hK _ _ ?_) | (clear hK; clear hK; refine hK _ _ ?_)); clear hK; try clear K) | refine W0 ?_ | exact Z | with_reducible intro b)
        refine pv_cdD (fun ht => ?_) (fun ht => ?_)
        · have hjl : j < b.length := by omega
          have qb := gS_at hjl
          have os := gb _ (gS_mem hjl)
          have hno : inSome a (gS b j) = false → r = false := fun h => by rw [← hr2]; exact allIn_no hjl h
          have hyes : inSome a (gS b j) = true → ∀ q, q < j + 1 → inSome a (gS b q) = true := fun h q hq => by
            rcases Nat.lt_or_ge q j with h1 | h1
            · exact hz q h1
            · obtain rfl : q = j := by omega
              exact h
          have h0 : anyIn a (gS b j) 0 = false := rfl
          have hs : ∀ k, anyIn a (gS b j) (k + 1) = (anyIn a (gS b j) k || withinB (gS b j) (gS a k)) := fun k => anyIn_s
          have he : anyIn a (gS b j) a.length = inSome a (gS b j) := rfl
          rw [← he] at hno hyes
          clear hz he
          generalize gS b j = s at *
          generalize anyIn a s = an at *
          obtain ⟨fr, to, ⟨n0, x0, w0⟩, ⟨n1, x1, w1⟩, bx⟩ := s
          have ft := And.intro g0 (And.intro g1 (And.intro g5 qb))
          repeat (first | with_reducible refine pv_seq fun K hK => ?_ | ((with_reducible first | refine hK _ _ ?_ | (clear hK; refine hK _ _ ?_) | (clear hK; clear hK; refine hK _ _ ?_)); clear hK; try clear K) | refine W0 ?_ | exact Z | with_reducible intro b)
          have hm0 : (intD (e 5)).toNat = j := by rw [g5]; exact Int.toNat_natCast j
          refine pv_loop (fun e T => ∃ (k : Nat), k ≤ a.length ∧ e 0 = .g (eS eG a) ∧ e 1 = .g (eS eG b) ∧ e 5 = i64 j ∧ e 6 = bl (an k) ∧ e 7 = i64 k) (fun e _ => a.length - (intD (e 7)).toNat) ?_ ?_
          · exact ⟨0, Nat.zero_le _, Zr, Zr, Zr, by rw [h0]; exact Zr, Zr⟩
          clear h0
          rintro e T ⟨k, hk, g0, g1, g5, g6, g7⟩
          by_cases hka : k < a.length
          · have hka' : ((k : Int) < (a.length : Int)) = True := eq_true (by omega)
            have qa := gS_at hka
            have hs2 := hs k
            have oa := ga _ (gS_mem hka)
            have p1 := p_rCmpNum oa.a.b os.a.b
            have p2 := p_rCmpNum os.b.b oa.b.b
            have p3 := p_rInBox os.bx oa.bx os.n oa.n
            rw [oa.ra, os.ra, Bool.and_self, if_pos rfl] at p1
            rw [os.rb, oa.rb, Bool.and_self, if_pos rfl] at p2
            unfold withinB at hs2
            rw [← show decide (cmpD (gS a k).t0.val (⟨fr, to, ⟨n0, x0, w0⟩, ⟨n1, x1, w1⟩, bx⟩ : Sg).t0.val ≤ 0) = decide ((gS a k).t0.val ≤ (⟨fr, to, ⟨n0, x0, w0⟩, ⟨n1, x1, w1⟩, bx⟩ : Sg).t0.val) from decide_eq_decide.2 (Iff.of_eq cmpD_le0'),
              ← show decide (cmpD (⟨fr, to, ⟨n0, x0, w0⟩, ⟨n1, x1, w1⟩, bx⟩ : Sg).t1.val (gS a k).t1.val ≤ 0) = decide ((⟨fr, to, ⟨n0, x0, w0⟩, ⟨n1, x1, w1⟩, bx⟩ : Sg).t1.val ≤ (gS a k).t1.val) from decide_eq_decide.2 (Iff.of_eq cmpD_le0')] at hs2
            clear oa
            generalize gS a k = p at *
            obtain ⟨fr2, to2, ⟨n2, x2, w2⟩, ⟨n3, x3, w3⟩, bx2⟩ := p
            unfold II at p3
            simp only at hs2 p1 p2 p3
            generalize cmpD (⟨n2, x2, w2⟩ : Nu).val (⟨n0, x0, w0⟩ : Nu).val = c1 at *
            generalize cmpD (⟨n1, x1, w1⟩ : Nu).val (⟨n3, x3, w3⟩ : Nu).val = c2 at *
            generalize inB bx bx2 = ib at *
            cases han : an k
            · rw [han] at g6 hs2
              rw [Bool.false_or] at hs2
              by_cases a1 : fr2 ≤ fr
              · have a1' := eq_true a1
                rw [decide_eq_true a1] at hs2
                by_cases a2 : to ≤ to2
                · have a2' := eq_true a2
                  rw [decide_eq_true a2] at hs2
                  by_cases a3 : c1 ≤ 0
                  · have a3' := eq_true a3
                    rw [decide_eq_true a3] at hs2
                    by_cases a4 : c2 ≤ 0
                    · have a4' := eq_true a4
                      rw [decide_eq_true a4] at hs2
                      have hs3 : an (k + 1) = ib := by rw [hs2]; rfl
                      clear hs hs2
                      have ft := And.intro g0 (And.intro g1 (And.intro g5 (And.intro g6 (And.intro g7 (And.intro hka' (And.intro qa (And.intro qb (And.intro a1' (And.intro a2' (And.intro a3' a4'))))))))))
                      repeat (first | with_reducible refine pv_seq fun K hK => ?_ | ((with_reducible first | refine hK _ _ ?_ | (clear hK; refine hK _ _ ?_) | (clear hK; clear hK; refine hK _ _ ?_)); clear hK; try clear K) | refine W ?_ | exact Z | with_reducible intro b)
                      exact ⟨⟨k + 1, by omega, (congrArg bl hs3).symm, rfl⟩, by simp only [intD]; omega⟩
                    · have a4' := eq_false a4
                      rw [decide_eq_false a4] at hs2
                      have hs3 : an (k + 1) = false := by rw [hs2]; rfl
                      clear hs hs2
                      have ft := And.intro g0 (And.intro g1 (And.intro g5 (And.intro g6 (And.intro g7 (And.intro hka' (And.intro qa (And.intro qb (And.intro a1' (And.intro a2' (And.intro a3' a4'))))))))))
                      repeat (first | with_reducible refine pv_seq fun K hK => ?_ | ((with_reducible first | refine hK _ _ ?_ | (clear hK; refine hK _ _ ?_) | (clear hK; clear hK; refine hK _ _ ?_)); clear hK; try clear K) | refine W ?_ | exact Z | with_reducible intro b)
                      exact ⟨⟨k + 1, by omega, (congrArg bl hs3).symm, rfl⟩, by simp only [intD]; omega⟩
                  · have a3' := eq_false a3
                    rw [decide_eq_false a3] at hs2
                    have hs3 : an (k + 1) = false := by rw [hs2]; rfl
                    clear hs hs2
                    have ft := And.intro g0 (And.intro g1 (And.intro g5 (And.intro g6 (And.intro g7 (And.intro hka' (And.intro qa (And.intro qb (And.intro a1' (And.intro a2' a3')))))))))
                    repeat (first | with_reducible refine pv_seq fun K hK => ?_ | ((with_reducible first | refine hK _ _ ?_ | (clear hK; refine hK _ _ ?_) | (clear hK; clear hK; refine hK _ _ ?_)); clear hK; try clear K) | refine W ?_ | exact Z | with_reducible intro b)
                    exact ⟨⟨k + 1, by omega, (congrArg bl hs3).symm, rfl⟩, by simp only [intD]; omega⟩
                · have a2' := eq_false a2
                  rw [decide_eq_false a2] at hs2
                  have hs3 : an (k + 1) = false := by rw [hs2]; rfl
                  clear hs hs2
                  have ft := And.intro g0 (And.intro g1 (And.intro g5 (And.intro g6 (And.intro g7 (And.intro hka' (And.intro qa (And.intro qb (And.intro a1' a2'))))))))
                  repeat (first | with_reducible refine pv_seq fun K hK => ?_ | ((with_reducible first | refine hK _ _ ?_ | (clear hK; refine hK _ _ ?_) | (clear hK; clear hK; refine hK _ _ ?_)); clear hK; try clear K) | refine W0 ?_ | exact Z | with_reducible intro b)
                  exact ⟨⟨k + 1, by omega, (congrArg bl hs3).symm, rfl⟩, by simp only [intD]; omega⟩
              · have a1' := eq_false a1
                rw [decide_eq_false a1] at hs2
                have hs3 : an (k + 1) = false := by rw [hs2]; rfl
                clear hs hs2
                have ft := And.intro g0 (And.intro g1 (And.intro g5 (And.intro g6 (And.intro g7 (And.intro hka' (And.intro qa (And.intro qb a1')))))))
                repeat (first | with_reducible refine pv_seq fun K hK => ?_ | ((with_reducible first | refine hK _ _ ?_ | (clear hK; refine hK _ _ ?_) | (clear hK; clear hK; refine hK _ _ ?_)); clear hK; try clear K) | refine W0 ?_ | exact Z | with_reducible intro b)
                exact ⟨⟨k + 1, by omega, (congrArg bl hs3).symm, rfl⟩, by simp only [intD]; omega⟩
            · rw [han] at g6 hs2
              have hs3 : an (k + 1) = true := by rw [hs2]; rfl
              clear hs hs2
              have ft := And.intro g0 (And.intro g1 (And.intro g5 (And.intro g6 (And.intro g7 hka'))))
              repeat (first | with_reducible refine pv_seq fun K hK => ?_ | ((with_reducible first | refine hK _ _ ?_ | (clear hK; refine hK _ _ ?_) | (clear hK; clear hK; refine hK _ _ ?_)); clear hK; try clear K) | refine W0 ?_ | exact Z | with_reducible intro b)
              exact ⟨⟨k + 1, by omega, (congrArg bl hs3).symm, rfl⟩, by simp only [intD]; omega⟩
          · obtain rfl : k = a.length := by omega
            have hka' : ((a.length : Int) < (a.length : Int)) = False := eq_false (by omega)
            generalize an a.length = t at *
            cases t
            · have h := hno rfl
              subst h
              have ft := And.intro g0 (And.intro g1 (And.intro g5 (And.intro g6 (And.intro g7 hka'))))
              exact Wk
            · have hz2 := hyes rfl
              have ft := And.intro g0 (And.intro g1 (And.intro g6 (And.intro g5 (And.intro g7 hka'))))
              repeat (first | with_reducible refine pv_seq fun K hK => ?_ | ((with_reducible first | refine hK _ _ ?_ | (clear hK; refine hK _ _ ?_) | (clear hK; clear hK; refine hK _ _ ?_)); clear hK; try clear K) | refine W0 ?_ | exact Z | with_reducible intro b)
              exact ⟨⟨j + 1, by omega, rfl, hz2⟩, by rw [hm0]; simp only [intD]; omega⟩
        · obtain rfl : j = b.length := by omega
          repeat (first | with_reducible refine pv_seq fun K hK => ?_ | ((with_reducible first | refine hK _ _ ?_ | (clear hK; refine hK _ _ ?_) | (clear hK; clear hK; refine hK _ _ ?_)); clear hK; try clear K) | refine W0 ?_ | exact Z | with_reducible intro b)
          refine J _ _ ?_
          rw [← hr2]; exact decide_eq_true hz
    · have h4' := eq_false h4
      have : r = false := by rw [← hr, decide_eq_false h4]; simp
      subst this
      have ft := And.intro h3' h4'
      exact Wk
  · have h3' := eq_false h3
    have : r = false := by rw [← hr, decide_eq_false h3]; simp
    subst this
    have ft := h3'
    exact Wk
end Go.V

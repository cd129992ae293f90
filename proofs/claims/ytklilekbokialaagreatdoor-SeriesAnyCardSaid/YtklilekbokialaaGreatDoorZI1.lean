/- Which lists of monomials are polynomials: package poly's, the document's. The document's series over values as data: coefficients of products. Package series over values as data: products of series, monomials of series; the document's products. Package series over values as data: coefficients of polynomials of series. The document's series over values as data: coefficients of polynomials of series. Plain laws of intervals of small numbers: sums, products, what they hold, parts of them; coefficients and sums of series. Series at a point over values as data: package series, the document. -/
import Derived.Test.YtklilekbokialaaGreatDoorZI0
set_option linter.unusedSimpArgs false
set_option linter.unusedVariables false
set_option maxRecDepth 100000
namespace Go.V
open Go Go.RowKit Go.Proofs
def qT4_64_4 : List (Nat × Nat) := [(0, 1), (1, 0), (2, 3), (3, 0), (4, 0), (5, 0), (6, 0), (7, 1), (8, 0), (9, 0), (10, 0), (11, 0), (12, 0), (13, 0), (14, 0), (15, 0), (16, 0), (17, 0), (18, 0), (19, 1), (20, 1), (21, 3), (22, 0), (23, 0), (24, 0)]
def qT4_71_6 : List (Nat × Nat) := [(0, 0), (1, 0), (2, 0), (3, 1), (4, 0), (5, 3), (6, 0), (7, 0), (8, 0), (9, 0), (10, 0), (11, 0), (12, 0), (13, 1), (14, 0), (15, 0), (16, 0), (17, 0), (18, 0), (19, 0), (20, 0), (21, 0), (22, 0), (23, 0), (24, 0), (25, 0), (26, 1), (27, 0), (28, 0), (29, 0), (30, 0), (31, 1), (32, 3), (33, 0), (34, 0), (35, 0)]
attribute [go_sem] qT4_64_4 qT4_71_6
/-- What is asked of monomial i. -/
def atB (q : List Mo) (n : Int) (i : Nat) : Prop := monoB (gM q i) n = true ∧ (gM q i).c.w ≠ [] ∧ (0 < i → cmpE (gM q i).e (gM q (i - 1)).e < 0)
theorem monosB_no {q : List Mo} {n : Int} {i : Nat} (hi : i < q.length) (h : ¬ atB q n i) : monosB q n = false := decide_eq_false fun h2 => h (h2 i hi)
theorem monosB_yes {q : List Mo} {n : Int} (h : ∀ i, i < q.length → atB q n i) : monosB q n = true := decide_eq_true h
theorem polyB_no {q : List Mo} {n : Int} (h : monosB q n = false) : polyB q n = false := by unfold polyB; rw [h, Bool.and_false]
theorem polyB_yes {q : List Mo} {n : Int} (h : monosB q n = true) : polyB q n = (decide (1 ≤ n) && decide (n ≤ 4) && decide (q.length ≤ 24)) := by unfold polyB; rw [h, Bool.and_true]
theorem at_step {q : List Mo} {n : Int} {i : Nat} (hz : ∀ j, j < i → atB q n j) (h : atB q n i) : ∀ j, j < i + 1 → atB q n j := fun j hj => by
  rcases Nat.lt_or_ge j i with h1 | h1
  · exact hz j h1
  · obtain rfl : j = i := by omega
    exact h
set_option maxHeartbeats 2000000 in
theorem p_pRight {q : List Mo} {n : Int} (hq : WfM q) : PC Tryz.prog 64 [MM q, i64 n] fun d => d = bl (polyB q n) := by
  have hno := fun (i : Nat) (h1 : i < q.length) (h2 : ¬ atB q n i) => polyB_no (monosB_no h1 h2)
  have hyes := fun (h : ∀ i, i < q.length → atB q n i) => polyB_yes (monosB_yes h)
  have hn1 := hq.n
  generalize polyB q n = r at *
  unfold MM
  have d1 := @dl 4 qT4_64_4
  refine PB (rs := [.tmp 4]) Tryz.func64 ?_
  repeat (first | with_reducible refine pv_seq fun K hK => ?_ | ((with_reducible first | refine hK _ _ ?_ | (clear hK; refine hK _ _ ?_) | (clear hK; clear hK; refine hK _ _ ?_)); clear hK; try clear K) | refine W0 ?_ | exact Z | with_reducible intro b)
  refine pv_loop (fun e S => ∃ i : Nat, i ≤ q.length ∧ e 0 = .g (eS eM q) ∧ e 1 = i64 n ∧ e 7 = .g (eS eM q) ∧ e 8 = i64 q.length ∧ e 9 = i64 i ∧ ∀ j, j < i → atB q n j) (fun e _ => q.length - (intD (e 9)).toNat) ?_ ?_
  · exact ⟨0, Nat.zero_le _, Zr, Zr, Zr, Zr, Zr, fun j hj => by omega⟩
  · rintro e S ⟨i, hi, g0, g1, g7, g8, g9, hz⟩
    have ft := And.intro g0 (And.intro g1 (And.intro g7 (And.intro g8 g9)))
    repeat (first | with_reducible refine pv_seq fun K hK => ?_ | ((with_reducible first | refine hK _ _ ?_ | (clear hK; refine hK _ _ ?_) | (clear hK; clear hK; refine hK _ _ ?_)); clear hK; try clear K) | refine W0 ?_ | exact Z | with_reducible intro b)
    refine pv_cdD (fun ht => ?_) (fun ht => ?_)
    · have hil : i < q.length := by omega
      have q1 := gM_at hil
      have pM := p_mono (n := n) (hq.at_ hil)
      have pA := fun (h : 0 < i) => p_ahead (a := gM q (i - 1)) (b := gM q i) (hq.at_ (by omega)).n (hq.at_ hil).n
      have q2 := fun (h : 0 < i) => gM_at (l := q) (i := i - 1) (by omega)
      have kt : 0 < i → ((i : Int) - 1).toNat = i - 1 := fun h => by omega
      have hst := at_step hz
      have hnx := hno i hil
      unfold atB at hst hnx
      clear hno hyes hq
      generalize gM q i = x at *
      generalize gM q (i - 1) = y at *
      generalize monoB x n = t at *
      generalize hc : cmpE x.e y.e = c at *
      obtain ⟨⟨n1, e1, w1⟩, z1⟩ := x
      obtain ⟨⟨n2, e2, w2⟩, z2⟩ := y
      simp only at hst hnx
      cases t
      · have hr := hnx (fun h => by cases h.1)
        subst hr
        have ft := And.intro g0 (And.intro g1 (And.intro g7 (And.intro g8 (And.intro g9 q1))))
        exact Wk
      · by_cases hw : w1 = []
        · have hr := hnx (fun h => h.2.1 hw)
          subst hr
          subst hw
          have ft := And.intro g0 (And.intro g1 (And.intro g7 (And.intro g8 (And.intro g9 q1))))
          exact Wk
        · have kw : ((w1.length : Int) = 0) = False := eq_false (fun h => hw (List.eq_nil_of_length_eq_zero (by omega)))
          by_cases h0 : 0 < i
          · have k0 : ((0 : Int) < (i : Int)) = True := eq_true (by omega)
            have pA := pA h0
            have q2 := q2 h0
            have kt := kt h0
            by_cases h1 : 0 ≤ c
            · have k1 := eq_true h1
              have hr := hnx (fun h => by have := h.2.2 h0; omega)
              subst hr
              have ft := And.intro g0 (And.intro g1 (And.intro g7 (And.intro g8 (And.intro g9 (And.intro q1 (And.intro q2 (And.intro kw (And.intro k0 (And.intro k1 kt)))))))))
              exact Wk
            · have k1 := eq_false h1
              have ft := And.intro g0 (And.intro g1 (And.intro g7 (And.intro g8 (And.intro g9 (And.intro q1 (And.intro q2 (And.intro kw (And.intro k0 (And.intro k1 kt)))))))))
              repeat (first | with_reducible refine pv_seq fun K hK => ?_ | ((with_reducible first | refine hK _ _ ?_ | (clear hK; refine hK _ _ ?_) | (clear hK; clear hK; refine hK _ _ ?_)); clear hK; try clear K) | refine W ?_ | exact Z | with_reducible intro b)
              exact ⟨⟨i + 1, by omega, rfl, hst ⟨rfl, hw, fun _ => by omega⟩⟩, by simp only [intD]; omega⟩
          · have k0 : ((0 : Int) < (i : Int)) = False := eq_false (by omega)
            have ft := And.intro g0 (And.intro g1 (And.intro g7 (And.intro g8 (And.intro g9 (And.intro q1 (And.intro kw k0))))))
            repeat (first | with_reducible refine pv_seq fun K hK => ?_ | ((with_reducible first | refine hK _ _ ?_ | (clear hK; refine hK _ _ ?_) | (clear hK; clear hK; refine hK _ _ ?_)); clear hK; try clear K) | refine W ?_ | exact Z | with_reducible intro b)
            exact ⟨⟨i + 1, by omega, rfl, hst ⟨rfl, hw, fun h => absurd h h0⟩⟩, by simp only [intD]; omega⟩
    · obtain rfl : i = q.length := by omega
      have hr := hyes hz
      have k3 : ((q.length : Int) ≤ 24) = (q.length ≤ 24) := propext ⟨fun h => by omega, fun h => by omega⟩
      by_cases h1 : 1 ≤ n
      · have h1' := eq_true h1
        by_cases h2 : n ≤ 4
        · have h2' := eq_true h2
          rw [decide_eq_true h1, decide_eq_true h2, Bool.and_self, Bool.true_and] at hr
          subst hr
          have ft := And.intro g0 (And.intro g1 (And.intro g7 (And.intro g8 (And.intro g9 (And.intro h1' (And.intro h2' k3))))))
          exact Wk
        · have h2' := eq_false h2
          rw [decide_eq_true h1, decide_eq_false h2, Bool.and_false, Bool.false_and] at hr
          subst hr
          have ft := And.intro g0 (And.intro g1 (And.intro g7 (And.intro g8 (And.intro g9 (And.intro h1' h2')))))
          exact Wk
      · have h1' := eq_false h1
        rw [decide_eq_false h1, Bool.false_and, Bool.false_and] at hr
        subst hr
        have ft := And.intro g0 (And.intro g1 (And.intro g7 (And.intro g8 (And.intro g9 h1'))))
        exact Wk

set_option maxHeartbeats 2000000 in
theorem p_rPRight {q : List Mo} {n : Int} (hq : WfM q) : PC Tryz.prog 71 [MM q, i64 n] fun d => d = bl (polyB q n) := by
  by_cases hn : 1 ≤ n ∧ n ≤ 4 ∧ q.length ≤ 24
  · obtain ⟨h1, h2, h3⟩ := hn
    have hno := fun (i : Nat) (h1 : i < q.length) (h2 : ¬ atB q n i) => polyB_no (monosB_no h1 h2)
    have hyes := fun (h : ∀ i, i < q.length → atB q n i) => polyB_yes (monosB_yes h)
    rw [decide_eq_true h1, decide_eq_true h2, decide_eq_true h3] at hyes
    have k1 : (n < 1) = False := eq_false (by omega)
    have k2 : (4 < n) = False := eq_false (by omega)
    have k3 : ((24 : Int) < (q.length : Int)) = False := eq_false (by omega)
    generalize polyB q n = r at *
    unfold MM
    have d1 := @dl 6 qT4_71_6
    refine PB (rs := [.tmp 4]) Tryz.func71 ?_
    have ft := And.intro k1 (And.intro k2 k3)
    repeat (first | with_reducible refine pv_seq fun K hK => ?_ | ((with_reducible first | refine hK _ _ ?_ | (clear hK; refine hK _ _ ?_) | (clear hK; clear hK; refine hK _ _ ?_)); clear hK; try clear K) | refine W0 ?_ | exact Z | with_reducible intro b)
    have J : ∀ (e : DEnv) (S : Store), r = true → K e S := by
      intro e S h
      subst h
      exact Wk
    clear hK
    refine pv_loop (fun e S => ∃ i : Nat, i ≤ q.length ∧ e 0 = .g (eS eM q) ∧ e 1 = i64 n ∧ e 5 = i64 i ∧ ∀ j, j < i → atB q n j) (fun e _ => q.length - (intD (e 5)).toNat) ?_ ?_
    · exact ⟨0, Nat.zero_le _, Zr, Zr, Zr, fun j hj => by omega⟩
    · rintro e S ⟨i, hi, g0, g1, g5, hz⟩
      have ft := And.intro g0 (And.intro g1 g5)
      repeat (first | with_reducible refine pv_seq fun K hK => ?_ | ((with_reducible first | refine hK _ _ ?_ | (clear hK; refine hK _ _ ?_) | (clear hK; clear hK; refine hK _ _ ?_)); clear hK; try clear K) | refine W0 ?_ | exact Z | with_reducible intro b)
      refine pv_cdD (fun ht => ?_) (fun ht => ?_)
      · have hil : i < q.length := by omega
        have q1 := gM_at hil
        have pM := p_rMono (n := n) (hq.at_ hil) h2
        have pA := fun (h : 0 < i) => p_rOrdE (a := (gM q (i - 1)).e) (b := (gM q i).e) (hq.at_ (by omega)).n (hq.at_ hil).n
        have hlen : 0 < i → monoB (gM q i) n = true → (gM q (i - 1)).e.length = (gM q i).e.length := fun h0 hm => by
          have h5 := (hz (i - 1) (by omega)).1
          unfold monoB at h5 hm
          simp only [Bool.and_eq_true, decide_eq_true_eq] at h5 hm
          omega
        have q2 := fun (h : 0 < i) => gM_at (l := q) (i := i - 1) (by omega)
        have kt : 0 < i → ((i : Int) - 1).toNat = i - 1 := fun h => by omega
        have hst := at_step hz
        have hnx := hno i hil
        unfold atB at hst hnx
        unfold ZI at pA
        clear hno hyes hq
        generalize gM q i = x at *
        generalize gM q (i - 1) = y at *
        have hoc := fun (h : 0 < i) (h2 : monoB x n = true) => ordE_cmpE (hlen h h2)
        have hcs := cmpE_cases x.e y.e
        generalize monoB x n = t at *
        generalize cmpE x.e y.e = c at *
        generalize ordE y.e x.e = o at *
        obtain ⟨⟨n1, e1, w1⟩, z1⟩ := x
        obtain ⟨⟨n2, e2, w2⟩, z2⟩ := y
        simp only at hst hnx pA
        cases t
        · have hr := hnx (fun h => by cases h.1)
          subst hr
          have ft := And.intro g0 (And.intro g1 (And.intro g5 q1))
          exact Wk
        · by_cases hw : w1 = []
          · have hr := hnx (fun h => h.2.1 hw)
            subst hr
            subst hw
            have ft := And.intro g0 (And.intro g1 (And.intro g5 q1))
            exact Wk
          · have kw : ((w1.length : Int) = 0) = False := eq_false (fun h => hw (List.eq_nil_of_length_eq_zero (by omega)))
            by_cases h0 : 0 < i
            · have k0 : ((0 : Int) < (i : Int)) = True := eq_true (by omega)
              have pA := pA h0
              have q2 := q2 h0
              have kt := kt h0
              have hoc := hoc h0 rfl
              by_cases h9 : o = 1
              · have k9 := eq_true h9
                have ft := And.intro g0 (And.intro g1 (And.intro g5 (And.intro q1 (And.intro q2 (And.intro kw (And.intro k0 (And.intro k9 kt)))))))
                repeat (first | with_reducible refine pv_seq fun K hK => ?_ | ((with_reducible first | refine hK _ _ ?_ | (clear hK; refine hK _ _ ?_) | (clear hK; clear hK; refine hK _ _ ?_)); clear hK; try clear K) | refine W ?_ | exact Z | with_reducible intro b)
                exact ⟨⟨i + 1, by omega, rfl, hst ⟨rfl, hw, fun _ => by omega⟩⟩, by simp only [intD]; omega⟩
              · have k9 := eq_false h9
                have hr := hnx (fun h => by have := h.2.2 h0; omega)
                subst hr
                have ft := And.intro g0 (And.intro g1 (And.intro g5 (And.intro q1 (And.intro q2 (And.intro kw (And.intro k0 (And.intro k9 kt)))))))
                exact Wk
            · have k0 : ((0 : Int) < (i : Int)) = False := eq_false (by omega)
              have ft := And.intro g0 (And.intro g1 (And.intro g5 (And.intro q1 (And.intro kw k0))))
              repeat (first | with_reducible refine pv_seq fun K hK => ?_ | ((with_reducible first | refine hK _ _ ?_ | (clear hK; refine hK _ _ ?_) | (clear hK; clear hK; refine hK _ _ ?_)); clear hK; try clear K) | refine W ?_ | exact Z | with_reducible intro b)
              exact ⟨⟨i + 1, by omega, rfl, hst ⟨rfl, hw, fun h => absurd h h0⟩⟩, by simp only [intD]; omega⟩
      · obtain rfl : i = q.length := by omega
        repeat (first | with_reducible refine pv_seq fun K hK => ?_ | ((with_reducible first | refine hK _ _ ?_ | (clear hK; refine hK _ _ ?_) | (clear hK; clear hK; refine hK _ _ ?_)); clear hK; try clear K) | refine W0 ?_ | exact Z | with_reducible intro b)
        exact J _ _ (hyes hz)
  · have hr : polyB q n = false := by
      unfold polyB
      by_cases h1 : 1 ≤ n
      · by_cases h2 : n ≤ 4
        · rw [decide_eq_false (p := q.length ≤ 24) (fun h3 => hn ⟨h1, h2, h3⟩), Bool.and_false]; rfl
        · rw [decide_eq_false h2, Bool.and_false]; rfl
      · rw [decide_eq_false h1]; rfl
    rw [hr]
    unfold MM
    by_cases h1 : n < 1
    · have k1 := eq_true h1
      have d1 := @dl 6 qT4_71_6
      refine PB (rs := [.tmp 4]) Tryz.func71 ?_
      have ft := k1
      exact Wk
    · have k1 := eq_false h1
      by_cases h2 : 4 < n
      · have k2 := eq_true h2
        have d1 := @dl 6 qT4_71_6
        refine PB (rs := [.tmp 4]) Tryz.func71 ?_
        have ft := And.intro k1 k2
        exact Wk
      · have k2 := eq_false h2
        have k3 : ((24 : Int) < (q.length : Int)) = True := eq_true (by omega)
        have d1 := @dl 6 qT4_71_6
        refine PB (rs := [.tmp 4]) Tryz.func71 ?_
        have ft := And.intro k1 (And.intro k2 k3)
        exact Wk
end Go.V
namespace Go.V
open Go Go.RowKit Go.Proofs
def qT5_33_7 : PT := (.lin [(0, 0), (1, 0), (2, 0), (3, 2), (4, 0), (5, 0), (6, 0), (7, 0), (8, 0), (9, 2), (10, 0)] (.fork 11 3 (.lin [(12, 0), (13, 0), (14, 0), (15, 4), (16, 3), (17, 0)] .nil) 15 4 (.lin [(11, 3), (12, 0), (13, 0), (14, 0), (16, 3), (17, 0)] .nil)))
attribute [go_sem] qT5_33_7
theorem p_precs14 {p : Int} : PC Tryz.prog 69 [i64 p] fun d => d = bl (okP p) := by
  unfold okP
  by_cases h1 : 8 ≤ p
  · have h1' := eq_true h1
    rw [decide_eq_true h1, Bool.true_and]
    refine PB (rs := [.tmp 2]) Tryz.func69 ?_
    have ft := h1'
    exact Wk
  · have h1' := eq_false h1
    rw [decide_eq_false h1, Bool.false_and]
    refine PB (rs := [.tmp 2]) Tryz.func69 ?_
    have ft := h1'
    exact Wk
set_option maxHeartbeats 1000000 in
theorem p_rLong {a : List Iv} {k : Nat} (ha : WfL a) (hk : k ≤ 100000) : PC Tryz.prog 68 [II a, i64 k] fun d => d = bl (rightTo a k) := by
  generalize hr : rightTo a k = r
  unfold II
  by_cases hl : k < a.length
  · have k1 : (a.length < k + 1) = False := eq_false (by omega)
    refine PB (rs := [.tmp 4]) Tryz.func68 ?_
    have ft := k1
    repeat (first | with_reducible refine pv_seq fun K hK => ?_ | ((with_reducible first | refine hK _ _ ?_ | (clear hK; refine hK _ _ ?_) | (clear hK; clear hK; refine hK _ _ ?_)); clear hK; try clear K) | refine W0 ?_ | exact Z | with_reducible intro b)
    have J : ∀ (e : DEnv) (S : Store), r = true → K e S := by
      intro e S h
      subst h
      exact Wk
    clear hK
    refine pv_loop (fun e S => Hid (∃ i : Nat, i ≤ k + 1 ∧ e 0 = .g (eS eI a) ∧ e 1 = i64 k ∧ e 5 = i64 i ∧ ∀ j, j < i → rightI (gI a j) = true)) (fun e _ => k + 1 - (intD (e 5)).toNat) ?_ ?_
    · exact ⟨0, Nat.zero_le _, Zr, Zr, Zr, fun j hj => by omega⟩
    · rintro e S ⟨i, hi, g0, g1, g5, hz⟩
      have ft := And.intro g0 (And.intro g1 g5)
      repeat (first | with_reducible refine pv_seq fun K hK => ?_ | ((with_reducible first | refine hK _ _ ?_ | (clear hK; refine hK _ _ ?_) | (clear hK; clear hK; refine hK _ _ ?_)); clear hK; try clear K) | refine W0 ?_ | exact Z | with_reducible intro b)
      refine pv_cdD (fun ht => ?_) (fun ht => ?_)
      · have hil : i < k + 1 := by omega
        have q1 := gI_at (l := a) (i := i) (by omega)
        have pI := p_rRightIv (ha.at_ i)
        have hz2 : rightI (gI a i) = true → ∀ j, j < i + 1 → rightI (gI a j) = true := fun h j hj => by
          rcases Nat.lt_or_ge j i with h1 | h1
          · exact hz j h1
          · obtain rfl : j = i := by omega
            exact h
        have hno : rightI (gI a i) = false → r = false := fun h => by rw [← hr]; exact rightTo_no hil h
        generalize rightI (gI a i) = t at *
        generalize gI a i = x at *
        obtain ⟨⟨n1, e1, w1⟩, ⟨n2, e2, w2⟩⟩ := x
        cases t
        · have h := hno rfl
          subst h
          have ft := And.intro g0 (And.intro g1 (And.intro g5 q1))
          exact Wk
        · have ft := And.intro g0 (And.intro g5 (And.intro g1 q1))
          repeat (first | with_reducible refine pv_seq fun K hK => ?_ | ((with_reducible first | refine hK _ _ ?_ | (clear hK; refine hK _ _ ?_) | (clear hK; clear hK; refine hK _ _ ?_)); clear hK; try clear K) | refine W ?_ | exact Z | with_reducible intro b)
          exact ⟨⟨i + 1, by omega, Zr, Zr, Zr, hz2 rfl⟩, by simp only [intD]; omega⟩
      · obtain rfl : i = k + 1 := by omega
        have ft := And.intro g1 (And.intro g0 g5)
        repeat (first | with_reducible refine pv_seq fun K hK => ?_ | ((with_reducible first | refine hK _ _ ?_ | (clear hK; refine hK _ _ ?_) | (clear hK; clear hK; refine hK _ _ ?_)); clear hK; try clear K) | refine W0 ?_ | exact Z | with_reducible intro b)
        refine J _ _ ?_
        rw [← hr]; exact rightTo_yes hl hz
  · have k1 : (a.length < k + 1) = True := eq_true (by omega)
    have : r = false := by rw [← hr]; unfold rightTo; rw [decide_eq_false hl]; rfl
    subst this
    refine PB (rs := [.tmp 4]) Tryz.func68 ?_
    have ft := k1
    exact Wk

set_option maxHeartbeats 2000000 in
theorem p_rCoef {a v : List Iv} {k p : Int} (ha : WfL a) (hb : WfL v) : PC Tryz.prog 33 [II a, II v, i64 k, i64 p] fun d => d = IE (coefR p a v k) := by
  unfold coefR
  by_cases hv : okK k = true
  · obtain ⟨n, rfl, hn⟩ := okK_nat hv
    have k1 : ((n : Int) < 0) = False := eq_false (by omega)
    have k2 : ((10 : Int) < (n : Int)) = False := eq_false (by omega)
    have pA := p_rLong (k := n) ha (by omega)
    have pB := p_rLong (k := n) hb (by omega)
    have pP := p_precs14 (p := p)
    rw [hv, Bool.true_and, Int.toNat_natCast]
    have hra : rightTo a n = true → n < a.length := fun h => by unfold rightTo at h; rw [Bool.and_eq_true, decide_eq_true_eq] at h; exact h.1
    have hrb : rightTo v n = true → n < v.length := fun h => by unfold rightTo at h; rw [Bool.and_eq_true, decide_eq_true_eq] at h; exact h.1
    generalize rightTo a n = ra at *
    generalize rightTo v n = rb at *
    generalize okP p = rp at *
    cases ra
    · unfold II iv0 nu0 at *
      have d1 := @dr 7 qT5_33_7
      refine PB (rs := [.cell 8 28, .tmp 9]) Tryz.func33 ?_
      have ft := And.intro k1 k2
      exact Wk
    · cases rb
      · unfold II iv0 nu0 at *
        have d1 := @dr 7 qT5_33_7
        refine PB (rs := [.cell 8 28, .tmp 9]) Tryz.func33 ?_
        have ft := And.intro k1 k2
        exact Wk
      · cases rp
        · unfold II iv0 nu0 at *
          have d1 := @dr 7 qT5_33_7
          refine PB (rs := [.cell 8 28, .tmp 9]) Tryz.func33 ?_
          have ft := And.intro k1 k2
          exact Wk
        · have hla := hra rfl
          have hlb := hrb rfl
          have hM : ∀ i, PC Tryz.prog 70 [i64 2, IV (gI a i), IV (gI v (n - i)), i64 p] fun d => d = IE (mulI p (gI a i) (gI v (n - i))) := fun i => p_rOpP (ha.at_ i) (hb.at_ _)
          have hA : ∀ i, Wi 65536 (mulI p (gI a i) (gI v (n - i))).1 → PC Tryz.prog 70 [i64 0, IV (coefN p a v n i).1, IV (mulI p (gI a i) (gI v (n - i))).1, i64 p] fun d => d = IE (addI p (coefN p a v n i).1 (mulI p (gI a i) (gI v (n - i))).1) := fun i hw => p_rOpS (coefN_wi i) hw
          unfold II at *
          rw [Bool.and_self, Bool.and_self, if_pos rfl]
          generalize hr : coefN p a v n (n + 1) = r at *
          have d1 := @dr 7 qT5_33_7
          refine PB (rs := [.cell 8 28, .tmp 9]) Tryz.func33 ?_
          have ft := And.intro k1 k2
          repeat (first | with_reducible refine pv_seq fun K hK => ?_ | ((with_reducible first | refine hK _ _ ?_ | (clear hK; refine hK _ _ ?_) | (clear hK; clear hK; refine hK _ _ ?_)); clear hK; try clear K) | refine W ?_ | exact Z | with_reducible intro b)
          have J : ∀ (e : DEnv) (S : Store) (b8 b10 : Nat) (y : List D), y.length = 6 → r.2 = 0 → e 8 = .ptr (.l 8) b8 0 0 6 → e 10 = .ptr (.l 10) b10 0 0 6 → S (.l 8) = some ⟨b8, 6, 0, [y]⟩ → S (.l 10) = some ⟨b10, 6, 0, [cI r.1]⟩ → K e S := by
            intro e S b8 b10 y hy h0 g8 g10 s8 s10
            obtain ⟨⟨⟨n9, e9, w9⟩, ⟨n10, e10, w10⟩⟩, er⟩ := r
            simp only at h0
            subst h0
            unfold cI at s10
            have ft := And.intro g8 (And.intro g10 (And.intro s8 (And.intro s10 hy)))
            exact Wk
          clear hK
          obtain ⟨I, mk, el⟩ := hide fun e S => ∃ (i b8 b10 : Nat) (z y : List D), i ≤ n + 1 ∧ e 0 = .g (eS eI a) ∧ e 1 = .g (eS eI v) ∧ e 2 = i64 n ∧ e 3 = i64 p ∧ e 8 = .ptr (.l 8) b8 0 0 6 ∧ e 10 = .ptr (.l 10) b10 0 0 6 ∧ e 11 = i64 i ∧ (coefN p a v n i).2 = 0 ∧ y.length = 6 ∧ S (.l 8) = some ⟨b8, 6, 0, [y]⟩ ∧
            S (.l 10) = some ⟨b10, 6, 0, [z]⟩ ∧ z.length = 6 ∧ (0 < i → z = cI (coefN p a v n i).1)
          refine pv_loop I (fun e _ => n + 1 - (intD (e 11)).toNat) ?_ ?_
          · have ft := true_and
            exact mk _ _ ⟨0, _, _, [bl false, i64 0, .nil, bl false, i64 0, .nil], [bl false, i64 0, .nil, bl false, i64 0, .nil], Nat.zero_le _, Zr, Zr, Zr, Zr, Zr, Zr, Zr, rfl, rfl, Zr, Zr, rfl, fun h => absurd h (by decide)⟩
          · intro e S hI
            obtain ⟨i, b8, b10, z, y, hi, g0, g1, g2, g3, g8, g10, g11, he, hy, s8, s10, hz, hzi⟩ := el e S hI
            clear el
            have ft := And.intro g0 (And.intro g1 (And.intro g2 (And.intro g3 (And.intro g8 (And.intro g10 g11)))))
            repeat (first | with_reducible refine pv_seq fun K hK => ?_ | ((with_reducible first | refine hK _ _ ?_ | (clear hK; refine hK _ _ ?_) | (clear hK; clear hK; refine hK _ _ ?_)); clear hK; try clear K) | refine W0 ?_ | exact Z | with_reducible intro b)
            refine pv_cdD (fun ht => ?_) (fun ht => ?_)
            · have hil : i < n + 1 := by omega
              have pM := hM i
              have pQ := hA i opI_wi
              have q1 := gI_at (l := a) (i := i) (by omega)
              have q2 := gI_at (l := v) (i := n - i) (by omega)
              have kt : ((n : Int) - (i : Int)).toNat = n - i := by omega
              have hst : (coefN p a v n (i + 1)).2 ≠ 0 → r = coefN p a v n (i + 1) := fun h => by rw [← hr]; exact coefN_stuck h (by omega)
              have hs : coefN p a v n (i + 1) = if (mulI p (gI a i) (gI v (n - i))).2 = 0 then (if i = 0 then mulI p (gI a i) (gI v (n - i)) else addI p (coefN p a v n i).1 (mulI p (gI a i) (gI v (n - i))).1) else mulI p (gI a i) (gI v (n - i)) := by
                conv => lhs; unfold coefN
                rw [if_pos he]
              have he1 := coefN_err (p := p) (a := a) (b := v) (k := n) (i + 1)
              have hgoal : ∀ (e : DEnv) (S : Store) (y2 : List D), e 0 = .g (eS eI a) → e 1 = .g (eS eI v) → e 2 = i64 n → e 3 = i64 p → e 8 = .ptr (.l 8) b8 0 0 6 → e 10 = .ptr (.l 10) b10 0 0 6 → e 11 = i64 ((i + 1 : Nat) : Int) → (coefN p a v n (i + 1)).2 = 0 → y2.length = 6 → S (.l 8) = some ⟨b8, 6, 0, [y2]⟩ → S (.l 10) = some ⟨b10, 6, 0, [cI (coefN p a v n (i + 1)).1]⟩ → I e S :=
                fun e S y2 a0 a1 a2 a3 a8 a10 a11 a12 a13 a14 a15 => mk _ _ ⟨i + 1, b8, b10, _, y2, by omega, a0, a1, a2, a3, a8, a10, a11, a12, a13, a14, a15, rfl, fun _ => rfl⟩
              clear hM hA hr J
              generalize coefN p a v n (i + 1) = c1 at *
              generalize coefN p a v n i = c0 at *
              generalize gI a i = x1 at *
              generalize gI v (n - i) = x2 at *
              generalize mulI p x1 x2 = m at *
              obtain ⟨m, em⟩ := m
              generalize hq : addI p c0.1 m = q at *
              simp only at hs pQ
              obtain ⟨c0, e0⟩ := c0
              obtain ⟨⟨n1, e1, w1⟩, ⟨n2, e2, w2⟩⟩ := x1
              obtain ⟨⟨n3, e3, w3⟩, ⟨n4, e4, w4⟩⟩ := x2
              obtain ⟨⟨n5, e5, w5⟩, ⟨n6, e6, w6⟩⟩ := m
              by_cases h0 : em = 0
              · subst h0
                rw [if_pos rfl] at hs
                by_cases hi0 : i = 0
                · subst hi0
                  rw [if_pos rfl] at hs
                  subst hs
                  obtain ⟨y1, y2, y3, y4, y5, y6, rfl⟩ := len6 hz
                  have kt0 : ((n : Int) - 0).toNat = n - 0 := by omega
                  have ft := And.intro g0 (And.intro g1 (And.intro g2 (And.intro g3 (And.intro g8 (And.intro g10 (And.intro g11 (And.intro s8 (And.intro s10 (And.intro q1 (And.intro q2 kt0))))))))))
                  repeat' (first | with_reducible refine pv_seq fun K hK => ?_ | ((with_reducible first | refine hK _ _ ?_ | (clear hK; refine hK _ _ ?_) | (clear hK; clear hK; refine hK _ _ ?_)); clear hK; try clear K) | refine W ?_ | exact Z | with_reducible intro b | with_reducible refine And.intro ?_ ?_ )
                  all_goals first | (simp only [intD]; omega) | exact hgoal _ _ y Zr Zr Zr Zr Zr Zr Zr rfl hy Zr Zr
                · rw [if_neg hi0] at hs
                  subst hs
                  have hzc := hzi (by omega)
                  subst hzc
                  obtain ⟨⟨⟨n7, e7, w7⟩, ⟨n8, e8, w8⟩⟩, eq⟩ := c1
                  obtain ⟨⟨n9, e9, w9⟩, ⟨n10, e10, w10⟩⟩ := c0
                  have k3 : ((0 : Int) < (i : Int)) = True := eq_true (by omega)
                  unfold cI at *
                  simp only at s10 pQ hst he1
                  by_cases hq0 : eq = 0
                  · subst hq0
                    have ft := And.intro g0 (And.intro g1 (And.intro g2 (And.intro g3 (And.intro g8 (And.intro g10 (And.intro g11 (And.intro s8 (And.intro s10 (And.intro q1 (And.intro q2 (And.intro kt k3)))))))))))
                    repeat' (first | with_reducible refine pv_seq fun K hK => ?_ | ((with_reducible first | refine hK _ _ ?_ | (clear hK; refine hK _ _ ?_) | (clear hK; clear hK; refine hK _ _ ?_)); clear hK; try clear K) | refine W ?_ | exact Z | with_reducible intro b | with_reducible refine And.intro ?_ ?_ )
                    all_goals first | (simp only [intD]; omega) | exact hgoal _ _ y Zr Zr Zr Zr Zr Zr Zr rfl hy Zr Zr
                  · have hq1 := eq_false hq0
                    have hr1 := hst hq0
                    have hr2 := he1 hq0
                    subst hr1
                    try simp only at hr2
                    unfold iv0 nu0 at hr2
                    injection hr2 with z1 z2
                    injection z1 with z3 z4 z5
                    injection z2 with z6 z7 z8
                    subst z3; subst z4; subst z5; subst z6; subst z7; subst z8
                    have ft := And.intro g0 (And.intro g1 (And.intro g2 (And.intro g3 (And.intro g8 (And.intro g10 (And.intro g11 (And.intro s8 (And.intro s10 (And.intro q1 (And.intro q2 (And.intro kt (And.intro k3 (And.intro hq1 hy)))))))))))))
                    repeat' (first | with_reducible refine pv_seq fun K hK => ?_ | ((with_reducible first | refine hK _ _ ?_ | (clear hK; refine hK _ _ ?_) | (clear hK; clear hK; refine hK _ _ ?_)); clear hK; try clear K) | refine W ?_ | exact Z | with_reducible intro b | with_reducible refine And.intro ?_ ?_ )
                    all_goals try rfl
              · rw [if_neg h0] at hs
                subst hs
                have hq1 := eq_false h0
                have hr1 := hst h0
                have hr2 := he1 h0
                subst hr1
                try simp only at hr2
                unfold iv0 nu0 at hr2
                injection hr2 with z1 z2
                injection z1 with z3 z4 z5
                injection z2 with z6 z7 z8
                subst z3; subst z4; subst z5; subst z6; subst z7; subst z8
                have ft := And.intro g0 (And.intro g1 (And.intro g2 (And.intro g3 (And.intro g8 (And.intro g10 (And.intro g11 (And.intro s8 (And.intro s10 (And.intro q1 (And.intro q2 (And.intro kt (And.intro hq1 hy))))))))))))
                repeat' (first | with_reducible refine pv_seq fun K hK => ?_ | ((with_reducible first | refine hK _ _ ?_ | (clear hK; refine hK _ _ ?_) | (clear hK; clear hK; refine hK _ _ ?_)); clear hK; try clear K) | refine W ?_ | exact Z | with_reducible intro b | with_reducible refine And.intro ?_ ?_ )
                all_goals try rfl
            · obtain rfl : i = n + 1 := by omega
              have hzc := hzi (by omega)
              subst hzc
              rw [hr] at he s10
              repeat (first | with_reducible refine pv_seq fun K hK => ?_ | ((with_reducible first | refine hK _ _ ?_ | (clear hK; refine hK _ _ ?_) | (clear hK; clear hK; refine hK _ _ ?_)); clear hK; try clear K) | refine W0 ?_ | exact Z | with_reducible intro b)
              exact J _ _ b8 b10 y hy he Zr Zr s8 s10
  · rw [Bool.not_eq_true] at hv
    rw [hv]
    unfold okK at hv
    unfold II iv0 nu0 at *
    by_cases h1 : k < 0
    · have k1 := eq_true h1
      have d1 := @dr 7 qT5_33_7
      refine PB (rs := [.cell 8 28, .tmp 9]) Tryz.func33 ?_
      have ft := k1
      exact Wk
    · have k1 := eq_false h1
      have k2 : ((10 : Int) < k) = True := eq_true (by
        rw [decide_eq_true (p := 0 ≤ k) (by omega), Bool.true_and, decide_eq_false_iff_not] at hv; omega)
      have d1 := @dr 7 qT5_33_7
      refine PB (rs := [.cell 8 28, .tmp 9]) Tryz.func33 ?_
      have ft := And.intro k1 k2
      exact Wk
end Go.V
namespace Go.V
open Go Go.RowKit Go.Proofs

theorem rS_iv {l : List Iv} {a : Iv} : rS eI l ++ [[bl a.lo.neg, i64 a.lo.exp, W64 a.lo.w, bl a.hi.neg, i64 a.hi.exp, W64 a.hi.w]] = rS eI (l ++ [a]) := by rw [← rS_app]; rfl
def LE (s : List Iv × Int) : D := .tup [.g (eS eI s.1), i64 s.2]
theorem OkS.wf {k : Nat} {s : List Iv × Int} (h : OkS k s) (hk : k ≤ 1000) : WfL s.1 := ⟨by have := h.le; omega, h.wi⟩
theorem timesN_succ {p : Int} {a b : List Iv} {i : Nat} (he : (timesN p a b i).2 = 0) : timesN p a b (i + 1) = if (coefR p a b (i : Nat)).2 = 0 then ((timesN p a b i).1 ++ [(coefR p a b (i : Nat)).1], 0) else ([], (coefR p a b (i : Nat)).2) := by
  conv => lhs; unfold timesN
  rw [if_pos he]

set_option maxHeartbeats 2000000 in
theorem p_times {a b : List Iv} {k : Nat} {p : Int} (ha : WfL a) (hb : WfL b) (hk : k ≤ 1000) : PC Tryz.prog 100 [II a, II b, i64 k, i64 p] fun d => d = LE (timesN p a b (k + 1)) := by
  have pC := fun (i : Nat) => p_Coef (k := (i : Int)) (p := p) ha hb
  generalize hr : timesN p a b (k + 1) = r
  unfold II at *
  refine PB (rs := [.tmp 8, .tmp 9]) Tryz.func100 ?_
  repeat (first | with_reducible refine pv_seq fun K hK => ?_ | ((with_reducible first | refine hK _ _ ?_ | (clear hK; refine hK _ _ ?_) | (clear hK; clear hK; refine hK _ _ ?_)); clear hK; try clear K) | refine W0 ?_ | exact Z | with_reducible intro b)
  have J : ∀ (e : DEnv) (S : Store), r.2 = 0 → RowD S (.l 33) 6 (e 10) (rS eI r.1) → K e S := by
    intro e S h0 hw
    obtain ⟨l, er⟩ := r
    simp only at h0 hw
    subst h0
    repeat (first | with_reducible refine pv_seq fun K hK => ?_ | ((with_reducible first | refine hK _ _ ?_ | (clear hK; refine hK _ _ ?_) | (clear hK; clear hK; refine hK _ _ ?_)); clear hK; try clear K) | refine W0 ?_ | exact Z | with_reducible intro b)
    exact hw.coeD fun S' _ _ => rfl
  clear hK
  refine pv_loop (fun e S => Hid (∃ i : Nat, i ≤ k + 1 ∧ e 0 = .g (eS eI a) ∧ e 1 = .g (eS eI b) ∧ e 3 = i64 p ∧ e 15 = i64 ((k + 1 : Nat) : Int) ∧ e 16 = i64 i ∧ (timesN p a b i).2 = 0 ∧ RowD S (.l 33) 6 (e 10) (rS eI (timesN p a b i).1))) (fun e _ => k + 1 - (intD (e 16)).toNat) ?_ ?_
  · exact ⟨0, Nat.zero_le _, Zr, Zr, Zr, Zr, Zr, rfl, .inl ⟨Zr, rfl⟩⟩
  · rintro e S ⟨i, hi, g0, g1, g3, g15, g16, he, hw⟩
    have ft := And.intro g0 (And.intro g1 (And.intro g3 (And.intro g15 g16)))
    repeat (first | with_reducible refine pv_seq fun K hK => ?_ | ((with_reducible first | refine hK _ _ ?_ | (clear hK; refine hK _ _ ?_) | (clear hK; clear hK; refine hK _ _ ?_)); clear hK; try clear K) | refine W0 ?_ | exact Z | with_reducible intro b)
    refine pv_cdD (fun ht => ?_) (fun ht => ?_)
    · have hil : i < k + 1 := by omega
      have pC := pC i
      have hs := timesN_succ he
      have hst : (timesN p a b (i + 1)).2 ≠ 0 → r = timesN p a b (i + 1) := fun h => by rw [← hr]; exact timesN_stuck h (by omega)
      have hlt : (rS eI (timesN p a b i).1).length ≤ i := by rw [rS_len]; exact timesN_le i
      have hnew := rS_iv (l := (timesN p a b i).1) (a := (coefR p a b (i : Nat)).1)
      generalize coefR p a b (i : Nat) = q at *
      obtain ⟨⟨⟨n1, e1, w1⟩, ⟨n2, e2, w2⟩⟩, eq⟩ := q
      simp only at hs hnew
      by_cases h0 : eq = 0
      · subst h0
        rw [if_pos rfl] at hs
        repeat (first | with_reducible refine pv_seq fun K hK => ?_ | ((with_reducible first | refine hK _ _ ?_ | (clear hK; refine hK _ _ ?_) | (clear hK; clear hK; refine hK _ _ ?_)); clear hK; try clear K) | refine W ?_ | exact Z | with_reducible intro b)
        refine RowD.appL (hw.up (by rfl)) (by decide) rfl (by simp [D.one, W64]) ?_ ?_ fun d' S' hr' hS' => ?_
        · simp only [List.length_singleton]; omega
        · simp only [List.length_singleton]; omega
        repeat (first | with_reducible refine pv_seq fun K hK => ?_ | ((with_reducible first | refine hK _ _ ?_ | (clear hK; refine hK _ _ ?_) | (clear hK; clear hK; refine hK _ _ ?_)); clear hK; try clear K) | refine W0 ?_ | exact Z | with_reducible intro b)
        exact ⟨⟨i + 1, by omega, Zr, Zr, Zr, Zr, Zr, by rw [hs], by rw [hs, ← hnew]; exact hr'⟩, by simp only [intD]; omega⟩
      · rw [if_neg h0] at hs
        have hr1 := (hst (by rw [hs]; exact h0)).trans hs
        subst hr1
        have k1 := eq_false h0
        have ft := And.intro g0 (And.intro g1 (And.intro g3 (And.intro g15 (And.intro g16 k1))))
        exact Wk
    · obtain rfl : i = k + 1 := by omega
      rw [hr] at he hw
      repeat (first | with_reducible refine pv_seq fun K hK => ?_ | ((with_reducible first | refine hK _ _ ?_ | (clear hK; refine hK _ _ ?_) | (clear hK; clear hK; refine hK _ _ ?_)); clear hK; try clear K) | refine W0 ?_ | exact Z | with_reducible intro b)
      exact J _ _ he hw

set_option maxHeartbeats 2000000 in
theorem p_rProduct {a b : List Iv} {k : Nat} {p : Int} (ha : WfL a) (hb : WfL b) (hk : k ≤ 1000) : PC Tryz.prog 72 [II a, II b, i64 k, i64 p] fun d => d = LE (timesN p a b (k + 1)) := by
  have pC := fun (i : Nat) => p_rCoef (k := (i : Int)) (p := p) ha hb
  generalize hr : timesN p a b (k + 1) = r
  unfold II at *
  refine PB (rs := [.tmp 8, .tmp 9]) Tryz.func72 ?_
  repeat (first | with_reducible refine pv_seq fun K hK => ?_ | ((with_reducible first | refine hK _ _ ?_ | (clear hK; refine hK _ _ ?_) | (clear hK; clear hK; refine hK _ _ ?_)); clear hK; try clear K) | refine W0 ?_ | exact Z | with_reducible intro b)
  have J : ∀ (e : DEnv) (S : Store), r.2 = 0 → RowD S (.l 33) 6 (e 10) (rS eI r.1) → K e S := by
    intro e S h0 hw
    obtain ⟨l, er⟩ := r
    simp only at h0 hw
    subst h0
    repeat (first | with_reducible refine pv_seq fun K hK => ?_ | ((with_reducible first | refine hK _ _ ?_ | (clear hK; refine hK _ _ ?_) | (clear hK; clear hK; refine hK _ _ ?_)); clear hK; try clear K) | refine W0 ?_ | exact Z | with_reducible intro b)
    exact hw.coeD fun S' _ _ => rfl
  clear hK
  refine pv_loop (fun e S => Hid (∃ i : Nat, i ≤ k + 1 ∧ e 0 = .g (eS eI a) ∧ e 1 = .g (eS eI b) ∧ e 2 = i64 k ∧ e 3 = i64 p ∧ e 11 = i64 i ∧ (timesN p a b i).2 = 0 ∧ RowD S (.l 33) 6 (e 10) (rS eI (timesN p a b i).1))) (fun e _ => k + 1 - (intD (e 11)).toNat) ?_ ?_
  · exact ⟨0, Nat.zero_le _, Zr, Zr, Zr, Zr, Zr, rfl, .inl ⟨Zr, rfl⟩⟩
  · rintro e S ⟨i, hi, g0, g1, g2, g3, g11, he, hw⟩
    have ft := And.intro g0 (And.intro g1 (And.intro g2 (And.intro g3 g11)))
    repeat (first | with_reducible refine pv_seq fun K hK => ?_ | ((with_reducible first | refine hK _ _ ?_ | (clear hK; refine hK _ _ ?_) | (clear hK; clear hK; refine hK _ _ ?_)); clear hK; try clear K) | refine W0 ?_ | exact Z | with_reducible intro b)
    refine pv_cdD (fun ht => ?_) (fun ht => ?_)
    · have hil : i < k + 1 := by omega
      have pC := pC i
      have hs := timesN_succ he
      have hst : (timesN p a b (i + 1)).2 ≠ 0 → r = timesN p a b (i + 1) := fun h => by rw [← hr]; exact timesN_stuck h (by omega)
      have hlt : (rS eI (timesN p a b i).1).length ≤ i := by rw [rS_len]; exact timesN_le i
      have hnew := rS_iv (l := (timesN p a b i).1) (a := (coefR p a b (i : Nat)).1)
      generalize coefR p a b (i : Nat) = q at *
      obtain ⟨⟨⟨n1, e1, w1⟩, ⟨n2, e2, w2⟩⟩, eq⟩ := q
      simp only at hs hnew
      by_cases h0 : eq = 0
      · subst h0
        rw [if_pos rfl] at hs
        repeat (first | with_reducible refine pv_seq fun K hK => ?_ | ((with_reducible first | refine hK _ _ ?_ | (clear hK; refine hK _ _ ?_) | (clear hK; clear hK; refine hK _ _ ?_)); clear hK; try clear K) | refine W ?_ | exact Z | with_reducible intro b)
        refine RowD.appL (hw.up (by rfl)) (by decide) rfl (by simp [D.one, W64]) ?_ ?_ fun d' S' hr' hS' => ?_
        · simp only [List.length_singleton]; omega
        · simp only [List.length_singleton]; omega
        repeat (first | with_reducible refine pv_seq fun K hK => ?_ | ((with_reducible first | refine hK _ _ ?_ | (clear hK; refine hK _ _ ?_) | (clear hK; clear hK; refine hK _ _ ?_)); clear hK; try clear K) | refine W0 ?_ | exact Z | with_reducible intro b)
        exact ⟨⟨i + 1, by omega, Zr, Zr, Zr, Zr, Zr, by rw [hs], by rw [hs, ← hnew]; exact hr'⟩, by simp only [intD]; omega⟩
      · rw [if_neg h0] at hs
        have hr1 := (hst (by rw [hs]; exact h0)).trans hs
        subst hr1
        have k1 := eq_false h0
        have ft := And.intro g0 (And.intro g1 (And.intro g2 (And.intro g3 (And.intro g11 k1))))
        exact Wk
    · obtain rfl : i = k + 1 := by omega
      rw [hr] at he hw
      repeat (first | with_reducible refine pv_seq fun K hK => ?_ | ((with_reducible first | refine hK _ _ ?_ | (clear hK; refine hK _ _ ?_) | (clear hK; clear hK; refine hK _ _ ?_)); clear hK; try clear K) | refine W0 ?_ | exact Z | with_reducible intro b)
      exact J _ _ he hw

/-! ### Monomials of series -/
def eL (l : List Iv) : List G := [eS eI l]
def LL (xs : List (List Iv)) : D := .g (eS eL xs)
theorem eL_0 {l : List Iv} : eL l = [eS eI l] := rfl
attribute [go_sem] eL_0
structure WfX (xs : List (List Iv)) : Prop where
  n : xs.length ≤ 100000
  w : ∀ l ∈ xs, WfL l
theorem xget {xs : List (List Iv)} {i : Nat} (h : i < xs.length) : xs[i]? = some (xs.getD i []) := by simp [List.getD, List.getElem?_eq_getElem h]
theorem WfX.at_ {xs : List (List Iv)} (h : WfX xs) {i : Nat} (hi : i < xs.length) : WfL (xs.getD i []) := h.w _ (List.mem_of_getElem? (xget hi))
def z6 : List D := [bl false, i64 0, .nil, bl false, i64 0, .nil]
theorem onS_pure {c : Nu} {k : Nat} : pureLL ((((List.replicate (k + 1) z6).set 0 (cI ⟨c, c⟩)).drop 0).take (k + 1)) = some ((onS c k).1.map eI) := by
  have h1 : ∀ k, pureLL (List.replicate k z6) = some ((List.replicate k iv0).map eI) := by
    intro k
    induction k with
    | zero => rfl
    | succ k ih =>
      rw [List.replicate_succ, List.replicate_succ, List.map_cons]
      show (match pureL z6, pureLL (List.replicate k z6) with | some x, some l => some (x :: l) | _, _ => none) = _
      rw [ih]; rfl
  rw [List.replicate_succ, List.set_cons_zero, List.drop_zero, List.take_of_length_le (by simp)]
  show (match pureL (cI ⟨c, c⟩), pureLL (List.replicate k z6) with | some x, some l => some (x :: l) | _, _ => none) = _
  rw [h1]; rfl
theorem mulS_succ {p : Int} {x : List Iv} {k : Nat} {s : List Iv × Int} {n : Nat} (h : (mulS p x k s n).2 = 0) : mulS p x k s (n + 1) = timesN p (mulS p x k s n).1 x (k + 1) := by
  conv => lhs; unfold mulS
  rw [if_pos h]
set_option maxHeartbeats 4000000 in
theorem p_sOver {m : Mo} {xs : List (List Iv)} {k : Nat} {p : Int} (hm : Wm m) (hx : WfX xs) (hl : m.e.length ≤ xs.length) (h8 : ∀ i, i < m.e.length → m.e.getD i 0 ≤ 8) (hk : k ≤ 1000) : PC Tryz.prog 65 [MO m, LL xs, i64 k, i64 p] fun d => d = LE (overR p xs k m) := by
  have pO := p_OfI (x := m.c) (by have := hm.c.len; omega)
  have hok := onS_ok (k := k) hm.c
  have hn := hm.n
  unfold overR
  obtain ⟨c, z⟩ := m
  simp only at *
  have hpure := onS_pure (c := c) (k := k)
  generalize hr : overN p xs k z (onS c k) z.length = r
  have kt : ((k : Int) + 1).toNat = k + 1 := by omega
  have kz : ∀ z : List D, (List.replicate (k + 1) z)[0]? = some z := fun _ => rfl
  unfold LL
  obtain ⟨n1, e1, w1⟩ := c
  refine PB (rs := [.tmp 8, .tmp 9]) Tryz.func65 ?_
  have ft := And.intro kt kz
  repeat (first | with_reducible refine pv_stop 2 ?_ | with_reducible refine pv_seq fun K hK => ?_ | ((with_reducible first | refine hK _ _ ?_ | (clear hK; refine hK _ _ ?_) | (clear hK; clear hK; refine hK _ _ ?_)); clear hK; try clear K) | refine W ?_ | exact Z | with_reducible intro b)
  refine ⟨fun K q hC => ?_⟩
  repeat (first | with_reducible refine pv_seq fun K hK => ?_ | ((with_reducible first | refine hK _ _ ?_ | (clear hK; refine hK _ _ ?_) | (clear hK; clear hK; refine hK _ _ ?_)); clear hK; try clear K) | refine W ?_ | exact Z | with_reducible intro b)
  refine hC _ _ (Recast.frzSlot 10 (k := .l 17) rfl rfl hpure (by simp) ?_)
  rw [sl_eS]
  refine q _ _ ?_
  clear hC q
  have ft := true_and
  repeat (first | with_reducible refine pv_seq fun K hK => ?_ | ((with_reducible first | refine hK _ _ ?_ | (clear hK; refine hK _ _ ?_) | (clear hK; clear hK; refine hK _ _ ?_)); clear hK; try clear K) | refine W0 ?_ | exact Z | with_reducible intro b)
  have J : ∀ (e : DEnv) (S : Store), r.2 = 0 → e 10 = .g (eS eI r.1) → K e S := by
    intro e S h0 g10
    obtain ⟨l, er⟩ := r
    simp only at h0 g10
    subst h0
    have ft := g10
    exact Wk
  clear hK
  generalize hs0 : onS (⟨n1, e1, w1⟩ : Nu) k = s0 at *
  refine pv_loop (fun e S => Hid (∃ i : Nat, i ≤ z.length ∧ e 1 = .g (eS eL xs) ∧ e 2 = i64 k ∧ e 3 = i64 p ∧ e 24 = .g (eS eZ z) ∧ e 25 = i64 z.length ∧ e 26 = i64 i ∧ (overN p xs k z s0 i).2 = 0 ∧ e 10 = .g (eS eI (overN p xs k z s0 i).1))) (fun e _ => z.length - (intD (e 26)).toNat) ?_ ?_
  · have h0 : s0.2 = 0 := by rw [← hs0]; rfl
    exact ⟨0, Nat.zero_le _, Zr, Zr, Zr, Zr, Zr, Zr, h0, by rw [show overN p xs k z s0 0 = s0 from rfl]; rfl⟩
  · rintro e S ⟨i, hi, g1, g2, g3, g24, g25, g26, he, g10⟩
    have ft := And.intro g1 (And.intro g2 (And.intro g3 (And.intro g24 (And.intro g25 (And.intro g26 g10)))))
    repeat (first | with_reducible refine pv_seq fun K hK => ?_ | ((with_reducible first | refine hK _ _ ?_ | (clear hK; refine hK _ _ ?_) | (clear hK; clear hK; refine hK _ _ ?_)); clear hK; try clear K) | refine W0 ?_ | exact Z | with_reducible intro b)
    refine pv_cdD (fun ht => ?_) (fun ht => ?_)
    · have hil : i < z.length := by omega
      have q1 := zget hil
      have q2 := xget (xs := xs) (i := i) (by omega)
      have hov : overN p xs k z s0 (i + 1) = mulS p (xs.getD i []) k (overN p xs k z s0 i) (z.getD i 0).toNat := rfl
      have hst : (overN p xs k z s0 (i + 1)).2 ≠ 0 → r = overN p xs k z s0 (i + 1) := fun h => by rw [← hr]; exact overN_stuck h (by omega)
      have hokm := fun j => mulS_ok (p := p) (x := xs.getD i []) (overN_ok (p := p) (xs := xs) (e := z) hok i) j
      have hwx := hx.at_ (i := i) (by omega)
      have hy8 := h8 i hil
      generalize overN p xs k z s0 i = t0 at *
      generalize z.getD i 0 = y at *
      generalize xs.getD i [] = l at *
      clear hr J
      have ft := And.intro g1 (And.intro g2 (And.intro g3 (And.intro g24 (And.intro g25 (And.intro g26 (And.intro g10 q1))))))
      repeat (first | with_reducible refine pv_seq fun K hK => ?_ | ((with_reducible first | refine hK _ _ ?_ | (clear hK; refine hK _ _ ?_) | (clear hK; clear hK; refine hK _ _ ?_)); clear hK; try clear K) | refine W0 ?_ | exact Z | with_reducible intro b)
      have hm0 : (intD (e 26)).toNat = i := by rw [g26]; exact Int.toNat_natCast i
      refine pv_loop (fun e T => Hid (∃ j : Nat, j ≤ y.toNat ∧ e 1 = .g (eS eL xs) ∧ e 2 = i64 k ∧ e 3 = i64 p ∧ e 24 = .g (eS eZ z) ∧ e 25 = i64 z.length ∧ e 26 = i64 i ∧ e 11 = i64 i ∧ e 31 = i64 y ∧ e 32 = i64 j ∧ (mulS p l k t0 j).2 = 0 ∧ e 10 = .g (eS eI (mulS p l k t0 j).1))) (fun e _ => y.toNat - (intD (e 32)).toNat) ?_ ?_
      · exact ⟨0, Nat.zero_le _, Zr, Zr, Zr, Zr, Zr, Zr, Zr, Zr, Zr, he, g10⟩
      rintro e T ⟨j, hj, g1, g2, g3, g24, g25, g26, g11, g31, g32, he2, g10⟩
      have ft := And.intro g1 (And.intro g2 (And.intro g3 (And.intro g24 (And.intro g25 (And.intro g26 (And.intro g11 (And.intro g31 (And.intro g32 g10))))))))
      repeat (first | with_reducible refine pv_seq fun K hK => ?_ | ((with_reducible first | refine hK _ _ ?_ | (clear hK; refine hK _ _ ?_) | (clear hK; clear hK; refine hK _ _ ?_)); clear hK; try clear K) | refine W0 ?_ | exact Z | with_reducible intro b)
      refine pv_cdD (fun ht2 => ?_) (fun ht2 => ?_)
      · have hjl : j < y.toNat := by omega
        have pT := p_times (k := k) (p := p) ((hokm j).wf hk) hwx hk
        have hs := mulS_succ he2
        have hst2 : (mulS p l k t0 (j + 1)).2 ≠ 0 → r = mulS p l k t0 (j + 1) := fun h => by
          have := mulS_stuck (n := y.toNat) h (by omega)
          rw [← hov] at this
          rw [← this]
          exact hst (by rw [this]; exact h)
        have her := (hokm (j + 1)).err
        generalize hs1 : mulS p l k t0 (j + 1) = s1 at *
        generalize mulS p l k t0 j = s2 at *
        rw [← hs] at pT
        clear hs hokm hov hst
        obtain ⟨l1, es⟩ := s1
        unfold II LE at pT
        by_cases h0 : es = 0
        · subst h0
          have ft := And.intro g1 (And.intro g2 (And.intro g3 (And.intro g24 (And.intro g25 (And.intro g26 (And.intro g11 (And.intro g31 (And.intro g32 (And.intro g10 q2)))))))))
          repeat (first | with_reducible refine pv_seq fun K hK => ?_ | ((with_reducible first | refine hK _ _ ?_ | (clear hK; refine hK _ _ ?_) | (clear hK; clear hK; refine hK _ _ ?_)); clear hK; try clear K) | refine W ?_ | exact Z | with_reducible intro b)
          exact ⟨⟨j + 1, by omega, Zr, Zr, Zr, Zr, Zr, Zr, Zr, Zr, Zr, by rw [hs1], by rw [hs1]; try exact Zr⟩, by simp only [intD]; omega⟩
        · have k1 := eq_false h0
          have hr1 := hst2 h0
          have hl1 := her h0
          simp only at hl1
          subst hl1
          subst hr1
          have ft := And.intro g1 (And.intro g2 (And.intro g3 (And.intro g24 (And.intro g25 (And.intro g26 (And.intro g11 (And.intro g31 (And.intro g32 (And.intro g10 (And.intro q2 k1))))))))))
          exact Wk
      · obtain rfl : j = y.toNat := by omega
        repeat (first | with_reducible refine pv_seq fun K hK => ?_ | ((with_reducible first | refine hK _ _ ?_ | (clear hK; refine hK _ _ ?_) | (clear hK; clear hK; refine hK _ _ ?_)); clear hK; try clear K) | refine W0 ?_ | exact Z | with_reducible intro b)
        exact ⟨⟨i + 1, by omega, Zr, Zr, Zr, Zr, Zr, Zr, by rw [hov]; exact he2, by rw [hov]; exact g10⟩, by rw [hm0]; simp only [intD]; omega⟩
    · obtain rfl : i = z.length := by omega
      rw [hr] at he g10
      repeat (first | with_reducible refine pv_seq fun K hK => ?_ | ((with_reducible first | refine hK _ _ ?_ | (clear hK; refine hK _ _ ?_) | (clear hK; clear hK; refine hK _ _ ?_)); clear hK; try clear K) | refine W0 ?_ | exact Z | with_reducible intro b)
      exact J _ _ he g10
end Go.V
namespace Go.V
open Go Go.RowKit Go.Proofs
def qT7_29_16 : List (Nat × Nat) := [(0, 1), (1, 0), (2, 0), (3, 0), (4, 1), (5, 0), (6, 3), (7, 0), (8, 0), (9, 0), (10, 3), (11, 0)]
attribute [go_sem] qT7_29_16
theorem Recast.z6 {N : DEnv → Store → Prop} {e : DEnv} {S : Store} {k : Nm} {b : Nat} (hk : S k = some ⟨b, 6, 0, [V.z6]⟩) (h : N e (updS S k (some ⟨b, 6, 0, [cI iv0]⟩))) : Recast N e S := by
  refine Recast.join (Recast.cell (i := 0) (j := 2) (es := V.z6) (d := .nil) (d' := W64 []) hk rfl rfl (fun I H v hv => nil_row hv) ?_)
  refine Recast.cell (i := 0) (j := 5) (es := V.z6.set 2 (W64 [])) (d := .nil) (d' := W64 []) updS_at rfl rfl (fun I H v hv => nil_row hv) ?_
  rw [updS_updS]; exact h
theorem ofN_succ {p : Int} {q : List Mo} {xs : List (List Iv)} {k i : Nat} (h : (ofN p q xs k i).2 = 0) : ofN p q xs k (i + 1) = if (overR p xs k (gM q i)).2 = 0 then addI p (ofN p q xs k i).1 (gI (overR p xs k (gM q i)).1 k) else (iv0, (overR p xs k (gM q i)).2) := by
  conv => lhs; unfold ofN
  rw [if_pos h]
theorem all_no {xs : List (List Iv)} {k i : Nat} (hi : i < xs.length) (h : rightTo (xs.getD i []) k = false) : decide (∀ x ∈ xs, rightTo x k = true) = false :=
  decide_eq_false fun h2 => by rw [h2 _ (List.mem_of_getElem? (xget hi))] at h; cases h
theorem all_yes {xs : List (List Iv)} {k : Nat} (h : ∀ i, i < xs.length → rightTo (xs.getD i []) k = true) : decide (∀ x ∈ xs, rightTo x k = true) = true :=
  decide_eq_true fun x hx => by
    obtain ⟨i, hi⟩ := List.mem_iff_getElem?.1 hx
    have hil : i < xs.length := (List.getElem?_eq_some_iff.1 hi).1
    have := h i hil
    rw [xget hil] at hi
    injection hi with hi; rwa [hi] at this
theorem poly_at {q : List Mo} {n : Int} (h : polyB q n = true) {i : Nat} (hi : i < q.length) : atB q n i := by
  unfold polyB at h
  rw [Bool.and_eq_true] at h
  exact of_decide_eq_true h.2 i hi
theorem poly_len {q : List Mo} {n : Int} (h : polyB q n = true) {i : Nat} (hi : i < q.length) : ((gM q i).e.length : Int) = n := by
  have := (poly_at h hi).1
  unfold monoB at this
  simp only [Bool.and_eq_true, decide_eq_true_eq] at this
  exact this.1.1.1
theorem le_sum : ∀ {l : List Int}, (∀ x ∈ l, 0 ≤ x) → ∀ i, i < l.length → l.getD i 0 ≤ l.sum
  | x :: l, h, 0, _ => by
    have h1 := sum_take_le (l := l) 0 (fun y hy => h y (List.mem_cons_of_mem _ hy))
    simp only [List.take_zero, List.sum_nil] at h1
    show x ≤ x + l.sum
    omega
  | x :: l, h, i + 1, hi => by
    have h1 := le_sum (l := l) (fun y hy => h y (List.mem_cons_of_mem _ hy)) i (by simpa using hi)
    have h2 := h x List.mem_cons_self
    show l.getD i 0 ≤ x + l.sum
    omega
theorem poly_e8 {q : List Mo} {n : Int} (h : polyB q n = true) {i : Nat} (hi : i < q.length) : ∀ j, j < (gM q i).e.length → (gM q i).e.getD j 0 ≤ 8 := fun j hj => by
  have := (poly_at h hi).1
  unfold monoB at this
  simp only [Bool.and_eq_true, decide_eq_true_eq] at this
  have h2 := le_sum this.1.1.2 j hj
  omega
theorem overR_ok {p : Int} {xs : List (List Iv)} {k : Nat} {m : Mo} (h : Wl 65536 m.c) : OkS k (overR p xs k m) := overN_ok (onS_ok h) _

set_option maxHeartbeats 4000000 in
theorem p_sOf {q : List Mo} {xs : List (List Iv)} {k p : Int} (hq : WfM q) (hx : WfX xs) : PC Tryz.prog 29 [MM q, LL xs, i64 k, i64 p] fun d => d = IE (ofR p q xs k) := by
  have pV := p_sValid (k := k) (p := p)
  have pR := p_pRight (n := (xs.length : Int)) hq
  have hxn := hx.n
  have hqn := hq.n
  unfold ofR
  by_cases hv : (okK k && okP p) = true
  · have hv2 := hv
    rw [Bool.and_eq_true] at hv2
    obtain ⟨n, rfl, hn⟩ := okK_nat hv2.1
    rw [hv] at pV
    rw [hv2.1, hv2.2, Bool.true_and, Bool.and_true, Int.toNat_natCast]
    have hlen := fun (h : polyB q (xs.length : Int) = true) (i : Nat) (hi : i < q.length) => (⟨poly_len h hi, poly_e8 h hi⟩ : _ ∧ _)
    generalize polyB q (xs.length : Int) = rq at *
    cases rq
    · unfold LL MM iv0 nu0 at *
      have d1 := @dl 16 qT7_29_16
      refine PB (rs := [.cell 8 28, .tmp 9]) Tryz.func29 ?_
      exact Wk
    · have hlen := hlen rfl
      rw [Bool.true_and]
      generalize hr : (if decide (∀ x ∈ xs, rightTo x n = true) = true then ofN p q xs n q.length else (iv0, 1)) = r
      have hno : ∀ i, i < xs.length → rightTo (xs.getD i []) n = false → r = (iv0, 1) := fun i hi h => by rw [← hr, all_no hi h]; rfl
      have hyes : (∀ i, i < xs.length → rightTo (xs.getD i []) n = true) → ofN p q xs n q.length = r := fun h => by rw [← hr, all_yes h]; rfl
      clear hr
      unfold LL MM at *
      have d1 := @dl 16 qT7_29_16
      refine PB (rs := [.cell 8 28, .tmp 9]) Tryz.func29 ?_
      repeat (first | with_reducible refine pv_seq fun K hK => ?_ | ((with_reducible first | refine hK _ _ ?_ | (clear hK; refine hK _ _ ?_) | (clear hK; clear hK; refine hK _ _ ?_)); clear hK; try clear K) | refine W ?_ | exact Z | with_reducible intro b)
      have J : ∀ (e : DEnv) (S : Store) (b8 : Nat), ofN p q xs n q.length = r → e 0 = .g (eS eM q) → e 1 = .g (eS eL xs) → e 2 = i64 n → e 3 = i64 p → e 8 = .ptr (.l 8) b8 0 0 6 → S (.l 8) = some ⟨b8, 6, 0, [z6]⟩ → K e S := by
        intro e S b8 hr g0 g1 g2 g3 g8 s8
        clear hno hyes
        have ft := And.intro g0 (And.intro g1 (And.intro g2 (And.intro g3 (And.intro g8 s8))))
        repeat (first | with_reducible refine pv_stop 9 ?_ | with_reducible refine pv_seq fun K hK => ?_ | ((with_reducible first | refine hK _ _ ?_ | (clear hK; refine hK _ _ ?_) | (clear hK; clear hK; refine hK _ _ ?_)); clear hK; try clear K) | refine W ?_ | exact Z | with_reducible intro b)
        refine ⟨fun K q0 hC => ?_⟩
        repeat (first | with_reducible refine pv_seq fun K hK => ?_ | ((with_reducible first | refine hK _ _ ?_ | (clear hK; refine hK _ _ ?_) | (clear hK; clear hK; refine hK _ _ ?_)); clear hK; try clear K) | refine W0 ?_ | exact Z | with_reducible intro b)
        refine hC _ _ (Recast.z6 (k := .l 12) rfl ?_)
        refine q0 _ _ ?_
        clear hC q0
        repeat (first | with_reducible refine pv_seq fun K hK => ?_ | ((with_reducible first | refine hK _ _ ?_ | (clear hK; refine hK _ _ ?_) | (clear hK; clear hK; refine hK _ _ ?_)); clear hK; try clear K) | refine W0 ?_ | exact Z | with_reducible intro b)
        have J2 : ∀ (e : DEnv) (S : Store) (b12 : Nat), r.2 = 0 → e 8 = .ptr (.l 8) b8 0 0 6 → e 12 = .ptr (.l 12) b12 0 0 6 → S (.l 8) = some ⟨b8, 6, 0, [z6]⟩ → S (.l 12) = some ⟨b12, 6, 0, [cI r.1]⟩ → K e S := by
          intro e S b12 h0 g8 g12 s8 s12
          obtain ⟨⟨⟨n1, e1, w1⟩, ⟨n2, e2, w2⟩⟩, er⟩ := r
          simp only at h0
          subst h0
          unfold cI at s12
          unfold z6 at s8
          have ft := And.intro g8 (And.intro g12 (And.intro s8 s12))
          exact Wk
        clear hK
        obtain ⟨I, mk, el⟩ := hide fun e S => ∃ (i b12 : Nat), i ≤ q.length ∧ e 1 = .g (eS eL xs) ∧ e 2 = i64 n ∧ e 3 = i64 p ∧ e 8 = .ptr (.l 8) b8 0 0 6 ∧ e 12 = .ptr (.l 12) b12 0 0 6 ∧ e 41 = .g (eS eM q) ∧ e 42 = i64 q.length ∧ e 43 = i64 i ∧ (ofN p q xs n i).2 = 0 ∧ S (.l 8) = some ⟨b8, 6, 0, [z6]⟩ ∧ S (.l 12) = some ⟨b12, 6, 0, [cI (ofN p q xs n i).1]⟩
        refine pv_loop I (fun e _ => q.length - (intD (e 43)).toNat) ?_ ?_
        · exact mk _ _ ⟨0, _, Nat.zero_le _, Zr, Zr, Zr, Zr, Zr, Zr, Zr, Zr, rfl, by simp only [updS_apply]; exact s8, by simp only [updS_apply]; rfl⟩
        · intro e S hI
          obtain ⟨i, b12, hi, g1, g2, g3, g8, g12, g41, g42, g43, he, s8, s12⟩ := el e S hI
          clear el
          have ft := And.intro g1 (And.intro g2 (And.intro g3 (And.intro g8 (And.intro g12 (And.intro g41 (And.intro g42 g43))))))
          repeat (first | with_reducible refine pv_seq fun K hK => ?_ | ((with_reducible first | refine hK _ _ ?_ | (clear hK; refine hK _ _ ?_) | (clear hK; clear hK; refine hK _ _ ?_)); clear hK; try clear K) | refine W0 ?_ | exact Z | with_reducible intro b)
          refine pv_cdD (fun ht => ?_) (fun ht => ?_)
          · have hil : i < q.length := by omega
            have q1 := gM_at hil
            have wm := hq.at_ hil
            have pO := p_sOver (k := n) (p := p) wm hx (by have := (hlen i hil).1; omega) (hlen i hil).2 (by omega)
            have hok := overR_ok (p := p) (xs := xs) (k := n) wm.c
            have hs := ofN_succ he
            have hst : (ofN p q xs n (i + 1)).2 ≠ 0 → r = ofN p q xs n (i + 1) := fun h => by rw [← hr]; exact ofN_stuck h (by omega)
            have he1 := ofN_err (p := p) (q := q) (xs := xs) (k := n) (i + 1)
            have w0 := ofN_wi (p := p) (q := q) (xs := xs) (k := n) i
            have hgoal : ∀ (e : DEnv) (S : Store), e 1 = .g (eS eL xs) → e 2 = i64 n → e 3 = i64 p → e 8 = .ptr (.l 8) b8 0 0 6 → e 12 = .ptr (.l 12) b12 0 0 6 → e 41 = .g (eS eM q) → e 42 = i64 q.length → e 43 = i64 ((i + 1 : Nat) : Int) → (ofN p q xs n (i + 1)).2 = 0 → S (.l 8) = some ⟨b8, 6, 0, [z6]⟩ → S (.l 12) = some ⟨b12, 6, 0, [cI (ofN p q xs n (i + 1)).1]⟩ → I e S :=
              fun e S a1 a2 a3 a4 a5 a6 a7 a8 a9 a10 a11 => mk _ _ ⟨i + 1, b12, by omega, a1, a2, a3, a4, a5, a6, a7, a8, a9, a10, a11⟩
            unfold LE LL at pO
            clear hr J2 hlen hq wm
            generalize ofN p q xs n (i + 1) = t1 at *
            generalize ofN p q xs n i = t0 at *
            generalize gM q i = m at *
            obtain ⟨⟨nm, em, wm⟩, zm⟩ := m
            generalize overR p xs n ⟨⟨nm, em, wm⟩, zm⟩ = s at *
            obtain ⟨l, es⟩ := s
            obtain ⟨t0, e0⟩ := t0
            simp only at hs
            by_cases h0 : es = 0
            · subst h0
              rw [if_pos rfl] at hs
              have hl := hok.len rfl
              simp only at hl
              have hnl : n < l.length := by omega
              have q2 := gI_at (l := l) (i := n) (by omega)
              have pA := p_iAdd (p := p) w0 (hok.wi _ (gI_mem (i := n) (by simp only; omega)))
              change PC _ _ _ fun d => d = IE (addI p t0 (gI l n)) at pA
              rw [← hs] at pA
              generalize gI l n = x at *
              clear hs hok
              obtain ⟨⟨n1, e1, w1⟩, ⟨n2, e2, w2⟩⟩ := x
              obtain ⟨⟨⟨n3, e3, w3⟩, ⟨n4, e4, w4⟩⟩, et⟩ := t1
              obtain ⟨⟨n5, e5, w5⟩, ⟨n6, e6, w6⟩⟩ := t0
              unfold cI at *
              simp only at s12 hgoal hst he1
              by_cases h1 : et = 0
              · subst h1
                have ft := And.intro g1 (And.intro g2 (And.intro g3 (And.intro g8 (And.intro g12 (And.intro g41 (And.intro g42 (And.intro g43 (And.intro q1 (And.intro q2 s12)))))))))
                repeat (first | with_reducible refine pv_seq fun K hK => ?_ | ((with_reducible first | refine hK _ _ ?_ | (clear hK; refine hK _ _ ?_) | (clear hK; clear hK; refine hK _ _ ?_)); clear hK; try clear K) | refine W ?_ | exact Z | with_reducible intro b)
                exact ⟨hgoal _ _ Zr Zr Zr Zr Zr Zr Zr Zr rfl (by simp only [updS_apply]; exact s8) Zr, by simp only [intD]; omega⟩
              · have k1 := eq_false h1
                have hr1 := hst h1
                have hr2 := he1 h1
                subst hr1
                unfold iv0 nu0 at hr2
                injection hr2 with z1 z2
                injection z1 with z3 z4 z5
                injection z2 with z6 z7 z8
                subst z3; subst z4; subst z5; subst z6; subst z7; subst z8
                unfold V.z6 at s8
                have ft := And.intro g1 (And.intro g2 (And.intro g3 (And.intro g8 (And.intro g12 (And.intro g41 (And.intro g42 (And.intro g43 (And.intro q1 (And.intro q2 (And.intro s12 (And.intro s8 k1)))))))))))
                exact Wk
            · rw [if_neg h0] at hs
              subst hs
              have k1 := eq_false h0
              have hr1 := hst h0
              subst hr1
              unfold z6 at s8
              unfold iv0 nu0 at *
              have ft := And.intro g1 (And.intro g2 (And.intro g3 (And.intro g8 (And.intro g12 (And.intro g41 (And.intro g42 (And.intro g43 (And.intro q1 (And.intro s12 (And.intro s8 k1))))))))))
              exact Wk
          · obtain rfl : i = q.length := by omega
            rw [hr] at he s12
            repeat (first | with_reducible refine pv_seq fun K hK => ?_ | ((with_reducible first | refine hK _ _ ?_ | (clear hK; refine hK _ _ ?_) | (clear hK; clear hK; refine hK _ _ ?_)); clear hK; try clear K) | refine W0 ?_ | exact Z | with_reducible intro b)
            exact J2 _ _ b12 he g8 Zr s8 s12
      clear hK
      refine pv_loop (fun e S => Hid (∃ (i b8 : Nat), i ≤ xs.length ∧ e 0 = .g (eS eM q) ∧ e 1 = .g (eS eL xs) ∧ e 2 = i64 n ∧ e 3 = i64 p ∧ e 8 = .ptr (.l 8) b8 0 0 6 ∧ e 29 = .g (eS eL xs) ∧ e 30 = i64 xs.length ∧ e 31 = i64 i ∧ (∀ j, j < i → rightTo (xs.getD j []) n = true) ∧ S (.l 8) = some ⟨b8, 6, 0, [z6]⟩)) (fun e _ => xs.length - (intD (e 31)).toNat) ?_ ?_
      · exact ⟨0, _, Nat.zero_le _, Zr, Zr, Zr, Zr, Zr, Zr, Zr, Zr, fun j hj => by omega, by simp only [updS_apply]; rfl⟩
      · rintro e S ⟨i, b8, hi, g0, g1, g2, g3, g8, g29, g30, g31, hz, s8⟩
        have ft := And.intro g0 (And.intro g1 (And.intro g2 (And.intro g3 (And.intro g8 (And.intro g29 (And.intro g30 g31))))))
        repeat (first | with_reducible refine pv_seq fun K hK => ?_ | ((with_reducible first | refine hK _ _ ?_ | (clear hK; refine hK _ _ ?_) | (clear hK; clear hK; refine hK _ _ ?_)); clear hK; try clear K) | refine W0 ?_ | exact Z | with_reducible intro b)
        refine pv_cdD (fun ht => ?_) (fun ht => ?_)
        · have hil : i < xs.length := by omega
          have q1 := xget hil
          have pT := p_sRight (k := n) (hx.at_ hil) (by omega)
          have hno := hno i hil
          have hz2 : rightTo (xs.getD i []) n = true → ∀ j, j < i + 1 → rightTo (xs.getD j []) n = true := fun h j hj => by
            rcases Nat.lt_or_ge j i with h1 | h1
            · exact hz j h1
            · obtain rfl : j = i := by omega
              exact h
          generalize rightTo (xs.getD i []) n = t at *
          generalize xs.getD i [] = l at *
          unfold II at pT
          cases t
          · have h := hno rfl
            subst h
            unfold iv0 nu0 at *
            unfold z6 at s8
            have ft := And.intro g0 (And.intro g1 (And.intro g2 (And.intro g3 (And.intro g8 (And.intro g29 (And.intro g30 (And.intro g31 (And.intro q1 s8))))))))
            exact Wk
          · have ft := And.intro g0 (And.intro g1 (And.intro g2 (And.intro g3 (And.intro g8 (And.intro g29 (And.intro g30 (And.intro g31 q1)))))))
            repeat (first | with_reducible refine pv_seq fun K hK => ?_ | ((with_reducible first | refine hK _ _ ?_ | (clear hK; refine hK _ _ ?_) | (clear hK; clear hK; refine hK _ _ ?_)); clear hK; try clear K) | refine W ?_ | exact Z | with_reducible intro b)
            exact ⟨⟨i + 1, b8, by omega, Zr, Zr, Zr, Zr, Zr, Zr, Zr, Zr, hz2 rfl, s8⟩, by simp only [intD]; omega⟩
        · obtain rfl : i = xs.length := by omega
          repeat (first | with_reducible refine pv_seq fun K hK => ?_ | ((with_reducible first | refine hK _ _ ?_ | (clear hK; refine hK _ _ ?_) | (clear hK; clear hK; refine hK _ _ ?_)); clear hK; try clear K) | refine W0 ?_ | exact Z | with_reducible intro b)
          exact J _ _ b8 (hyes hz) Zr Zr Zr Zr Zr s8
  · rw [Bool.not_eq_true] at hv
    rw [hv] at pV
    have : (okK k && polyB q (xs.length : Int) && okP p && decide (∀ x ∈ xs, rightTo x k.toNat = true)) = false := by
      rw [Bool.and_eq_false_iff] at hv
      rcases hv with h | h
      · rw [h]; rfl
      · rw [h, Bool.and_false]; rfl
    rw [this]
    unfold LL MM iv0 nu0 at *
    have d1 := @dl 16 qT7_29_16
    refine PB (rs := [.cell 8 28, .tmp 9]) Tryz.func29 ?_
    exact Wk
end Go.V
namespace Go.V
open Go Go.RowKit Go.Proofs
def qT8_34_24 : PT := (.lin [(0, 2), (1, 0), (2, 0), (3, 0), (4, 2), (5, 0)] (.fork 6 3 (.lin [(7, 0), (8, 0), (9, 0), (10, 4), (11, 3), (12, 0)] .nil) 10 4 (.lin [(6, 3), (7, 0), (8, 0), (9, 0), (11, 3), (12, 0)] .nil)))
attribute [go_sem] qT8_34_24
/-- What stays in sight in the loops. -/
structure Of14 (q : List Mo) (xs : List (List Iv)) (n : Nat) (p : Int) (b8 b11 m : Nat) (t : Iv) (e : DEnv) (S : Store) : Prop where
  g0 : e 0 = .g (eS eM q)
  g1 : e 1 = .g (eS eL xs)
  g2 : e 2 = i64 n
  g3 : e 3 = i64 p
  g8 : e 8 = .ptr (.l 8) b8 0 0 6
  g11 : e 11 = .ptr (.l 11) b11 0 0 6
  g12 : e 12 = i64 m
  s8 : S (.l 8) = some ⟨b8, 6, 0, [z6]⟩
  s11 : S (.l 11) = some ⟨b11, 6, 0, [cI t]⟩
set_option maxHeartbeats 8000000 in
theorem p_rOf14 {q : List Mo} {xs : List (List Iv)} {k p : Int} (hq : WfM q) (hx : WfX xs) : PC Tryz.prog 34 [MM q, LL xs, i64 k, i64 p] fun d => d = IE (ofR p q xs k) := by
  have pR := p_rPRight (n := (xs.length : Int)) hq
  have pP := p_precs14 (p := p)
  have hxn := hx.n
  have hqn := hq.n
  unfold ofR
  by_cases hv : okK k = true
  · obtain ⟨n, rfl, hn⟩ := okK_nat hv
    have k1 : ((n : Int) < 0) = False := eq_false (by omega)
    have k2 : ((10 : Int) < (n : Int)) = False := eq_false (by omega)
    rw [hv, Bool.true_and, Int.toNat_natCast]
    have hlen := fun (h : polyB q (xs.length : Int) = true) (i : Nat) (hi : i < q.length) => (⟨poly_len h hi, poly_e8 h hi⟩ : _ ∧ _)
    generalize polyB q (xs.length : Int) = rq at *
    generalize okP p = rp at *
    cases rq
    · unfold LL MM iv0 nu0 at *
      have d1 := @dr 24 qT8_34_24
      refine PB (rs := [.cell 8 28, .tmp 9]) Tryz.func34 ?_
      have ft := And.intro k1 k2
      exact Wk
    · cases rp
      · unfold LL MM iv0 nu0 at *
        have d1 := @dr 24 qT8_34_24
        refine PB (rs := [.cell 8 28, .tmp 9]) Tryz.func34 ?_
        have ft := And.intro k1 k2
        exact Wk
      · have hlen := hlen rfl
        rw [Bool.and_self, Bool.true_and]
        generalize hr : (if decide (∀ x ∈ xs, rightTo x n = true) = true then ofN p q xs n q.length else (iv0, 1)) = r
        have hno : ∀ i, i < xs.length → rightTo (xs.getD i []) n = false → r = (iv0, 1) := fun i hi h => by rw [← hr, all_no hi h]; rfl
        have hyes : (∀ i, i < xs.length → rightTo (xs.getD i []) n = true) → ofN p q xs n q.length = r := fun h => by rw [← hr, all_yes h]; rfl
        clear hr
        unfold LL MM at *
        have d1 := @dr 24 qT8_34_24
        refine PB (rs := [.cell 8 28, .tmp 9]) Tryz.func34 ?_
        have ft := And.intro k1 k2
        repeat (first | with_reducible refine pv_seq fun K hK => ?_ | ((with_reducible first | refine hK _ _ ?_ | (clear hK; refine hK _ _ ?_) | (clear hK; clear hK; refine hK _ _ ?_)); clear hK; try clear K) | refine W ?_ | exact Z | with_reducible intro b)
        have J : ∀ (e : DEnv) (S : Store) (b8 : Nat), ofN p q xs n q.length = r → e 0 = .g (eS eM q) → e 1 = .g (eS eL xs) → e 2 = i64 n → e 3 = i64 p → e 8 = .ptr (.l 8) b8 0 0 6 → S (.l 8) = some ⟨b8, 6, 0, [z6]⟩ → K e S := by
          intro e S b8 hr g0 g1 g2 g3 g8 s8
          clear hno hyes pR pP
          have ft := And.intro g0 (And.intro g1 (And.intro g2 (And.intro g3 (And.intro g8 s8))))
          repeat (first | with_reducible refine pv_stop 8 ?_ | with_reducible refine pv_seq fun K hK => ?_ | ((with_reducible first | refine hK _ _ ?_ | (clear hK; refine hK _ _ ?_) | (clear hK; clear hK; refine hK _ _ ?_)); clear hK; try clear K) | refine W ?_ | exact Z | with_reducible intro b)
          refine ⟨fun K q0 hC => ?_⟩
          repeat (first | with_reducible refine pv_seq fun K hK => ?_ | ((with_reducible first | refine hK _ _ ?_ | (clear hK; refine hK _ _ ?_) | (clear hK; clear hK; refine hK _ _ ?_)); clear hK; try clear K) | refine W0 ?_ | exact Z | with_reducible intro b)
          refine hC _ _ (Recast.z6 (k := .l 11) rfl ?_)
          refine q0 _ _ ?_
          clear hC q0
          repeat (first | with_reducible refine pv_seq fun K hK => ?_ | ((with_reducible first | refine hK _ _ ?_ | (clear hK; refine hK _ _ ?_) | (clear hK; clear hK; refine hK _ _ ?_)); clear hK; try clear K) | refine W0 ?_ | exact Z | with_reducible intro b)
          have J2 : ∀ (e : DEnv) (S : Store) (b11 : Nat), r.2 = 0 → e 8 = .ptr (.l 8) b8 0 0 6 → e 11 = .ptr (.l 11) b11 0 0 6 → S (.l 8) = some ⟨b8, 6, 0, [z6]⟩ → S (.l 11) = some ⟨b11, 6, 0, [cI r.1]⟩ → K e S := by
            intro e S b11 h0 g8 g11 s8 s11
            obtain ⟨⟨⟨n1, e1, w1⟩, ⟨n2, e2, w2⟩⟩, er⟩ := r
            simp only at h0
            subst h0
            unfold cI at s11
            unfold z6 at s8
            have ft := And.intro g8 (And.intro g11 (And.intro s8 s11))
            exact Wk
          clear hK
          obtain ⟨I, mk, el⟩ := hide fun e S => ∃ (m b11 : Nat), m ≤ q.length ∧ (ofN p q xs n m).2 = 0 ∧ Of14 q xs n p b8 b11 m (ofN p q xs n m).1 e S
          refine pv_loop I (fun e _ => q.length - (intD (e 12)).toNat) ?_ ?_
          · exact mk _ _ ⟨0, _, Nat.zero_le _, rfl, Zr, Zr, Zr, Zr, Zr, Zr, Zr, by simp only [updS_apply]; exact s8, by simp only [updS_apply]; rfl⟩
          · intro e S hI
            obtain ⟨m, b11, hm, he, ⟨g0, g1, g2, g3, g8, g11, g12, s8, s11⟩⟩ := el e S hI
            clear el hI
            have hm0 : (intD (e 12)).toNat = m := by rw [g12]; exact Int.toNat_natCast m
            have ft := And.intro g0 (And.intro g1 (And.intro g2 (And.intro g3 (And.intro g8 (And.intro g11 (And.intro g12 s8))))))
            repeat (first | with_reducible refine pv_seq fun K hK => ?_ | ((with_reducible first | refine hK _ _ ?_ | (clear hK; refine hK _ _ ?_) | (clear hK; clear hK; refine hK _ _ ?_)); clear hK; try clear K) | refine W0 ?_ | exact Z | with_reducible intro b)
            refine pv_cdD (fun ht => ?_) (fun ht => ?_)
            · have hil : m < q.length := by omega
              have q1 := gM_at hil
              have wm := hq.at_ hil
              have pO := p_rPoint (x := (gM q m).c)
              have hok := fun i => overN_ok (p := p) (xs := xs) (e := (gM q m).e) (onS_ok (k := n) wm.c) i
              have hlm := hlen m hil
              have hor : overR p xs n (gM q m) = overN p xs n (gM q m).e (onS (gM q m).c n) xs.length := by
                unfold overR
                rw [show (gM q m).e.length = xs.length by have := hlm.1; omega]
              have hs := ofN_succ he
              rw [hor] at hs
              have hst : (ofN p q xs n (m + 1)).2 ≠ 0 → r = ofN p q xs n (m + 1) := fun h => by rw [← hr]; exact ofN_stuck h (by omega)
              have he1 := ofN_err (p := p) (q := q) (xs := xs) (k := n) (m + 1)
              have w0 := ofN_wi (p := p) (q := q) (xs := xs) (k := n) m
              have mk2 : ∀ (e : DEnv) (S : Store), (ofN p q xs n (m + 1)).2 = 0 → Of14 q xs n p b8 b11 (m + 1) (ofN p q xs n (m + 1)).1 e S → I e S := fun e S h1 h2 => mk e S ⟨m + 1, b11, by omega, h1, h2⟩
              have kt : ((n : Int) + 1).toNat = n + 1 := by omega
              have kz : ∀ z : List D, (List.replicate (n + 1) z)[0]? = some z := fun _ => rfl
              have hpure := onS_pure (c := (gM q m).c) (k := n)
              have h8l := hlm.2
              have hzl : (gM q m).e.length = xs.length := by have := hlm.1; omega
              clear hr J2 hlen hq wm mk hor hlm
              generalize ofN p q xs n (m + 1) = t1 at *
              generalize ofN p q xs n m = t0 at *
              generalize gM q m = mo at *
              obtain ⟨⟨nm, em, wm⟩, zm⟩ := mo
              simp only at *
              generalize hs0 : onS (⟨nm, em, wm⟩ : Nu) n = s0 at *
              have ft := And.intro g0 (And.intro g1 (And.intro g2 (And.intro g3 (And.intro g8 (And.intro g11 (And.intro g12 (And.intro s8 (And.intro s11 (And.intro q1 (And.intro kt kz))))))))))
              repeat (first | with_reducible refine pv_stop 13 ?_ | with_reducible refine pv_seq fun K hK => ?_ | ((with_reducible first | refine hK _ _ ?_ | (clear hK; refine hK _ _ ?_) | (clear hK; clear hK; refine hK _ _ ?_)); clear hK; try clear K) | refine W ?_ | exact Z | with_reducible intro b)
              refine ⟨fun K q0 hC => ?_⟩
              repeat (first | with_reducible refine pv_seq fun K hK => ?_ | ((with_reducible first | refine hK _ _ ?_ | (clear hK; refine hK _ _ ?_) | (clear hK; clear hK; refine hK _ _ ?_)); clear hK; try clear K) | refine W ?_ | exact Z | with_reducible intro b)
              refine hC _ _ (Recast.frzSlot 13 (k := .l 61) rfl rfl hpure (by simp) ?_)
              rw [sl_eS]
              refine q0 _ _ ?_
              clear hC q0
              have ft := And.intro g0 (And.intro g1 (And.intro g2 (And.intro g3 (And.intro g8 (And.intro g11 (And.intro g12 (And.intro s8 s11)))))))
              repeat (first | with_reducible refine pv_seq fun K hK => ?_ | ((with_reducible first | refine hK _ _ ?_ | (clear hK; refine hK _ _ ?_) | (clear hK; clear hK; refine hK _ _ ?_)); clear hK; try clear K) | refine W0 ?_ | exact Z | with_reducible intro b)
              have J3 : ∀ (e : DEnv) (S : Store), (overN p xs n zm s0 xs.length).2 = 0 → e 13 = .g (eS eI (overN p xs n zm s0 xs.length).1) → Of14 q xs n p b8 b11 m t0.1 e S → K e S := by
                intro e S h0 g13 ⟨g0, g1, g2, g3, g8, g11, g12, s8, s11⟩
                rw [if_pos h0] at hs
                have hok := hok xs.length
                generalize overN p xs n zm s0 xs.length = s at *
                obtain ⟨l, es⟩ := s
                obtain ⟨t0, e0⟩ := t0
                have hl := hok.len h0
                simp only at hl
                have hnl : n < l.length := by omega
                have q2 := gI_at (l := l) (i := n) (by omega)
                have pA := p_rOpS (p := p) w0 (hok.wi _ (gI_mem (i := n) (by simp only; omega)))
                change PC _ _ _ fun d => d = IE (addI p t0 (gI l n)) at pA
                change t1 = addI p t0 (gI l n) at hs
                rw [← hs] at pA
                generalize gI l n = x at *
                clear hs hok
                obtain ⟨⟨n1, e1, w1⟩, ⟨n2, e2, w2⟩⟩ := x
                obtain ⟨⟨⟨n3, e3, w3⟩, ⟨n4, e4, w4⟩⟩, et⟩ := t1
                obtain ⟨⟨n5, e5, w5⟩, ⟨n6, e6, w6⟩⟩ := t0
                unfold cI at s11
                simp only at s11 mk2 hst he1 g13
                by_cases h1 : et = 0
                · subst h1
                  have hm1 : q.length - (m + 1) < q.length - m := by omega
                  have ft := And.intro g0 (And.intro g1 (And.intro g2 (And.intro g3 (And.intro g8 (And.intro g11 (And.intro g12 (And.intro g13 (And.intro s8 (And.intro s11 (And.intro q2 hm0))))))))))
                  repeat' (first | with_reducible refine pv_seq fun K hK => ?_ | ((with_reducible first | refine hK _ _ ?_ | (clear hK; refine hK _ _ ?_) | (clear hK; clear hK; refine hK _ _ ?_)); clear hK; try clear K) | refine W ?_ | exact Z | with_reducible intro b | with_reducible refine And.intro ?_ ?_ )
                  all_goals first | exact mk2 _ _ rfl ⟨Zr, Zr, Zr, Zr, Zr, Zr, Zr, by simp only [updS_apply]; exact s8, by simp only [updS_apply]; rfl⟩ | (simp only [intD]; omega)
                · have k3 := eq_false h1
                  have hr1 := hst h1
                  have hr2 := he1 h1
                  subst hr1
                  unfold iv0 nu0 at hr2
                  injection hr2 with z1 z2
                  injection z1 with z3 z4 z5
                  injection z2 with z6 z7 z8
                  subst z3; subst z4; subst z5; subst z6; subst z7; subst z8
                  unfold V.z6 at s8
                  have ft := And.intro g0 (And.intro g1 (And.intro g2 (And.intro g3 (And.intro g8 (And.intro g11 (And.intro g12 (And.intro g13 (And.intro s8 (And.intro s11 (And.intro q2 k3))))))))))
                  repeat' (first | with_reducible refine pv_seq fun K hK => ?_ | ((with_reducible first | refine hK _ _ ?_ | (clear hK; refine hK _ _ ?_) | (clear hK; clear hK; refine hK _ _ ?_)); clear hK; try clear K) | refine W ?_ | exact Z | with_reducible intro b | with_reducible refine And.intro ?_ ?_ )
                  all_goals try rfl
              clear hK
              have hserr : ∀ i, i ≤ xs.length → (overN p xs n zm s0 i).2 ≠ 0 → r = (iv0, (overN p xs n zm s0 i).2) := fun i hi h => by
                have e1 := overN_stuck (n := xs.length) h hi
                rw [e1, if_neg h] at hs
                rw [← hs]
                exact hst (by rw [hs]; exact h)
              clear hst he1 hs mk2
              obtain ⟨I2, mk2, el2⟩ := hide fun e S => ∃ (i : Nat), i ≤ xs.length ∧ (overN p xs n zm s0 i).2 = 0 ∧ e 13 = .g (eS eI (overN p xs n zm s0 i).1) ∧ e 14 = i64 i ∧ Of14 q xs n p b8 b11 m t0.1 e S
              refine pv_loop I2 (fun e _ => xs.length - (intD (e 14)).toNat) ?_ ?_
              · have h0 : s0.2 = 0 := by rw [← hs0]; rfl
                exact mk2 _ _ ⟨0, Nat.zero_le _, h0, Zr, Zr, Zr, Zr, Zr, Zr, Zr, Zr, Zr, by simp only [updS_apply]; exact s8, by simp only [updS_apply]; exact s11⟩
              intro e S hI
              obtain ⟨i, hi, he2, g13, g14, ⟨g0, g1, g2, g3, g8, g11, g12, s8, s11⟩⟩ := el2 e S hI
              clear el2 hI hm0
              have hm1 : (intD (e 14)).toNat = i := by rw [g14]; exact Int.toNat_natCast i
              have ft := And.intro g0 (And.intro g1 (And.intro g2 (And.intro g3 (And.intro g8 (And.intro g11 (And.intro g12 (And.intro g13 g14)))))))
              repeat (first | with_reducible refine pv_seq fun K hK => ?_ | ((with_reducible first | refine hK _ _ ?_ | (clear hK; refine hK _ _ ?_) | (clear hK; clear hK; refine hK _ _ ?_)); clear hK; try clear K) | refine W0 ?_ | exact Z | with_reducible intro b)
              refine pv_cdD (fun ht2 => ?_) (fun ht2 => ?_)
              · have hix : i < xs.length := by omega
                have q2 := zget (l := zm) (i := i) (by omega)
                have q3 := xget hix
                have hov : overN p xs n zm s0 (i + 1) = mulS p (xs.getD i []) n (overN p xs n zm s0 i) (zm.getD i 0).toNat := rfl
                have hy8 := h8l i (by omega)
                have hwx := hx.at_ hix
                have hokm := fun j => mulS_ok (p := p) (x := xs.getD i []) (hok i) j
                have hse := hserr (i + 1) hix
                have mk3 : ∀ (e : DEnv) (S : Store), (overN p xs n zm s0 (i + 1)).2 = 0 → e 13 = .g (eS eI (overN p xs n zm s0 (i + 1)).1) → e 14 = i64 ((i + 1 : Nat) : Int) → Of14 q xs n p b8 b11 m t0.1 e S → I2 e S := fun e S a1 a2 a3 a4 => mk2 e S ⟨i + 1, by omega, a1, a2, a3, a4⟩
                clear mk2 hserr J3
                generalize overN p xs n zm s0 (i + 1) = o1 at *
                generalize overN p xs n zm s0 i = o0 at *
                generalize zm.getD i 0 = y at *
                generalize xs.getD i [] = l at *
                repeat (first | with_reducible refine pv_seq fun K hK => ?_ | ((with_reducible first | refine hK _ _ ?_ | (clear hK; refine hK _ _ ?_) | (clear hK; clear hK; refine hK _ _ ?_)); clear hK; try clear K) | refine W0 ?_ | exact Z | with_reducible intro b)
                obtain ⟨I3, mk4, el3⟩ := hide fun e S => ∃ (j : Nat), j ≤ y.toNat ∧ (mulS p l n o0 j).2 = 0 ∧ e 13 = .g (eS eI (mulS p l n o0 j).1) ∧ e 14 = i64 i ∧ e 15 = i64 j ∧ Of14 q xs n p b8 b11 m t0.1 e S
                refine pv_loop I3 (fun e _ => y.toNat - (intD (e 15)).toNat) ?_ ?_
                · exact mk4 _ _ ⟨0, Nat.zero_le _, he2, Zr, Zr, Zr, Zr, Zr, Zr, Zr, Zr, Zr, Zr, s8, s11⟩
                intro e S hI
                obtain ⟨j, hj, he3, g13, g14, g15, ⟨g0, g1, g2, g3, g8, g11, g12, s8, s11⟩⟩ := el3 e S hI
                clear el3 hI
                have ft := And.intro g0 (And.intro g1 (And.intro g2 (And.intro g3 (And.intro g8 (And.intro g11 (And.intro g12 (And.intro g13 (And.intro g14 (And.intro g15 (And.intro q1 q2))))))))))
                repeat (first | with_reducible refine pv_seq fun K hK => ?_ | ((with_reducible first | refine hK _ _ ?_ | (clear hK; refine hK _ _ ?_) | (clear hK; clear hK; refine hK _ _ ?_)); clear hK; try clear K) | refine W0 ?_ | exact Z | with_reducible intro b)
                refine pv_cdD (fun ht3 => ?_) (fun ht3 => ?_)
                · have hjl : j < y.toNat := by omega
                  have pT := p_rProduct (k := n) (p := p) ((hokm j).wf (by omega)) hwx (by omega)
                  have hs2 := mulS_succ he3
                  have hst2 : (mulS p l n o0 (j + 1)).2 ≠ 0 → r = (iv0, (mulS p l n o0 (j + 1)).2) := fun h => by
                    have e1 := mulS_stuck (n := y.toNat) h (by omega)
                    rw [← hov] at e1
                    rw [← e1]
                    exact hse (by rw [e1]; exact h)
                  have mk5 : ∀ (e : DEnv) (S : Store), (mulS p l n o0 (j + 1)).2 = 0 → e 13 = .g (eS eI (mulS p l n o0 (j + 1)).1) → e 14 = i64 i → e 15 = i64 ((j + 1 : Nat) : Int) → Of14 q xs n p b8 b11 m t0.1 e S → I3 e S := fun e S a1 a2 a3 a4 a5 => mk4 e S ⟨j + 1, by omega, a1, a2, a3, a4, a5⟩
                  have her := (hokm (j + 1)).err
                  generalize mulS p l n o0 (j + 1) = s1 at *
                  generalize mulS p l n o0 j = s2 at *
                  rw [← hs2] at pT
                  clear hs2 hokm hov hse mk4 mk3
                  obtain ⟨l1, es⟩ := s1
                  unfold II LE at pT
                  by_cases h0 : es = 0
                  · subst h0
                    have ft := And.intro g0 (And.intro g1 (And.intro g2 (And.intro g3 (And.intro g8 (And.intro g11 (And.intro g12 (And.intro g13 (And.intro g14 (And.intro g15 q3)))))))))
                    repeat (first | with_reducible refine pv_seq fun K hK => ?_ | ((with_reducible first | refine hK _ _ ?_ | (clear hK; refine hK _ _ ?_) | (clear hK; clear hK; refine hK _ _ ?_)); clear hK; try clear K) | refine W ?_ | exact Z | with_reducible intro b)
                    exact ⟨mk5 _ _ rfl Zr Zr Zr ⟨Zr, Zr, Zr, Zr, Zr, Zr, Zr, s8, s11⟩, by simp only [intD]; omega⟩
                  · have k3 := eq_false h0
                    have hr1 := hst2 h0
                    have hl1 := her h0
                    simp only at hl1 hr1
                    subst hl1
                    subst hr1
                    unfold z6 at s8
                    unfold iv0 nu0 at *
                    have ft := And.intro g0 (And.intro g1 (And.intro g2 (And.intro g3 (And.intro g8 (And.intro g11 (And.intro g12 (And.intro g13 (And.intro g14 (And.intro g15 (And.intro q3 (And.intro k3 s8)))))))))))
                    exact Wk
                · obtain rfl : j = y.toNat := by omega
                  rw [← hov] at he3 g13
                  have ft := And.intro g0 (And.intro g1 (And.intro g2 (And.intro g3 (And.intro g8 (And.intro g11 (And.intro g12 (And.intro g13 (And.intro g14 g15))))))))
                  repeat (first | with_reducible refine pv_seq fun K hK => ?_ | ((with_reducible first | refine hK _ _ ?_ | (clear hK; refine hK _ _ ?_) | (clear hK; clear hK; refine hK _ _ ?_)); clear hK; try clear K) | refine W0 ?_ | exact Z | with_reducible intro b)
                  exact ⟨mk3 _ _ he3 g13 Zr ⟨g0, g1, g2, g3, g8, g11, g12, s8, s11⟩, by rw [hm1]; simp only [intD]; omega⟩
              · obtain rfl : i = xs.length := by omega
                repeat (first | with_reducible refine pv_seq fun K hK => ?_ | ((with_reducible first | refine hK _ _ ?_ | (clear hK; refine hK _ _ ?_) | (clear hK; clear hK; refine hK _ _ ?_)); clear hK; try clear K) | refine W0 ?_ | exact Z | with_reducible intro b)
                exact J3 _ _ he2 g13 ⟨g0, g1, g2, g3, g8, g11, g12, s8, s11⟩
            · obtain rfl : m = q.length := by omega
              rw [hr] at he s11
              have ft := And.intro g0 (And.intro g1 (And.intro g2 (And.intro g3 (And.intro g8 (And.intro g11 g12)))))
              repeat (first | with_reducible refine pv_seq fun K hK => ?_ | ((with_reducible first | refine hK _ _ ?_ | (clear hK; refine hK _ _ ?_) | (clear hK; clear hK; refine hK _ _ ?_)); clear hK; try clear K) | refine W0 ?_ | exact Z | with_reducible intro b)
              exact J2 _ _ b11 he g8 g11 s8 s11
        clear hK
        refine pv_loop (fun e S => Hid (∃ (i b8 : Nat), i ≤ xs.length ∧ e 0 = .g (eS eM q) ∧ e 1 = .g (eS eL xs) ∧ e 2 = i64 n ∧ e 3 = i64 p ∧ e 8 = .ptr (.l 8) b8 0 0 6 ∧ e 10 = i64 i ∧ (∀ j, j < i → rightTo (xs.getD j []) n = true) ∧ S (.l 8) = some ⟨b8, 6, 0, [z6]⟩)) (fun e _ => xs.length - (intD (e 10)).toNat) ?_ ?_
        · have ft := true_and
          exact ⟨0, _, Nat.zero_le _, Zr, Zr, Zr, Zr, Zr, Zr, fun j hj => by omega, by simp only [updS_apply]; rfl⟩
        · rintro e S ⟨i, b8, hi, g0, g1, g2, g3, g8, g10, hz, s8⟩
          have ft := And.intro g0 (And.intro g1 (And.intro g2 (And.intro g3 (And.intro g8 g10))))
          repeat (first | with_reducible refine pv_seq fun K hK => ?_ | ((with_reducible first | refine hK _ _ ?_ | (clear hK; refine hK _ _ ?_) | (clear hK; clear hK; refine hK _ _ ?_)); clear hK; try clear K) | refine W0 ?_ | exact Z | with_reducible intro b)
          refine pv_cdD (fun ht => ?_) (fun ht => ?_)
          · have hil : i < xs.length := by omega
            have q1 := xget hil
            have pT := p_rLong (k := n) (hx.at_ hil) (by omega)
            have hno := hno i hil
            have hz2 : rightTo (xs.getD i []) n = true → ∀ j, j < i + 1 → rightTo (xs.getD j []) n = true := fun h j hj => by
              rcases Nat.lt_or_ge j i with h1 | h1
              · exact hz j h1
              · obtain rfl : j = i := by omega
                exact h
            generalize rightTo (xs.getD i []) n = t at *
            generalize xs.getD i [] = l at *
            unfold II at pT
            cases t
            · have h := hno rfl
              subst h
              unfold iv0 nu0 at *
              unfold z6 at s8
              have ft := And.intro g0 (And.intro g1 (And.intro g2 (And.intro g3 (And.intro g8 (And.intro g10 (And.intro q1 s8))))))
              exact Wk
            · have ft := And.intro g0 (And.intro g1 (And.intro g2 (And.intro g3 (And.intro g8 (And.intro g10 q1)))))
              repeat (first | with_reducible refine pv_seq fun K hK => ?_ | ((with_reducible first | refine hK _ _ ?_ | (clear hK; refine hK _ _ ?_) | (clear hK; clear hK; refine hK _ _ ?_)); clear hK; try clear K) | refine W ?_ | exact Z | with_reducible intro b)
              exact ⟨⟨i + 1, b8, by omega, Zr, Zr, Zr, Zr, Zr, Zr, hz2 rfl, s8⟩, by simp only [intD]; omega⟩
          · obtain rfl : i = xs.length := by omega
            repeat (first | with_reducible refine pv_seq fun K hK => ?_ | ((with_reducible first | refine hK _ _ ?_ | (clear hK; refine hK _ _ ?_) | (clear hK; clear hK; refine hK _ _ ?_)); clear hK; try clear K) | refine W0 ?_ | exact Z | with_reducible intro b)
            exact J _ _ b8 (hyes hz) Zr Zr Zr Zr Zr s8
  · rw [Bool.not_eq_true] at hv
    rw [hv]
    unfold okK at hv
    unfold LL MM iv0 nu0 at *
    by_cases h1 : k < 0
    · have k1 := eq_true h1
      have d1 := @dr 24 qT8_34_24
      refine PB (rs := [.cell 8 28, .tmp 9]) Tryz.func34 ?_
      have ft := k1
      exact Wk
    · have k1 := eq_false h1
      have k2 : ((10 : Int) < k) = True := eq_true (by
        rw [decide_eq_true (p := 0 ≤ k) (by omega), Bool.true_and, decide_eq_false_iff_not] at hv; omega)
      have d1 := @dr 24 qT8_34_24
      refine PB (rs := [.cell 8 28, .tmp 9]) Tryz.func34 ?_
      have ft := And.intro k1 k2
      exact Wk
end Go.V
namespace Go.V
open Go Go.RowKit Go.Proofs

def addV (p : Nat) (a b : Iv) : Iv := ivD (rd p false (a.lo.val + b.lo.val)) (rd p true (a.hi.val + b.hi.val))
def mulV (p : Nat) (a b : Iv) : Iv := ivD (rd p false (minP a.lo.val a.hi.val b.lo.val b.hi.val)) (rd p true (maxP a.lo.val a.hi.val b.lo.val b.hi.val))

/-! ### Coefficients of products -/
def coefV (p : Nat) (a b : List Iv) (k : Nat) : Nat → Iv
  | 0 => iv0
  | i + 1 => if i = 0 then mulV p (gI a i) (gI b (k - i)) else addV p (coefV p a b k i) (mulV p (gI a i) (gI b (k - i)))
/-- Sums of exact values. -/
def sumD (f : Nat → Dyadic) : Nat → Dyadic
  | 0 => 0
  | n + 1 => sumD f n + f n
/-! ### Sums -/
end Go.V
namespace Go.V
open Go Go.RowKit Go.Proofs
def qT10_20_5 : PT := (.lin [(0, 0), (1, 0), (2, 0), (3, 0), (4, 0), (5, 2), (6, 0), (7, 0), (8, 0), (9, 0), (10, 0), (11, 2)] (.fork 12 3 (.lin [(13, 0), (14, 0), (15, 0), (16, 4), (17, 3), (18, 0)] .nil) 16 4 (.lin [(12, 3), (13, 0), (14, 0), (15, 0), (17, 3), (18, 0)] .nil)))
def qT10_20_9 : List (Nat × Nat) := [(0, 0), (1, 1), (2, 0), (3, 0), (4, 0), (5, 1), (6, 3), (7, 0), (8, 0), (9, 0), (10, 3), (11, 0)]
def qT10_35_9 : List (Nat × Nat) := [(0, 1), (1, 0), (2, 0), (3, 0), (4, 1), (5, 0), (6, 3), (7, 0), (8, 0), (9, 0), (10, 3), (11, 0)]
attribute [go_sem] qT10_20_5 qT10_20_9 qT10_35_9
def plusR (p : Int) (v h x : Iv) : Iv × Int := if (mulI p v h).2 = 0 then addI p (mulI p v h).1 x else mulI p v h
theorem sumN_succ {p : Int} {a : List Iv} {h : Iv} {i : Nat} (he : (sumN p a h i).2 = 0) : sumN p a h (i + 1) = plusR p (sumN p a h i).1 h (gI a (a.length - 2 - i)) := by
  conv => lhs; unfold sumN
  rw [if_pos he]; rfl
set_option maxHeartbeats 1000000 in
theorem p_Sum1 {S : Store} {Q : D → Store → Prop} {k1 k2 : Nm} {b1 b2 : Nat} {v x h : Iv} {p : Int} (h1 : S k1 = some ⟨b1, 6, 0, [cI h]⟩) (h2 : S k2 = some ⟨b2, 1, 0, [[i64 p]]⟩) (hv : Wi 65536 v) (hx : Wi 65536 x) (hh : Wi 65536 h)
    (hQ : Q (IE (plusR p v h x)) S) : PFC Tryz.prog 51 [IV v, IV x, .ptr k1 b1 0 0 6, .ptr k2 b2 0 0 1] S Q := by
  have pM : PC Tryz.prog 48 [IV v, IV h, i64 p] fun d => d = IE (mulI p v h) := p_iMul hv hh
  have pA : PC Tryz.prog 49 [IV (mulI p v h).1, IV x, i64 p] fun d => d = IE (addI p (mulI p v h).1 x) := p_iAdd opI_wi hx
  have he : (mulI p v h).2 ≠ 0 → (mulI p v h).1 = iv0 := opI_err
  unfold plusR at hQ
  generalize mulI p v h = m at *
  obtain ⟨⟨⟨n1, e1, w1⟩, ⟨n2, e2, w2⟩⟩, em⟩ := m
  obtain ⟨⟨n3, e3, w3⟩, ⟨n4, e4, w4⟩⟩ := v
  obtain ⟨⟨n5, e5, w5⟩, ⟨n6, e6, w6⟩⟩ := x
  obtain ⟨⟨n7, e7, w7⟩, ⟨n8, e8, w8⟩⟩ := h
  unfold cI at h1
  simp only at *
  by_cases h0 : em = 0
  · subst h0
    rw [if_pos rfl] at hQ
    generalize addI p _ _ = q at *
    obtain ⟨⟨⟨n9, e9, w9⟩, ⟨n10, e10, w10⟩⟩, eq⟩ := q
    refine PFB (rs := [.cell 6 28, .tmp 7]) Tryz.func51 ?_
    have ft := And.intro h1 h2
    repeat (first | with_reducible refine pv_seq fun K hK => ?_ | ((with_reducible first | refine hK _ _ ?_ | (clear hK; refine hK _ _ ?_) | (clear hK; clear hK; refine hK _ _ ?_)); clear hK; try clear K) | refine W ?_ | exact Z | with_reducible intro b)
    exact hQ
  · rw [if_neg h0] at hQ
    have k1 := eq_false h0
    have h3 := he h0
    rw [h3] at hQ
    unfold iv0 nu0 at hQ
    refine PFB (rs := [.cell 6 28, .tmp 7]) Tryz.func51 ?_
    have ft := And.intro h1 (And.intro h2 k1)
    repeat (first | with_reducible refine pv_seq fun K hK => ?_ | ((with_reducible first | refine hK _ _ ?_ | (clear hK; refine hK _ _ ?_) | (clear hK; clear hK; refine hK _ _ ?_)); clear hK; try clear K) | refine W ?_ | exact Z | with_reducible intro b)
    exact hQ

theorem sumR_no {p : Int} {a : List Iv} {h : Iv} (hc : ¬ (1 ≤ a.length ∧ a.length ≤ 11)) : sumR p a h = (iv0, 1) := by
  unfold sumR
  by_cases h1 : 1 ≤ a.length
  · rw [decide_eq_false (p := a.length ≤ 11) (fun h2 => hc ⟨h1, h2⟩), Bool.and_false]; rfl
  · rw [decide_eq_false h1]; rfl
/-- What stays in sight in the loop. -/
structure Sum14 (a : List Iv) (h : Iv) (p : Int) (b4 b5 b6 b10 : Nat) (y z : List D) (e : DEnv) (S : Store) : Prop where
  g0 : e 0 = .g (eS eI a)
  g6 : e 6 = .ptr (.l 6) b6 0 0 6
  g9 : e 9 = .fn 51 [] [.ptr (.l 4) b4 0 0 6, .ptr (.l 5) b5 0 0 1]
  g10 : e 10 = .ptr (.l 10) b10 0 0 6
  s4 : S (.l 4) = some ⟨b4, 6, 0, [cI h]⟩
  s5 : S (.l 5) = some ⟨b5, 1, 0, [[i64 p]]⟩
  s6 : S (.l 6) = some ⟨b6, 6, 0, [y]⟩
  s10 : S (.l 10) = some ⟨b10, 6, 0, [z]⟩
set_option maxHeartbeats 4000000 in
theorem p_sSum {a : List Iv} {h : Iv} {p : Int} (ha : WfL a) (hh : Wi 65536 h) : PC Tryz.prog 20 [II a, IV h, i64 p] fun d => d = IE (sumR p a h) := by
  by_cases hc : 1 ≤ a.length ∧ a.length ≤ 11
  · obtain ⟨hc1, hc2⟩ := hc
    obtain ⟨n, hn⟩ : ∃ n, a.length = n + 1 := ⟨a.length - 1, by omega⟩
    have k1 : ((a.length : Int) < 1) = False := eq_false (by omega)
    have k2 : ((11 : Int) < (a.length : Int)) = False := eq_false (by omega)
    have k3 : ((a.length : Int) - 1) = (n : Int) := by omega
    have pR := p_sRight (k := n) ha (by omega)
    have pH := p_iRight hh
    have pV := p_Valid (p := p)
    unfold sumR
    rw [decide_eq_true hc1, decide_eq_true hc2, Bool.true_and, Bool.true_and, show a.length - 1 = n by omega]
    have hrt : rightTo a n = true → rightI (gI a n) = true := fun h => by
      unfold rightTo at h
      rw [Bool.and_eq_true, decide_eq_true_eq, decide_eq_true_eq] at h
      exact h.2 n (by omega)
    have wan := ha.at_ n
    generalize rightTo a n = r1 at *
    generalize rightI h = r2 at *
    generalize okP p = r3 at *
    have hgi := gI_at (l := a) (i := n) (by omega)
    have h0 : sumN p a h 0 = (gI a n, 0) := by
      unfold sumN; rw [hn]; rfl
    generalize hr : sumN p a h n = r at *
    obtain ⟨⟨n7, e7, w7⟩, ⟨n8, e8, w8⟩⟩ := h
    unfold II at *
    cases r1
    · unfold iv0 nu0 at *
      have d1 := @dr 5 qT10_20_5
      have d2 := @dl 9 qT10_20_9
      refine PB (rs := [.cell 6 28, .tmp 7]) Tryz.func20 ?_
      have ft := And.intro k1 (And.intro k2 k3)
      exact Wk
    · cases r2
      · unfold iv0 nu0 at *
        have d1 := @dr 5 qT10_20_5
        have d2 := @dl 9 qT10_20_9
        refine PB (rs := [.cell 6 28, .tmp 7]) Tryz.func20 ?_
        have ft := And.intro k1 (And.intro k2 k3)
        exact Wk
      · cases r3
        · unfold iv0 nu0 at *
          have d1 := @dr 5 qT10_20_5
          have d2 := @dl 9 qT10_20_9
          refine PB (rs := [.cell 6 28, .tmp 7]) Tryz.func20 ?_
          have ft := And.intro k1 (And.intro k2 k3)
          exact Wk
        · have pM := p_MakeI (x := (gI a n).lo) (y := (gI a n).hi) wan (by decide)
          have hri := hrt rfl
          unfold makeR at pM
          rw [show (⟨(gI a n).lo, (gI a n).hi⟩ : Iv) = gI a n from rfl, hri, if_pos rfl] at pM
          rw [Bool.and_self, Bool.and_self, if_pos rfl]
          clear hrt hri
          generalize hgn : gI a n = ga at *
          obtain ⟨⟨n1, e1, w1⟩, ⟨n2, e2, w2⟩⟩ := ga
          simp only at pM
          have kt : (n : Int).toNat = n := by omega
          have d1 := @dr 5 qT10_20_5
          have d2 := @dl 9 qT10_20_9
          refine PB (rs := [.cell 6 28, .tmp 7]) Tryz.func20 ?_
          have ft := And.intro k1 (And.intro k2 (And.intro k3 (And.intro hgi kt)))
          repeat (first | with_reducible refine pv_stop 5 ?_ | with_reducible refine pv_seq fun K hK => ?_ | ((with_reducible first | refine hK _ _ ?_ | (clear hK; refine hK _ _ ?_) | (clear hK; clear hK; refine hK _ _ ?_)); clear hK; try clear K) | refine W ?_ | exact Z | with_reducible intro b)
          refine ⟨fun K q0 hC => ?_⟩
          have J : ∀ (e : DEnv) (S : Store) (b4 b5 b6 b10 : Nat), e 8 = i64 a.length → e 11 = i64 0 → Sum14 a ⟨⟨n7, e7, w7⟩, ⟨n8, e8, w8⟩⟩ p b4 b5 b6 b10 [bl false, i64 0, .nil, bl false, i64 0, .nil] (cI ⟨⟨n1, e1, w1⟩, ⟨n2, e2, w2⟩⟩) e S → K e S := by
            intro e S b4 b5 b6 b10 g8 g11 ⟨g0, g6, g9, g10, s4, s5, s6, s10⟩
            refine q0 _ _ ?_
            clear q0 hC
            have k4 : ((a.length : Int) - 2) = (n : Int) - 1 := by omega
            have ft := And.intro g0 (And.intro g6 (And.intro g8 (And.intro g9 (And.intro g10 (And.intro g11 k4)))))
            repeat (first | with_reducible refine pv_seq fun K hK => ?_ | ((with_reducible first | refine hK _ _ ?_ | (clear hK; refine hK _ _ ?_) | (clear hK; clear hK; refine hK _ _ ?_)); clear hK; try clear K) | refine W0 ?_ | exact Z | with_reducible intro b)
            have J2 : ∀ (e : DEnv) (S : Store) (b4 b5 b6 b10 : Nat), r.2 = 0 → e 11 = i64 0 → Sum14 a ⟨⟨n7, e7, w7⟩, ⟨n8, e8, w8⟩⟩ p b4 b5 b6 b10 [bl false, i64 0, .nil, bl false, i64 0, .nil] (cI r.1) e S → K e S := by
              intro e S b4 b5 b6 b10 h0 g11 ⟨g0, g6, g9, g10, s4, s5, s6, s10⟩
              obtain ⟨⟨⟨n3, e3, w3⟩, ⟨n4, e4, w4⟩⟩, er⟩ := r
              simp only at h0
              subst h0
              unfold cI at s10
              have ft := And.intro g6 (And.intro g10 (And.intro g11 (And.intro s6 s10)))
              exact Wk
            have J3 : ∀ (e : DEnv) (S : Store) (b4 b5 b6 b10 : Nat) (z : List D), r.2 ≠ 0 → r.1 = iv0 → e 11 = i64 r.2 → Sum14 a ⟨⟨n7, e7, w7⟩, ⟨n8, e8, w8⟩⟩ p b4 b5 b6 b10 [bl false, i64 0, .nil, bl false, i64 0, .nil] z e S → K e S := by
              intro e S b4 b5 b6 b10 z h0 h1 g11 ⟨g0, g6, g9, g10, s4, s5, s6, s10⟩
              obtain ⟨r, er⟩ := r
              simp only at h0 h1 g11
              have k5 := eq_false h0
              subst h1
              unfold iv0 nu0 at *
              have ft := And.intro g6 (And.intro g10 (And.intro g11 (And.intro s6 k5)))
              exact Wk
            clear hK
            obtain ⟨I, mk, el⟩ := hide fun e S => ∃ (i : Nat) (z : List D), i ≤ n ∧ e 12 = i64 ((n : Int) - 1 - i) ∧ e 11 = i64 (sumN p a ⟨⟨n7, e7, w7⟩, ⟨n8, e8, w8⟩⟩ i).2 ∧ z.length = 6 ∧ ((sumN p a ⟨⟨n7, e7, w7⟩, ⟨n8, e8, w8⟩⟩ i).2 = 0 → z = cI (sumN p a ⟨⟨n7, e7, w7⟩, ⟨n8, e8, w8⟩⟩ i).1) ∧ Sum14 a ⟨⟨n7, e7, w7⟩, ⟨n8, e8, w8⟩⟩ p b4 b5 b6 b10 [bl false, i64 0, .nil, bl false, i64 0, .nil] z e S
            refine pv_loop I (fun e _ => (intD (e 12) + 1).toNat) ?_ ?_
            · exact mk _ _ ⟨0, _, Nat.zero_le _, by rw [show (n : Int) - 1 - ((0 : Nat) : Int) = (n : Int) - 1 by omega]; exact Zr, by rw [h0]; exact Zr, rfl, fun _ => by rw [h0], Zr, Zr, Zr, Zr, s4, s5, s6, s10⟩
            · intro e S hI
              obtain ⟨i, z, hi, g12, g11, hz, hzi, ⟨g0, g6, g9, g10, s4, s5, s6, s10⟩⟩ := el e S hI
              clear el hI
              have hm0 : intD (e 12) = (n : Int) - 1 - i := by rw [g12]; rfl
              have hst : (sumN p a ⟨⟨n7, e7, w7⟩, ⟨n8, e8, w8⟩⟩ i).2 ≠ 0 → r = sumN p a ⟨⟨n7, e7, w7⟩, ⟨n8, e8, w8⟩⟩ i := fun h => by rw [← hr]; exact sumN_stuck h hi
              have her := sumN_err (p := p) (a := a) (h := ⟨⟨n7, e7, w7⟩, ⟨n8, e8, w8⟩⟩) i
              by_cases he : (sumN p a ⟨⟨n7, e7, w7⟩, ⟨n8, e8, w8⟩⟩ i).2 = 0
              · have hzc := hzi he
                rw [he] at g11
                by_cases hin : i < n
                · have k5 : (0 ≤ (n : Int) - 1 - (i : Int)) = True := eq_true (by omega)
                  have k6 : ((n : Int) - 1 - (i : Int)).toNat = a.length - 2 - i := by omega
                  have k7 : ((n : Int) - 1 - (i : Int) < (a.length : Int)) = True := eq_true (by omega)
                  have q1 := gI_at (l := a) (i := a.length - 2 - i) (by omega)
                  have hs := sumN_succ he
                  have w0 := sumN_wi (p := p) (h := ⟨⟨n7, e7, w7⟩, ⟨n8, e8, w8⟩⟩) ha.w i
                  have wx := ha.at_ (a.length - 2 - i)
                  have mk2 : ∀ (e : DEnv) (S : Store) (z : List D), e 12 = i64 ((n : Int) - 1 - (i + 1 : Nat)) → e 11 = i64 (sumN p a ⟨⟨n7, e7, w7⟩, ⟨n8, e8, w8⟩⟩ (i + 1)).2 → z.length = 6 → ((sumN p a ⟨⟨n7, e7, w7⟩, ⟨n8, e8, w8⟩⟩ (i + 1)).2 = 0 → z = cI (sumN p a ⟨⟨n7, e7, w7⟩, ⟨n8, e8, w8⟩⟩ (i + 1)).1) → Sum14 a ⟨⟨n7, e7, w7⟩, ⟨n8, e8, w8⟩⟩ p b4 b5 b6 b10 [bl false, i64 0, .nil, bl false, i64 0, .nil] z e S → I e S := fun e S z a1 a2 a3 a4 a5 => mk e S ⟨i + 1, z, by omega, a1, a2, a3, a4, a5⟩
                  clear hst her hzi mk J2 J3 hr h0
                  generalize sumN p a ⟨⟨n7, e7, w7⟩, ⟨n8, e8, w8⟩⟩ (i + 1) = t1 at *
                  generalize sumN p a ⟨⟨n7, e7, w7⟩, ⟨n8, e8, w8⟩⟩ i = t0 at *
                  generalize gI a (a.length - 2 - i) = x at *
                  obtain ⟨t0, e0⟩ := t0
                  simp only at he hs w0 hzc
                  subst hzc
                  have hk9 : (n : Int) - 1 - (i : Int) - 1 = (n : Int) - 1 - ((i + 1 : Nat) : Int) := by omega
                  have hps : PFC Tryz.prog 51 [IV t0, IV x, .ptr (.l 4) b4 0 0 6, .ptr (.l 5) b5 0 0 1] = PFC Tryz.prog 51 [IV t0, IV x, .ptr (.l 4) b4 0 0 6, .ptr (.l 5) b5 0 0 1] := rfl
                  have hpl := fun (S : Store) (Q : D → Store → Prop) a1 a2 a3 => p_Sum1 (S := S) (Q := Q) (k1 := .l 4) (k2 := .l 5) (b1 := b4) (b2 := b5) (v := t0) (x := x) (h := ⟨⟨n7, e7, w7⟩, ⟨n8, e8, w8⟩⟩) (p := p) a1 a2 w0 wx hh a3
                  rw [← hs] at hpl
                  clear hs w0 wx
                  obtain ⟨⟨⟨n3, e3, w3⟩, ⟨n4, e4, w4⟩⟩, e1'⟩ := t1
                  obtain ⟨⟨n5, e5, w5⟩, ⟨n6, e6, w6⟩⟩ := t0
                  obtain ⟨⟨n9, e9, w9⟩, ⟨n10, e10, w10⟩⟩ := x
                  unfold cI at s10
                  have ft := And.intro g0 (And.intro g6 (And.intro g9 (And.intro g10 (And.intro g11 (And.intro g12 (And.intro s10 (And.intro q1 (And.intro k5 (And.intro k6 (And.intro k7 hk9))))))))))
                  repeat (first | with_reducible refine pv_seq fun K hK => ?_ | ((with_reducible first | refine hK _ _ ?_ | (clear hK; refine hK _ _ ?_) | (clear hK; clear hK; refine hK _ _ ?_)); clear hK; try clear K) | refine W0 ?_ | exact Z | with_reducible intro b)
                  refine hpl _ _ s4 s5 ?_
                  repeat (first | with_reducible refine pv_seq fun K hK => ?_ | ((with_reducible first | refine hK _ _ ?_ | (clear hK; refine hK _ _ ?_) | (clear hK; clear hK; refine hK _ _ ?_)); clear hK; try clear K) | refine W0 ?_ | exact Z | with_reducible intro b)
                  refine ⟨mk2 _ _ _ Zr Zr rfl (fun _ => rfl) ⟨Zr, Zr, Zr, Zr, by simp only [updS_apply]; exact s4, by simp only [updS_apply]; exact s5, by simp only [updS_apply]; exact s6, by simp only [updS_apply]; rfl⟩, ?_⟩
                  simp only [intD]
                  omega
                · obtain rfl : i = n := by omega
                  have k5 : (0 ≤ (i : Int) - 1 - (i : Int)) = False := eq_false (by omega)
                  rw [hr] at he hzc
                  have ft := And.intro g0 (And.intro g6 (And.intro g9 (And.intro g10 (And.intro g11 (And.intro g12 k5)))))
                  repeat (first | with_reducible refine pv_seq fun K hK => ?_ | ((with_reducible first | refine hK _ _ ?_ | (clear hK; refine hK _ _ ?_) | (clear hK; clear hK; refine hK _ _ ?_)); clear hK; try clear K) | refine W0 ?_ | exact Z | with_reducible intro b)
                  exact J2 _ _ b4 b5 b6 b10 he Zr ⟨Zr, Zr, Zr, Zr, s4, s5, s6, by rw [← hzc]; exact s10⟩
              · have hr1 := hst he
                have hr2 := her he
                have k5 := eq_false he
                rw [← hr1] at he hr2 g11 k5
                by_cases k6 : 0 ≤ (n : Int) - 1 - (i : Int)
                · have k6' := eq_true k6
                  have ft := And.intro g0 (And.intro g6 (And.intro g9 (And.intro g10 (And.intro g11 (And.intro g12 (And.intro k5 k6'))))))
                  repeat (first | with_reducible refine pv_seq fun K hK => ?_ | ((with_reducible first | refine hK _ _ ?_ | (clear hK; refine hK _ _ ?_) | (clear hK; clear hK; refine hK _ _ ?_)); clear hK; try clear K) | refine W0 ?_ | exact Z | with_reducible intro b)
                  exact J3 _ _ b4 b5 b6 b10 z he hr2 Zr ⟨Zr, Zr, Zr, Zr, s4, s5, s6, s10⟩
                · have k6' := eq_false k6
                  have ft := And.intro g0 (And.intro g6 (And.intro g9 (And.intro g10 (And.intro g11 (And.intro g12 (And.intro k5 k6'))))))
                  repeat (first | with_reducible refine pv_seq fun K hK => ?_ | ((with_reducible first | refine hK _ _ ?_ | (clear hK; refine hK _ _ ?_) | (clear hK; clear hK; refine hK _ _ ?_)); clear hK; try clear K) | refine W0 ?_ | exact Z | with_reducible intro b)
                  exact J3 _ _ b4 b5 b6 b10 z he hr2 Zr ⟨Zr, Zr, Zr, Zr, s4, s5, s6, s10⟩
          clear q0 hC
          repeat' (first | with_reducible refine pv_seq fun K hK => ?_ | ((with_reducible first | refine hK _ _ ?_ | (clear hK; refine hK _ _ ?_) | (clear hK; clear hK; refine hK _ _ ?_)); clear hK; try clear K) | refine W ?_ | exact Z | with_reducible intro b | with_reducible refine And.intro ?_ ?_ )
          all_goals exact J _ _ _ _ _ _ Zr Zr ⟨Zr, Zr, Zr, Zr, by simp only [updS_apply]; rfl, by simp only [updS_apply]; rfl, by simp only [updS_apply]; rfl, by simp only [updS_apply]; rfl⟩
  · rw [sumR_no hc]
    obtain ⟨⟨n7, e7, w7⟩, ⟨n8, e8, w8⟩⟩ := h
    unfold II iv0 nu0 at *
    by_cases h1 : (a.length : Int) < 1
    · have k1 := eq_true h1
      have d1 := @dr 5 qT10_20_5
      have d2 := @dl 9 qT10_20_9
      refine PB (rs := [.cell 6 28, .tmp 7]) Tryz.func20 ?_
      have ft := k1
      exact Wk
    · have k1 := eq_false h1
      have k2 : ((11 : Int) < (a.length : Int)) = True := eq_true (by omega)
      have d1 := @dr 5 qT10_20_5
      have d2 := @dl 9 qT10_20_9
      refine PB (rs := [.cell 6 28, .tmp 7]) Tryz.func20 ?_
      have ft := And.intro k1 k2
      exact Wk

/-- What stays in sight in the loop. -/
structure RSum14 (a : List Iv) (h : Iv) (p : Int) (b4 b6 b8 : Nat) (z : List D) (e : DEnv) (S : Store) : Prop where
  g0 : e 0 = .g (eS eI a)
  g2 : e 2 = i64 p
  g4 : e 4 = .ptr (.l 4) b4 0 0 6
  g6 : e 6 = .ptr (.l 6) b6 0 0 6
  g8 : e 8 = .ptr (.l 8) b8 0 0 6
  s4 : S (.l 4) = some ⟨b4, 6, 0, [cI h]⟩
  s6 : S (.l 6) = some ⟨b6, 6, 0, [[bl false, i64 0, .nil, bl false, i64 0, .nil]]⟩
  s8 : S (.l 8) = some ⟨b8, 6, 0, [z]⟩
set_option maxHeartbeats 4000000 in
theorem p_rSum14 {a : List Iv} {h : Iv} {p : Int} (ha : WfL a) (hh : Wi 65536 h) : PC Tryz.prog 35 [II a, IV h, i64 p] fun d => d = IE (sumR p a h) := by
  by_cases hc : 1 ≤ a.length ∧ a.length ≤ 11
  · obtain ⟨hc1, hc2⟩ := hc
    obtain ⟨n, hn⟩ : ∃ n, a.length = n + 1 := ⟨a.length - 1, by omega⟩
    have k1 : ((a.length : Int) < 1) = False := eq_false (by omega)
    have k2 : ((11 : Int) < (a.length : Int)) = False := eq_false (by omega)
    have k3 : ((a.length : Int) - 1) = (n : Int) := by omega
    have pR := p_rLong (k := n) ha (by omega)
    have pH := p_rRightIv hh
    have pV := p_precs14 (p := p)
    unfold sumR
    rw [decide_eq_true hc1, decide_eq_true hc2, Bool.true_and, Bool.true_and, show a.length - 1 = n by omega]
    generalize rightTo a n = r1 at *
    generalize rightI h = r2 at *
    generalize okP p = r3 at *
    have hgi := gI_at (l := a) (i := n) (by omega)
    have h0 : sumN p a h 0 = (gI a n, 0) := by
      unfold sumN; rw [hn]; rfl
    generalize hr : sumN p a h n = r at *
    have hH : Wi 65536 h := hh
    obtain ⟨⟨n7, e7, w7⟩, ⟨n8, e8, w8⟩⟩ := h
    unfold II at *
    cases r1
    · unfold iv0 nu0 at *
      have d1 := @dl 9 qT10_35_9
      refine PB (rs := [.cell 6 28, .tmp 7]) Tryz.func35 ?_
      have ft := And.intro k1 (And.intro k2 k3)
      exact Wk
    · cases r2
      · unfold iv0 nu0 at *
        have d1 := @dl 9 qT10_35_9
        refine PB (rs := [.cell 6 28, .tmp 7]) Tryz.func35 ?_
        have ft := And.intro k1 (And.intro k2 k3)
        exact Wk
      · cases r3
        · unfold iv0 nu0 at *
          have d1 := @dl 9 qT10_35_9
          refine PB (rs := [.cell 6 28, .tmp 7]) Tryz.func35 ?_
          have ft := And.intro k1 (And.intro k2 k3)
          exact Wk
        · rw [Bool.and_self, Bool.and_self, if_pos rfl]
          generalize hgn : gI a n = ga at *
          obtain ⟨⟨n1, e1, w1⟩, ⟨n2, e2, w2⟩⟩ := ga
          have kt : (n : Int).toNat = n := by omega
          have k4 : ((a.length : Int) - 2) = (n : Int) - 1 := by omega
          have d1 := @dl 9 qT10_35_9
          refine PB (rs := [.cell 6 28, .tmp 7]) Tryz.func35 ?_
          have ft := And.intro k1 (And.intro k2 (And.intro k3 (And.intro hgi (And.intro kt k4))))
          repeat (first | with_reducible refine pv_seq fun K hK => ?_ | ((with_reducible first | refine hK _ _ ?_ | (clear hK; refine hK _ _ ?_) | (clear hK; clear hK; refine hK _ _ ?_)); clear hK; try clear K) | refine W ?_ | exact Z | with_reducible intro b)
          have J : ∀ (e : DEnv) (S : Store) (b4 b6 b8 : Nat), r.2 = 0 → RSum14 a ⟨⟨n7, e7, w7⟩, ⟨n8, e8, w8⟩⟩ p b4 b6 b8 (cI r.1) e S → K e S := by
            intro e S b4 b6 b8 h0 ⟨g0, g2, g4, g6, g8, s4, s6, s8⟩
            obtain ⟨⟨⟨n3, e3, w3⟩, ⟨n4, e4, w4⟩⟩, er⟩ := r
            simp only at h0
            subst h0
            unfold cI at s8
            have ft := And.intro g6 (And.intro g8 (And.intro s6 s8))
            exact Wk
          clear hK
          obtain ⟨I, mk, el⟩ := hide fun e S => ∃ (i b4 b6 b8 : Nat), i ≤ n ∧ e 9 = i64 ((n : Int) - 1 - i) ∧ (sumN p a ⟨⟨n7, e7, w7⟩, ⟨n8, e8, w8⟩⟩ i).2 = 0 ∧ RSum14 a ⟨⟨n7, e7, w7⟩, ⟨n8, e8, w8⟩⟩ p b4 b6 b8 (cI (sumN p a ⟨⟨n7, e7, w7⟩, ⟨n8, e8, w8⟩⟩ i).1) e S
          refine pv_loop I (fun e _ => (intD (e 9) + 1).toNat) ?_ ?_
          · have ft := k4
            exact mk _ _ ⟨0, _, _, _, Nat.zero_le _, by rw [show (n : Int) - 1 - ((0 : Nat) : Int) = (n : Int) - 1 by omega]; exact Zr, by rw [h0], Zr, Zr, Zr, Zr, Zr, by simp only [updS_apply]; rfl, by simp only [updS_apply]; rfl, by rw [h0]; simp only [updS_apply]; rfl⟩
          · intro e S hI
            obtain ⟨i, b4, b6, b8, hi, g9, he, ⟨g0, g2, g4, g6, g8, s4, s6, s8⟩⟩ := el e S hI
            clear el hI
            by_cases hin : i < n
            · have k5 : (0 ≤ (n : Int) - 1 - (i : Int)) = True := eq_true (by omega)
              have k6 : ((n : Int) - 1 - (i : Int)).toNat = a.length - 2 - i := by omega
              have k7 : ((n : Int) - 1 - (i : Int) < (a.length : Int)) = True := eq_true (by omega)
              have q1 := gI_at (l := a) (i := a.length - 2 - i) (by omega)
              have hs := sumN_succ he
              have w0 := sumN_wi (p := p) (h := ⟨⟨n7, e7, w7⟩, ⟨n8, e8, w8⟩⟩) ha.w i
              have wx := ha.at_ (a.length - 2 - i)
              have hst : (sumN p a ⟨⟨n7, e7, w7⟩, ⟨n8, e8, w8⟩⟩ (i + 1)).2 ≠ 0 → r = sumN p a ⟨⟨n7, e7, w7⟩, ⟨n8, e8, w8⟩⟩ (i + 1) := fun h => by rw [← hr]; exact sumN_stuck h (by omega)
              have mk2 : ∀ (e : DEnv) (S : Store), e 9 = i64 ((n : Int) - 1 - (i + 1 : Nat)) → (sumN p a ⟨⟨n7, e7, w7⟩, ⟨n8, e8, w8⟩⟩ (i + 1)).2 = 0 → RSum14 a ⟨⟨n7, e7, w7⟩, ⟨n8, e8, w8⟩⟩ p b4 b6 b8 (cI (sumN p a ⟨⟨n7, e7, w7⟩, ⟨n8, e8, w8⟩⟩ (i + 1)).1) e S → I e S := fun e S a1 a2 a3 => mk e S ⟨i + 1, b4, b6, b8, by omega, a1, a2, a3⟩
              have pM : PC Tryz.prog 70 [i64 2, IV (sumN p a ⟨⟨n7, e7, w7⟩, ⟨n8, e8, w8⟩⟩ i).1, IV ⟨⟨n7, e7, w7⟩, ⟨n8, e8, w8⟩⟩, i64 p] fun d => d = IE (mulI p (sumN p a ⟨⟨n7, e7, w7⟩, ⟨n8, e8, w8⟩⟩ i).1 ⟨⟨n7, e7, w7⟩, ⟨n8, e8, w8⟩⟩) := p_rOpP w0 hH
              have pA : PC Tryz.prog 70 [i64 0, IV (mulI p (sumN p a ⟨⟨n7, e7, w7⟩, ⟨n8, e8, w8⟩⟩ i).1 ⟨⟨n7, e7, w7⟩, ⟨n8, e8, w8⟩⟩).1, IV (gI a (a.length - 2 - i)), i64 p] fun d => d = IE (addI p (mulI p (sumN p a ⟨⟨n7, e7, w7⟩, ⟨n8, e8, w8⟩⟩ i).1 ⟨⟨n7, e7, w7⟩, ⟨n8, e8, w8⟩⟩).1 (gI a (a.length - 2 - i))) := p_rOpS opI_wi wx
              have hme : (mulI p (sumN p a ⟨⟨n7, e7, w7⟩, ⟨n8, e8, w8⟩⟩ i).1 ⟨⟨n7, e7, w7⟩, ⟨n8, e8, w8⟩⟩).2 ≠ 0 → (mulI p (sumN p a ⟨⟨n7, e7, w7⟩, ⟨n8, e8, w8⟩⟩ i).1 ⟨⟨n7, e7, w7⟩, ⟨n8, e8, w8⟩⟩).1 = iv0 := opI_err
              have hae : (addI p (mulI p (sumN p a ⟨⟨n7, e7, w7⟩, ⟨n8, e8, w8⟩⟩ i).1 ⟨⟨n7, e7, w7⟩, ⟨n8, e8, w8⟩⟩).1 (gI a (a.length - 2 - i))).2 ≠ 0 → (addI p (mulI p (sumN p a ⟨⟨n7, e7, w7⟩, ⟨n8, e8, w8⟩⟩ i).1 ⟨⟨n7, e7, w7⟩, ⟨n8, e8, w8⟩⟩).1 (gI a (a.length - 2 - i))).1 = iv0 := opI_err
              unfold plusR at hs
              clear mk J hr h0 wx w0
              generalize sumN p a ⟨⟨n7, e7, w7⟩, ⟨n8, e8, w8⟩⟩ (i + 1) = t1 at *
              generalize sumN p a ⟨⟨n7, e7, w7⟩, ⟨n8, e8, w8⟩⟩ i = t0 at *
              generalize gI a (a.length - 2 - i) = x at *
              obtain ⟨t0, e0⟩ := t0
              simp only at he
              subst he
              simp only at hs pM pA s8 hme hae
              generalize mulI p t0 ⟨⟨n7, e7, w7⟩, ⟨n8, e8, w8⟩⟩ = m at *
              obtain ⟨⟨⟨n9, e9, w9⟩, ⟨n10, e10, w10⟩⟩, em⟩ := m
              simp only at hs pA hae hme
              generalize addI p ⟨⟨n9, e9, w9⟩, ⟨n10, e10, w10⟩⟩ x = s at *
              obtain ⟨⟨⟨n3, e3, w3⟩, ⟨n4, e4, w4⟩⟩, es⟩ := s
              obtain ⟨⟨n5, e5, w5⟩, ⟨n6, e6, w6⟩⟩ := t0
              obtain ⟨⟨n11, e11, w11⟩, ⟨n12, e12, w12⟩⟩ := x
              have hk9 : (n : Int) - 1 - (i : Int) - 1 = (n : Int) - 1 - ((i + 1 : Nat) : Int) := by omega
              unfold cI at s4 s8
              by_cases h1 : em = 0
              · subst h1
                rw [if_pos rfl] at hs
                by_cases h2 : es = 0
                · subst h2
                  subst hs
                  have ft := And.intro g0 (And.intro g2 (And.intro g4 (And.intro g6 (And.intro g8 (And.intro g9 (And.intro s4 (And.intro s8 (And.intro q1 (And.intro k5 (And.intro k6 (And.intro k7 hk9)))))))))))
                  repeat (first | with_reducible refine pv_seq fun K hK => ?_ | ((with_reducible first | refine hK _ _ ?_ | (clear hK; refine hK _ _ ?_) | (clear hK; clear hK; refine hK _ _ ?_)); clear hK; try clear K) | refine W ?_ | exact Z | with_reducible intro b)
                  refine ⟨mk2 _ _ Zr rfl ⟨Zr, Zr, Zr, Zr, Zr, by simp only [updS_apply]; exact s4, by simp only [updS_apply]; exact s6, by simp only [updS_apply]; rfl⟩, ?_⟩
                  simp only [intD]
                  omega
                · subst hs
                  have k8 := eq_false h2
                  have hr1 := hst h2
                  have hr2 := hae h2
                  subst hr1
                  unfold iv0 nu0 at hr2
                  injection hr2 with z1 z2
                  injection z1 with z3 z4 z5
                  injection z2 with z6 z7 z8
                  subst z3; subst z4; subst z5; subst z6; subst z7; subst z8
                  have ft := And.intro g0 (And.intro g2 (And.intro g4 (And.intro g6 (And.intro g8 (And.intro g9 (And.intro s4 (And.intro s6 (And.intro s8 (And.intro q1 (And.intro k5 (And.intro k6 (And.intro k7 k8))))))))))))
                  exact Wk
              · rw [if_neg h1] at hs
                subst hs
                have k8 := eq_false h1
                have hr1 := hst h1
                have hr2 := hme h1
                subst hr1
                unfold iv0 nu0 at hr2
                injection hr2 with z1 z2
                injection z1 with z3 z4 z5
                injection z2 with z6 z7 z8
                subst z3; subst z4; subst z5; subst z6; subst z7; subst z8
                have ft := And.intro g0 (And.intro g2 (And.intro g4 (And.intro g6 (And.intro g8 (And.intro g9 (And.intro s4 (And.intro s6 (And.intro s8 (And.intro q1 (And.intro k5 (And.intro k6 (And.intro k7 k8))))))))))))
                exact Wk
            · obtain rfl : i = n := by omega
              have k5 : (0 ≤ (i : Int) - 1 - (i : Int)) = False := eq_false (by omega)
              rw [hr] at he s8
              have ft := And.intro g0 (And.intro g2 (And.intro g4 (And.intro g6 (And.intro g8 (And.intro g9 k5)))))
              repeat (first | with_reducible refine pv_seq fun K hK => ?_ | ((with_reducible first | refine hK _ _ ?_ | (clear hK; refine hK _ _ ?_) | (clear hK; clear hK; refine hK _ _ ?_)); clear hK; try clear K) | refine W0 ?_ | exact Z | with_reducible intro b)
              exact J _ _ b4 b6 b8 he ⟨Zr, Zr, Zr, Zr, Zr, s4, s6, s8⟩
  · rw [sumR_no hc]
    obtain ⟨⟨n7, e7, w7⟩, ⟨n8, e8, w8⟩⟩ := h
    unfold II iv0 nu0 at *
    by_cases h1 : (a.length : Int) < 1
    · have k1 := eq_true h1
      have d1 := @dl 9 qT10_35_9
      refine PB (rs := [.cell 6 28, .tmp 7]) Tryz.func35 ?_
      have ft := k1
      exact Wk
    · have k1 := eq_false h1
      have k2 : ((11 : Int) < (a.length : Int)) = True := eq_true (by omega)
      have d1 := @dl 9 qT10_35_9
      refine PB (rs := [.cell 6 28, .tmp 7]) Tryz.func35 ?_
      have ft := And.intro k1 k2
      exact Wk
end Go.V

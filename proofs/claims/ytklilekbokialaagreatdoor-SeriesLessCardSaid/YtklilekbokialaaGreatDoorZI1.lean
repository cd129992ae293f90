/- Which lists of monomials are polynomials: package poly's, the document's. The document's series over values as data: coefficients of products. Package series over values as data: products of series, monomials of series; the document's products. Package series over values as data: coefficients of polynomials of series. The document's series over values as data: coefficients of polynomials of series. Plain laws of intervals of small numbers: sums, products, what they hold, parts of them; coefficients and sums of series. Series at a point over values as data: package series, the document. Intervals that are points, exactly; the statements' own known series. The seat's deck: boxes of small intervals, points in boxes, boxes in boxes; is a value within an interval? The statement SeriesHolds of layer 14. Terms gathered by their powers, plainly: the greater powers first, one term for each. -/
import Derived.Test.YtklilekbokialaaGreatDoorZI0
set_option linter.unusedSimpArgs false
set_option linter.unusedVariables false
set_option maxRecDepth 100000
namespace Go.V
open Go Go.RowKit Go.Proofs
def qT4_64_4 : List (Nat × Nat) := [(0, 1), (1, 0), (2, 3), (3, 0), (4, 0), (5, 0), (6, 0), (7, 1), (8, 0), (9, 0), (10, 0), (11, 0), (12, 0), (13, 0), (14, 0), (15, 0), (16, 0), (17, 0), (18, 0), (19, 1), (20, 1), (21, 3), (22, 0), (23, 0), (24, 0)]
attribute [go_sem] qT4_64_4
/-- What is asked of monomial i. -/
def atB (q : List Mo) (n : Int) (i : Nat) : Prop := monoB (gM q i) n = true ∧ (gM q i).c.w ≠ [] ∧ (0 < i → cmpE (gM q i).e (gM q (i - 1)).e < 0)
theorem monosB_no {q : List Mo} {n : Int} {i : Nat} (hi : i < q.length) (h : ¬ atB q n i) : monosB q n = false := decide_eq_false fun h2 => h (h2 i hi)
theorem monosB_yes {q : List Mo} {n : Int} (h : ∀ i, i < q.length → atB q n i) : monosB q n = true := decide_eq_true h
theorem polyB_no {q : List Mo} {n : Int} (h : monosB q n = false) : polyB q n = false := by unfold polyB; rw [h, Bool.and_false]
theorem polyB_yes {q : List Mo} {n : Int} (h : monosB q n = true) : polyB q n = (decide (1 ≤ n) && decide (n ≤ 4) && decide (q.length ≤ 24)) := by unfold polyB; rw [h, Bool.and_true]
theorem at_step {q : List Mo} {n : Int} {i : Nat} (hz : ∀ j, j < i → atB q n j) (h : atB q n i) : ∀ j, j < i + 1 → atB q n j := fun j hj => by
  rcases Nat.lt_or_ge j i with h1 | h1
  · exact hz j h1
  · obtain rfl : j = i := by omega
    exact h
set_option maxHeartbeats 2000000 in
theorem p_pRight {q : List Mo} {n : Int} (hq : WfM q) : PC Tryz.prog 64 [MM q, i64 n] fun d => d = bl (polyB q n) := by
  have hno := fun (i : Nat) (h1 : i < q.length) (h2 : ¬ atB q n i) => polyB_no (monosB_no h1 h2)
  have hyes := fun (h : ∀ i, i < q.length → atB q n i) => polyB_yes (monosB_yes h)
  have hn1 := hq.n
  generalize polyB q n = r at *
  unfold MM
  have d1 := @dl 4 qT4_64_4
  refine PB (rs := [.tmp 4]) Tryz.func64 ?_
  repeat (first | with_reducible refine pv_seq fun K hK => ?_ | ((with_reducible first | refine hK _ _ ?_ | (clear hK; refine hK _ _ ?_) | (clear hK; clear hK; refine hK _ _ ?_)); clear hK; try clear K) | refine W0 ?_ | exact Z | with_reducible intro b)
  refine pv_loop (fun e S => ∃ i : Nat, i ≤ q.length ∧ e 0 = .g (eS eM q) ∧ e 1 = i64 n ∧ e 7 = .g (eS eM q) ∧ e 8 = i64 q.length ∧ e 9 = i64 i ∧ ∀ j, j < i → atB q n j) (fun e _ => q.length - (intD (e 9)).toNat) ?_ ?_
  · exact ⟨0, Nat.zero_le _, Zr, Zr, Zr, Zr, Zr, fun j hj => by omega⟩
  · rintro e S ⟨i, hi, g0, g1, g7, g8, g9, hz⟩
    have ft := And.intro g0 (And.intro g1 (And.intro g7 (And.intro g8 g9)))
    repeat (first | with_reducible refine pv_seq fun K hK => ?_ | ((with_reducible first | refine hK _ _ ?_ | (clear hK; refine hK _ _ ?_) | (clear hK; clear hK; refine hK _ _ ?_)); clear hK; try clear K) | refine W0 ?_ | exact Z | with_reducible intro b)
    refine pv_cdD (fun ht => ?_) (fun ht => ?_)
    · have hil : i < q.length := by omega
      have q1 := gM_at hil
      have pM := p_mono (n := n) (hq.at_ hil)
      have pA := fun (h : 0 < i) => p_ahead (a := gM q (i - 1)) (b := gM q i) (hq.at_ (by omega)).n (hq.at_ hil).n
      have q2 := fun (h : 0 < i) => gM_at (l := q) (i := i - 1) (by omega)
      have kt : 0 < i → ((i : Int) - 1).toNat = i - 1 := fun h => by omega
      have hst := at_step hz
      have hnx := hno i hil
      unfold atB at hst hnx
      clear hno hyes hq
      generalize gM q i = x at *
      generalize gM q (i - 1) = y at *
      generalize monoB x n = t at *
      generalize hc : cmpE x.e y.e = c at *
      obtain ⟨⟨n1, e1, w1⟩, z1⟩ := x
      obtain ⟨⟨n2, e2, w2⟩, z2⟩ := y
      simp only at hst hnx
      cases t
      · have hr := hnx (fun h => by cases h.1)
        subst hr
        have ft := And.intro g0 (And.intro g1 (And.intro g7 (And.intro g8 (And.intro g9 q1))))
        exact Wk
      · by_cases hw : w1 = []
        · have hr := hnx (fun h => h.2.1 hw)
          subst hr
          subst hw
          have ft := And.intro g0 (And.intro g1 (And.intro g7 (And.intro g8 (And.intro g9 q1))))
          exact Wk
        · have kw : ((w1.length : Int) = 0) = False := eq_false (fun h => hw (List.eq_nil_of_length_eq_zero (by omega)))
          by_cases h0 : 0 < i
          · have k0 : ((0 : Int) < (i : Int)) = True := eq_true (by omega)
            have pA := pA h0
            have q2 := q2 h0
            have kt := kt h0
            by_cases h1 : 0 ≤ c
            · have k1 := eq_true h1
              have hr := hnx (fun h => by have := h.2.2 h0; omega)
              subst hr
              have ft := And.intro g0 (And.intro g1 (And.intro g7 (And.intro g8 (And.intro g9 (And.intro q1 (And.intro q2 (And.intro kw (And.intro k0 (And.intro k1 kt)))))))))
              exact Wk
            · have k1 := eq_false h1
              have ft := And.intro g0 (And.intro g1 (And.intro g7 (And.intro g8 (And.intro g9 (And.intro q1 (And.intro q2 (And.intro kw (And.intro k0 (And.intro k1 kt)))))))))
              repeat (first | with_reducible refine pv_seq fun K hK => ?_ | ((with_reducible first | refine hK _ _ ?_ | (clear hK; refine hK _ _ ?_) | (clear hK; clear hK; refine hK _ _ ?_)); clear hK; try clear K) | refine W ?_ | exact Z | with_reducible intro b)
              exact ⟨⟨i + 1, by omega, rfl, hst ⟨rfl, hw, fun _ => by omega⟩⟩, by simp only [intD]; omega⟩
          · have k0 : ((0 : Int) < (i : Int)) = False := eq_false (by omega)
            have ft := And.intro g0 (And.intro g1 (And.intro g7 (And.intro g8 (And.intro g9 (And.intro q1 (And.intro kw k0))))))
            repeat (first | with_reducible refine pv_seq fun K hK => ?_ | ((with_reducible first | refine hK _ _ ?_ | (clear hK; refine hK _ _ ?_) | (clear hK; clear hK; refine hK _ _ ?_)); clear hK; try clear K) | refine W ?_ | exact Z | with_reducible intro b)
            exact ⟨⟨i + 1, by omega, rfl, hst ⟨rfl, hw, fun h => absurd h h0⟩⟩, by simp only [intD]; omega⟩
    · obtain rfl : i = q.length := by omega
      have hr := hyes hz
      have k3 : ((q.length : Int) ≤ 24) = (q.length ≤ 24) := propext ⟨fun h => by omega, fun h => by omega⟩
      by_cases h1 : 1 ≤ n
      · have h1' := eq_true h1
        by_cases h2 : n ≤ 4
        · have h2' := eq_true h2
          rw [decide_eq_true h1, decide_eq_true h2, Bool.and_self, Bool.true_and] at hr
          subst hr
          have ft := And.intro g0 (And.intro g1 (And.intro g7 (And.intro g8 (And.intro g9 (And.intro h1' (And.intro h2' k3))))))
          exact Wk
        · have h2' := eq_false h2
          rw [decide_eq_true h1, decide_eq_false h2, Bool.and_false, Bool.false_and] at hr
          subst hr
          have ft := And.intro g0 (And.intro g1 (And.intro g7 (And.intro g8 (And.intro g9 (And.intro h1' h2')))))
          exact Wk
      · have h1' := eq_false h1
        rw [decide_eq_false h1, Bool.false_and, Bool.false_and] at hr
        subst hr
        have ft := And.intro g0 (And.intro g1 (And.intro g7 (And.intro g8 (And.intro g9 h1'))))
        exact Wk

end Go.V
namespace Go.V
open Go Go.RowKit Go.Proofs
end Go.V
namespace Go.V
open Go Go.RowKit Go.Proofs

theorem rS_iv {l : List Iv} {a : Iv} : rS eI l ++ [[bl a.lo.neg, i64 a.lo.exp, W64 a.lo.w, bl a.hi.neg, i64 a.hi.exp, W64 a.hi.w]] = rS eI (l ++ [a]) := by rw [← rS_app]; rfl
def LE (s : List Iv × Int) : D := .tup [.g (eS eI s.1), i64 s.2]
theorem OkS.wf {k : Nat} {s : List Iv × Int} (h : OkS k s) (hk : k ≤ 1000) : WfL s.1 := ⟨by have := h.le; omega, h.wi⟩
theorem timesN_succ {p : Int} {a b : List Iv} {i : Nat} (he : (timesN p a b i).2 = 0) : timesN p a b (i + 1) = if (coefR p a b (i : Nat)).2 = 0 then ((timesN p a b i).1 ++ [(coefR p a b (i : Nat)).1], 0) else ([], (coefR p a b (i : Nat)).2) := by
  conv => lhs; unfold timesN
  rw [if_pos he]

set_option maxHeartbeats 2000000 in
theorem p_times {a b : List Iv} {k : Nat} {p : Int} (ha : WfL a) (hb : WfL b) (hk : k ≤ 1000) : PC Tryz.prog 100 [II a, II b, i64 k, i64 p] fun d => d = LE (timesN p a b (k + 1)) := by
  have pC := fun (i : Nat) => p_Coef (k := (i : Int)) (p := p) ha hb
  generalize hr : timesN p a b (k + 1) = r
  unfold II at *
  refine PB (rs := [.tmp 8, .tmp 9]) Tryz.func100 ?_
  repeat (first | with_reducible refine pv_seq fun K hK => ?_ | ((with_reducible first | refine hK _ _ ?_ | (clear hK; refine hK _ _ ?_) | (clear hK; clear hK; refine hK _ _ ?_)); clear hK; try clear K) | refine W0 ?_ | exact Z | with_reducible intro b)
  have J : ∀ (e : DEnv) (S : Store), r.2 = 0 → RowD S (.l 33) 6 (e 10) (rS eI r.1) → K e S := by
    intro e S h0 hw
    obtain ⟨l, er⟩ := r
    simp only at h0 hw
    subst h0
    repeat (first | with_reducible refine pv_seq fun K hK => ?_ | ((with_reducible first | refine hK _ _ ?_ | (clear hK; refine hK _ _ ?_) | (clear hK; clear hK; refine hK _ _ ?_)); clear hK; try clear K) | refine W0 ?_ | exact Z | with_reducible intro b)
    exact hw.coeD fun S' _ _ => rfl
  clear hK
  refine pv_loop (fun e S => Hid (∃ i : Nat, i ≤ k + 1 ∧ e 0 = .g (eS eI a) ∧ e 1 = .g (eS eI b) ∧ e 3 = i64 p ∧ e 15 = i64 ((k + 1 : Nat) : Int) ∧ e 16 = i64 i ∧ (timesN p a b i).2 = 0 ∧ RowD S (.l 33) 6 (e 10) (rS eI (timesN p a b i).1))) (fun e _ => k + 1 - (intD (e 16)).toNat) ?_ ?_
  · exact ⟨0, Nat.zero_le _, Zr, Zr, Zr, Zr, Zr, rfl, .inl ⟨Zr, rfl⟩⟩
  · rintro e S ⟨i, hi, g0, g1, g3, g15, g16, he, hw⟩
    have ft := And.intro g0 (And.intro g1 (And.intro g3 (And.intro g15 g16)))
    repeat (first | with_reducible refine pv_seq fun K hK => ?_ | ((with_reducible first | refine hK _ _ ?_ | (clear hK; refine hK _ _ ?_) | (clear hK; clear hK; refine hK _ _ ?_)); clear hK; try clear K) | refine W0 ?_ | exact Z | with_reducible intro b)
    refine pv_cdD (fun ht => ?_) (fun ht => ?_)
    · have hil : i < k + 1 := by omega
      have pC := pC i
      have hs := timesN_succ he
      have hst : (timesN p a b (i + 1)).2 ≠ 0 → r = timesN p a b (i + 1) := fun h => by rw [← hr]; exact timesN_stuck h (by omega)
      have hlt : (rS eI (timesN p a b i).1).length ≤ i := by rw [rS_len]; exact timesN_le i
      have hnew := rS_iv (l := (timesN p a b i).1) (a := (coefR p a b (i : Nat)).1)
      generalize coefR p a b (i : Nat) = q at *
      obtain ⟨⟨⟨n1, e1, w1⟩, ⟨n2, e2, w2⟩⟩, eq⟩ := q
      simp only at hs hnew
      by_cases h0 : eq = 0
      · subst h0
        rw [if_pos rfl] at hs
        repeat (first | with_reducible refine pv_seq fun K hK => ?_ | ((with_reducible first | refine hK _ _ ?_ | (clear hK; refine hK _ _ ?_) | (clear hK; clear hK; refine hK _ _ ?_)); clear hK; try clear K) | refine W ?_ | exact Z | with_reducible intro b)
        refine RowD.appL (hw.up (by rfl)) (by decide) rfl (by simp [D.one, W64]) ?_ ?_ fun d' S' hr' hS' => ?_
        · simp only [List.length_singleton]; omega
        · simp only [List.length_singleton]; omega
        repeat (first | with_reducible refine pv_seq fun K hK => ?_ | ((with_reducible first | refine hK _ _ ?_ | (clear hK; refine hK _ _ ?_) | (clear hK; clear hK; refine hK _ _ ?_)); clear hK; try clear K) | refine W0 ?_ | exact Z | with_reducible intro b)
        exact ⟨⟨i + 1, by omega, Zr, Zr, Zr, Zr, Zr, by rw [hs], by rw [hs, ← hnew]; exact hr'⟩, by simp only [intD]; omega⟩
      · rw [if_neg h0] at hs
        have hr1 := (hst (by rw [hs]; exact h0)).trans hs
        subst hr1
        have k1 := eq_false h0
        have ft := And.intro g0 (And.intro g1 (And.intro g3 (And.intro g15 (And.intro g16 k1))))
        exact Wk
    · obtain rfl : i = k + 1 := by omega
      rw [hr] at he hw
      repeat (first | with_reducible refine pv_seq fun K hK => ?_ | ((with_reducible first | refine hK _ _ ?_ | (clear hK; refine hK _ _ ?_) | (clear hK; clear hK; refine hK _ _ ?_)); clear hK; try clear K) | refine W0 ?_ | exact Z | with_reducible intro b)
      exact J _ _ he hw

/-! ### Monomials of series -/
def eL (l : List Iv) : List G := [eS eI l]
def LL (xs : List (List Iv)) : D := .g (eS eL xs)
theorem eL_0 {l : List Iv} : eL l = [eS eI l] := rfl
attribute [go_sem] eL_0
structure WfX (xs : List (List Iv)) : Prop where
  n : xs.length ≤ 100000
  w : ∀ l ∈ xs, WfL l
theorem xget {xs : List (List Iv)} {i : Nat} (h : i < xs.length) : xs[i]? = some (xs.getD i []) := by simp [List.getD, List.getElem?_eq_getElem h]
theorem WfX.at_ {xs : List (List Iv)} (h : WfX xs) {i : Nat} (hi : i < xs.length) : WfL (xs.getD i []) := h.w _ (List.mem_of_getElem? (xget hi))
def z6 : List D := [bl false, i64 0, .nil, bl false, i64 0, .nil]
theorem onS_pure {c : Nu} {k : Nat} : pureLL ((((List.replicate (k + 1) z6).set 0 (cI ⟨c, c⟩)).drop 0).take (k + 1)) = some ((onS c k).1.map eI) := by
  have h1 : ∀ k, pureLL (List.replicate k z6) = some ((List.replicate k iv0).map eI) := by
    intro k
    induction k with
    | zero => rfl
    | succ k ih =>
      rw [List.replicate_succ, List.replicate_succ, List.map_cons]
      show (match pureL z6, pureLL (List.replicate k z6) with | some x, some l => some (x :: l) | _, _ => none) = _
      rw [ih]; rfl
  rw [List.replicate_succ, List.set_cons_zero, List.drop_zero, List.take_of_length_le (by simp)]
  show (match pureL (cI ⟨c, c⟩), pureLL (List.replicate k z6) with | some x, some l => some (x :: l) | _, _ => none) = _
  rw [h1]; rfl
theorem mulS_succ {p : Int} {x : List Iv} {k : Nat} {s : List Iv × Int} {n : Nat} (h : (mulS p x k s n).2 = 0) : mulS p x k s (n + 1) = timesN p (mulS p x k s n).1 x (k + 1) := by
  conv => lhs; unfold mulS
  rw [if_pos h]
set_option maxHeartbeats 4000000 in
theorem p_sOver {m : Mo} {xs : List (List Iv)} {k : Nat} {p : Int} (hm : Wm m) (hx : WfX xs) (hl : m.e.length ≤ xs.length) (h8 : ∀ i, i < m.e.length → m.e.getD i 0 ≤ 8) (hk : k ≤ 1000) : PC Tryz.prog 65 [MO m, LL xs, i64 k, i64 p] fun d => d = LE (overR p xs k m) := by
  have pO := p_OfI (x := m.c) (by have := hm.c.len; omega)
  have hok := onS_ok (k := k) hm.c
  have hn := hm.n
  unfold overR
  obtain ⟨c, z⟩ := m
  simp only at *
  have hpure := onS_pure (c := c) (k := k)
  generalize hr : overN p xs k z (onS c k) z.length = r
  have kt : ((k : Int) + 1).toNat = k + 1 := by omega
  have kz : ∀ z : List D, (List.replicate (k + 1) z)[0]? = some z := fun _ => rfl
  unfold LL
  obtain ⟨n1, e1, w1⟩ := c
  refine PB (rs := [.tmp 8, .tmp 9]) Tryz.func65 ?_
  have ft := And.intro kt kz
  repeat (first | with_reducible refine pv_stop 2 ?_ | with_reducible refine pv_seq fun K hK => ?_ | ((with_reducible first | refine hK _ _ ?_ | (clear hK; refine hK _ _ ?_) | (clear hK; clear hK; refine hK _ _ ?_)); clear hK; try clear K) | refine W ?_ | exact Z | with_reducible intro b)
  refine ⟨fun K q hC => ?_⟩
  repeat (first | with_reducible refine pv_seq fun K hK => ?_ | ((with_reducible first | refine hK _ _ ?_ | (clear hK; refine hK _ _ ?_) | (clear hK; clear hK; refine hK _ _ ?_)); clear hK; try clear K) | refine W ?_ | exact Z | with_reducible intro b)
  refine hC _ _ (Recast.frzSlot 10 (k := .l 17) rfl rfl hpure (by simp) ?_)
  rw [sl_eS]
  refine q _ _ ?_
  clear hC q
  have ft := true_and
  repeat (first | with_reducible refine pv_seq fun K hK => ?_ | ((with_reducible first | refine hK _ _ ?_ | (clear hK; refine hK _ _ ?_) | (clear hK; clear hK; refine hK _ _ ?_)); clear hK; try clear K) | refine W0 ?_ | exact Z | with_reducible intro b)
  have J : ∀ (e : DEnv) (S : Store), r.2 = 0 → e 10 = .g (eS eI r.1) → K e S := by
    intro e S h0 g10
    obtain ⟨l, er⟩ := r
    simp only at h0 g10
    subst h0
    have ft := g10
    exact Wk
  clear hK
  generalize hs0 : onS (⟨n1, e1, w1⟩ : Nu) k = s0 at *
  refine pv_loop (fun e S => Hid (∃ i : Nat, i ≤ z.length ∧ e 1 = .g (eS eL xs) ∧ e 2 = i64 k ∧ e 3 = i64 p ∧ e 24 = .g (eS eZ z) ∧ e 25 = i64 z.length ∧ e 26 = i64 i ∧ (overN p xs k z s0 i).2 = 0 ∧ e 10 = .g (eS eI (overN p xs k z s0 i).1))) (fun e _ => z.length - (intD (e 26)).toNat) ?_ ?_
  · have h0 : s0.2 = 0 := by rw [← hs0]; rfl
    exact ⟨0, Nat.zero_le _, Zr, Zr, Zr, Zr, Zr, Zr, h0, by rw [show overN p xs k z s0 0 = s0 from rfl]; rfl⟩
  · rintro e S ⟨i, hi, g1, g2, g3, g24, g25, g26, he, g10⟩
    have ft := And.intro g1 (And.intro g2 (And.intro g3 (And.intro g24 (And.intro g25 (And.intro g26 g10)))))
    repeat (first | with_reducible refine pv_seq fun K hK => ?_ | ((with_reducible first | refine hK _ _ ?_ | (clear hK; refine hK _ _ ?_) | (clear hK; clear hK; refine hK _ _ ?_)); clear hK; try clear K) | refine W0 ?_ | exact Z | with_reducible intro b)
    refine pv_cdD (fun ht => ?_) (fun ht => ?_)
    · have hil : i < z.length := by omega
      have q1 := zget hil
      have q2 := xget (xs := xs) (i := i) (by omega)
      have hov : overN p xs k z s0 (i + 1) = mulS p (xs.getD i []) k (overN p xs k z s0 i) (z.getD i 0).toNat := rfl
      have hst : (overN p xs k z s0 (i + 1)).2 ≠ 0 → r = overN p xs k z s0 (i + 1) := fun h => by rw [← hr]; exact overN_stuck h (by omega)
      have hokm := fun j => mulS_ok (p := p) (x := xs.getD i []) (overN_ok (p := p) (xs := xs) (e := z) hok i) j
      have hwx := hx.at_ (i := i) (by omega)
      have hy8 := h8 i hil
      generalize overN p xs k z s0 i = t0 at *
      generalize z.getD i 0 = y at *
      generalize xs.getD i [] = l at *
      clear hr J
      have ft := And.intro g1 (And.intro g2 (And.intro g3 (And.intro g24 (And.intro g25 (And.intro g26 (And.intro g10 q1))))))
      repeat (first | with_reducible refine pv_seq fun K hK => ?_ | ((with_reducible first | refine hK _ _ ?_ | (clear hK; refine hK _ _ ?_) | (clear hK; clear hK; refine hK _ _ ?_)); clear hK; try clear K) | refine W0 ?_ | exact Z | with_reducible intro b)
      have hm0 : (intD (e 26)).toNat = i := by rw [g26]; exact Int.toNat_natCast i
      refine pv_loop (fun e T => Hid (∃ j : Nat, j ≤ y.toNat ∧ e 1 = .g (eS eL xs) ∧ e 2 = i64 k ∧ e 3 = i64 p ∧ e 24 = .g (eS eZ z) ∧ e 25 = i64 z.length ∧ e 26 = i64 i ∧ e 11 = i64 i ∧ e 31 = i64 y ∧ e 32 = i64 j ∧ (mulS p l k t0 j).2 = 0 ∧ e 10 = .g (eS eI (mulS p l k t0 j).1))) (fun e _ => y.toNat - (intD (e 32)).toNat) ?_ ?_
      · exact ⟨0, Nat.zero_le _, Zr, Zr, Zr, Zr, Zr, Zr, Zr, Zr, Zr, he, g10⟩
      rintro e T ⟨j, hj, g1, g2, g3, g24, g25, g26, g11, g31, g32, he2, g10⟩
      have ft := And.intro g1 (And.intro g2 (And.intro g3 (And.intro g24 (And.intro g25 (And.intro g26 (And.intro g11 (And.intro g31 (And.intro g32 g10))))))))
      repeat (first | with_reducible refine pv_seq fun K hK => ?_ | ((with_reducible first | refine hK _ _ ?_ | (clear hK; refine hK _ _ ?_) | (clear hK; clear hK; refine hK _ _ ?_)); clear hK; try clear K) | refine W0 ?_ | exact Z | with_reducible intro b)
      refine pv_cdD (fun ht2 => ?_) (fun ht2 => ?_)
      · have hjl : j < y.toNat := by omega
        have pT := p_times (k := k) (p := p) ((hokm j).wf hk) hwx hk
        have hs := mulS_succ he2
        have hst2 : (mulS p l k t0 (j + 1)).2 ≠ 0 → r = mulS p l k t0 (j + 1) := fun h => by
          have := mulS_stuck (n := y.toNat) h (by omega)
          rw [← hov] at this
          rw [← this]
          exact hst (by rw [this]; exact h)
        have her := (hokm (j + 1)).err
        generalize hs1 : mulS p l k t0 (j + 1) = s1 at *
        generalize mulS p l k t0 j = s2 at *
        rw [← hs] at pT
        clear hs hokm hov hst
        obtain ⟨l1, es⟩ := s1
        unfold II LE at pT
        by_cases h0 : es = 0
        · subst h0
          have ft := And.intro g1 (And.intro g2 (And.intro g3 (And.intro g24 (And.intro g25 (And.intro g26 (And.intro g11 (And.intro g31 (And.intro g32 (And.intro g10 q2)))))))))
          repeat (first | with_reducible refine pv_seq fun K hK => ?_ | ((with_reducible first | refine hK _ _ ?_ | (clear hK; refine hK _ _ ?_) | (clear hK; clear hK; refine hK _ _ ?_)); clear hK; try clear K) | refine W ?_ | exact Z | with_reducible intro b)
          exact ⟨⟨j + 1, by omega, Zr, Zr, Zr, Zr, Zr, Zr, Zr, Zr, Zr, by rw [hs1], by rw [hs1]; try exact Zr⟩, by simp only [intD]; omega⟩
        · have k1 := eq_false h0
          have hr1 := hst2 h0
          have hl1 := her h0
          simp only at hl1
          subst hl1
          subst hr1
          have ft := And.intro g1 (And.intro g2 (And.intro g3 (And.intro g24 (And.intro g25 (And.intro g26 (And.intro g11 (And.intro g31 (And.intro g32 (And.intro g10 (And.intro q2 k1))))))))))
          exact Wk
      · obtain rfl : j = y.toNat := by omega
        repeat (first | with_reducible refine pv_seq fun K hK => ?_ | ((with_reducible first | refine hK _ _ ?_ | (clear hK; refine hK _ _ ?_) | (clear hK; clear hK; refine hK _ _ ?_)); clear hK; try clear K) | refine W0 ?_ | exact Z | with_reducible intro b)
        exact ⟨⟨i + 1, by omega, Zr, Zr, Zr, Zr, Zr, Zr, by rw [hov]; exact he2, by rw [hov]; exact g10⟩, by rw [hm0]; simp only [intD]; omega⟩
    · obtain rfl : i = z.length := by omega
      rw [hr] at he g10
      repeat (first | with_reducible refine pv_seq fun K hK => ?_ | ((with_reducible first | refine hK _ _ ?_ | (clear hK; refine hK _ _ ?_) | (clear hK; clear hK; refine hK _ _ ?_)); clear hK; try clear K) | refine W0 ?_ | exact Z | with_reducible intro b)
      exact J _ _ he g10
end Go.V
namespace Go.V
open Go Go.RowKit Go.Proofs
def qT7_29_16 : List (Nat × Nat) := [(0, 1), (1, 0), (2, 0), (3, 0), (4, 1), (5, 0), (6, 3), (7, 0), (8, 0), (9, 0), (10, 3), (11, 0)]
attribute [go_sem] qT7_29_16
theorem Recast.z6 {N : DEnv → Store → Prop} {e : DEnv} {S : Store} {k : Nm} {b : Nat} (hk : S k = some ⟨b, 6, 0, [V.z6]⟩) (h : N e (updS S k (some ⟨b, 6, 0, [cI iv0]⟩))) : Recast N e S := by
  refine Recast.join (Recast.cell (i := 0) (j := 2) (es := V.z6) (d := .nil) (d' := W64 []) hk rfl rfl (fun I H v hv => nil_row hv) ?_)
  refine Recast.cell (i := 0) (j := 5) (es := V.z6.set 2 (W64 [])) (d := .nil) (d' := W64 []) updS_at rfl rfl (fun I H v hv => nil_row hv) ?_
  rw [updS_updS]; exact h
theorem ofN_succ {p : Int} {q : List Mo} {xs : List (List Iv)} {k i : Nat} (h : (ofN p q xs k i).2 = 0) : ofN p q xs k (i + 1) = if (overR p xs k (gM q i)).2 = 0 then addI p (ofN p q xs k i).1 (gI (overR p xs k (gM q i)).1 k) else (iv0, (overR p xs k (gM q i)).2) := by
  conv => lhs; unfold ofN
  rw [if_pos h]
theorem all_no {xs : List (List Iv)} {k i : Nat} (hi : i < xs.length) (h : rightTo (xs.getD i []) k = false) : decide (∀ x ∈ xs, rightTo x k = true) = false :=
  decide_eq_false fun h2 => by rw [h2 _ (List.mem_of_getElem? (xget hi))] at h; cases h
theorem all_yes {xs : List (List Iv)} {k : Nat} (h : ∀ i, i < xs.length → rightTo (xs.getD i []) k = true) : decide (∀ x ∈ xs, rightTo x k = true) = true :=
  decide_eq_true fun x hx => by
    obtain ⟨i, hi⟩ := List.mem_iff_getElem?.1 hx
    have hil : i < xs.length := (List.getElem?_eq_some_iff.1 hi).1
    have := h i hil
    rw [xget hil] at hi
    injection hi with hi; rwa [hi] at this
theorem poly_at {q : List Mo} {n : Int} (h : polyB q n = true) {i : Nat} (hi : i < q.length) : atB q n i := by
  unfold polyB at h
  rw [Bool.and_eq_true] at h
  exact of_decide_eq_true h.2 i hi
theorem poly_len {q : List Mo} {n : Int} (h : polyB q n = true) {i : Nat} (hi : i < q.length) : ((gM q i).e.length : Int) = n := by
  have := (poly_at h hi).1
  unfold monoB at this
  simp only [Bool.and_eq_true, decide_eq_true_eq] at this
  exact this.1.1.1
theorem le_sum : ∀ {l : List Int}, (∀ x ∈ l, 0 ≤ x) → ∀ i, i < l.length → l.getD i 0 ≤ l.sum
  | x :: l, h, 0, _ => by
    have h1 := sum_take_le (l := l) 0 (fun y hy => h y (List.mem_cons_of_mem _ hy))
    simp only [List.take_zero, List.sum_nil] at h1
    show x ≤ x + l.sum
    omega
  | x :: l, h, i + 1, hi => by
    have h1 := le_sum (l := l) (fun y hy => h y (List.mem_cons_of_mem _ hy)) i (by simpa using hi)
    have h2 := h x List.mem_cons_self
    show l.getD i 0 ≤ x + l.sum
    omega
theorem poly_e8 {q : List Mo} {n : Int} (h : polyB q n = true) {i : Nat} (hi : i < q.length) : ∀ j, j < (gM q i).e.length → (gM q i).e.getD j 0 ≤ 8 := fun j hj => by
  have := (poly_at h hi).1
  unfold monoB at this
  simp only [Bool.and_eq_true, decide_eq_true_eq] at this
  have h2 := le_sum this.1.1.2 j hj
  omega
theorem overR_ok {p : Int} {xs : List (List Iv)} {k : Nat} {m : Mo} (h : Wl 65536 m.c) : OkS k (overR p xs k m) := overN_ok (onS_ok h) _

set_option maxHeartbeats 4000000 in
theorem p_sOf {q : List Mo} {xs : List (List Iv)} {k p : Int} (hq : WfM q) (hx : WfX xs) : PC Tryz.prog 29 [MM q, LL xs, i64 k, i64 p] fun d => d = IE (ofR p q xs k) := by
  have pV := p_sValid (k := k) (p := p)
  have pR := p_pRight (n := (xs.length : Int)) hq
  have hxn := hx.n
  have hqn := hq.n
  unfold ofR
  by_cases hv : (okK k && okP p) = true
  · have hv2 := hv
    rw [Bool.and_eq_true] at hv2
    obtain ⟨n, rfl, hn⟩ := okK_nat hv2.1
    rw [hv] at pV
    rw [hv2.1, hv2.2, Bool.true_and, Bool.and_true, Int.toNat_natCast]
    have hlen := fun (h : polyB q (xs.length : Int) = true) (i : Nat) (hi : i < q.length) => (⟨poly_len h hi, poly_e8 h hi⟩ : _ ∧ _)
    generalize polyB q (xs.length : Int) = rq at *
    cases rq
    · unfold LL MM iv0 nu0 at *
      have d1 := @dl 16 qT7_29_16
      refine PB (rs := [.cell 8 28, .tmp 9]) Tryz.func29 ?_
      exact Wk
    · have hlen := hlen rfl
      rw [Bool.true_and]
      generalize hr : (if decide (∀ x ∈ xs, rightTo x n = true) = true then ofN p q xs n q.length else (iv0, 1)) = r
      have hno : ∀ i, i < xs.length → rightTo (xs.getD i []) n = false → r = (iv0, 1) := fun i hi h => by rw [← hr, all_no hi h]; rfl
      have hyes : (∀ i, i < xs.length → rightTo (xs.getD i []) n = true) → ofN p q xs n q.length = r := fun h => by rw [← hr, all_yes h]; rfl
      clear hr
      unfold LL MM at *
      have d1 := @dl 16 qT7_29_16
      refine PB (rs := [.cell 8 28, .tmp 9]) Tryz.func29 ?_
      repeat (first | with_reducible refine pv_seq fun K hK => ?_ | ((with_reducible first | refine hK _ _ ?_ | (clear hK; refine hK _ _ ?_) | (clear hK; clear hK; refine hK _ _ ?_)); clear hK; try clear K) | refine W ?_ | exact Z | with_reducible intro b)
      have J : ∀ (e : DEnv) (S : Store) (b8 : Nat), ofN p q xs n q.length = r → e 0 = .g (eS eM q) → e 1 = .g (eS eL xs) → e 2 = i64 n → e 3 = i64 p → e 8 = .ptr (.l 8) b8 0 0 6 → S (.l 8) = some ⟨b8, 6, 0, [z6]⟩ → K e S := by
        intro e S b8 hr g0 g1 g2 g3 g8 s8
        clear hno hyes
        have ft := And.intro g0 (And.intro g1 (And.intro g2 (And.intro g3 (And.intro g8 s8))))
        repeat (first | with_reducible refine pv_stop 9 ?_ | with_reducible refine pv_seq fun K hK => ?_ | ((with_reducible first | refine hK _ _ ?_ | (clear hK; refine hK _ _ ?_) | (clear hK; clear hK; refine hK _ _ ?_)); clear hK; try clear K) | refine W ?_ | exact Z | with_reducible intro b)
        refine ⟨fun K q0 hC => ?_⟩
        repeat (first | with_reducible refine pv_seq fun K hK => ?_ | ((with_reducible first | refine hK _ _ ?_ | (clear hK; refine hK _ _ ?_) | (clear hK; clear hK; refine hK _ _ ?_)); clear hK; try clear K) | refine W0 ?_ | exact Z | with_reducible intro b)
        refine hC _ _ (Recast.z6 (k := .l 12) rfl ?_)
        refine q0 _ _ ?_
        clear hC q0
        repeat (first | with_reducible refine pv_seq fun K hK => ?_ | ((with_reducible first | refine hK _ _ ?_ | (clear hK; refine hK _ _ ?_) | (clear hK; clear hK; refine hK _ _ ?_)); clear hK; try clear K) | refine W0 ?_ | exact Z | with_reducible intro b)
        have J2 : ∀ (e : DEnv) (S : Store) (b12 : Nat), r.2 = 0 → e 8 = .ptr (.l 8) b8 0 0 6 → e 12 = .ptr (.l 12) b12 0 0 6 → S (.l 8) = some ⟨b8, 6, 0, [z6]⟩ → S (.l 12) = some ⟨b12, 6, 0, [cI r.1]⟩ → K e S := by
          intro e S b12 h0 g8 g12 s8 s12
          obtain ⟨⟨⟨n1, e1, w1⟩, ⟨n2, e2, w2⟩⟩, er⟩ := r
          simp only at h0
          subst h0
          unfold cI at s12
          unfold z6 at s8
          have ft := And.intro g8 (And.intro g12 (And.intro s8 s12))
          exact Wk
        clear hK
        obtain ⟨I, mk, el⟩ := hide fun e S => ∃ (i b12 : Nat), i ≤ q.length ∧ e 1 = .g (eS eL xs) ∧ e 2 = i64 n ∧ e 3 = i64 p ∧ e 8 = .ptr (.l 8) b8 0 0 6 ∧ e 12 = .ptr (.l 12) b12 0 0 6 ∧ e 41 = .g (eS eM q) ∧ e 42 = i64 q.length ∧ e 43 = i64 i ∧ (ofN p q xs n i).2 = 0 ∧ S (.l 8) = some ⟨b8, 6, 0, [z6]⟩ ∧ S (.l 12) = some ⟨b12, 6, 0, [cI (ofN p q xs n i).1]⟩
        refine pv_loop I (fun e _ => q.length - (intD (e 43)).toNat) ?_ ?_
        · exact mk _ _ ⟨0, _, Nat.zero_le _, Zr, Zr, Zr, Zr, Zr, Zr, Zr, Zr, rfl, by simp only [updS_apply]; exact s8, by simp only [updS_apply]; rfl⟩
        · intro e S hI
          obtain ⟨i, b12, hi, g1, g2, g3, g8, g12, g41, g42, g43, he, s8, s12⟩ := el e S hI
          clear el
          have ft := And.intro g1 (And.intro g2 (And.intro g3 (And.intro g8 (And.intro g12 (And.intro g41 (And.intro g42 g43))))))
          repeat (first | with_reducible refine pv_seq fun K hK => ?_ | ((with_reducible first | refine hK _ _ ?_ | (clear hK; refine hK _ _ ?_) | (clear hK; clear hK; refine hK _ _ ?_)); clear hK; try clear K) | refine W0 ?_ | exact Z | with_reducible intro b)
          refine pv_cdD (fun ht => ?_) (fun ht => ?_)
          · have hil : i < q.length := by omega
            have q1 := gM_at hil
            have wm := hq.at_ hil
            have pO := p_sOver (k := n) (p := p) wm hx (by have := (hlen i hil).1; omega) (hlen i hil).2 (by omega)
            have hok := overR_ok (p := p) (xs := xs) (k := n) wm.c
            have hs := ofN_succ he
            have hst : (ofN p q xs n (i + 1)).2 ≠ 0 → r = ofN p q xs n (i + 1) := fun h => by rw [← hr]; exact ofN_stuck h (by omega)
            have he1 := ofN_err (p := p) (q := q) (xs := xs) (k := n) (i + 1)
            have w0 := ofN_wi (p := p) (q := q) (xs := xs) (k := n) i
            have hgoal : ∀ (e : DEnv) (S : Store), e 1 = .g (eS eL xs) → e 2 = i64 n → e 3 = i64 p → e 8 = .ptr (.l 8) b8 0 0 6 → e 12 = .ptr (.l 12) b12 0 0 6 → e 41 = .g (eS eM q) → e 42 = i64 q.length → e 43 = i64 ((i + 1 : Nat) : Int) → (ofN p q xs n (i + 1)).2 = 0 → S (.l 8) = some ⟨b8, 6, 0, [z6]⟩ → S (.l 12) = some ⟨b12, 6, 0, [cI (ofN p q xs n (i + 1)).1]⟩ → I e S :=
              fun e S a1 a2 a3 a4 a5 a6 a7 a8 a9 a10 a11 => mk _ _ ⟨i + 1, b12, by omega, a1, a2, a3, a4, a5, a6, a7, a8, a9, a10, a11⟩
            unfold LE LL at pO
            clear hr J2 hlen hq wm
            generalize ofN p q xs n (i + 1) = t1 at *
            generalize ofN p q xs n i = t0 at *
            generalize gM q i = m at *
            obtain ⟨⟨nm, em, wm⟩, zm⟩ := m
            generalize overR p xs n ⟨⟨nm, em, wm⟩, zm⟩ = s at *
            obtain ⟨l, es⟩ := s
            obtain ⟨t0, e0⟩ := t0
            simp only at hs
            by_cases h0 : es = 0
            · subst h0
              rw [if_pos rfl] at hs
              have hl := hok.len rfl
              simp only at hl
              have hnl : n < l.length := by omega
              have q2 := gI_at (l := l) (i := n) (by omega)
              have pA := p_iAdd (p := p) w0 (hok.wi _ (gI_mem (i := n) (by simp only; omega)))
              change PC _ _ _ fun d => d = IE (addI p t0 (gI l n)) at pA
              rw [← hs] at pA
              generalize gI l n = x at *
              clear hs hok
              obtain ⟨⟨n1, e1, w1⟩, ⟨n2, e2, w2⟩⟩ := x
              obtain ⟨⟨⟨n3, e3, w3⟩, ⟨n4, e4, w4⟩⟩, et⟩ := t1
              obtain ⟨⟨n5, e5, w5⟩, ⟨n6, e6, w6⟩⟩ := t0
              unfold cI at *
              simp only at s12 hgoal hst he1
              by_cases h1 : et = 0
              · subst h1
                have ft := And.intro g1 (And.intro g2 (And.intro g3 (And.intro g8 (And.intro g12 (And.intro g41 (And.intro g42 (And.intro g43 (And.intro q1 (And.intro q2 s12)))))))))
                repeat (first | with_reducible refine pv_seq fun K hK => ?_ | ((with_reducible first | refine hK _ _ ?_ | (clear hK; refine hK _ _ ?_) | (clear hK; clear hK; refine hK _ _ ?_)); clear hK; try clear K) | refine W ?_ | exact Z | with_reducible intro b)
                exact ⟨hgoal _ _ Zr Zr Zr Zr Zr Zr Zr Zr rfl (by simp only [updS_apply]; exact s8) Zr, by simp only [intD]; omega⟩
              · have k1 := eq_false h1
                have hr1 := hst h1
                have hr2 := he1 h1
                subst hr1
                unfold iv0 nu0 at hr2
                injection hr2 with z1 z2
                injection z1 with z3 z4 z5
                injection z2 with z6 z7 z8
                subst z3; subst z4; subst z5; subst z6; subst z7; subst z8
                unfold V.z6 at s8
                have ft := And.intro g1 (And.intro g2 (And.intro g3 (And.intro g8 (And.intro g12 (And.intro g41 (And.intro g42 (And.intro g43 (And.intro q1 (And.intro q2 (And.intro s12 (And.intro s8 k1)))))))))))
                exact Wk
            · rw [if_neg h0] at hs
              subst hs
              have k1 := eq_false h0
              have hr1 := hst h0
              subst hr1
              unfold z6 at s8
              unfold iv0 nu0 at *
              have ft := And.intro g1 (And.intro g2 (And.intro g3 (And.intro g8 (And.intro g12 (And.intro g41 (And.intro g42 (And.intro g43 (And.intro q1 (And.intro s12 (And.intro s8 k1))))))))))
              exact Wk
          · obtain rfl : i = q.length := by omega
            rw [hr] at he s12
            repeat (first | with_reducible refine pv_seq fun K hK => ?_ | ((with_reducible first | refine hK _ _ ?_ | (clear hK; refine hK _ _ ?_) | (clear hK; clear hK; refine hK _ _ ?_)); clear hK; try clear K) | refine W0 ?_ | exact Z | with_reducible intro b)
            exact J2 _ _ b12 he g8 Zr s8 s12
      clear hK
      refine pv_loop (fun e S => Hid (∃ (i b8 : Nat), i ≤ xs.length ∧ e 0 = .g (eS eM q) ∧ e 1 = .g (eS eL xs) ∧ e 2 = i64 n ∧ e 3 = i64 p ∧ e 8 = .ptr (.l 8) b8 0 0 6 ∧ e 29 = .g (eS eL xs) ∧ e 30 = i64 xs.length ∧ e 31 = i64 i ∧ (∀ j, j < i → rightTo (xs.getD j []) n = true) ∧ S (.l 8) = some ⟨b8, 6, 0, [z6]⟩)) (fun e _ => xs.length - (intD (e 31)).toNat) ?_ ?_
      · exact ⟨0, _, Nat.zero_le _, Zr, Zr, Zr, Zr, Zr, Zr, Zr, Zr, fun j hj => by omega, by simp only [updS_apply]; rfl⟩
      · rintro e S ⟨i, b8, hi, g0, g1, g2, g3, g8, g29, g30, g31, hz, s8⟩
        have ft := And.intro g0 (And.intro g1 (And.intro g2 (And.intro g3 (And.intro g8 (And.intro g29 (And.intro g30 g31))))))
        repeat (first | with_reducible refine pv_seq fun K hK => ?_ | ((with_reducible first | refine hK _ _ ?_ | (clear hK; refine hK _ _ ?_) | (clear hK; clear hK; refine hK _ _ ?_)); clear hK; try clear K) | refine W0 ?_ | exact Z | with_reducible intro b)
        refine pv_cdD (fun ht => ?_) (fun ht => ?_)
        · have hil : i < xs.length := by omega
          have q1 := xget hil
          have pT := p_sRight (k := n) (hx.at_ hil) (by omega)
          have hno := hno i hil
          have hz2 : rightTo (xs.getD i []) n = true → ∀ j, j < i + 1 → rightTo (xs.getD j []) n = true := fun h j hj => by
            rcases Nat.lt_or_ge j i with h1 | h1
            · exact hz j h1
            · obtain rfl : j = i := by omega
              exact h
          generalize rightTo (xs.getD i []) n = t at *
          generalize xs.getD i [] = l at *
          unfold II at pT
          cases t
          · have h := hno rfl
            subst h
            unfold iv0 nu0 at *
            unfold z6 at s8
            have ft := And.intro g0 (And.intro g1 (And.intro g2 (And.intro g3 (And.intro g8 (And.intro g29 (And.intro g30 (And.intro g31 (And.intro q1 s8))))))))
            exact Wk
          · have ft := And.intro g0 (And.intro g1 (And.intro g2 (And.intro g3 (And.intro g8 (And.intro g29 (And.intro g30 (And.intro g31 q1)))))))
            repeat (first | with_reducible refine pv_seq fun K hK => ?_ | ((with_reducible first | refine hK _ _ ?_ | (clear hK; refine hK _ _ ?_) | (clear hK; clear hK; refine hK _ _ ?_)); clear hK; try clear K) | refine W ?_ | exact Z | with_reducible intro b)
            exact ⟨⟨i + 1, b8, by omega, Zr, Zr, Zr, Zr, Zr, Zr, Zr, Zr, hz2 rfl, s8⟩, by simp only [intD]; omega⟩
        · obtain rfl : i = xs.length := by omega
          repeat (first | with_reducible refine pv_seq fun K hK => ?_ | ((with_reducible first | refine hK _ _ ?_ | (clear hK; refine hK _ _ ?_) | (clear hK; clear hK; refine hK _ _ ?_)); clear hK; try clear K) | refine W0 ?_ | exact Z | with_reducible intro b)
          exact J _ _ b8 (hyes hz) Zr Zr Zr Zr Zr s8
  · rw [Bool.not_eq_true] at hv
    rw [hv] at pV
    have : (okK k && polyB q (xs.length : Int) && okP p && decide (∀ x ∈ xs, rightTo x k.toNat = true)) = false := by
      rw [Bool.and_eq_false_iff] at hv
      rcases hv with h | h
      · rw [h]; rfl
      · rw [h, Bool.and_false]; rfl
    rw [this]
    unfold LL MM iv0 nu0 at *
    have d1 := @dl 16 qT7_29_16
    refine PB (rs := [.cell 8 28, .tmp 9]) Tryz.func29 ?_
    exact Wk
end Go.V
namespace Go.V
open Go Go.RowKit Go.Proofs
end Go.V
namespace Go.V
open Go Go.RowKit Go.Proofs

theorem Sm.lift {k q : Nat} {v : Dyadic} (h : Sm k q v) (d : Nat) : Sm (k + d) (q + d) v := by
  obtain ⟨z, rfl, hz⟩ := h
  refine ⟨z * 2 ^ d, (owp_shl z q d).symm, ?_⟩
  rw [Int.natAbs_mul, Int.natAbs_pow, Nat.pow_add]
  exact Nat.mul_lt_mul_of_pos_right hz (Nat.two_pow_pos d)
/-- An interval of right numbers. -/
def OkV (a : Iv) : Prop := ∃ x y, a = ivD x y ∧ OkD x ∧ OkD y ∧ x ≤ y
theorem OkV.ok {a : Iv} (h : OkV a) : Wi 65536 a ∧ rightI a = true := by
  obtain ⟨x, y, rfl, ox, oy, h⟩ := h
  exact ⟨wi_D ox oy, by rw [rightI_D ox oy]; exact decide_eq_true h⟩
/-- An interval of small numbers. -/
def SmV (k q : Nat) (a : Iv) : Prop := ∃ x y, a = ivD x y ∧ Sm k q x ∧ Sm k q y ∧ x ≤ y
theorem SmV.v {k q : Nat} {a : Iv} (h : SmV k q a) (hk : k ≤ 4000) (hq : q ≤ 4000) : OkV a := by
  obtain ⟨x, y, rfl, hx, hy, h⟩ := h
  exact ⟨x, y, rfl, (hx.bx).ok (by omega) (by omega), (hy.bx).ok (by omega) (by omega), h⟩
theorem SmV.mono {k q m : Nat} {a : Iv} (h : SmV k q a) (hm : k ≤ m) : SmV m q a := by
  obtain ⟨x, y, rfl, hx, hy, h⟩ := h
  exact ⟨x, y, rfl, hx.mono hm, hy.mono hm, h⟩
theorem SmV.lift {k q : Nat} {a : Iv} (h : SmV k q a) (d : Nat) : SmV (k + d) (q + d) a := by
  obtain ⟨x, y, rfl, hx, hy, h⟩ := h
  exact ⟨x, y, rfl, hx.lift d, hy.lift d, h⟩
theorem SmV.zero {k q : Nat} : SmV k q iv0 := ⟨0, 0, by unfold ivD; rw [nuOf_zero]; rfl, Sm.zero, Sm.zero, by grind⟩
def inV (a b : Iv) : Prop := b.lo.val ≤ a.lo.val ∧ a.hi.val ≤ b.hi.val
theorem inV_refl {a : Iv} : inV a a := ⟨Dyadic.le_refl _, Dyadic.le_refl _⟩

def addV (p : Nat) (a b : Iv) : Iv := ivD (rd p false (a.lo.val + b.lo.val)) (rd p true (a.hi.val + b.hi.val))
def mulV (p : Nat) (a b : Iv) : Iv := ivD (rd p false (minP a.lo.val a.hi.val b.lo.val b.hi.val)) (rd p true (maxP a.lo.val a.hi.val b.lo.val b.hi.val))

theorem rd_le_rd {p : Nat} {l h : Dyadic} (hl : l ≤ h) : rd p false l ≤ rd p true h := Dyadic.le_trans (dn_le p l) (Dyadic.le_trans hl (le_up p h))
theorem minP_le_maxP {x y u v : Dyadic} (h : x ≤ y) (k : u ≤ v) : minP x y u v ≤ maxP x y u v := by
  have := prod_in (x := x) (y := y) (u := u) (v := v) (a := x) (b := u) (by grind) h (by grind) k
  exact Dyadic.le_trans this.1 this.2
theorem addV_sm {p k q : Nat} {a b : Iv} (ha : SmV k q a) (hb : SmV k q b) (h8 : 8 ≤ p) (h256 : p ≤ 256) (hk : k ≤ 1500) (hq : q ≤ 1500) : addI p a b = (addV p a b, 0) ∧ SmV (k + 2) q (addV p a b) := by
  obtain ⟨x, y, rfl, hx, hy, hxy⟩ := ha
  obtain ⟨u, v, rfl, hu, hv, huv⟩ := hb
  have ok : ∀ {d : Dyadic}, Sm k q d → OkD d := fun h => (h.bx).ok (by omega) (by omega)
  unfold addI addV
  rw [ivD_l, ivD_h, ivD_l, ivD_h]
  refine ⟨opI_ok (ok hx) (ok hy) (ok hu) (ok hv) hxy huv h8 h256 ((hx.add hu).rdOk (by omega) (by omega) h8 h256) ((hy.add hv).rdOk (by omega) (by omega) h8 h256), _, _, rfl, (hx.add hu).rd, (hy.add hv).rd, rd_le_rd (by grind)⟩
theorem mulV_sm {p k q m r : Nat} {a b : Iv} (ha : SmV k q a) (hb : SmV m r b) (h8 : 8 ≤ p) (h256 : p ≤ 256) (hk : k + m ≤ 1500) (hq : q + r ≤ 1500) : mulI p a b = (mulV p a b, 0) ∧ SmV (k + m + 1) (q + r) (mulV p a b) := by
  obtain ⟨x, y, rfl, hx, hy, hxy⟩ := ha
  obtain ⟨u, v, rfl, hu, hv, huv⟩ := hb
  have ok : ∀ {d : Dyadic}, Sm k q d → OkD d := fun h => (h.bx).ok (by omega) (by omega)
  have ok2 : ∀ {d : Dyadic}, Sm m r d → OkD d := fun h => (h.bx).ok (by omega) (by omega)
  unfold mulI mulV
  rw [ivD_l, ivD_h, ivD_l, ivD_h]
  have sl := minP_sm hx hy hu hv
  have sh := maxP_sm hx hy hu hv
  refine ⟨opI_ok (ok hx) (ok hy) (ok2 hu) (ok2 hv) hxy huv h8 h256 (sl.rdOk (by omega) (by omega) h8 h256) (sh.rdOk (by omega) (by omega) h8 h256), _, _, rfl, sl.rd, sh.rd, rd_le_rd (minP_le_maxP hxy huv)⟩
theorem addV_in {p : Nat} {a b a' b' : Iv} (hp : 1 ≤ p) (ha : inV a' a) (hb : inV b' b) : inV (addV p a' b') (addV p a b) := by
  unfold inV addV at *
  rw [ivD_l, ivD_h, ivD_l, ivD_h]
  exact ⟨rd_mono hp (by grind), rd_mono hp (by grind)⟩
theorem SmV.le {k q : Nat} {a : Iv} (h : SmV k q a) : a.lo.val ≤ a.hi.val := by
  obtain ⟨x, y, rfl, _, _, h⟩ := h
  rw [ivD_l, ivD_h]; exact h
theorem mulV_in {p : Nat} {a b a' b' : Iv} (hp : 1 ≤ p) (ha : inV a' a) (hb : inV b' b) (oa : a'.lo.val ≤ a'.hi.val) (ob : b'.lo.val ≤ b'.hi.val) : inV (mulV p a' b') (mulV p a b) := by
  unfold inV mulV at *
  rw [ivD_l, ivD_h, ivD_l, ivD_h]
  have := minP_mono ha.1 oa ha.2 hb.1 ob hb.2
  exact ⟨rd_mono hp this.1, rd_mono hp this.2⟩

/-! ### Coefficients of products -/
def coefV (p : Nat) (a b : List Iv) (k : Nat) : Nat → Iv
  | 0 => iv0
  | i + 1 => if i = 0 then mulV p (gI a i) (gI b (k - i)) else addV p (coefV p a b k i) (mulV p (gI a i) (gI b (k - i)))
def SmL (k q n : Nat) (l : List Iv) : Prop := ∀ i, i < n → SmV k q (gI l i)
theorem coefV_is {p k q m r n : Nat} {a b : List Iv} (ha : SmL k q (n + 1) a) (hb : SmL m r (n + 1) b) (h8 : 8 ≤ p) (h256 : p ≤ 256) (hk : k + m + 2 * n ≤ 1400) (hq : q + r ≤ 1400) :
    ∀ i, i ≤ n + 1 → coefN p a b n i = (coefV p a b n i, 0) ∧ SmV (k + m + 1 + 2 * i) (q + r) (coefV p a b n i)
  | 0 => fun _ => ⟨rfl, SmV.zero⟩
  | i + 1 => fun hi => by
    obtain ⟨e, s⟩ := coefV_is ha hb h8 h256 hk hq i (by omega)
    obtain ⟨e1, s1⟩ := mulV_sm (ha i (by omega)) (hb (n - i) (by omega)) h8 h256 (by omega) (by omega)
    unfold coefN coefV
    rw [e, e1]
    by_cases h0 : i = 0
    · rw [if_pos rfl, if_pos rfl, if_pos h0, if_pos h0]
      exact ⟨rfl, s1.mono (by omega)⟩
    · rw [if_pos rfl, if_pos rfl, if_neg h0, if_neg h0]
      obtain ⟨e2, s2⟩ := addV_sm s (s1.mono (show k + m + 1 ≤ k + m + 1 + 2 * i by omega)) h8 h256 (by omega) (by omega)
      exact ⟨e2, s2.mono (by omega)⟩
/-- Sums of exact values. -/
def sumD (f : Nat → Dyadic) : Nat → Dyadic
  | 0 => 0
  | n + 1 => sumD f n + f n
theorem coefV_in {p n k q m r : Nat} {a b a' b' : List Iv} (hp : 1 ≤ p) (ha : ∀ i, i < n + 1 → inV (gI a' i) (gI a i)) (hb : ∀ i, i < n + 1 → inV (gI b' i) (gI b i)) (sa : SmL k q (n + 1) a') (sb : SmL m r (n + 1) b') : ∀ i, i ≤ n + 1 → inV (coefV p a' b' n i) (coefV p a b n i)
  | 0 => fun _ => inV_refl
  | i + 1 => fun hi => by
    have h1 := coefV_in hp ha hb sa sb i (by omega)
    have h2 := mulV_in hp (ha i (by omega)) (hb (n - i) (by omega)) (sa i (by omega)).le (sb (n - i) (by omega)).le
    unfold coefV
    by_cases h0 : i = 0
    · rw [if_pos h0, if_pos h0]; exact h2
    · rw [if_neg h0, if_neg h0]; exact addV_in hp h1 h2
theorem rightTo_sm {k q n : Nat} {l : List Iv} (h : SmL k q (n + 1) l) (hl : n < l.length) (hk : k ≤ 4000) (hq : q ≤ 4000) : rightTo l n = true := by
  unfold rightTo
  rw [decide_eq_true hl, Bool.true_and]
  exact decide_eq_true fun i hi => ((h i hi).v hk hq).ok.2
theorem coefR_sm {p k q m r n : Nat} {a b : List Iv} (ha : SmL k q (n + 1) a) (hb : SmL m r (n + 1) b) (la : n < a.length) (lb : n < b.length) (h8 : 8 ≤ p) (h256 : p ≤ 256) (hk : k + m + 2 * n ≤ 1400) (hq : q + r ≤ 1400) (hn : n ≤ 10) :
    coefR p a b (n : Nat) = (coefV p a b n (n + 1), 0) ∧ SmV (k + m + 3 + 2 * n) (q + r) (coefV p a b n (n + 1)) := by
  obtain ⟨e, s⟩ := coefV_is ha hb h8 h256 hk hq (n + 1) (Nat.le_refl _)
  refine ⟨?_, s.mono (by omega)⟩
  unfold coefR okK
  rw [Int.toNat_natCast, rightTo_sm ha la (by omega) (by omega), rightTo_sm hb lb (by omega) (by omega), okP_of h8 h256, decide_eq_true (by omega), decide_eq_true (by omega)]
  exact e

/-! ### Sums -/
end Go.V
namespace Go.V
open Go Go.RowKit Go.Proofs
def qT10_20_5 : PT := (.lin [(0, 0), (1, 0), (2, 0), (3, 0), (4, 0), (5, 2), (6, 0), (7, 0), (8, 0), (9, 0), (10, 0), (11, 2)] (.fork 12 3 (.lin [(13, 0), (14, 0), (15, 0), (16, 4), (17, 3), (18, 0)] .nil) 16 4 (.lin [(12, 3), (13, 0), (14, 0), (15, 0), (17, 3), (18, 0)] .nil)))
def qT10_20_9 : List (Nat × Nat) := [(0, 0), (1, 1), (2, 0), (3, 0), (4, 0), (5, 1), (6, 3), (7, 0), (8, 0), (9, 0), (10, 3), (11, 0)]
attribute [go_sem] qT10_20_5 qT10_20_9
def plusR (p : Int) (v h x : Iv) : Iv × Int := if (mulI p v h).2 = 0 then addI p (mulI p v h).1 x else mulI p v h
theorem sumN_succ {p : Int} {a : List Iv} {h : Iv} {i : Nat} (he : (sumN p a h i).2 = 0) : sumN p a h (i + 1) = plusR p (sumN p a h i).1 h (gI a (a.length - 2 - i)) := by
  conv => lhs; unfold sumN
  rw [if_pos he]; rfl
set_option maxHeartbeats 1000000 in
theorem p_Sum1 {S : Store} {Q : D → Store → Prop} {k1 k2 : Nm} {b1 b2 : Nat} {v x h : Iv} {p : Int} (h1 : S k1 = some ⟨b1, 6, 0, [cI h]⟩) (h2 : S k2 = some ⟨b2, 1, 0, [[i64 p]]⟩) (hv : Wi 65536 v) (hx : Wi 65536 x) (hh : Wi 65536 h)
    (hQ : Q (IE (plusR p v h x)) S) : PFC Tryz.prog 51 [IV v, IV x, .ptr k1 b1 0 0 6, .ptr k2 b2 0 0 1] S Q := by
  have pM : PC Tryz.prog 48 [IV v, IV h, i64 p] fun d => d = IE (mulI p v h) := p_iMul hv hh
  have pA : PC Tryz.prog 49 [IV (mulI p v h).1, IV x, i64 p] fun d => d = IE (addI p (mulI p v h).1 x) := p_iAdd opI_wi hx
  have he : (mulI p v h).2 ≠ 0 → (mulI p v h).1 = iv0 := opI_err
  unfold plusR at hQ
  generalize mulI p v h = m at *
  obtain ⟨⟨⟨n1, e1, w1⟩, ⟨n2, e2, w2⟩⟩, em⟩ := m
  obtain ⟨⟨n3, e3, w3⟩, ⟨n4, e4, w4⟩⟩ := v
  obtain ⟨⟨n5, e5, w5⟩, ⟨n6, e6, w6⟩⟩ := x
  obtain ⟨⟨n7, e7, w7⟩, ⟨n8, e8, w8⟩⟩ := h
  unfold cI at h1
  simp only at *
  by_cases h0 : em = 0
  · subst h0
    rw [if_pos rfl] at hQ
    generalize addI p _ _ = q at *
    obtain ⟨⟨⟨n9, e9, w9⟩, ⟨n10, e10, w10⟩⟩, eq⟩ := q
    refine PFB (rs := [.cell 6 28, .tmp 7]) Tryz.func51 ?_
    have ft := And.intro h1 h2
    repeat (first | with_reducible refine pv_seq fun K hK => ?_ | ((with_reducible first | refine hK _ _ ?_ | (clear hK; refine hK _ _ ?_) | (clear hK; clear hK; refine hK _ _ ?_)); clear hK; try clear K) | refine W ?_ | exact Z | with_reducible intro b)
    exact hQ
  · rw [if_neg h0] at hQ
    have k1 := eq_false h0
    have h3 := he h0
    rw [h3] at hQ
    unfold iv0 nu0 at hQ
    refine PFB (rs := [.cell 6 28, .tmp 7]) Tryz.func51 ?_
    have ft := And.intro h1 (And.intro h2 k1)
    repeat (first | with_reducible refine pv_seq fun K hK => ?_ | ((with_reducible first | refine hK _ _ ?_ | (clear hK; refine hK _ _ ?_) | (clear hK; clear hK; refine hK _ _ ?_)); clear hK; try clear K) | refine W ?_ | exact Z | with_reducible intro b)
    exact hQ

theorem sumR_no {p : Int} {a : List Iv} {h : Iv} (hc : ¬ (1 ≤ a.length ∧ a.length ≤ 11)) : sumR p a h = (iv0, 1) := by
  unfold sumR
  by_cases h1 : 1 ≤ a.length
  · rw [decide_eq_false (p := a.length ≤ 11) (fun h2 => hc ⟨h1, h2⟩), Bool.and_false]; rfl
  · rw [decide_eq_false h1]; rfl
/-- What stays in sight in the loop. -/
structure Sum14 (a : List Iv) (h : Iv) (p : Int) (b4 b5 b6 b10 : Nat) (y z : List D) (e : DEnv) (S : Store) : Prop where
  g0 : e 0 = .g (eS eI a)
  g6 : e 6 = .ptr (.l 6) b6 0 0 6
  g9 : e 9 = .fn 51 [] [.ptr (.l 4) b4 0 0 6, .ptr (.l 5) b5 0 0 1]
  g10 : e 10 = .ptr (.l 10) b10 0 0 6
  s4 : S (.l 4) = some ⟨b4, 6, 0, [cI h]⟩
  s5 : S (.l 5) = some ⟨b5, 1, 0, [[i64 p]]⟩
  s6 : S (.l 6) = some ⟨b6, 6, 0, [y]⟩
  s10 : S (.l 10) = some ⟨b10, 6, 0, [z]⟩
set_option maxHeartbeats 4000000 in
theorem p_sSum {a : List Iv} {h : Iv} {p : Int} (ha : WfL a) (hh : Wi 65536 h) : PC Tryz.prog 20 [II a, IV h, i64 p] fun d => d = IE (sumR p a h) := by
  by_cases hc : 1 ≤ a.length ∧ a.length ≤ 11
  · obtain ⟨hc1, hc2⟩ := hc
    obtain ⟨n, hn⟩ : ∃ n, a.length = n + 1 := ⟨a.length - 1, by omega⟩
    have k1 : ((a.length : Int) < 1) = False := eq_false (by omega)
    have k2 : ((11 : Int) < (a.length : Int)) = False := eq_false (by omega)
    have k3 : ((a.length : Int) - 1) = (n : Int) := by omega
    have pR := p_sRight (k := n) ha (by omega)
    have pH := p_iRight hh
    have pV := p_Valid (p := p)
    unfold sumR
    rw [decide_eq_true hc1, decide_eq_true hc2, Bool.true_and, Bool.true_and, show a.length - 1 = n by omega]
    have hrt : rightTo a n = true → rightI (gI a n) = true := fun h => by
      unfold rightTo at h
      rw [Bool.and_eq_true, decide_eq_true_eq, decide_eq_true_eq] at h
      exact h.2 n (by omega)
    have wan := ha.at_ n
    generalize rightTo a n = r1 at *
    generalize rightI h = r2 at *
    generalize okP p = r3 at *
    have hgi := gI_at (l := a) (i := n) (by omega)
    have h0 : sumN p a h 0 = (gI a n, 0) := by
      unfold sumN; rw [hn]; rfl
    generalize hr : sumN p a h n = r at *
    obtain ⟨⟨n7, e7, w7⟩, ⟨n8, e8, w8⟩⟩ := h
    unfold II at *
    cases r1
    · unfold iv0 nu0 at *
      have d1 := @dr 5 qT10_20_5
      have d2 := @dl 9 qT10_20_9
      refine PB (rs := [.cell 6 28, .tmp 7]) Tryz.func20 ?_
      have ft := And.intro k1 (And.intro k2 k3)
      exact Wk
    · cases r2
      · unfold iv0 nu0 at *
        have d1 := @dr 5 qT10_20_5
        have d2 := @dl 9 qT10_20_9
        refine PB (rs := [.cell 6 28, .tmp 7]) Tryz.func20 ?_
        have ft := And.intro k1 (And.intro k2 k3)
        exact Wk
      · cases r3
        · unfold iv0 nu0 at *
          have d1 := @dr 5 qT10_20_5
          have d2 := @dl 9 qT10_20_9
          refine PB (rs := [.cell 6 28, .tmp 7]) Tryz.func20 ?_
          have ft := And.intro k1 (And.intro k2 k3)
          exact Wk
        · have pM := p_MakeI (x := (gI a n).lo) (y := (gI a n).hi) wan (by decide)
          have hri := hrt rfl
          unfold makeR at pM
          rw [show (⟨(gI a n).lo, (gI a n).hi⟩ : Iv) = gI a n from rfl, hri, if_pos rfl] at pM
          rw [Bool.and_self, Bool.and_self, if_pos rfl]
          clear hrt hri
          generalize hgn : gI a n = ga at *
          obtain ⟨⟨n1, e1, w1⟩, ⟨n2, e2, w2⟩⟩ := ga
          simp only at pM
          have kt : (n : Int).toNat = n := by omega
          have d1 := @dr 5 qT10_20_5
          have d2 := @dl 9 qT10_20_9
          refine PB (rs := [.cell 6 28, .tmp 7]) Tryz.func20 ?_
          have ft := And.intro k1 (And.intro k2 (And.intro k3 (And.intro hgi kt)))
          repeat (first | with_reducible refine pv_stop 5 ?_ | with_reducible refine pv_seq fun K hK => ?_ | ((with_reducible first | refine hK _ _ ?_ | (clear hK; refine hK _ _ ?_) | (clear hK; clear hK; refine hK _ _ ?_)); clear hK; try clear K) | refine W ?_ | exact Z | with_reducible intro b)
          refine ⟨fun K q0 hC => ?_⟩
          have J : ∀ (e : DEnv) (S : Store) (b4 b5 b6 b10 : Nat), e 8 = i64 a.length → e 11 = i64 0 → Sum14 a ⟨⟨n7, e7, w7⟩, ⟨n8, e8, w8⟩⟩ p b4 b5 b6 b10 [bl false, i64 0, .nil, bl false, i64 0, .nil] (cI ⟨⟨n1, e1, w1⟩, ⟨n2, e2, w2⟩⟩) e S → K e S := by
            intro e S b4 b5 b6 b10 g8 g11 ⟨g0, g6, g9, g10, s4, s5, s6, s10⟩
            refine q0 _ _ ?_
            clear q0 hC
            have k4 : ((a.length : Int) - 2) = (n : Int) - 1 := by omega
            have ft := And.intro g0 (And.intro g6 (And.intro g8 (And.intro g9 (And.intro g10 (And.intro g11 k4)))))
            repeat (first | with_reducible refine pv_seq fun K hK => ?_ | ((with_reducible first | refine hK _ _ ?_ | (clear hK; refine hK _ _ ?_) | (clear hK; clear hK; refine hK _ _ ?_)); clear hK; try clear K) | refine W0 ?_ | exact Z | with_reducible intro b)
            have J2 : ∀ (e : DEnv) (S : Store) (b4 b5 b6 b10 : Nat), r.2 = 0 → e 11 = i64 0 → Sum14 a ⟨⟨n7, e7, w7⟩, ⟨n8, e8, w8⟩⟩ p b4 b5 b6 b10 [bl false, i64 0, .nil, bl false, i64 0, .nil] (cI r.1) e S → K e S := by
              intro e S b4 b5 b6 b10 h0 g11 ⟨g0, g6, g9, g10, s4, s5, s6, s10⟩
              obtain ⟨⟨⟨n3, e3, w3⟩, ⟨n4, e4, w4⟩⟩, er⟩ := r
              simp only at h0
              subst h0
              unfold cI at s10
              have ft := And.intro g6 (And.intro g10 (And.intro g11 (And.intro s6 s10)))
              exact Wk
            have J3 : ∀ (e : DEnv) (S : Store) (b4 b5 b6 b10 : Nat) (z : List D), r.2 ≠ 0 → r.1 = iv0 → e 11 = i64 r.2 → Sum14 a ⟨⟨n7, e7, w7⟩, ⟨n8, e8, w8⟩⟩ p b4 b5 b6 b10 [bl false, i64 0, .nil, bl false, i64 0, .nil] z e S → K e S := by
              intro e S b4 b5 b6 b10 z h0 h1 g11 ⟨g0, g6, g9, g10, s4, s5, s6, s10⟩
              obtain ⟨r, er⟩ := r
              simp only at h0 h1 g11
              have k5 := eq_false h0
              subst h1
              unfold iv0 nu0 at *
              have ft := And.intro g6 (And.intro g10 (And.intro g11 (And.intro s6 k5)))
              exact Wk
            clear hK
            obtain ⟨I, mk, el⟩ := hide fun e S => ∃ (i : Nat) (z : List D), i ≤ n ∧ e 12 = i64 ((n : Int) - 1 - i) ∧ e 11 = i64 (sumN p a ⟨⟨n7, e7, w7⟩, ⟨n8, e8, w8⟩⟩ i).2 ∧ z.length = 6 ∧ ((sumN p a ⟨⟨n7, e7, w7⟩, ⟨n8, e8, w8⟩⟩ i).2 = 0 → z = cI (sumN p a ⟨⟨n7, e7, w7⟩, ⟨n8, e8, w8⟩⟩ i).1) ∧ Sum14 a ⟨⟨n7, e7, w7⟩, ⟨n8, e8, w8⟩⟩ p b4 b5 b6 b10 [bl false, i64 0, .nil, bl false, i64 0, .nil] z e S
            refine pv_loop I (fun e _ => (intD (e 12) + 1).toNat) ?_ ?_
            · exact mk _ _ ⟨0, _, Nat.zero_le _, by rw [show (n : Int) - 1 - ((0 : Nat) : Int) = (n : Int) - 1 by omega]; exact Zr, by rw [h0]; exact Zr, rfl, fun _ => by rw [h0], Zr, Zr, Zr, Zr, s4, s5, s6, s10⟩
            · intro e S hI
              obtain ⟨i, z, hi, g12, g11, hz, hzi, ⟨g0, g6, g9, g10, s4, s5, s6, s10⟩⟩ := el e S hI
              clear el hI
              have hm0 : intD (e 12) = (n : Int) - 1 - i := by rw [g12]; rfl
              have hst : (sumN p a ⟨⟨n7, e7, w7⟩, ⟨n8, e8, w8⟩⟩ i).2 ≠ 0 → r = sumN p a ⟨⟨n7, e7, w7⟩, ⟨n8, e8, w8⟩⟩ i := fun h => by rw [← hr]; exact sumN_stuck h hi
              have her := sumN_err (p := p) (a := a) (h := ⟨⟨n7, e7, w7⟩, ⟨n8, e8, w8⟩⟩) i
              by_cases he : (sumN p a ⟨⟨n7, e7, w7⟩, ⟨n8, e8, w8⟩⟩ i).2 = 0
              · have hzc := hzi he
                rw [he] at g11
                by_cases hin : i < n
                · have k5 : (0 ≤ (n : Int) - 1 - (i : Int)) = True := eq_true (by omega)
                  have k6 : ((n : Int) - 1 - (i : Int)).toNat = a.length - 2 - i := by omega
                  have k7 : ((n : Int) - 1 - (i : Int) < (a.length : Int)) = True := eq_true (by omega)
                  have q1 := gI_at (l := a) (i := a.length - 2 - i) (by omega)
                  have hs := sumN_succ he
                  have w0 := sumN_wi (p := p) (h := ⟨⟨n7, e7, w7⟩, ⟨n8, e8, w8⟩⟩) ha.w i
                  have wx := ha.at_ (a.length - 2 - i)
                  have mk2 : ∀ (e : DEnv) (S : Store) (z : List D), e 12 = i64 ((n : Int) - 1 - (i + 1 : Nat)) → e 11 = i64 (sumN p a ⟨⟨n7, e7, w7⟩, ⟨n8, e8, w8⟩⟩ (i + 1)).2 → z.length = 6 → ((sumN p a ⟨⟨n7, e7, w7⟩, ⟨n8, e8, w8⟩⟩ (i + 1)).2 = 0 → z = cI (sumN p a ⟨⟨n7, e7, w7⟩, ⟨n8, e8, w8⟩⟩ (i + 1)).1) → Sum14 a ⟨⟨n7, e7, w7⟩, ⟨n8, e8, w8⟩⟩ p b4 b5 b6 b10 [bl false, i64 0, .nil, bl false, i64 0, .nil] z e S → I e S := fun e S z a1 a2 a3 a4 a5 => mk e S ⟨i + 1, z, by omega, a1, a2, a3, a4, a5⟩
                  clear hst her hzi mk J2 J3 hr h0
                  generalize sumN p a ⟨⟨n7, e7, w7⟩, ⟨n8, e8, w8⟩⟩ (i + 1) = t1 at *
                  generalize sumN p a ⟨⟨n7, e7, w7⟩, ⟨n8, e8, w8⟩⟩ i = t0 at *
                  generalize gI a (a.length - 2 - i) = x at *
                  obtain ⟨t0, e0⟩ := t0
                  simp only at he hs w0 hzc
                  subst hzc
                  have hk9 : (n : Int) - 1 - (i : Int) - 1 = (n : Int) - 1 - ((i + 1 : Nat) : Int) := by omega
                  have hps : PFC Tryz.prog 51 [IV t0, IV x, .ptr (.l 4) b4 0 0 6, .ptr (.l 5) b5 0 0 1] = PFC Tryz.prog 51 [IV t0, IV x, .ptr (.l 4) b4 0 0 6, .ptr (.l 5) b5 0 0 1] := rfl
                  have hpl := fun (S : Store) (Q : D → Store → Prop) a1 a2 a3 => p_Sum1 (S := S) (Q := Q) (k1 := .l 4) (k2 := .l 5) (b1 := b4) (b2 := b5) (v := t0) (x := x) (h := ⟨⟨n7, e7, w7⟩, ⟨n8, e8, w8⟩⟩) (p := p) a1 a2 w0 wx hh a3
                  rw [← hs] at hpl
                  clear hs w0 wx
                  obtain ⟨⟨⟨n3, e3, w3⟩, ⟨n4, e4, w4⟩⟩, e1'⟩ := t1
                  obtain ⟨⟨n5, e5, w5⟩, ⟨n6, e6, w6⟩⟩ := t0
                  obtain ⟨⟨n9, e9, w9⟩, ⟨n10, e10, w10⟩⟩ := x
                  unfold cI at s10
                  have ft := And.intro g0 (And.intro g6 (And.intro g9 (And.intro g10 (And.intro g11 (And.intro g12 (And.intro s10 (And.intro q1 (And.intro k5 (And.intro k6 (And.intro k7 hk9))))))))))
                  repeat (first | with_reducible refine pv_seq fun K hK => ?_ | ((with_reducible first | refine hK _ _ ?_ | (clear hK; refine hK _ _ ?_) | (clear hK; clear hK; refine hK _ _ ?_)); clear hK; try clear K) | refine W0 ?_ | exact Z | with_reducible intro b)
                  refine hpl _ _ s4 s5 ?_
                  repeat (first | with_reducible refine pv_seq fun K hK => ?_ | ((with_reducible first | refine hK _ _ ?_ | (clear hK; refine hK _ _ ?_) | (clear hK; clear hK; refine hK _ _ ?_)); clear hK; try clear K) | refine W0 ?_ | exact Z | with_reducible intro b)
                  refine ⟨mk2 _ _ _ Zr Zr rfl (fun _ => rfl) ⟨Zr, Zr, Zr, Zr, by simp only [updS_apply]; exact s4, by simp only [updS_apply]; exact s5, by simp only [updS_apply]; exact s6, by simp only [updS_apply]; rfl⟩, ?_⟩
                  simp only [intD]
                  omega
                · obtain rfl : i = n := by omega
                  have k5 : (0 ≤ (i : Int) - 1 - (i : Int)) = False := eq_false (by omega)
                  rw [hr] at he hzc
                  have ft := And.intro g0 (And.intro g6 (And.intro g9 (And.intro g10 (And.intro g11 (And.intro g12 k5)))))
                  repeat (first | with_reducible refine pv_seq fun K hK => ?_ | ((with_reducible first | refine hK _ _ ?_ | (clear hK; refine hK _ _ ?_) | (clear hK; clear hK; refine hK _ _ ?_)); clear hK; try clear K) | refine W0 ?_ | exact Z | with_reducible intro b)
                  exact J2 _ _ b4 b5 b6 b10 he Zr ⟨Zr, Zr, Zr, Zr, s4, s5, s6, by rw [← hzc]; exact s10⟩
              · have hr1 := hst he
                have hr2 := her he
                have k5 := eq_false he
                rw [← hr1] at he hr2 g11 k5
                by_cases k6 : 0 ≤ (n : Int) - 1 - (i : Int)
                · have k6' := eq_true k6
                  have ft := And.intro g0 (And.intro g6 (And.intro g9 (And.intro g10 (And.intro g11 (And.intro g12 (And.intro k5 k6'))))))
                  repeat (first | with_reducible refine pv_seq fun K hK => ?_ | ((with_reducible first | refine hK _ _ ?_ | (clear hK; refine hK _ _ ?_) | (clear hK; clear hK; refine hK _ _ ?_)); clear hK; try clear K) | refine W0 ?_ | exact Z | with_reducible intro b)
                  exact J3 _ _ b4 b5 b6 b10 z he hr2 Zr ⟨Zr, Zr, Zr, Zr, s4, s5, s6, s10⟩
                · have k6' := eq_false k6
                  have ft := And.intro g0 (And.intro g6 (And.intro g9 (And.intro g10 (And.intro g11 (And.intro g12 (And.intro k5 k6'))))))
                  repeat (first | with_reducible refine pv_seq fun K hK => ?_ | ((with_reducible first | refine hK _ _ ?_ | (clear hK; refine hK _ _ ?_) | (clear hK; clear hK; refine hK _ _ ?_)); clear hK; try clear K) | refine W0 ?_ | exact Z | with_reducible intro b)
                  exact J3 _ _ b4 b5 b6 b10 z he hr2 Zr ⟨Zr, Zr, Zr, Zr, s4, s5, s6, s10⟩
          clear q0 hC
          repeat' (first | with_reducible refine pv_seq fun K hK => ?_ | ((with_reducible first | refine hK _ _ ?_ | (clear hK; refine hK _ _ ?_) | (clear hK; clear hK; refine hK _ _ ?_)); clear hK; try clear K) | refine W ?_ | exact Z | with_reducible intro b | with_reducible refine And.intro ?_ ?_ )
          all_goals exact J _ _ _ _ _ _ Zr Zr ⟨Zr, Zr, Zr, Zr, by simp only [updS_apply]; rfl, by simp only [updS_apply]; rfl, by simp only [updS_apply]; rfl, by simp only [updS_apply]; rfl⟩
  · rw [sumR_no hc]
    obtain ⟨⟨n7, e7, w7⟩, ⟨n8, e8, w8⟩⟩ := h
    unfold II iv0 nu0 at *
    by_cases h1 : (a.length : Int) < 1
    · have k1 := eq_true h1
      have d1 := @dr 5 qT10_20_5
      have d2 := @dl 9 qT10_20_9
      refine PB (rs := [.cell 6 28, .tmp 7]) Tryz.func20 ?_
      have ft := k1
      exact Wk
    · have k1 := eq_false h1
      have k2 : ((11 : Int) < (a.length : Int)) = True := eq_true (by omega)
      have d1 := @dr 5 qT10_20_5
      have d2 := @dl 9 qT10_20_9
      refine PB (rs := [.cell 6 28, .tmp 7]) Tryz.func20 ?_
      have ft := And.intro k1 k2
      exact Wk

end Go.V
namespace Go.V
open Go Go.RowKit Go.Proofs

def pt (d : Dyadic) : Iv := ivD d d
theorem minP_pt {x y : Dyadic} : minP x x y y = x * y := by rcases (minP_spec x x y y).2 with e | e | e | e <;> exact e
theorem maxP_pt {x y : Dyadic} : maxP x x y y = x * y := by rcases (maxP_spec x x y y).2 with e | e | e | e <;> exact e
theorem Sm.pb {k q p : Nat} {d : Dyadic} (h : Sm k q d) (hk : k ≤ p) : Pb p d := Nat.lt_of_lt_of_le h.bx.n (Nat.pow_le_pow_right (by decide) hk)
theorem Sm.ok2 {k q : Nat} {d : Dyadic} (h : Sm k q d) (hk : k ≤ 4000) (hq : q ≤ 4000) : OkD d := (h.bx).ok (by omega) (by omega)
theorem pt0 : iv0 = pt 0 := by unfold pt ivD; rw [nuOf_zero]; rfl
theorem mulI_pt {p k q m r : Nat} {x y : Dyadic} (hx : Sm k q x) (hy : Sm m r y) (h8 : 8 ≤ p) (h256 : p ≤ 256) (hp : k + m ≤ p) (hq : q + r ≤ 2000) : mulI p (pt x) (pt y) = (pt (x * y), 0) := by
  have o1 := hx.ok2 (by omega) (by omega)
  have o2 := hy.ok2 (by omega) (by omega)
  have s := hx.mul hy
  have o3 := s.ok2 (by omega) (by omega)
  have b := s.pb hp
  unfold mulI pt
  rw [ivD_l, ivD_h, ivD_l, ivD_h, minP_pt, maxP_pt, opI_ok o1 o1 o2 o2 (Dyadic.le_refl _) (Dyadic.le_refl _) h8 h256 (by rw [rd_fix b]; exact o3) (by rw [rd_fix b]; exact o3), rd_fix b, rd_fix b]
theorem addI_pt {p k q : Nat} {x y : Dyadic} (hx : Sm k q x) (hy : Sm k q y) (h8 : 8 ≤ p) (h256 : p ≤ 256) (hp : k + 1 ≤ p) (hq : q ≤ 2000) : addI p (pt x) (pt y) = (pt (x + y), 0) := by
  have o1 := hx.ok2 (by omega) (by omega)
  have o2 := hy.ok2 (by omega) (by omega)
  have s := hx.add hy
  have o3 := s.ok2 (by omega) (by omega)
  have b := s.pb hp
  unfold addI pt
  rw [ivD_l, ivD_h, ivD_l, ivD_h, opI_ok o1 o1 o2 o2 (Dyadic.le_refl _) (Dyadic.le_refl _) h8 h256 (by rw [rd_fix b]; exact o3) (by rw [rd_fix b]; exact o3), rd_fix b, rd_fix b]

/-- The first coefficients of a series are points. -/
structure Pts (k q n : Nat) (a : List Iv) (x : Nat → Dyadic) : Prop where
  len : n < a.length
  at_ : ∀ i, i < n + 1 → gI a i = pt (x i)
  sm : ∀ i, i < n + 1 → Sm k q (x i)
def convD (x y : Nat → Dyadic) (n : Nat) : Dyadic := sumD (fun i => x i * y (n - i)) (n + 1)
theorem coefN_pt {p k q m r n : Nat} {a b : List Iv} {x y : Nat → Dyadic} (ha : Pts k q n a x) (hb : Pts m r n b y) (h8 : 8 ≤ p) (h256 : p ≤ 256) (hp : k + m + n + 2 ≤ p) (hq : q + r ≤ 2000) :
    ∀ i, i ≤ n + 1 → coefN p a b n i = (pt (sumD (fun i => x i * y (n - i)) i), 0) ∧ Sm (k + m + i) (q + r) (sumD (fun i => x i * y (n - i)) i)
  | 0 => fun _ => ⟨by show (iv0, 0) = (pt 0, 0); rw [pt0], Sm.zero⟩
  | i + 1 => fun hi => by
    obtain ⟨e, s⟩ := coefN_pt ha hb h8 h256 hp hq i (by omega)
    have sx := ha.sm i (by omega)
    have sy := hb.sm (n - i) (by omega)
    have e1 := mulI_pt sx sy h8 h256 (by omega) hq
    have sm := sx.mul sy
    have e2 := addI_pt s (sm.mono (show k + m ≤ k + m + i by omega)) h8 h256 (by omega) hq
    unfold coefN
    rw [e, ha.at_ i (by omega), hb.at_ (n - i) (by omega), e1]
    refine ⟨?_, ?_⟩
    · rw [if_pos rfl, if_pos rfl]
      by_cases h0 : i = 0
      · rw [if_pos h0]
        subst h0
        show (pt (x 0 * y (n - 0)), 0) = (pt (0 + x 0 * y (n - 0)), 0)
        rw [show (0 : Dyadic) + x 0 * y (n - 0) = x 0 * y (n - 0) by grind]
      · rw [if_neg h0, e2]; rfl
    · have := s.add (sm.mono (show k + m ≤ k + m + i by omega))
      exact this
theorem Pts.right {k q n : Nat} {a : List Iv} {x : Nat → Dyadic} (h : Pts k q n a x) {j : Nat} (hj : j ≤ n) (hk : k ≤ 4000) (hq : q ≤ 4000) : rightTo a j = true := by
  refine rightTo_yes (by have := h.len; omega) fun i hi => ?_
  rw [h.at_ i (by omega)]
  have := (h.sm i (by omega)).ok2 hk hq
  exact rightI_yes this this (Dyadic.le_refl _)
theorem Pts.le {k q n j : Nat} {a : List Iv} {x : Nat → Dyadic} (h : Pts k q n a x) (hj : j ≤ n) : Pts k q j a x := ⟨by have := h.len; omega, fun i hi => h.at_ i (by omega), fun i hi => h.sm i (by omega)⟩
theorem coefR_pt {p k q m r n : Nat} {a b : List Iv} {x y : Nat → Dyadic} (ha : Pts k q n a x) (hb : Pts m r n b y) (h8 : 8 ≤ p) (h256 : p ≤ 256) (hp : k + m + n + 2 ≤ p) (hq : q + r ≤ 2000) (hn : n ≤ 10) :
    coefR p a b (n : Nat) = (pt (convD x y n), 0) ∧ Sm (k + m + n + 1) (q + r) (convD x y n) := by
  obtain ⟨e, s⟩ := coefN_pt ha hb h8 h256 hp hq (n + 1) (Nat.le_refl _)
  refine ⟨?_, s⟩
  unfold coefR okK
  rw [Int.toNat_natCast, ha.right (Nat.le_refl _) (by omega) (by omega), hb.right (Nat.le_refl _) (by omega) (by omega), okP_of h8 h256, decide_eq_true (by omega), decide_eq_true (by omega)]
  exact e
theorem timesN_pt {p k q m r n : Nat} {a b : List Iv} {x y : Nat → Dyadic} (ha : Pts k q n a x) (hb : Pts m r n b y) (h8 : 8 ≤ p) (h256 : p ≤ 256) (hp : k + m + n + 2 ≤ p) (hq : q + r ≤ 2000) (hn : n ≤ 10) :
    ∀ j, j ≤ n + 1 → timesN p a b j = ((List.range j).map fun i => pt (convD x y i), 0)
  | 0 => fun _ => rfl
  | j + 1 => fun hj => by
    have e := timesN_pt ha hb h8 h256 hp hq hn j (by omega)
    have e1 := (coefR_pt (n := j) (ha.le (by omega)) (hb.le (by omega)) h8 h256 (by omega) hq (by omega)).1
    unfold timesN
    rw [e, e1, if_pos rfl, if_pos rfl, List.range_succ, List.map_append]; rfl
theorem times_pt {p k q m r n : Nat} {a b : List Iv} {x y : Nat → Dyadic} (ha : Pts k q n a x) (hb : Pts m r n b y) (h8 : 8 ≤ p) (h256 : p ≤ 256) (hp : k + m + n + 2 ≤ p) (hq : q + r ≤ 2000) (hn : n ≤ 10) :
    ∃ l, timesN p a b (n + 1) = (l, 0) ∧ Pts (k + m + n + 1) (q + r) n l (convD x y) := by
  refine ⟨_, timesN_pt ha hb h8 h256 hp hq hn (n + 1) (Nat.le_refl _), by simp, fun i hi => ?_, fun i hi => ?_⟩
  · unfold gI
    simp [List.getD, hi]
  · exact (coefR_pt (n := i) (ha.le (by omega)) (hb.le (by omega)) h8 h256 (by omega) hq (by omega)).2.mono (by omega)
theorem on_pts {k q n : Nat} {d : Dyadic} (h : Sm k q d) : Pts k q n (onS (nuOf d) n).1 (fun i => if i = 0 then d else 0) := by
  refine ⟨by simp [onS], fun i hi => ?_, fun i hi => ?_⟩
  · cases i with
    | zero => rfl
    | succ i =>
      show gI (List.replicate n iv0) i = pt 0
      unfold gI
      rw [← pt0]
      simp [List.getD, List.getElem?_replicate, show i < n by omega]
  · split
    · exact h
    · exact Sm.zero

/-! ### The known ones -/
def kO : Nu := ⟨false, 0, [1]⟩
theorem kNu14 {s : Bool} {n : Nat} {e : Int} (ho : n % 2 = 1) (hn : n < 18446744073709551616) (h1 : -60000 ≤ e) (h2 : e ≤ 60000) : nuOf (dy s n e) = ⟨s, e, [n]⟩ := ((w1 ho hn h1 h2).1).symm
theorem kO_eq : kO = nuOf 1 := by rw [show (1 : Dyadic) = dy false 1 0 by decide, kNu14 (by decide) (by decide) (by decide) (by decide)]; rfl
theorem pts_11 : Pts 1 0 1 [⟨kO, kO⟩, ⟨kO, kO⟩] (fun _ => 1) := by
  refine ⟨by decide, fun i hi => ?_, fun i hi => Sm.one⟩
  rw [kO_eq]
  match i, hi with
  | 0, _ => rfl
  | 1, _ => rfl
theorem sm_3 : Sm 2 0 3 := ⟨3, by decide, by decide⟩
theorem k3_eq : (⟨false, 0, [3]⟩ : Nu) = nuOf 3 := by rw [show (3 : Dyadic) = dy false 3 0 by decide, kNu14 (by decide) (by decide) (by decide) (by decide)]
theorem pt2_eq : pt 2 = ⟨⟨false, 1, [1]⟩, ⟨false, 1, [1]⟩⟩ := by unfold pt ivD; rw [show (2 : Dyadic) = dy false 1 1 by decide, kNu14 (by decide) (by decide) (by decide) (by decide)]
theorem pt6_eq : pt 6 = ⟨⟨false, 1, [3]⟩, ⟨false, 1, [3]⟩⟩ := by unfold pt ivD; rw [show (6 : Dyadic) = dy false 3 1 by decide, kNu14 (by decide) (by decide) (by decide) (by decide)]
theorem known_coef : coefR 16 [⟨kO, kO⟩, ⟨kO, kO⟩] [⟨kO, kO⟩, ⟨kO, kO⟩] 1 = (pt 2, 0) := by
  have := (coefR_pt (p := 16) pts_11 pts_11 (by decide) (by decide) (by decide) (by decide) (by decide)).1
  rw [show convD (fun _ => 1) (fun _ => 1) 1 = 2 by decide +kernel] at this
  exact this
theorem known_over : ∃ l, overR 16 [[⟨kO, kO⟩, ⟨kO, kO⟩]] 1 ⟨⟨false, 0, [3]⟩, [2]⟩ = (l, 0) ∧ gI l 1 = pt 6 := by
  rw [k3_eq]
  obtain ⟨l1, e1, p1⟩ := times_pt (p := 16) (on_pts (n := 1) sm_3) pts_11 (by decide) (by decide) (by decide) (by decide) (by decide)
  obtain ⟨l2, e2, p2⟩ := times_pt (p := 16) p1 pts_11 (by decide) (by decide) (by decide) (by decide) (by decide)
  refine ⟨l2, ?_, ?_⟩
  · show mulS 16 _ 1 (onS (nuOf 3) 1) 2 = _
    have h1 : mulS 16 [⟨kO, kO⟩, ⟨kO, kO⟩] 1 (onS (nuOf 3) 1) 1 = (l1, 0) := by rw [mulS_succ rfl]; exact e1
    rw [mulS_succ (by rw [show ([[⟨kO, kO⟩, ⟨kO, kO⟩]] : List (List Iv)).getD 0 [] = [⟨kO, kO⟩, ⟨kO, kO⟩] from rfl, h1]), show ([[⟨kO, kO⟩, ⟨kO, kO⟩]] : List (List Iv)).getD 0 [] = [⟨kO, kO⟩, ⟨kO, kO⟩] from rfl, h1]
    exact e2
  · rw [p2.at_ 1 (by decide)]
    rw [show convD (convD (fun i => if i = 0 then 3 else 0) fun x => 1) (fun x => 1) 1 = 6 by decide +kernel]
theorem k3_r : rightB ⟨false, 0, [3]⟩ = true := by rw [k3_eq, rightB_nuOf]; exact decide_eq_true (sm_3.ok2 (by decide) (by decide))
theorem known_of : ofR 16 [⟨⟨false, 0, [3]⟩, [2]⟩] [[⟨kO, kO⟩, ⟨kO, kO⟩]] 1 = (pt 6, 0) := by
  have hp : polyB [⟨⟨false, 0, [3]⟩, [2]⟩] 1 = true := by
    unfold polyB
    rw [monosB_yes fun i hi => ?_]
    · rfl
    · obtain rfl : i = 0 := by simp at hi; exact hi
      refine ⟨?_, by decide, fun h => absurd h (by decide)⟩
      show monoB ⟨⟨false, 0, [3]⟩, [2]⟩ 1 = true
      unfold monoB
      rw [k3_r]; rfl
  have hr : rightTo [⟨kO, kO⟩, ⟨kO, kO⟩] 1 = true := pts_11.right (Nat.le_refl _) (by decide) (by decide)
  unfold ofR okK
  obtain ⟨l, e, h⟩ := known_over
  have h0 : ofN 16 [⟨⟨false, 0, [3]⟩, [2]⟩] [[⟨kO, kO⟩, ⟨kO, kO⟩]] 1 1 = (pt 6, 0) := by
    rw [ofN_succ rfl]
    rw [show gM [⟨⟨false, 0, [3]⟩, [2]⟩] 0 = ⟨⟨false, 0, [3]⟩, [2]⟩ from rfl, e, if_pos rfl, h]
    show addI 16 iv0 (pt 6) = _
    have e3 : addI 16 (pt 0) (pt 6) = (pt (0 + 6), 0) := addI_pt (p := 16) (k := 3) (q := 0) Sm.zero ⟨6, by decide, by decide⟩ (by decide) (by decide) (by decide) (by decide)
    rw [pt0, e3, show (0 : Dyadic) + 6 = 6 by decide]
  have hx : decide (∀ x ∈ [[(⟨kO, kO⟩ : Iv), ⟨kO, kO⟩]], rightTo x (1 : Int).toNat = true) = true := decide_eq_true fun x hx => by rw [List.mem_singleton.1 hx]; exact hr
  rw [show (([[⟨kO, kO⟩, ⟨kO, kO⟩]] : List (List Iv)).length : Int) = 1 from rfl, hp, hx, show (1 : Int).toNat = 1 from rfl]
  exact h0
theorem known_sum : sumR 16 [⟨kO, kO⟩, ⟨kO, kO⟩] ⟨kO, kO⟩ = (pt 2, 0) := by
  have hr : rightTo [⟨kO, kO⟩, ⟨kO, kO⟩] 1 = true := pts_11.right (Nat.le_refl _) (by decide) (by decide)
  have e1 : (⟨kO, kO⟩ : Iv) = pt 1 := by rw [kO_eq]; rfl
  have hi : rightI ⟨kO, kO⟩ = true := by
    rw [e1]
    have := (Sm.one).ok2 (by decide) (by decide)
    exact rightI_yes this this (Dyadic.le_refl _)
  unfold sumR
  rw [show ([(⟨kO, kO⟩ : Iv), ⟨kO, kO⟩]).length = 2 from rfl, show 2 - 1 = 1 from rfl, hr, hi]
  show sumN 16 _ _ 1 = _
  rw [sumN_succ rfl]
  show plusR 16 ⟨kO, kO⟩ ⟨kO, kO⟩ ⟨kO, kO⟩ = _
  rw [e1]
  unfold plusR
  have e2 : mulI 16 (pt 1) (pt 1) = (pt (1 * 1), 0) := mulI_pt (p := 16) Sm.one Sm.one (by decide) (by decide) (by decide) (by decide)
  have e3 : addI 16 (pt 1) (pt 1) = (pt (1 + 1), 0) := addI_pt (p := 16) Sm.one Sm.one (by decide) (by decide) (by decide) (by decide)
  rw [e2, if_pos rfl, show (1 : Dyadic) * 1 = 1 by decide, e3, show (1 : Dyadic) + 1 = 2 by decide]
theorem known_wf : WfL [⟨kO, kO⟩, ⟨kO, kO⟩] := ⟨by decide, fun x hx => by
  have hw : Wi 65536 ⟨kO, kO⟩ := by
    have h : Wl 65536 kO := by rw [kO_eq]; exact (((Sm.one).ok2 (by decide) (by decide)).sz).wl
    exact ⟨h, h⟩
  simp only [List.mem_cons, List.not_mem_nil, or_false, or_self] at hx
  rw [hx]; exact hw⟩
set_option maxHeartbeats 2000000 in
theorem p_known14 : PC Tryz.prog 7 [] fun d => d = bl true := by
  have pA := p_OfI (x := kO) (by decide)
  have pC := p_Coef (k := 1) (p := 16) known_wf known_wf
  rw [known_coef, pt2_eq] at pC
  have hm : WfM [⟨⟨false, 0, [3]⟩, [2]⟩] := ⟨by decide, fun m hm => by
    rw [List.mem_singleton.1 hm]
    exact ⟨⟨fun y hy => by rw [List.mem_singleton.1 hy]; decide, by decide⟩, by decide⟩⟩
  have pD := p_sOf (k := 1) (p := 16) hm (xs := [[⟨kO, kO⟩, ⟨kO, kO⟩]]) ⟨by decide, fun l hl => by rw [List.mem_singleton.1 hl]; exact known_wf⟩
  rw [known_of, pt6_eq] at pD
  have pS := p_sSum (p := 16) known_wf (known_wf.w ⟨kO, kO⟩ (by simp))
  rw [known_sum, pt2_eq] at pS
  have pW := p_hWords (xs := [3]) (ys := [3]) (by decide) (by decide) (by decide) (by decide)
  rw [decide_eq_true rfl] at pW
  unfold kO at pA pC pS pD
  unfold II at pC pS
  refine PB (rs := [.tmp 0]) Tryz.func7 ?_
  repeat (first | with_reducible refine pv_stop 2 ?_ | with_reducible refine pv_seq fun K hK => ?_ | ((with_reducible first | refine hK _ _ ?_ | (clear hK; refine hK _ _ ?_) | (clear hK; clear hK; refine hK _ _ ?_)); clear hK; try clear K) | refine W ?_ | exact Z | with_reducible intro b)
  refine ⟨fun K q hC => ?_⟩
  repeat (first | with_reducible refine pv_seq fun K hK => ?_ | ((with_reducible first | refine hK _ _ ?_ | (clear hK; refine hK _ _ ?_) | (clear hK; clear hK; refine hK _ _ ?_)); clear hK; try clear K) | refine W0 ?_ | exact Z | with_reducible intro b)
  refine hC _ _ (Recast.frzSlot 2 (k := .l 14) rfl rfl (gs := [eI ⟨kO, kO⟩, eI ⟨kO, kO⟩]) rfl (by decide) ?_)
  rw [show G.sl [eI ⟨kO, kO⟩, eI ⟨kO, kO⟩] = eS eI [⟨kO, kO⟩, ⟨kO, kO⟩] from rfl]
  refine q _ _ ?_
  clear q hC
  unfold kO
  repeat (first | with_reducible refine pv_seq fun K hK => ?_ | ((with_reducible first | refine hK _ _ ?_ | (clear hK; refine hK _ _ ?_) | (clear hK; clear hK; refine hK _ _ ?_)); clear hK; try clear K) | refine W ?_ | exact Z | with_reducible intro b)
  refine PFC.frzCell (k2 := .l 26) (k := .l 22) (by repeat first | exact updS_at | refine (updS_ne (by decide)).trans ?_) 0 2 rfl rfl (by decide) (by repeat first | exact updS_at | refine (updS_ne (by decide)).trans ?_) (gs := [[.lit (.int .u64 3)]]) rfl (by decide) ?_
  refine PFC.frzCell (k2 := .l 26) (k := .l 24) (by repeat first | exact updS_at | refine (updS_ne (by decide)).trans ?_) 0 3 rfl rfl (by decide) (by repeat first | exact updS_at | refine (updS_ne (by decide)).trans ?_) (gs := [[.lit (.int .i64 2)]]) rfl (by decide) ?_
  refine PFC.coe ?_
  try simp -implicitDefEqProofs only [ft, go_sem, seval]
  exact Wk
end Go.V
namespace Go.V
open Go Go.RowKit Go.Proofs
set_option maxHeartbeats 1000000 in
theorem p_dSmallBox {k : Nm} {S : Store} {Q : D → Store → Prop} {b i n : Nat} {w : List Nat} (hS : S k = some ⟨b, 2, 0, [[W64 w, i64 i]]⟩) (hb : B64 w) (hn : n ≤ 1000) (hi : i + 3 * n ≤ 900000000)
    (hQ : ∀ (l : List Iv) (j : Nat), l.length = n → (∀ a ∈ l, SmV 14 6 a) → j ≤ i + 3 * n → Q (II l) (updS S k (some ⟨b, 2, 0, [[W64 w, i64 j]]⟩))) :
    PFC Tryz.prog 13 [.ptr k b 0 0 2, i64 n] S Q := by
  refine PFB (rs := [.tmp 4]) Tryz.func13 ?_
  repeat (first | with_reducible refine pv_seq fun K hK => ?_ | ((with_reducible first | refine hK _ _ ?_ | (clear hK; refine hK _ _ ?_) | (clear hK; clear hK; refine hK _ _ ?_)); clear hK; try clear K) | refine W0 ?_ | exact Z | with_reducible intro b)
  have J : ∀ (e : DEnv) (T : Store) (l : List Iv) (j : Nat), l.length = n → (∀ a ∈ l, SmV 14 6 a) → j ≤ i + 3 * n → RowD T (.l 16) 6 (e 5) (rS eI l) → Dk S k T (some ⟨b, 2, 0, [[W64 w, i64 j]]⟩) → K e T := by
    intro e T l j hl hm hj hw hd
    repeat (first | with_reducible refine pv_seq fun K hK => ?_ | ((with_reducible first | refine hK _ _ ?_ | (clear hK; refine hK _ _ ?_) | (clear hK; clear hK; refine hK _ _ ?_)); clear hK; try clear K) | refine W0 ?_ | exact Z | with_reducible intro b)
    exact hw.coeD fun T2 _ hT2 => by rw [(hd.of hT2).dn]; exact hQ l j hl hm hj
  clear hK
  refine pv_loop (fun e T => ∃ (t j : Nat) (l : List Iv), t ≤ n ∧ l.length = t ∧ (∀ a ∈ l, SmV 14 6 a) ∧ j ≤ i + 3 * t ∧ e 0 = .ptr (.up k) b 0 0 2 ∧ e 1 = i64 n ∧ e 6 = i64 t ∧ RowD T (.l 16) 6 (e 5) (rS eI l) ∧ Dk S k T (some ⟨b, 2, 0, [[W64 w, i64 j]]⟩)) (fun e _ => n - (intD (e 6)).toNat) ?_ ?_
  · exact ⟨0, i, [], Nat.zero_le _, rfl, fun a ha => (by cases ha), by omega, Zr, Zr, Zr, .inl ⟨Zr, rfl⟩, Dk.up hS⟩
  · rintro e T ⟨t, j, l, htn, hl, hm, hj, g0, g1, g6, hw, hd⟩
    have ft := And.intro g0 (And.intro g1 g6)
    repeat (first | with_reducible refine pv_seq fun K hK => ?_ | ((with_reducible first | refine hK _ _ ?_ | (clear hK; refine hK _ _ ?_) | (clear hK; clear hK; refine hK _ _ ?_)); clear hK; try clear K) | refine W0 ?_ | exact Z | with_reducible intro b)
    refine pv_cdD (fun ht => ?_) (fun ht => ?_)
    · repeat (first | with_reducible refine pv_seq fun K hK => ?_ | ((with_reducible first | refine hK _ _ ?_ | (clear hK; refine hK _ _ ?_) | (clear hK; clear hK; refine hK _ _ ?_)); clear hK; try clear K) | refine W0 ?_ | exact Z | with_reducible intro b)
      refine p_dSmallIv hd.at_ hb (by omega) fun x y j2 sx sy hxy hj2 => ?_
      have hnew := rS_iv (l := l) (a := ivD x y)
      have hsm : SmV 14 6 (ivD x y) := ⟨x, y, rfl, sx, sy, hxy⟩
      generalize ivD x y = q at *
      obtain ⟨⟨n1, e1, w1⟩, ⟨n2, e2, w2⟩⟩ := q
      repeat (first | with_reducible refine pv_seq fun K hK => ?_ | ((with_reducible first | refine hK _ _ ?_ | (clear hK; refine hK _ _ ?_) | (clear hK; clear hK; refine hK _ _ ?_)); clear hK; try clear K) | refine W0 ?_ | exact Z | with_reducible intro b)
      refine RowD.appL (hw.up (updS_ne (by simp))) (by decide) rfl (by simp [D.one, W64]) ?_ ?_ fun d' S3 hr3 hS3 => ?_
      · rw [rS_len]; simp; omega
      · rw [rS_len]; simp; omega
      repeat (first | with_reducible refine pv_seq fun K hK => ?_ | ((with_reducible first | refine hK _ _ ?_ | (clear hK; refine hK _ _ ?_) | (clear hK; clear hK; refine hK _ _ ?_)); clear hK; try clear K) | refine W0 ?_ | exact Z | with_reducible intro b)
      refine ⟨⟨t + 1, j2, l ++ [⟨⟨n1, e1, w1⟩, ⟨n2, e2, w2⟩⟩], by omega, by simp [hl], fun a ha => ?_, by omega, Zr, by rw [← hnew]; exact hr3, (hd.set.l).of hS3⟩, by simp only [intD]; omega⟩
      rcases List.mem_append.1 ha with h | h
      · exact hm a h
      · rw [List.mem_singleton.1 h]; exact hsm
    · obtain rfl : t = n := by omega
      repeat (first | with_reducible refine pv_seq fun K hK => ?_ | ((with_reducible first | refine hK _ _ ?_ | (clear hK; refine hK _ _ ?_) | (clear hK; clear hK; refine hK _ _ ?_)); clear hK; try clear K) | refine W0 ?_ | exact Z | with_reducible intro b)
      exact J _ _ l j hl hm hj hw hd

/-- A list of numbers. -/
def UL (l : List Dyadic) : D := .g (eS eU (l.map nuOf))
def gD (l : List Dyadic) (i : Nat) : Dyadic := l.getD i 0
theorem rS_u {l : List Dyadic} {x : Dyadic} : rS eU (l.map nuOf) ++ [[bl (nuOf x).neg, i64 (nuOf x).exp, W64 (nuOf x).w]] = rS eU ((l ++ [x]).map nuOf) := by rw [List.map_append, ← rS_app]; rfl
theorem gI_app {l : List Iv} {a : Iv} {q : Nat} (hq : q < l.length) : gI (l ++ [a]) q = gI l q := by simp [gI, List.getD, List.getElem?_append_left hq]
theorem gI_last {l : List Iv} {a : Iv} : gI (l ++ [a]) l.length = a := by simp [gI, List.getD]
theorem gD_app {l : List Dyadic} {a : Dyadic} {q : Nat} (hq : q < l.length) : gD (l ++ [a]) q = gD l q := by simp [gD, List.getD, List.getElem?_append_left hq]
theorem gD_last {l : List Dyadic} {a : Dyadic} : gD (l ++ [a]) l.length = a := by simp [gD, List.getD]
/-- Is a number one that the deck draws of an interval? -/
def inS (a : Iv) (t : Dyadic) : Prop := ∃ x y, a = ivD x y ∧ x ≤ y ∧ InS x y t ∧ OkD t
set_option maxHeartbeats 1000000 in
theorem p_dInBox {k : Nm} {S : Store} {Q : D → Store → Prop} {bd i : Nat} {w : List Nat} {l : List Iv} (hS : S k = some ⟨bd, 2, 0, [[W64 w, i64 i]]⟩) (hb : B64 w) (hl : l.length ≤ 1000) (hi : i + l.length ≤ 700000000) (hv : ∀ a ∈ l, OkV a)
    (hQ : ∀ (m : List Dyadic), m.length = l.length → (∀ q, q < l.length → inS (gI l q) (gD m q)) → Q (UL m) (updS S k (some ⟨bd, 2, 0, [[W64 w, i64 ((i + l.length : Nat) : Int)]]⟩))) :
    PFC Tryz.prog 17 [.ptr k bd 0 0 2, II l] S Q := by
  unfold II
  refine PFB (rs := [.tmp 4]) Tryz.func17 ?_
  repeat (first | with_reducible refine pv_seq fun K hK => ?_ | ((with_reducible first | refine hK _ _ ?_ | (clear hK; refine hK _ _ ?_) | (clear hK; clear hK; refine hK _ _ ?_)); clear hK; try clear K) | refine W0 ?_ | exact Z | with_reducible intro b)
  have J : ∀ (e : DEnv) (T : Store) (m : List Dyadic), m.length = l.length → (∀ q, q < l.length → inS (gI l q) (gD m q)) → RowD T (.l 21) 3 (e 5) (rS eU (m.map nuOf)) → Dk S k T (some ⟨bd, 2, 0, [[W64 w, i64 ((i + l.length : Nat) : Int)]]⟩) → K e T := by
    intro e T m hm hin hw hd
    repeat (first | with_reducible refine pv_seq fun K hK => ?_ | ((with_reducible first | refine hK _ _ ?_ | (clear hK; refine hK _ _ ?_) | (clear hK; clear hK; refine hK _ _ ?_)); clear hK; try clear K) | refine W0 ?_ | exact Z | with_reducible intro b)
    exact hw.coeD fun T2 _ hT2 => by rw [(hd.of hT2).dn]; exact hQ m hm hin
  clear hK
  refine pv_loop (fun e T => Hid (∃ (t : Nat) (m : List Dyadic), t ≤ l.length ∧ m.length = t ∧ (∀ q, q < t → inS (gI l q) (gD m q)) ∧ e 0 = .ptr (.up k) bd 0 0 2 ∧ e 1 = .g (eS eI l) ∧ e 6 = i64 t ∧ RowD T (.l 21) 3 (e 5) (rS eU (m.map nuOf)) ∧ Dk S k T (some ⟨bd, 2, 0, [[W64 w, i64 ((i + t : Nat) : Int)]]⟩))) (fun e _ => l.length - (intD (e 6)).toNat) ?_ ?_
  · exact ⟨0, [], Nat.zero_le _, rfl, fun q hq => by omega, Zr, Zr, Zr, .inl ⟨Zr, rfl⟩, Dk.up hS⟩
  · rintro e T ⟨t, m, htn, hm, hin, g0, g1, g6, hw, hd⟩
    have ft := And.intro g0 (And.intro g1 g6)
    repeat (first | with_reducible refine pv_seq fun K hK => ?_ | ((with_reducible first | refine hK _ _ ?_ | (clear hK; refine hK _ _ ?_) | (clear hK; clear hK; refine hK _ _ ?_)); clear hK; try clear K) | refine W0 ?_ | exact Z | with_reducible intro b)
    refine pv_cdD (fun ht => ?_) (fun ht => ?_)
    · have htl : t < l.length := by omega
      have q1 := gI_at htl
      obtain ⟨x, y, hxy, ox, oy, hle⟩ := hv _ (gI_mem htl)
      have hpt : ∀ p : Dyadic, OkD p → InS x y p → inS (gI l t) p := fun p op hp => ⟨x, y, hxy, hle, hp, op⟩
      rw [hxy] at q1
      have q1' : l[t]? = some ⟨nuOf x, nuOf y⟩ := q1
      have ft := And.intro g0 (And.intro g1 (And.intro g6 q1'))
      repeat (first | with_reducible refine pv_seq fun K hK => ?_ | ((with_reducible first | refine hK _ _ ?_ | (clear hK; refine hK _ _ ?_) | (clear hK; clear hK; refine hK _ _ ?_)); clear hK; try clear K) | refine W0 ?_ | exact Z | with_reducible intro b)
      refine p_dIn (x := x) (y := y) hd.at_ hb (by omega) ox oy fun p op hp => ?_
      have v1 := hpt p op hp
      have hnew := rS_u (l := m) (x := p)
      generalize nuOf p = q at *
      obtain ⟨n1, e1, w1⟩ := q
      repeat (first | with_reducible refine pv_seq fun K hK => ?_ | ((with_reducible first | refine hK _ _ ?_ | (clear hK; refine hK _ _ ?_) | (clear hK; clear hK; refine hK _ _ ?_)); clear hK; try clear K) | refine W0 ?_ | exact Z | with_reducible intro b)
      refine RowD.appL (hw.up (updS_ne (by simp))) (by decide) rfl (by simp [D.one, W64]) ?_ ?_ fun d' S3 hr3 hS3 => ?_
      · rw [rS_len]; simp; omega
      · rw [rS_len]; simp; omega
      repeat (first | with_reducible refine pv_seq fun K hK => ?_ | ((with_reducible first | refine hK _ _ ?_ | (clear hK; refine hK _ _ ?_) | (clear hK; clear hK; refine hK _ _ ?_)); clear hK; try clear K) | refine W0 ?_ | exact Z | with_reducible intro b)
      have hd2 : Dk S k S3 (some ⟨bd, 2, 0, [[W64 w, i64 ((i + (t + 1) : Nat) : Int)]]⟩) := by rw [show i + (t + 1) = i + t + 1 by omega]; exact (hd.set.l).of hS3
      refine ⟨⟨t + 1, m ++ [p], by omega, by simp [hm], fun q hq => ?_, Zr, Zr, Zr, by rw [← hnew]; exact hr3, hd2⟩, by simp only [intD]; omega⟩
      rcases Nat.lt_or_ge q t with h | h
      · rw [gD_app (by omega)]; exact hin q h
      · obtain rfl : q = t := by omega
        rw [← hm, gD_last, hm]; exact v1
    · obtain rfl : t = l.length := by omega
      repeat (first | with_reducible refine pv_seq fun K hK => ?_ | ((with_reducible first | refine hK _ _ ?_ | (clear hK; refine hK _ _ ?_) | (clear hK; clear hK; refine hK _ _ ?_)); clear hK; try clear K) | refine W0 ?_ | exact Z | with_reducible intro b)
      exact J _ _ m hm hin hw hd

/-- Boxes in boxes. -/
theorem part_in {x y t u : Dyadic} (ox : OkD x) (oy : OkD y) (hxy : x ≤ y) (ht : InS x y t) (hu : InS x y u) : inV (ivD (loD t u) (hiD t u)) (ivD x y) := by
  have e1 : loD t u = t ∨ loD t u = u := by unfold loD; split <;> simp
  have e2 : hiD t u = t ∨ hiD t u = u := by unfold hiD; split <;> simp
  have h1 := ht.in hxy
  have h2 := hu.in hxy
  unfold inV
  rw [ivD_l, ivD_l, ivD_h, ivD_h]
  exact ⟨by rcases e1 with h | h <;> rw [h]; exact h1.1; exact h2.1, by rcases e2 with h | h <;> rw [h]; exact h1.2; exact h2.2⟩
set_option maxHeartbeats 1000000 in
theorem p_dPartBox {k : Nm} {S : Store} {Q : D → Store → Prop} {bd i : Nat} {w : List Nat} {l : List Iv} (hS : S k = some ⟨bd, 2, 0, [[W64 w, i64 i]]⟩) (hb : B64 w) (hl : l.length ≤ 1000) (hi : i + 2 * l.length ≤ 700000000) (hv : ∀ a ∈ l, SmV 14 6 a)
    (hQ : ∀ (m : List Iv), m.length = l.length → (∀ a ∈ m, SmV 18 9 a) → (∀ q, q < l.length → inV (gI m q) (gI l q)) → Q (II m) (updS S k (some ⟨bd, 2, 0, [[W64 w, i64 ((i + 2 * l.length : Nat) : Int)]]⟩))) :
    PFC Tryz.prog 28 [.ptr k bd 0 0 2, II l] S Q := by
  unfold II
  refine PFB (rs := [.tmp 4]) Tryz.func28 ?_
  repeat (first | with_reducible refine pv_seq fun K hK => ?_ | ((with_reducible first | refine hK _ _ ?_ | (clear hK; refine hK _ _ ?_) | (clear hK; clear hK; refine hK _ _ ?_)); clear hK; try clear K) | refine W0 ?_ | exact Z | with_reducible intro b)
  have J : ∀ (e : DEnv) (T : Store) (m : List Iv), m.length = l.length → (∀ a ∈ m, SmV 18 9 a) → (∀ q, q < l.length → inV (gI m q) (gI l q)) → RowD T (.l 21) 6 (e 5) (rS eI m) → Dk S k T (some ⟨bd, 2, 0, [[W64 w, i64 ((i + 2 * l.length : Nat) : Int)]]⟩) → K e T := by
    intro e T m hm hs hin hw hd
    repeat (first | with_reducible refine pv_seq fun K hK => ?_ | ((with_reducible first | refine hK _ _ ?_ | (clear hK; refine hK _ _ ?_) | (clear hK; clear hK; refine hK _ _ ?_)); clear hK; try clear K) | refine W0 ?_ | exact Z | with_reducible intro b)
    exact hw.coeD fun T2 _ hT2 => by rw [(hd.of hT2).dn]; exact hQ m hm hs hin
  clear hK
  refine pv_loop (fun e T => Hid (∃ (t : Nat) (m : List Iv), t ≤ l.length ∧ m.length = t ∧ (∀ x ∈ m, SmV 18 9 x) ∧ (∀ q, q < t → inV (gI m q) (gI l q)) ∧ e 0 = .ptr (.up k) bd 0 0 2 ∧ e 1 = .g (eS eI l) ∧ e 6 = i64 t ∧ RowD T (.l 21) 6 (e 5) (rS eI m) ∧ Dk S k T (some ⟨bd, 2, 0, [[W64 w, i64 ((i + 2 * t : Nat) : Int)]]⟩))) (fun e _ => l.length - (intD (e 6)).toNat) ?_ ?_
  · exact ⟨0, [], Nat.zero_le _, rfl, fun a ha => (by cases ha), fun q hq => by omega, Zr, Zr, Zr, .inl ⟨Zr, rfl⟩, Dk.up hS⟩
  · rintro e T ⟨t, m, htn, hm, hv2, hin, g0, g1, g6, hw, hd⟩
    have ft := And.intro g0 (And.intro g1 g6)
    repeat (first | with_reducible refine pv_seq fun K hK => ?_ | ((with_reducible first | refine hK _ _ ?_ | (clear hK; refine hK _ _ ?_) | (clear hK; clear hK; refine hK _ _ ?_)); clear hK; try clear K) | refine W0 ?_ | exact Z | with_reducible intro b)
    refine pv_cdD (fun ht => ?_) (fun ht => ?_)
    · have htl : t < l.length := by omega
      have q1 := gI_at htl
      obtain ⟨x, y, hxy, sx, sy, hle⟩ := hv _ (gI_mem htl)
      have ox := sx.ok (by decide) (by decide)
      have oy := sy.ok (by decide) (by decide)
      have hpt : ∀ p u : Dyadic, InS x y p → InS x y u → SmV 18 9 (ivD (loD p u) (hiD p u)) ∧ inV (ivD (loD p u) (hiD p u)) (gI l t) := fun p u hp hu => by
        rw [hxy]
        exact ⟨⟨_, _, rfl, loD_sm (hp.sm sx sy) (hu.sm sx sy), hiD_sm (hp.sm sx sy) (hu.sm sx sy), lo_le_hi p u⟩, part_in ox oy hle hp hu⟩
      rw [hxy] at q1
      have q1' : l[t]? = some ⟨nuOf x, nuOf y⟩ := q1
      have ft := And.intro g0 (And.intro g1 (And.intro g6 q1'))
      repeat (first | with_reducible refine pv_seq fun K hK => ?_ | ((with_reducible first | refine hK _ _ ?_ | (clear hK; refine hK _ _ ?_) | (clear hK; clear hK; refine hK _ _ ?_)); clear hK; try clear K) | refine W0 ?_ | exact Z | with_reducible intro b)
      refine p_dPart (x := x) (y := y) hd.at_ hb (by omega) ox oy fun p u op ou hp hu => ?_
      obtain ⟨v1, v2⟩ := hpt p u hp hu
      have hnew := rS_iv (l := m) (a := ivD (loD p u) (hiD p u))
      generalize ivD (loD p u) (hiD p u) = q at *
      obtain ⟨⟨n1, e1, w1⟩, ⟨n2, e2, w2⟩⟩ := q
      repeat (first | with_reducible refine pv_seq fun K hK => ?_ | ((with_reducible first | refine hK _ _ ?_ | (clear hK; refine hK _ _ ?_) | (clear hK; clear hK; refine hK _ _ ?_)); clear hK; try clear K) | refine W0 ?_ | exact Z | with_reducible intro b)
      refine RowD.appL (hw.up (updS_ne (by simp))) (by decide) rfl (by simp [D.one, W64]) ?_ ?_ fun d' S3 hr3 hS3 => ?_
      · rw [rS_len]; simp; omega
      · rw [rS_len]; simp; omega
      repeat (first | with_reducible refine pv_seq fun K hK => ?_ | ((with_reducible first | refine hK _ _ ?_ | (clear hK; refine hK _ _ ?_) | (clear hK; clear hK; refine hK _ _ ?_)); clear hK; try clear K) | refine W0 ?_ | exact Z | with_reducible intro b)
      have hd2 : Dk S k S3 (some ⟨bd, 2, 0, [[W64 w, i64 ((i + 2 * (t + 1) : Nat) : Int)]]⟩) := by rw [show i + 2 * (t + 1) = i + 2 * t + 2 by omega]; exact (hd.set.l).of hS3
      refine ⟨⟨t + 1, m ++ [⟨⟨n1, e1, w1⟩, ⟨n2, e2, w2⟩⟩], by omega, by simp [hm], fun a ha => ?_, fun q hq => ?_, Zr, Zr, Zr, by rw [← hnew]; exact hr3, hd2⟩, by simp only [intD]; omega⟩
      · rcases List.mem_append.1 ha with h | h
        · exact hv2 a h
        · rw [List.mem_singleton.1 h]; exact v1
      · rcases Nat.lt_or_ge q t with h | h
        · rw [gI_app (by omega)]; exact hin q h
        · obtain rfl : q = t := by omega
          rw [← hm, gI_last, hm]; exact v2
    · obtain rfl : t = l.length := by omega
      repeat (first | with_reducible refine pv_seq fun K hK => ?_ | ((with_reducible first | refine hK _ _ ?_ | (clear hK; refine hK _ _ ?_) | (clear hK; clear hK; refine hK _ _ ?_)); clear hK; try clear K) | refine W0 ?_ | exact Z | with_reducible intro b)
      exact J _ _ m hm hv2 hin hw hd

end Go.V
namespace Go.V
open Go Go.RowKit Go.Proofs
end Go.V
namespace Go.V
open Go Go.RowKit Go.Proofs

/-- A value by powers. -/
structure Te where
  v : Dyadic
  e : List Int
def te0 : Te := ⟨0, []⟩
def gT (l : List Te) (i : Nat) : Te := l.getD i te0
theorem gT_at {l : List Te} {i : Nat} (h : i < l.length) : l[i]? = some (gT l i) := by simp [gT, List.getD, List.getElem?_eq_getElem h]
theorem gT_mem {l : List Te} {i : Nat} (h : i < l.length) : gT l i ∈ l := List.mem_of_getElem? (gT_at h)
def posT : List Te → List Int → Nat
  | [], _ => 0
  | x :: r, e => if 0 < ordE x.e e then posT r e + 1 else 0
def insT (out : List Te) (t : Te) : List Te :=
  if posT out t.e < out.length ∧ ordE (gT out (posT out t.e)).e t.e = 0 then out.set (posT out t.e) ⟨(gT out (posT out t.e)).v + t.v, (gT out (posT out t.e)).e⟩
  else out.take (posT out t.e) ++ t :: out.drop (posT out t.e)
theorem posT_le : ∀ (out : List Te) (e : List Int), posT out e ≤ out.length
  | [], _ => Nat.le_refl _
  | x :: r, e => by
    unfold posT
    split
    · have := posT_le r e; simp only [List.length_cons]; omega
    · exact Nat.zero_le _
theorem posT_all : ∀ {out : List Te} {e : List Int} {j : Nat}, j < posT out e → 0 < ordE (gT out j).e e
  | [], e, j, h => by exact absurd h (Nat.not_lt_zero _)
  | x :: r, e, j, h => by
    unfold posT at h
    split at h
    · rename_i hp
      cases j with
      | zero => exact hp
      | succ j => exact posT_all (out := r) (j := j) (by omega)
    · omega
theorem posT_max : ∀ {out : List Te} {e : List Int}, posT out e < out.length → ¬ 0 < ordE (gT out (posT out e)).e e
  | [], e, h => by exact absurd h (Nat.not_lt_zero _)
  | x :: r, e, h => by
    by_cases hp : 0 < ordE x.e e
    · have hq : posT (x :: r) e = posT r e + 1 := by
        show (if 0 < ordE x.e e then posT r e + 1 else 0) = _
        rw [if_pos hp]
      rw [hq] at h ⊢
      exact posT_max (out := r) (by simpa using h)
    · have hq : posT (x :: r) e = 0 := by unfold posT; rw [if_neg hp]
      rw [hq]; exact hp
theorem insT_nil (t : Te) : insT [] t = [t] := rfl
theorem insT_cons (x : Te) (r : List Te) (t : Te) : insT (x :: r) t = if 0 < ordE x.e t.e then x :: insT r t else if ordE x.e t.e = 0 then ⟨x.v + t.v, x.e⟩ :: r else t :: x :: r := by
  by_cases h : 0 < ordE x.e t.e
  · have hp : posT (x :: r) t.e = posT r t.e + 1 := by
      show (if 0 < ordE x.e t.e then posT r t.e + 1 else 0) = _
      rw [if_pos h]
    have hg : gT (x :: r) (posT r t.e + 1) = gT r (posT r t.e) := rfl
    rw [if_pos h]
    unfold insT
    rw [hp, hg]
    by_cases h2 : posT r t.e < r.length ∧ ordE (gT r (posT r t.e)).e t.e = 0
    · rw [if_pos h2, if_pos ⟨by simpa using h2.1, h2.2⟩]; rfl
    · rw [if_neg h2, if_neg (fun h3 => h2 ⟨by simpa using h3.1, h3.2⟩)]; rfl
  · have hp : posT (x :: r) t.e = 0 := by unfold posT; rw [if_neg h]
    rw [if_neg h]
    unfold insT
    rw [hp]
    by_cases h2 : ordE x.e t.e = 0
    · rw [if_pos h2, if_pos ⟨by simp, h2⟩]; rfl
    · rw [if_neg h2, if_neg (fun h3 => h2 h3.2)]; rfl
theorem insT_len (out : List Te) (t : Te) : (insT out t).length ≤ out.length + 1 := by
  have := posT_le out t.e
  unfold insT
  split
  · simp
  · simp; omega
def gathN (l : List Te) : Nat → List Te
  | 0 => []
  | i + 1 => insT (gathN l i) (gT l i)
theorem gathN_len (l : List Te) : ∀ i, (gathN l i).length ≤ i
  | 0 => Nat.le_refl _
  | i + 1 => by have := gathN_len l i; have := insT_len (gathN l i) (gT l i); show (insT _ _).length ≤ _; omega
def monoN (out : List Te) : Nat → List Mo × Int
  | 0 => ([], 0)
  | i + 1 => if (monoN out i).2 = 0 then (if (gT out i).v = 0 then monoN out i else if (numR (gT out i).v).2 = 0 then ((monoN out i).1 ++ [⟨(numR (gT out i).v).1, (gT out i).e⟩], 0) else ([], 2)) else monoN out i
theorem monoN_stuck {out : List Te} {i n : Nat} (h : (monoN out i).2 ≠ 0) (hn : i ≤ n) : monoN out n = monoN out i := by
  induction n with
  | zero => obtain rfl : i = 0 := by omega
            rfl
  | succ n ih =>
    by_cases hi : i = n + 1
    · rw [hi]
    · have e := ih (by omega)
      show (if (monoN out n).2 = 0 then _ else monoN out n) = _
      rw [e, if_neg h]
theorem monoN_len (out : List Te) : ∀ i, (monoN out i).1.length ≤ i
  | 0 => Nat.le_refl _
  | i + 1 => by
    have := monoN_len out i
    unfold monoN
    split
    · split
      · omega
      · split
        · simp only [List.length_append, List.length_singleton]; omega
        · exact Nat.zero_le _
    · omega
def gathR (l : List Te) : List Mo × Int :=
  if (monoN (gathN l l.length) (gathN l l.length).length).2 = 0 then (if (monoN (gathN l l.length) (gathN l l.length).length).1.length ≤ 24 then monoN (gathN l l.length) (gathN l l.length).length else ([], 6)) else monoN (gathN l l.length) (gathN l l.length).length
/-- The document's polynomial of monomials. -/
def teM (m : Mo) : Te := ⟨m.c.val, m.e⟩
def allM (q : List Mo) (n : Int) : Bool := decide (∀ m ∈ q, monoB m n = true)
def pmkR (q : List Mo) (n : Int) : List Mo × Int := if decide (1 ≤ n) && decide (n ≤ 4) && allM q n then gathR (q.map teM) else ([], 1)

/-! ### Sizes -/
theorem okD_sm {d : Dyadic} (h : OkD d) : Sm 135168 65536 d := by
  have h1 := h.lo
  have h2 := h.hi
  have h3 := h.len
  rw [nuOf_f] at h1 h2 h3
  simp only at h1 h2 h3
  obtain ⟨m, hm, h5⟩ := okD_fN h
  have e := dy_f d
  obtain ⟨j, hj⟩ : ∃ j : Nat, fE d = j - 65536 := ⟨(fE d + 65536).toNat, by omega⟩
  have hj2 : j ≤ 131072 := by omega
  have h6 := owp_shl (sg (fS d) (fN d)) (65536 - j) j
  rw [show ((65536 : Int) - j + j) = ((65536 : Nat) : Int) by omega] at h6
  refine ⟨sg (fS d) (fN d) * 2 ^ j, e.symm.trans ?_, ?_⟩
  · unfold dy
    rw [show -(fE d) = (65536 : Int) - j by omega]
    exact h6.symm
  · rw [Int.natAbs_mul, sg_abs, Int.natAbs_pow]
    calc fN d * (2 : Int).natAbs ^ j < 2 ^ m * 2 ^ j := Nat.mul_lt_mul_of_pos_right h5 (Nat.two_pow_pos j)
      _ = 2 ^ (m + j) := (Nat.pow_add _ _ _).symm
      _ ≤ 2 ^ 135168 := Nat.pow_le_pow_right (by decide) (by omega)
theorem Sm.bd {k q : Nat} {d : Dyadic} (h : Sm k q d) : Bd (k + q) d := by
  have b := h.bx
  exact ⟨Nat.lt_of_lt_of_le b.n (Nat.pow_le_pow_right (by decide) (by omega)), b.lo, b.hi⟩

/-! ### Orders of powers -/
theorem ordE_cases : ∀ (a b : List Int), ordE a b = -1 ∨ ordE a b = 0 ∨ ordE a b = 1
  | [], _ => .inr (.inl (by unfold ordE; rfl))
  | _ :: _, [] => .inr (.inl rfl)
  | x :: a, y :: b => by
    unfold ordE
    split
    · exact .inr (.inr rfl)
    · split
      · exact .inl rfl
      · exact ordE_cases a b
theorem ordE_neg : ∀ {a b : List Int}, ordE b a = - ordE a b
  | [], [] => rfl
  | [], _ :: _ => rfl
  | _ :: _, [] => rfl
  | x :: a, y :: b => by
    have ih := ordE_neg (a := a) (b := b)
    unfold ordE
    by_cases h1 : y < x
    · rw [if_neg (by omega), if_pos h1, if_pos h1]
    · by_cases h2 : x < y
      · rw [if_pos h2, if_neg h1, if_pos h2]; rfl
      · rw [if_neg h2, if_neg h1, if_neg h1, if_neg h2]; exact ih
theorem ordE_trans : ∀ {a b c : List Int}, a.length = b.length → b.length = c.length → 0 < ordE a b → 0 < ordE b c → 0 < ordE a c
  | [], [], [], _, _, h, _ => by exact absurd h (by decide)
  | x :: a, y :: b, z :: c, h1, h2, p, q => by
    unfold ordE at *
    by_cases a1 : y < x
    · by_cases a2 : z < y
      · rw [if_pos (by omega)]; decide
      · rw [if_neg a2] at q
        by_cases a3 : y < z
        · rw [if_pos a3] at q; exact absurd q (by decide)
        · rw [if_pos (by omega)]; decide
    · rw [if_neg a1] at p
      by_cases a2 : x < y
      · rw [if_pos a2] at p; exact absurd p (by decide)
      · rw [if_neg a2] at p
        obtain rfl : x = y := by omega
        by_cases a3 : z < x
        · rw [if_pos a3]; decide
        · rw [if_neg a3] at q ⊢
          by_cases a4 : x < z
          · rw [if_pos a4] at q; exact absurd q (by decide)
          · rw [if_neg a4] at q ⊢
            exact ordE_trans (by simpa using h1) (by simpa using h2) p q

/-! ### What is gathered is in order -/
structure SortT (n : Nat) (out : List Te) : Prop where
  len : ∀ t ∈ out, t.e.length = n
  ord : out.Pairwise fun a b => 0 < ordE a.e b.e
theorem insT_mem {t y : Te} : ∀ {out : List Te}, y ∈ insT out t → y = t ∨ ∃ z ∈ out, y.e = z.e ∧ (y = z ∨ y.v = z.v + t.v ∧ z.e.length = t.e.length → True)
  | [], h => by rw [insT_nil] at h; exact .inl (List.mem_singleton.1 h)
  | x :: r, h => by
    rw [insT_cons] at h
    split at h
    · rcases List.mem_cons.1 h with rfl | h
      · exact .inr ⟨_, List.mem_cons_self, rfl, by simp⟩
      · rcases insT_mem h with h | ⟨z, hz, he, _⟩
        · exact .inl h
        · exact .inr ⟨z, List.mem_cons_of_mem _ hz, he, by simp⟩
    · split at h
      · rcases List.mem_cons.1 h with rfl | h
        · exact .inr ⟨x, List.mem_cons_self, rfl, by simp⟩
        · exact .inr ⟨y, List.mem_cons_of_mem _ h, rfl, by simp⟩
      · rcases List.mem_cons.1 h with rfl | h
        · exact .inl rfl
        · exact .inr ⟨y, h, rfl, by simp⟩
theorem insT_e {t y : Te} {out : List Te} (h : y ∈ insT out t) : y.e = t.e ∨ ∃ z ∈ out, y.e = z.e := by
  rcases insT_mem h with rfl | ⟨z, hz, he, _⟩
  · exact .inl rfl
  · exact .inr ⟨z, hz, he⟩
theorem insT_sort {n : Nat} {t : Te} (ht : t.e.length = n) : ∀ {out : List Te}, SortT n out → SortT n (insT out t)
  | [], _ => ⟨fun y hy => by rw [insT_nil] at hy; rw [List.mem_singleton.1 hy]; exact ht, by rw [insT_nil]; exact List.pairwise_singleton _ _⟩
  | x :: r, h => by
    have hx := h.len x List.mem_cons_self
    have hr : SortT n r := ⟨fun y hy => h.len y (List.mem_cons_of_mem _ hy), (List.pairwise_cons.1 h.ord).2⟩
    have ih := insT_sort ht hr
    have hxr := (List.pairwise_cons.1 h.ord).1
    rw [insT_cons]
    split
    · rename_i hp
      refine ⟨fun y hy => ?_, List.pairwise_cons.2 ⟨fun y hy => ?_, ih.ord⟩⟩
      · rcases List.mem_cons.1 hy with rfl | hy
        · exact hx
        · exact ih.len y hy
      · rcases insT_e hy with he | ⟨z, hz, he⟩
        · rw [he]; exact hp
        · rw [he]; exact hxr z hz
    · rename_i hp
      split
      · refine ⟨fun y hy => ?_, List.pairwise_cons.2 ⟨fun y hy => hxr y hy, hr.ord⟩⟩
        rcases List.mem_cons.1 hy with rfl | hy
        · exact hx
        · exact hr.len y hy
      · rename_i h0
        have hneg : 0 < ordE t.e x.e := by
          rw [ordE_neg]
          rcases ordE_cases x.e t.e with h1 | h1 | h1 <;> omega
        refine ⟨fun y hy => ?_, List.pairwise_cons.2 ⟨fun y hy => ?_, h.ord⟩⟩
        · rcases List.mem_cons.1 hy with rfl | hy
          · exact ht
          · exact h.len y hy
        · rcases List.mem_cons.1 hy with rfl | hy
          · exact hneg
          · exact ordE_trans (by rw [ht, hx]) (by rw [hx, hr.len y hy]) hneg (hxr y hy)
theorem gathN_sort {n : Nat} {l : List Te} (h : ∀ t ∈ l, t.e.length = n) : ∀ i, i ≤ l.length → SortT n (gathN l i)
  | 0 => fun _ => ⟨fun t ht => (by cases ht), List.Pairwise.nil⟩
  | i + 1 => fun hi => insT_sort (h _ (gT_mem (by omega))) (gathN_sort h i (by omega))
theorem insT_all {P : List Int → Prop} {t : Te} (ht : P t.e) {out : List Te} (h : ∀ y ∈ out, P y.e) : ∀ y ∈ insT out t, P y.e := fun y hy => by
  rcases insT_e hy with he | ⟨z, hz, he⟩
  · rw [he]; exact ht
  · rw [he]; exact h z hz
theorem gathN_all {P : List Int → Prop} {l : List Te} (h : ∀ t ∈ l, P t.e) : ∀ i, i ≤ l.length → ∀ y ∈ gathN l i, P y.e
  | 0 => fun _ y hy => by cases hy
  | i + 1 => fun hi => insT_all (h _ (gT_mem (by omega))) (gathN_all h i (by omega))
theorem insT_sm {k q : Nat} {t : Te} (ht : Sm k q t.v) : ∀ {out : List Te}, (∀ y ∈ out, Sm k q y.v) → ∀ y ∈ insT out t, Sm (k + 1) q y.v
  | [], _ => fun y hy => by rw [insT_nil] at hy; rw [List.mem_singleton.1 hy]; exact ht.mono (by omega)
  | x :: r, h => fun y hy => by
    have hx := h x List.mem_cons_self
    rw [insT_cons] at hy
    split at hy
    · rcases List.mem_cons.1 hy with rfl | hy
      · exact hx.mono (by omega)
      · exact insT_sm ht (fun z hz => h z (List.mem_cons_of_mem _ hz)) y hy
    · split at hy
      · rcases List.mem_cons.1 hy with rfl | hy
        · exact hx.add ht
        · exact (h y (List.mem_cons_of_mem _ hy)).mono (by omega)
      · rcases List.mem_cons.1 hy with rfl | hy
        · exact ht.mono (by omega)
        · exact (h y hy).mono (by omega)
theorem gathN_sm {k q : Nat} {l : List Te} (h : ∀ t ∈ l, Sm k q t.v) : ∀ i, i ≤ l.length → ∀ y ∈ gathN l i, Sm (k + i) q y.v
  | 0 => fun _ y hy => by cases hy
  | i + 1 => fun hi => insT_sm (k := k + i) ((h _ (gT_mem (by omega))).mono (Nat.le_add_right k i)) (gathN_sm h i (by omega))

/-! ### Polynomials of numbers that fit -/
def moT (t : Te) : Mo := ⟨nuOf t.v, t.e⟩
theorem monoN_ok {out : List Te} (h : ∀ y ∈ out, OkD y.v) : ∀ i, i ≤ out.length → monoN out i = (((out.take i).filter fun t => decide (t.v ≠ 0)).map moT, 0)
  | 0 => fun _ => rfl
  | i + 1 => fun hi => by
    have ih := monoN_ok h i (by omega)
    have ho := h _ (gT_mem (l := out) (i := i) (by omega))
    have ht : out.take (i + 1) = out.take i ++ [gT out i] := by rw [List.take_add_one, gT_at (by omega)]; rfl
    unfold monoN
    rw [ih, if_pos rfl, ht, List.filter_append, List.map_append]
    by_cases h0 : (gT out i).v = 0
    · rw [if_pos h0]
      simp [h0]
    · rw [if_neg h0, numR_ok ho, if_pos rfl]
      simp [h0, moT]
theorem monosB_of {q : List Mo} {n : Int} (h1 : ∀ m ∈ q, monoB m n = true ∧ m.c.w ≠ []) (h2 : q.Pairwise fun a b => cmpE b.e a.e < 0) : monosB q n = true := by
  refine monosB_yes fun i hi => ?_
  obtain ⟨a, b⟩ := h1 _ (gM_mem hi)
  refine ⟨a, b, fun h0 => ?_⟩
  have := List.pairwise_iff_getElem.1 h2 (i - 1) i (by omega) hi (by omega)
  have e1 := gM_at hi
  have e2 := gM_at (l := q) (i := i - 1) (by omega)
  rw [List.getElem?_eq_getElem hi] at e1
  rw [List.getElem?_eq_getElem (show i - 1 < q.length by omega)] at e2
  injection e1 with e1
  injection e2 with e2
  rw [e1, e2] at this
  exact this
theorem nuOf_w {d : Dyadic} (h : d ≠ 0) : (nuOf d).w ≠ [] := by
  rw [nuOf_f]
  exact fun h2 => h (fN_eq_zero.1 ((digs_eq_nil (by decide)).1 h2))
/-- The polynomial of terms whose values fit, of right powers. -/
theorem gathR_ok {n : Nat} {l : List Te} (h1 : 1 ≤ n) (h4 : n ≤ 4) (hl : l.length ≤ 24) (he : ∀ t ∈ l, t.e.length = n ∧ (∀ x ∈ t.e, 0 ≤ x) ∧ t.e.sum ≤ 8) (ho : ∀ y ∈ gathN l l.length, OkD y.v) :
    ∃ q, gathR l = (q, 0) ∧ q = ((gathN l l.length).filter fun t => decide (t.v ≠ 0)).map moT ∧ polyB q (n : Int) = true := by
  unfold gathR
  have e := monoN_ok ho (gathN l l.length).length (Nat.le_refl _)
  rw [List.take_length] at e
  have hs := gathN_sort (n := n) (fun t ht => (he t ht).1) l.length (Nat.le_refl _)
  have ha := gathN_all (P := fun e => (∀ x ∈ e, 0 ≤ x) ∧ e.sum ≤ 8) (fun t ht => (he t ht).2) l.length (Nat.le_refl _)
  have hln := gathN_len l l.length
  generalize gathN l l.length = out at *
  have hq : (((out.filter fun t => decide (t.v ≠ 0)).map moT)).length ≤ 24 := by
    rw [List.length_map]
    exact Nat.le_trans (List.length_filter_le _ _) (by omega)
  refine ⟨_, ?_, rfl, ?_⟩
  · rw [e, if_pos rfl, if_pos hq]
  · unfold polyB
    rw [decide_eq_true (show (1 : Int) ≤ n by omega), decide_eq_true (show (n : Int) ≤ 4 by omega), decide_eq_true hq]
    refine monosB_of (fun m hm => ?_) ?_
    · obtain ⟨t, ht, rfl⟩ := List.mem_map.1 hm
      obtain ⟨ht, h0⟩ := List.mem_filter.1 ht
      have h0 : t.v ≠ 0 := of_decide_eq_true h0
      refine ⟨?_, nuOf_w h0⟩
      unfold monoB moT
      rw [decide_eq_true (show ((t.e.length : Nat) : Int) = n by rw [hs.len t ht]), decide_eq_true (ha t ht).1, decide_eq_true (ha t ht).2, rightB_nuOf, decide_eq_true (ho t ht)]; rfl
    · refine List.Pairwise.map _ (fun a b h => ?_) (List.Pairwise.filter _ (hs.ord.imp_of_mem (S := fun a b => a.e.length = b.e.length ∧ 0 < ordE a.e b.e) fun ha hb h => ⟨by rw [hs.len _ ha, hs.len _ hb], h⟩))
      have := ordE_cmpE h.1
      show cmpE b.e a.e < 0
      omega
end Go.V

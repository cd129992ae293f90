/- Package series over values as data: products of series, monomials of series; the document's products. Package series over values as data: coefficients of polynomials of series. Plain laws of intervals of small numbers: sums, products, what they hold, parts of them; coefficients and sums of series. Series at a point over values as data: package series, the document. Intervals that are points, exactly; the statements' own known series. The seat's deck: boxes of small intervals, points in boxes, boxes in boxes; is a value within an interval? The statement SeriesHolds of layer 14. -/
import Derived.Test.YtklilekbokialaaGreatDoorZI0
set_option linter.unusedSimpArgs false
set_option linter.unusedVariables false
set_option maxRecDepth 100000
namespace Go.V
open Go Go.RowKit Go.Proofs

theorem rS_iv {l : List Iv} {a : Iv} : rS eI l ++ [[bl a.lo.neg, i64 a.lo.exp, W64 a.lo.w, bl a.hi.neg, i64 a.hi.exp, W64 a.hi.w]] = rS eI (l ++ [a]) := by rw [← rS_app]; rfl
def LE (s : List Iv × Int) : D := .tup [.g (eS eI s.1), i64 s.2]
theorem OkS.wf {k : Nat} {s : List Iv × Int} (h : OkS k s) (hk : k ≤ 1000) : WfL s.1 := ⟨by have := h.le; omega, h.wi⟩
theorem timesN_succ {p : Int} {a b : List Iv} {i : Nat} (he : (timesN p a b i).2 = 0) : timesN p a b (i + 1) = if (coefR p a b (i : Nat)).2 = 0 then ((timesN p a b i).1 ++ [(coefR p a b (i : Nat)).1], 0) else ([], (coefR p a b (i : Nat)).2) := by
  conv => lhs; unfold timesN
  rw [if_pos he]

set_option maxHeartbeats 2000000 in
theorem p_times {a b : List Iv} {k : Nat} {p : Int} (ha : WfL a) (hb : WfL b) (hk : k ≤ 1000) : PC Tryz.prog 100 [II a, II b, i64 k, i64 p] fun d => d = LE (timesN p a b (k + 1)) := by
  have pC := fun (i : Nat) => p_Coef (k := (i : Int)) (p := p) ha hb
  generalize hr : timesN p a b (k + 1) = r
  unfold II at *
  refine PB (rs := [.tmp 8, .tmp 9]) Tryz.func100 ?_
  repeat (first | with_reducible refine pv_seq fun K hK => ?_ | ((with_reducible first | refine hK _ _ ?_ | (clear hK; refine hK _ _ ?_) | (clear hK; clear hK; refine hK _ _ ?_)); clear hK; try clear K) | refine W0 ?_ | exact Z | with_reducible intro b)
  have J : ∀ (e : DEnv) (S : Store), r.2 = 0 → RowD S (.l 33) 6 (e 10) (rS eI r.1) → K e S := by
    intro e S h0 hw
    obtain ⟨l, er⟩ := r
    simp only at h0 hw
    subst h0
    repeat (first | with_reducible refine pv_seq fun K hK => ?_ | ((with_reducible first | refine hK _ _ ?_ | (clear hK; refine hK _ _ ?_) | (clear hK; clear hK; refine hK _ _ ?_)); clear hK; try clear K) | refine W0 ?_ | exact Z | with_reducible intro b)
    exact hw.coeD fun S' _ _ => rfl
  clear hK
  refine pv_loop (fun e S => Hid (∃ i : Nat, i ≤ k + 1 ∧ e 0 = .g (eS eI a) ∧ e 1 = .g (eS eI b) ∧ e 3 = i64 p ∧ e 15 = i64 ((k + 1 : Nat) : Int) ∧ e 16 = i64 i ∧ (timesN p a b i).2 = 0 ∧ RowD S (.l 33) 6 (e 10) (rS eI (timesN p a b i).1))) (fun e _ => k + 1 - (intD (e 16)).toNat) ?_ ?_
  · exact ⟨0, Nat.zero_le _, Zr, Zr, Zr, Zr, Zr, rfl, .inl ⟨Zr, rfl⟩⟩
  · rintro e S ⟨i, hi, g0, g1, g3, g15, g16, he, hw⟩
    have ft := And.intro g0 (And.intro g1 (And.intro g3 (And.intro g15 g16)))
    repeat (first | with_reducible refine pv_seq fun K hK => ?_ | ((with_reducible first | refine hK _ _ ?_ | (clear hK; refine hK _ _ ?_) | (clear hK; clear hK; refine hK _ _ ?_)); clear hK; try clear K) | refine W0 ?_ | exact Z | with_reducible intro b)
    refine pv_cdD (fun ht => ?_) (fun ht => ?_)
    · have hil : i < k + 1 := by omega
      have pC := pC i
      have hs := timesN_succ he
      have hst : (timesN p a b (i + 1)).2 ≠ 0 → r = timesN p a b (i + 1) := fun h => by rw [← hr]; exact timesN_stuck h (by omega)
      have hlt : (rS eI (timesN p a b i).1).length ≤ i := by rw [rS_len]; exact timesN_le i
      have hnew := rS_iv (l := (timesN p a b i).1) (a := (coefR p a b (i : Nat)).1)
      generalize coefR p a b (i : Nat) = q at *
      obtain ⟨⟨⟨n1, e1, w1⟩, ⟨n2, e2, w2⟩⟩, eq⟩ := q
      simp only at hs hnew
      by_cases h0 : eq = 0
      · subst h0
        rw [if_pos rfl] at hs
        repeat (first | with_reducible refine pv_seq fun K hK => ?_ | ((with_reducible first | refine hK _ _ ?_ | (clear hK; refine hK _ _ ?_) | (clear hK; clear hK; refine hK _ _ ?_)); clear hK; try clear K) | refine W ?_ | exact Z | with_reducible intro b)
        refine RowD.appL (hw.up (by rfl)) (by decide) rfl (by simp [D.one, W64]) ?_ ?_ fun d' S' hr' hS' => ?_
        · simp only [List.length_singleton]; omega
        · simp only [List.length_singleton]; omega
        repeat (first | with_reducible refine pv_seq fun K hK => ?_ | ((with_reducible first | refine hK _ _ ?_ | (clear hK; refine hK _ _ ?_) | (clear hK; clear hK; refine hK _ _ ?_)); clear hK; try clear K) | refine W0 ?_ | exact Z | with_reducible intro b)
        exact ⟨⟨i + 1, by omega, Zr, Zr, Zr, Zr, Zr, by rw [hs], by rw [hs, ← hnew]; exact hr'⟩, by simp only [intD]; omega⟩
      · rw [if_neg h0] at hs
        have hr1 := (hst (by rw [hs]; exact h0)).trans hs
        subst hr1
        have k1 := eq_false h0
        have ft := And.intro g0 (And.intro g1 (And.intro g3 (And.intro g15 (And.intro g16 k1))))
        exact Wk
    · obtain rfl : i = k + 1 := by omega
      rw [hr] at he hw
      repeat (first | with_reducible refine pv_seq fun K hK => ?_ | ((with_reducible first | refine hK _ _ ?_ | (clear hK; refine hK _ _ ?_) | (clear hK; clear hK; refine hK _ _ ?_)); clear hK; try clear K) | refine W0 ?_ | exact Z | with_reducible intro b)
      exact J _ _ he hw

/-! ### Monomials of series -/
def eL (l : List Iv) : List G := [eS eI l]
def LL (xs : List (List Iv)) : D := .g (eS eL xs)
theorem eL_0 {l : List Iv} : eL l = [eS eI l] := rfl
attribute [go_sem] eL_0
structure WfX (xs : List (List Iv)) : Prop where
  n : xs.length ≤ 100000
  w : ∀ l ∈ xs, WfL l
theorem xget {xs : List (List Iv)} {i : Nat} (h : i < xs.length) : xs[i]? = some (xs.getD i []) := by simp [List.getD, List.getElem?_eq_getElem h]
theorem WfX.at_ {xs : List (List Iv)} (h : WfX xs) {i : Nat} (hi : i < xs.length) : WfL (xs.getD i []) := h.w _ (List.mem_of_getElem? (xget hi))
def z6 : List D := [bl false, i64 0, .nil, bl false, i64 0, .nil]
theorem onS_pure {c : Nu} {k : Nat} : pureLL ((((List.replicate (k + 1) z6).set 0 (cI ⟨c, c⟩)).drop 0).take (k + 1)) = some ((onS c k).1.map eI) := by
  have h1 : ∀ k, pureLL (List.replicate k z6) = some ((List.replicate k iv0).map eI) := by
    intro k
    induction k with
    | zero => rfl
    | succ k ih =>
      rw [List.replicate_succ, List.replicate_succ, List.map_cons]
      show (match pureL z6, pureLL (List.replicate k z6) with | some x, some l => some (x :: l) | _, _ => none) = _
      rw [ih]; rfl
  rw [List.replicate_succ, List.set_cons_zero, List.drop_zero, List.take_of_length_le (by simp)]
  show (match pureL (cI ⟨c, c⟩), pureLL (List.replicate k z6) with | some x, some l => some (x :: l) | _, _ => none) = _
  rw [h1]; rfl
theorem mulS_succ {p : Int} {x : List Iv} {k : Nat} {s : List Iv × Int} {n : Nat} (h : (mulS p x k s n).2 = 0) : mulS p x k s (n + 1) = timesN p (mulS p x k s n).1 x (k + 1) := by
  conv => lhs; unfold mulS
  rw [if_pos h]
set_option maxHeartbeats 4000000 in
theorem p_sOver {m : Mo} {xs : List (List Iv)} {k : Nat} {p : Int} (hm : Wm m) (hx : WfX xs) (hl : m.e.length ≤ xs.length) (h8 : ∀ i, i < m.e.length → m.e.getD i 0 ≤ 8) (hk : k ≤ 1000) : PC Tryz.prog 65 [MO m, LL xs, i64 k, i64 p] fun d => d = LE (overR p xs k m) := by
  have pO := p_OfI (x := m.c) (by have := hm.c.len; omega)
  have hok := onS_ok (k := k) hm.c
  have hn := hm.n
  unfold overR
  obtain ⟨c, z⟩ := m
  simp only at *
  have hpure := onS_pure (c := c) (k := k)
  generalize hr : overN p xs k z (onS c k) z.length = r
  have kt : ((k : Int) + 1).toNat = k + 1 := by omega
  have kz : ∀ z : List D, (List.replicate (k + 1) z)[0]? = some z := fun _ => rfl
  unfold LL
  obtain ⟨n1, e1, w1⟩ := c
  refine PB (rs := [.tmp 8, .tmp 9]) Tryz.func65 ?_
  have ft := And.intro kt kz
  repeat (first | with_reducible refine pv_stop 2 ?_ | with_reducible refine pv_seq fun K hK => ?_ | ((with_reducible first | refine hK _ _ ?_ | (clear hK; refine hK _ _ ?_) | (clear hK; clear hK; refine hK _ _ ?_)); clear hK; try clear K) | refine W ?_ | exact Z | with_reducible intro b)
  refine ⟨fun K q hC => ?_⟩
  repeat (first | with_reducible refine pv_seq fun K hK => ?_ | ((with_reducible first | refine hK _ _ ?_ | (clear hK; refine hK _ _ ?_) | (clear hK; clear hK; refine hK _ _ ?_)); clear hK; try clear K) | refine W ?_ | exact Z | with_reducible intro b)
  refine hC _ _ (Recast.frzSlot 10 (k := .l 17) rfl rfl hpure (by simp) ?_)
  rw [sl_eS]
  refine q _ _ ?_
  clear hC q
  have ft := true_and
  repeat (first | with_reducible refine pv_seq fun K hK => ?_ | ((with_reducible first | refine hK _ _ ?_ | (clear hK; refine hK _ _ ?_) | (clear hK; clear hK; refine hK _ _ ?_)); clear hK; try clear K) | refine W0 ?_ | exact Z | with_reducible intro b)
  have J : ∀ (e : DEnv) (S : Store), r.2 = 0 → e 10 = .g (eS eI r.1) → K e S := by
    intro e S h0 g10
    obtain ⟨l, er⟩ := r
    simp only at h0 g10
    subst h0
    have ft := g10
    exact Wk
  clear hK
  generalize hs0 : onS (⟨n1, e1, w1⟩ : Nu) k = s0 at *
  refine pv_loop (fun e S => Hid (∃ i : Nat, i ≤ z.length ∧ e 1 = .g (eS eL xs) ∧ e 2 = i64 k ∧ e 3 = i64 p ∧ e 24 = .g (eS eZ z) ∧ e 25 = i64 z.length ∧ e 26 = i64 i ∧ (overN p xs k z s0 i).2 = 0 ∧ e 10 = .g (eS eI (overN p xs k z s0 i).1))) (fun e _ => z.length - (intD (e 26)).toNat) ?_ ?_
  · have h0 : s0.2 = 0 := by rw [← hs0]; rfl
    exact ⟨0, Nat.zero_le _, Zr, Zr, Zr, Zr, Zr, Zr, h0, by rw [show overN p xs k z s0 0 = s0 from rfl]; rfl⟩
  · rintro e S ⟨i, hi, g1, g2, g3, g24, g25, g26, he, g10⟩
    have ft := And.intro g1 (And.intro g2 (And.intro g3 (And.intro g24 (And.intro g25 (And.intro g26 g10)))))
    repeat (first | with_reducible refine pv_seq fun K hK => ?_ | ((with_reducible first | refine hK _ _ ?_ | (clear hK; refine hK _ _ ?_) | (clear hK; clear hK; refine hK _ _ ?_)); clear hK; try clear K) | refine W0 ?_ | exact Z | with_reducible intro b)
    refine pv_cdD (fun ht => ?_) (fun ht => ?_)
    · have hil : i < z.length := by omega
      have q1 := zget hil
      have q2 := xget (xs := xs) (i := i) (by omega)
      have hov : overN p xs k z s0 (i + 1) = mulS p (xs.getD i []) k (overN p xs k z s0 i) (z.getD i 0).toNat := rfl
      have hst : (overN p xs k z s0 (i + 1)).2 ≠ 0 → r = overN p xs k z s0 (i + 1) := fun h => by rw [← hr]; exact overN_stuck h (by omega)
      have hokm := fun j => mulS_ok (p := p) (x := xs.getD i []) (overN_ok (p := p) (xs := xs) (e := z) hok i) j
      have hwx := hx.at_ (i := i) (by omega)
      have hy8 := h8 i hil
      generalize overN p xs k z s0 i = t0 at *
      generalize z.getD i 0 = y at *
      generalize xs.getD i [] = l at *
      clear hr J
      have ft := And.intro g1 (And.intro g2 (And.intro g3 (And.intro g24 (And.intro g25 (And.intro g26 (And.intro g10 q1))))))
      repeat (first | with_reducible refine pv_seq fun K hK => ?_ | ((with_reducible first | refine hK _ _ ?_ | (clear hK; refine hK _ _ ?_) | (clear hK; clear hK; refine hK _ _ ?_)); clear hK; try clear K) | refine W0 ?_ | exact Z | with_reducible intro b)
      have hm0 : (intD (e 26)).toNat = i := by rw [g26]; exact Int.toNat_natCast i
      refine pv_loop (fun e T => Hid (∃ j : Nat, j ≤ y.toNat ∧ e 1 = .g (eS eL xs) ∧ e 2 = i64 k ∧ e 3 = i64 p ∧ e 24 = .g (eS eZ z) ∧ e 25 = i64 z.length ∧ e 26 = i64 i ∧ e 11 = i64 i ∧ e 31 = i64 y ∧ e 32 = i64 j ∧ (mulS p l k t0 j).2 = 0 ∧ e 10 = .g (eS eI (mulS p l k t0 j).1))) (fun e _ => y.toNat - (intD (e 32)).toNat) ?_ ?_
      · exact ⟨0, Nat.zero_le _, Zr, Zr, Zr, Zr, Zr, Zr, Zr, Zr, Zr, he, g10⟩
      rintro e T ⟨j, hj, g1, g2, g3, g24, g25, g26, g11, g31, g32, he2, g10⟩
      have ft := And.intro g1 (And.intro g2 (And.intro g3 (And.intro g24 (And.intro g25 (And.intro g26 (And.intro g11 (And.intro g31 (And.intro g32 g10))))))))
      repeat (first | with_reducible refine pv_seq fun K hK => ?_ | ((with_reducible first | refine hK _ _ ?_ | (clear hK; refine hK _ _ ?_) | (clear hK; clear hK; refine hK _ _ ?_)); clear hK; try clear K) | refine W0 ?_ | exact Z | with_reducible intro b)
      refine pv_cdD (fun ht2 => ?_) (fun ht2 => ?_)
      · have hjl : j < y.toNat := by omega
        have pT := p_times (k := k) (p := p) ((hokm j).wf hk) hwx hk
        have hs := mulS_succ he2
        have hst2 : (mulS p l k t0 (j + 1)).2 ≠ 0 → r = mulS p l k t0 (j + 1) := fun h => by
          have := mulS_stuck (n := y.toNat) h (by omega)
          rw [← hov] at this
          rw [← this]
          exact hst (by rw [this]; exact h)
        have her := (hokm (j + 1)).err
        generalize hs1 : mulS p l k t0 (j + 1) = s1 at *
        generalize mulS p l k t0 j = s2 at *
        rw [← hs] at pT
        clear hs hokm hov hst
        obtain ⟨l1, es⟩ := s1
        unfold II LE at pT
        by_cases h0 : es = 0
        · subst h0
          have ft := And.intro g1 (And.intro g2 (And.intro g3 (And.intro g24 (And.intro g25 (And.intro g26 (And.intro g11 (And.intro g31 (And.intro g32 (And.intro g10 q2)))))))))
          repeat (first | with_reducible refine pv_seq fun K hK => ?_ | ((with_reducible first | refine hK _ _ ?_ | (clear hK; refine hK _ _ ?_) | (clear hK; clear hK; refine hK _ _ ?_)); clear hK; try clear K) | refine W ?_ | exact Z | with_reducible intro b)
          exact ⟨⟨j + 1, by omega, Zr, Zr, Zr, Zr, Zr, Zr, Zr, Zr, Zr, by rw [hs1], by rw [hs1]; try exact Zr⟩, by simp only [intD]; omega⟩
        · have k1 := eq_false h0
          have hr1 := hst2 h0
          have hl1 := her h0
          simp only at hl1
          subst hl1
          subst hr1
          have ft := And.intro g1 (And.intro g2 (And.intro g3 (And.intro g24 (And.intro g25 (And.intro g26 (And.intro g11 (And.intro g31 (And.intro g32 (And.intro g10 (And.intro q2 k1))))))))))
          exact Wk
      · obtain rfl : j = y.toNat := by omega
        repeat (first | with_reducible refine pv_seq fun K hK => ?_ | ((with_reducible first | refine hK _ _ ?_ | (clear hK; refine hK _ _ ?_) | (clear hK; clear hK; refine hK _ _ ?_)); clear hK; try clear K) | refine W0 ?_ | exact Z | with_reducible intro b)
        exact ⟨⟨i + 1, by omega, Zr, Zr, Zr, Zr, Zr, Zr, by rw [hov]; exact he2, by rw [hov]; exact g10⟩, by rw [hm0]; simp only [intD]; omega⟩
    · obtain rfl : i = z.length := by omega
      rw [hr] at he g10
      repeat (first | with_reducible refine pv_seq fun K hK => ?_ | ((with_reducible first | refine hK _ _ ?_ | (clear hK; refine hK _ _ ?_) | (clear hK; clear hK; refine hK _ _ ?_)); clear hK; try clear K) | refine W0 ?_ | exact Z | with_reducible intro b)
      exact J _ _ he g10
end Go.V
namespace Go.V
open Go Go.RowKit Go.Proofs
def qT7_29_16 : List (Nat × Nat) := [(0, 1), (1, 0), (2, 0), (3, 0), (4, 1), (5, 0), (6, 3), (7, 0), (8, 0), (9, 0), (10, 3), (11, 0)]
attribute [go_sem] qT7_29_16
theorem Recast.z6 {N : DEnv → Store → Prop} {e : DEnv} {S : Store} {k : Nm} {b : Nat} (hk : S k = some ⟨b, 6, 0, [V.z6]⟩) (h : N e (updS S k (some ⟨b, 6, 0, [cI iv0]⟩))) : Recast N e S := by
  refine Recast.join (Recast.cell (i := 0) (j := 2) (es := V.z6) (d := .nil) (d' := W64 []) hk rfl rfl (fun I H v hv => nil_row hv) ?_)
  refine Recast.cell (i := 0) (j := 5) (es := V.z6.set 2 (W64 [])) (d := .nil) (d' := W64 []) updS_at rfl rfl (fun I H v hv => nil_row hv) ?_
  rw [updS_updS]; exact h
theorem ofN_succ {p : Int} {q : List Mo} {xs : List (List Iv)} {k i : Nat} (h : (ofN p q xs k i).2 = 0) : ofN p q xs k (i + 1) = if (overR p xs k (gM q i)).2 = 0 then addI p (ofN p q xs k i).1 (gI (overR p xs k (gM q i)).1 k) else (iv0, (overR p xs k (gM q i)).2) := by
  conv => lhs; unfold ofN
  rw [if_pos h]
theorem all_no {xs : List (List Iv)} {k i : Nat} (hi : i < xs.length) (h : rightTo (xs.getD i []) k = false) : decide (∀ x ∈ xs, rightTo x k = true) = false :=
  decide_eq_false fun h2 => by rw [h2 _ (List.mem_of_getElem? (xget hi))] at h; cases h
theorem all_yes {xs : List (List Iv)} {k : Nat} (h : ∀ i, i < xs.length → rightTo (xs.getD i []) k = true) : decide (∀ x ∈ xs, rightTo x k = true) = true :=
  decide_eq_true fun x hx => by
    obtain ⟨i, hi⟩ := List.mem_iff_getElem?.1 hx
    have hil : i < xs.length := (List.getElem?_eq_some_iff.1 hi).1
    have := h i hil
    rw [xget hil] at hi
    injection hi with hi; rwa [hi] at this
theorem poly_at {q : List Mo} {n : Int} (h : polyB q n = true) {i : Nat} (hi : i < q.length) : atB q n i := by
  unfold polyB at h
  rw [Bool.and_eq_true] at h
  exact of_decide_eq_true h.2 i hi
theorem poly_len {q : List Mo} {n : Int} (h : polyB q n = true) {i : Nat} (hi : i < q.length) : ((gM q i).e.length : Int) = n := by
  have := (poly_at h hi).1
  unfold monoB at this
  simp only [Bool.and_eq_true, decide_eq_true_eq] at this
  exact this.1.1.1
theorem le_sum : ∀ {l : List Int}, (∀ x ∈ l, 0 ≤ x) → ∀ i, i < l.length → l.getD i 0 ≤ l.sum
  | x :: l, h, 0, _ => by
    have h1 := sum_take_le (l := l) 0 (fun y hy => h y (List.mem_cons_of_mem _ hy))
    simp only [List.take_zero, List.sum_nil] at h1
    show x ≤ x + l.sum
    omega
  | x :: l, h, i + 1, hi => by
    have h1 := le_sum (l := l) (fun y hy => h y (List.mem_cons_of_mem _ hy)) i (by simpa using hi)
    have h2 := h x List.mem_cons_self
    show l.getD i 0 ≤ x + l.sum
    omega
theorem poly_e8 {q : List Mo} {n : Int} (h : polyB q n = true) {i : Nat} (hi : i < q.length) : ∀ j, j < (gM q i).e.length → (gM q i).e.getD j 0 ≤ 8 := fun j hj => by
  have := (poly_at h hi).1
  unfold monoB at this
  simp only [Bool.and_eq_true, decide_eq_true_eq] at this
  have h2 := le_sum this.1.1.2 j hj
  omega
theorem overR_ok {p : Int} {xs : List (List Iv)} {k : Nat} {m : Mo} (h : Wl 65536 m.c) : OkS k (overR p xs k m) := overN_ok (onS_ok h) _

set_option maxHeartbeats 4000000 in
theorem p_sOf {q : List Mo} {xs : List (List Iv)} {k p : Int} (hq : WfM q) (hx : WfX xs) : PC Tryz.prog 29 [MM q, LL xs, i64 k, i64 p] fun d => d = IE (ofR p q xs k) := by
  have pV := p_sValid (k := k) (p := p)
  have pR := p_pRight (n := (xs.length : Int)) hq
  have hxn := hx.n
  have hqn := hq.n
  unfold ofR
  by_cases hv : (okK k && okP p) = true
  · have hv2 := hv
    rw [Bool.and_eq_true] at hv2
    obtain ⟨n, rfl, hn⟩ := okK_nat hv2.1
    rw [hv] at pV
    rw [hv2.1, hv2.2, Bool.true_and, Bool.and_true, Int.toNat_natCast]
    have hlen := fun (h : polyB q (xs.length : Int) = true) (i : Nat) (hi : i < q.length) => (⟨poly_len h hi, poly_e8 h hi⟩ : _ ∧ _)
    generalize polyB q (xs.length : Int) = rq at *
    cases rq
    · unfold LL MM iv0 nu0 at *
      have d1 := @dl 16 qT7_29_16
      refine PB (rs := [.cell 8 28, .tmp 9]) Tryz.func29 ?_
      exact Wk
    · have hlen := hlen rfl
      rw [Bool.true_and]
      generalize hr : (if decide (∀ x ∈ xs, rightTo x n = true) = true then ofN p q xs n q.length else (iv0, 1)) = r
      have hno : ∀ i, i < xs.length → rightTo (xs.getD i []) n = false → r = (iv0, 1) := fun i hi h => by rw [← hr, all_no hi h]; rfl
      have hyes : (∀ i, i < xs.length → rightTo (xs.getD i []) n = true) → ofN p q xs n q.length = r := fun h => by rw [← hr, all_yes h]; rfl
      clear hr
      unfold LL MM at *
      have d1 := @dl 16 qT7_29_16
      refine PB (rs := [.cell 8 28, .tmp 9]) Tryz.func29 ?_
      repeat (first | with_reducible refine pv_seq fun K hK => ?_ | ((with_reducible first | refine hK _ _ ?_ | (clear hK; refine hK _ _ ?_) | (clear hK; clear hK; refine hK _ _ ?_)); clear hK; try clear K) | refine W ?_ | exact Z | with_reducible intro b)
      have J : ∀ (e : DEnv) (S : Store) (b8 : Nat), ofN p q xs n q.length = r → e 0 = .g (eS eM q) → e 1 = .g (eS eL xs) → e 2 = i64 n → e 3 = i64 p → e 8 = .ptr (.l 8) b8 0 0 6 → S (.l 8) = some ⟨b8, 6, 0, [z6]⟩ → K e S := by
        intro e S b8 hr g0 g1 g2 g3 g8 s8
        clear hno hyes
        have ft := And.intro g0 (And.intro g1 (And.intro g2 (And.intro g3 (And.intro g8 s8))))
        repeat (first | with_reducible refine pv_stop 9 ?_ | with_reducible refine pv_seq fun K hK => ?_ | ((with_reducible first | refine hK _ _ ?_ | (clear hK; refine hK _ _ ?_) | (clear hK; clear hK; refine hK _ _ ?_)); clear hK; try clear K) | refine W ?_ | exact Z | with_reducible intro b)
        refine ⟨fun K q0 hC => ?_⟩
        repeat (first | with_reducible refine pv_seq fun K hK => ?_ | ((with_reducible first | refine hK _ _ ?_ | (clear hK; refine hK _ _ ?_) | (clear hK; clear hK; refine hK _ _ ?_)); clear hK; try clear K) | refine W0 ?_ | exact Z | with_reducible intro b)
        refine hC _ _ (Recast.z6 (k := .l 12) rfl ?_)
        refine q0 _ _ ?_
        clear hC q0
        repeat (first | with_reducible refine pv_seq fun K hK => ?_ | ((with_reducible first | refine hK _ _ ?_ | (clear hK; refine hK _ _ ?_) | (clear hK; clear hK; refine hK _ _ ?_)); clear hK; try clear K) | refine W0 ?_ | exact Z | with_reducible intro b)
        have J2 : ∀ (e : DEnv) (S : Store) (b12 : Nat), r.2 = 0 → e 8 = .ptr (.l 8) b8 0 0 6 → e 12 = .ptr (.l 12) b12 0 0 6 → S (.l 8) = some ⟨b8, 6, 0, [z6]⟩ → S (.l 12) = some ⟨b12, 6, 0, [cI r.1]⟩ → K e S := by
          intro e S b12 h0 g8 g12 s8 s12
          obtain ⟨⟨⟨n1, e1, w1⟩, ⟨n2, e2, w2⟩⟩, er⟩ := r
          simp only at h0
          subst h0
          unfold cI at s12
          unfold z6 at s8
          have ft := And.intro g8 (And.intro g12 (And.intro s8 s12))
          exact Wk
        clear hK
        obtain ⟨I, mk, el⟩ := hide fun e S => ∃ (i b12 : Nat), i ≤ q.length ∧ e 1 = .g (eS eL xs) ∧ e 2 = i64 n ∧ e 3 = i64 p ∧ e 8 = .ptr (.l 8) b8 0 0 6 ∧ e 12 = .ptr (.l 12) b12 0 0 6 ∧ e 41 = .g (eS eM q) ∧ e 42 = i64 q.length ∧ e 43 = i64 i ∧ (ofN p q xs n i).2 = 0 ∧ S (.l 8) = some ⟨b8, 6, 0, [z6]⟩ ∧ S (.l 12) = some ⟨b12, 6, 0, [cI (ofN p q xs n i).1]⟩
        refine pv_loop I (fun e _ => q.length - (intD (e 43)).toNat) ?_ ?_
        · exact mk _ _ ⟨0, _, Nat.zero_le _, Zr, Zr, Zr, Zr, Zr, Zr, Zr, Zr, rfl, by simp only [updS_apply]; exact s8, by simp only [updS_apply]; rfl⟩
        · intro e S hI
          obtain ⟨i, b12, hi, g1, g2, g3, g8, g12, g41, g42, g43, he, s8, s12⟩ := el e S hI
          clear el
          have ft := And.intro g1 (And.intro g2 (And.intro g3 (And.intro g8 (And.intro g12 (And.intro g41 (And.intro g42 g43))))))
          repeat (first | with_reducible refine pv_seq fun K hK => ?_ | ((with_reducible first | refine hK _ _ ?_ | (clear hK; refine hK _ _ ?_) | (clear hK; clear hK; refine hK _ _ ?_)); clear hK; try clear K) | refine W0 ?_ | exact Z | with_reducible intro b)
          refine pv_cdD (fun ht => ?_) (fun ht => ?_)
          · have hil : i < q.length := by omega
            have q1 := gM_at hil
            have wm := hq.at_ hil
            have pO := p_sOver (k := n) (p := p) wm hx (by have := (hlen i hil).1; omega) (hlen i hil).2 (by omega)
            have hok := overR_ok (p := p) (xs := xs) (k := n) wm.c
            have hs := ofN_succ he
            have hst : (ofN p q xs n (i + 1)).2 ≠ 0 → r = ofN p q xs n (i + 1) := fun h => by rw [← hr]; exact ofN_stuck h (by omega)
            have he1 := ofN_err (p := p) (q := q) (xs := xs) (k := n) (i + 1)
            have w0 := ofN_wi (p := p) (q := q) (xs := xs) (k := n) i
            have hgoal : ∀ (e : DEnv) (S : Store), e 1 = .g (eS eL xs) → e 2 = i64 n → e 3 = i64 p → e 8 = .ptr (.l 8) b8 0 0 6 → e 12 = .ptr (.l 12) b12 0 0 6 → e 41 = .g (eS eM q) → e 42 = i64 q.length → e 43 = i64 ((i + 1 : Nat) : Int) → (ofN p q xs n (i + 1)).2 = 0 → S (.l 8) = some ⟨b8, 6, 0, [z6]⟩ → S (.l 12) = some ⟨b12, 6, 0, [cI (ofN p q xs n (i + 1)).1]⟩ → I e S :=
              fun e S a1 a2 a3 a4 a5 a6 a7 a8 a9 a10 a11 => mk _ _ ⟨i + 1, b12, by omega, a1, a2, a3, a4, a5, a6, a7, a8, a9, a10, a11⟩
            unfold LE LL at pO
            clear hr J2 hlen hq wm
            generalize ofN p q xs n (i + 1) = t1 at *
            generalize ofN p q xs n i = t0 at *
            generalize gM q i = m at *
            obtain ⟨⟨nm, em, wm⟩, zm⟩ := m
            generalize overR p xs n ⟨⟨nm, em, wm⟩, zm⟩ = s at *
            obtain ⟨l, es⟩ := s
            obtain ⟨t0, e0⟩ := t0
            simp only at hs
            by_cases h0 : es = 0
            · subst h0
              rw [if_pos rfl] at hs
              have hl := hok.len rfl
              simp only at hl
              have hnl : n < l.length := by omega
              have q2 := gI_at (l := l) (i := n) (by omega)
              have pA := p_iAdd (p := p) w0 (hok.wi _ (gI_mem (i := n) (by simp only; omega)))
              change PC _ _ _ fun d => d = IE (addI p t0 (gI l n)) at pA
              rw [← hs] at pA
              generalize gI l n = x at *
              clear hs hok
              obtain ⟨⟨n1, e1, w1⟩, ⟨n2, e2, w2⟩⟩ := x
              obtain ⟨⟨⟨n3, e3, w3⟩, ⟨n4, e4, w4⟩⟩, et⟩ := t1
              obtain ⟨⟨n5, e5, w5⟩, ⟨n6, e6, w6⟩⟩ := t0
              unfold cI at *
              simp only at s12 hgoal hst he1
              by_cases h1 : et = 0
              · subst h1
                have ft := And.intro g1 (And.intro g2 (And.intro g3 (And.intro g8 (And.intro g12 (And.intro g41 (And.intro g42 (And.intro g43 (And.intro q1 (And.intro q2 s12)))))))))
                repeat (first | with_reducible refine pv_seq fun K hK => ?_ | ((with_reducible first | refine hK _ _ ?_ | (clear hK; refine hK _ _ ?_) | (clear hK; clear hK; refine hK _ _ ?_)); clear hK; try clear K) | refine W ?_ | exact Z | with_reducible intro b)
                exact ⟨hgoal _ _ Zr Zr Zr Zr Zr Zr Zr Zr rfl (by simp only [updS_apply]; exact s8) Zr, by simp only [intD]; omega⟩
              · have k1 := eq_false h1
                have hr1 := hst h1
                have hr2 := he1 h1
                subst hr1
                unfold iv0 nu0 at hr2
                injection hr2 with z1 z2
                injection z1 with z3 z4 z5
                injection z2 with z6 z7 z8
                subst z3; subst z4; subst z5; subst z6; subst z7; subst z8
                unfold V.z6 at s8
                have ft := And.intro g1 (And.intro g2 (And.intro g3 (And.intro g8 (And.intro g12 (And.intro g41 (And.intro g42 (And.intro g43 (And.intro q1 (And.intro q2 (And.intro s12 (And.intro s8 k1)))))))))))
                exact Wk
            · rw [if_neg h0] at hs
              subst hs
              have k1 := eq_false h0
              have hr1 := hst h0
              subst hr1
              unfold z6 at s8
              unfold iv0 nu0 at *
              have ft := And.intro g1 (And.intro g2 (And.intro g3 (And.intro g8 (And.intro g12 (And.intro g41 (And.intro g42 (And.intro g43 (And.intro q1 (And.intro s12 (And.intro s8 k1))))))))))
              exact Wk
          · obtain rfl : i = q.length := by omega
            rw [hr] at he s12
            repeat (first | with_reducible refine pv_seq fun K hK => ?_ | ((with_reducible first | refine hK _ _ ?_ | (clear hK; refine hK _ _ ?_) | (clear hK; clear hK; refine hK _ _ ?_)); clear hK; try clear K) | refine W0 ?_ | exact Z | with_reducible intro b)
            exact J2 _ _ b12 he g8 Zr s8 s12
      clear hK
      refine pv_loop (fun e S => Hid (∃ (i b8 : Nat), i ≤ xs.length ∧ e 0 = .g (eS eM q) ∧ e 1 = .g (eS eL xs) ∧ e 2 = i64 n ∧ e 3 = i64 p ∧ e 8 = .ptr (.l 8) b8 0 0 6 ∧ e 29 = .g (eS eL xs) ∧ e 30 = i64 xs.length ∧ e 31 = i64 i ∧ (∀ j, j < i → rightTo (xs.getD j []) n = true) ∧ S (.l 8) = some ⟨b8, 6, 0, [z6]⟩)) (fun e _ => xs.length - (intD (e 31)).toNat) ?_ ?_
      · exact ⟨0, _, Nat.zero_le _, Zr, Zr, Zr, Zr, Zr, Zr, Zr, Zr, fun j hj => by omega, by simp only [updS_apply]; rfl⟩
      · rintro e S ⟨i, b8, hi, g0, g1, g2, g3, g8, g29, g30, g31, hz, s8⟩
        have ft := And.intro g0 (And.intro g1 (And.intro g2 (And.intro g3 (And.intro g8 (And.intro g29 (And.intro g30 g31))))))
        repeat (first | with_reducible refine pv_seq fun K hK => ?_ | ((with_reducible first | refine hK _ _ ?_ | (clear hK; refine hK _ _ ?_) | (clear hK; clear hK; refine hK _ _ ?_)); clear hK; try clear K) | refine W0 ?_ | exact Z | with_reducible intro b)
        refine pv_cdD (fun ht => ?_) (fun ht => ?_)
        · have hil : i < xs.length := by omega
          have q1 := xget hil
          have pT := p_sRight (k := n) (hx.at_ hil) (by omega)
          have hno := hno i hil
          have hz2 : rightTo (xs.getD i []) n = true → ∀ j, j < i + 1 → rightTo (xs.getD j []) n = true := fun h j hj => by
            rcases Nat.lt_or_ge j i with h1 | h1
            · exact hz j h1
            · obtain rfl : j = i := by omega
              exact h
          generalize rightTo (xs.getD i []) n = t at *
          generalize xs.getD i [] = l at *
          unfold II at pT
          cases t
          · have h := hno rfl
            subst h
            unfold iv0 nu0 at *
            unfold z6 at s8
            have ft := And.intro g0 (And.intro g1 (And.intro g2 (And.intro g3 (And.intro g8 (And.intro g29 (And.intro g30 (And.intro g31 (And.intro q1 s8))))))))
            exact Wk
          · have ft := And.intro g0 (And.intro g1 (And.intro g2 (And.intro g3 (And.intro g8 (And.intro g29 (And.intro g30 (And.intro g31 q1)))))))
            repeat (first | with_reducible refine pv_seq fun K hK => ?_ | ((with_reducible first | refine hK _ _ ?_ | (clear hK; refine hK _ _ ?_) | (clear hK; clear hK; refine hK _ _ ?_)); clear hK; try clear K) | refine W ?_ | exact Z | with_reducible intro b)
            exact ⟨⟨i + 1, b8, by omega, Zr, Zr, Zr, Zr, Zr, Zr, Zr, Zr, hz2 rfl, s8⟩, by simp only [intD]; omega⟩
        · obtain rfl : i = xs.length := by omega
          repeat (first | with_reducible refine pv_seq fun K hK => ?_ | ((with_reducible first | refine hK _ _ ?_ | (clear hK; refine hK _ _ ?_) | (clear hK; clear hK; refine hK _ _ ?_)); clear hK; try clear K) | refine W0 ?_ | exact Z | with_reducible intro b)
          exact J _ _ b8 (hyes hz) Zr Zr Zr Zr Zr s8
  · rw [Bool.not_eq_true] at hv
    rw [hv] at pV
    have : (okK k && polyB q (xs.length : Int) && okP p && decide (∀ x ∈ xs, rightTo x k.toNat = true)) = false := by
      rw [Bool.and_eq_false_iff] at hv
      rcases hv with h | h
      · rw [h]; rfl
      · rw [h, Bool.and_false]; rfl
    rw [this]
    unfold LL MM iv0 nu0 at *
    have d1 := @dl 16 qT7_29_16
    refine PB (rs := [.cell 8 28, .tmp 9]) Tryz.func29 ?_
    exact Wk
end Go.V
namespace Go.V
open Go Go.RowKit Go.Proofs

theorem Sm.lift {k q : Nat} {v : Dyadic} (h : Sm k q v) (d : Nat) : Sm (k + d) (q + d) v := by
  obtain ⟨z, rfl, hz⟩ := h
  refine ⟨z * 2 ^ d, (owp_shl z q d).symm, ?_⟩
  rw [Int.natAbs_mul, Int.natAbs_pow, Nat.pow_add]
  exact Nat.mul_lt_mul_of_pos_right hz (Nat.two_pow_pos d)
/-- An interval of right numbers. -/
def OkV (a : Iv) : Prop := ∃ x y, a = ivD x y ∧ OkD x ∧ OkD y ∧ x ≤ y
theorem OkV.ok {a : Iv} (h : OkV a) : Wi 65536 a ∧ rightI a = true := by
  obtain ⟨x, y, rfl, ox, oy, h⟩ := h
  exact ⟨wi_D ox oy, by rw [rightI_D ox oy]; exact decide_eq_true h⟩
/-- An interval of small numbers. -/
def SmV (k q : Nat) (a : Iv) : Prop := ∃ x y, a = ivD x y ∧ Sm k q x ∧ Sm k q y ∧ x ≤ y
theorem SmV.v {k q : Nat} {a : Iv} (h : SmV k q a) (hk : k ≤ 4000) (hq : q ≤ 4000) : OkV a := by
  obtain ⟨x, y, rfl, hx, hy, h⟩ := h
  exact ⟨x, y, rfl, (hx.bx).ok (by omega) (by omega), (hy.bx).ok (by omega) (by omega), h⟩
theorem SmV.mono {k q m : Nat} {a : Iv} (h : SmV k q a) (hm : k ≤ m) : SmV m q a := by
  obtain ⟨x, y, rfl, hx, hy, h⟩ := h
  exact ⟨x, y, rfl, hx.mono hm, hy.mono hm, h⟩
theorem SmV.lift {k q : Nat} {a : Iv} (h : SmV k q a) (d : Nat) : SmV (k + d) (q + d) a := by
  obtain ⟨x, y, rfl, hx, hy, h⟩ := h
  exact ⟨x, y, rfl, hx.lift d, hy.lift d, h⟩
theorem SmV.zero {k q : Nat} : SmV k q iv0 := ⟨0, 0, by unfold ivD; rw [nuOf_zero]; rfl, Sm.zero, Sm.zero, by grind⟩
/-- Does it hold a number? Is it in another one? -/
def hasV (a : Iv) (t : Dyadic) : Prop := a.lo.val ≤ t ∧ t ≤ a.hi.val
def addV (p : Nat) (a b : Iv) : Iv := ivD (rd p false (a.lo.val + b.lo.val)) (rd p true (a.hi.val + b.hi.val))
def mulV (p : Nat) (a b : Iv) : Iv := ivD (rd p false (minP a.lo.val a.hi.val b.lo.val b.hi.val)) (rd p true (maxP a.lo.val a.hi.val b.lo.val b.hi.val))

theorem rd_le_rd {p : Nat} {l h : Dyadic} (hl : l ≤ h) : rd p false l ≤ rd p true h := Dyadic.le_trans (dn_le p l) (Dyadic.le_trans hl (le_up p h))
theorem minP_le_maxP {x y u v : Dyadic} (h : x ≤ y) (k : u ≤ v) : minP x y u v ≤ maxP x y u v := by
  have := prod_in (x := x) (y := y) (u := u) (v := v) (a := x) (b := u) (by grind) h (by grind) k
  exact Dyadic.le_trans this.1 this.2
theorem addV_sm {p k q : Nat} {a b : Iv} (ha : SmV k q a) (hb : SmV k q b) (h8 : 8 ≤ p) (h256 : p ≤ 256) (hk : k ≤ 1500) (hq : q ≤ 1500) : addI p a b = (addV p a b, 0) ∧ SmV (k + 2) q (addV p a b) := by
  obtain ⟨x, y, rfl, hx, hy, hxy⟩ := ha
  obtain ⟨u, v, rfl, hu, hv, huv⟩ := hb
  have ok : ∀ {d : Dyadic}, Sm k q d → OkD d := fun h => (h.bx).ok (by omega) (by omega)
  unfold addI addV
  rw [ivD_l, ivD_h, ivD_l, ivD_h]
  refine ⟨opI_ok (ok hx) (ok hy) (ok hu) (ok hv) hxy huv h8 h256 ((hx.add hu).rdOk (by omega) (by omega) h8 h256) ((hy.add hv).rdOk (by omega) (by omega) h8 h256), _, _, rfl, (hx.add hu).rd, (hy.add hv).rd, rd_le_rd (by grind)⟩
theorem mulV_sm {p k q m r : Nat} {a b : Iv} (ha : SmV k q a) (hb : SmV m r b) (h8 : 8 ≤ p) (h256 : p ≤ 256) (hk : k + m ≤ 1500) (hq : q + r ≤ 1500) : mulI p a b = (mulV p a b, 0) ∧ SmV (k + m + 1) (q + r) (mulV p a b) := by
  obtain ⟨x, y, rfl, hx, hy, hxy⟩ := ha
  obtain ⟨u, v, rfl, hu, hv, huv⟩ := hb
  have ok : ∀ {d : Dyadic}, Sm k q d → OkD d := fun h => (h.bx).ok (by omega) (by omega)
  have ok2 : ∀ {d : Dyadic}, Sm m r d → OkD d := fun h => (h.bx).ok (by omega) (by omega)
  unfold mulI mulV
  rw [ivD_l, ivD_h, ivD_l, ivD_h]
  have sl := minP_sm hx hy hu hv
  have sh := maxP_sm hx hy hu hv
  refine ⟨opI_ok (ok hx) (ok hy) (ok2 hu) (ok2 hv) hxy huv h8 h256 (sl.rdOk (by omega) (by omega) h8 h256) (sh.rdOk (by omega) (by omega) h8 h256), _, _, rfl, sl.rd, sh.rd, rd_le_rd (minP_le_maxP hxy huv)⟩
theorem addV_has {p : Nat} {a b : Iv} {t s : Dyadic} (ha : hasV a t) (hb : hasV b s) : hasV (addV p a b) (t + s) := by
  unfold hasV addV at *
  rw [ivD_l, ivD_h]
  exact ⟨Dyadic.le_trans (dn_le p _) (by grind), Dyadic.le_trans (by grind) (le_up p _)⟩
theorem mulV_has {p : Nat} {a b : Iv} {t s : Dyadic} (ha : hasV a t) (hb : hasV b s) : hasV (mulV p a b) (t * s) := by
  unfold hasV mulV at *
  rw [ivD_l, ivD_h]
  have := prod_in ha.1 ha.2 hb.1 hb.2
  exact ⟨Dyadic.le_trans (dn_le p _) this.1, Dyadic.le_trans this.2 (le_up p _)⟩
/-! ### Coefficients of products -/
def coefV (p : Nat) (a b : List Iv) (k : Nat) : Nat → Iv
  | 0 => iv0
  | i + 1 => if i = 0 then mulV p (gI a i) (gI b (k - i)) else addV p (coefV p a b k i) (mulV p (gI a i) (gI b (k - i)))
def SmL (k q n : Nat) (l : List Iv) : Prop := ∀ i, i < n → SmV k q (gI l i)
theorem coefV_is {p k q m r n : Nat} {a b : List Iv} (ha : SmL k q (n + 1) a) (hb : SmL m r (n + 1) b) (h8 : 8 ≤ p) (h256 : p ≤ 256) (hk : k + m + 2 * n ≤ 1400) (hq : q + r ≤ 1400) :
    ∀ i, i ≤ n + 1 → coefN p a b n i = (coefV p a b n i, 0) ∧ SmV (k + m + 1 + 2 * i) (q + r) (coefV p a b n i)
  | 0 => fun _ => ⟨rfl, SmV.zero⟩
  | i + 1 => fun hi => by
    obtain ⟨e, s⟩ := coefV_is ha hb h8 h256 hk hq i (by omega)
    obtain ⟨e1, s1⟩ := mulV_sm (ha i (by omega)) (hb (n - i) (by omega)) h8 h256 (by omega) (by omega)
    unfold coefN coefV
    rw [e, e1]
    by_cases h0 : i = 0
    · rw [if_pos rfl, if_pos rfl, if_pos h0, if_pos h0]
      exact ⟨rfl, s1.mono (by omega)⟩
    · rw [if_pos rfl, if_pos rfl, if_neg h0, if_neg h0]
      obtain ⟨e2, s2⟩ := addV_sm s (s1.mono (show k + m + 1 ≤ k + m + 1 + 2 * i by omega)) h8 h256 (by omega) (by omega)
      exact ⟨e2, s2.mono (by omega)⟩
/-- Sums of exact values. -/
def sumD (f : Nat → Dyadic) : Nat → Dyadic
  | 0 => 0
  | n + 1 => sumD f n + f n
theorem sumD_head (f : Nat → Dyadic) : ∀ n, sumD f (n + 1) = f 0 + sumD (fun i => f (i + 1)) n
  | 0 => by show (0 : Dyadic) + f 0 = f 0 + 0; grind
  | n + 1 => by
    have := sumD_head f n
    show sumD f (n + 1) + f (n + 1) = f 0 + (sumD (fun i => f (i + 1)) n + f (n + 1))
    rw [this]; grind
theorem sumD_congr {f g : Nat → Dyadic} : ∀ n, (∀ i, i < n → f i = g i) → sumD f n = sumD g n
  | 0 => fun _ => rfl
  | n + 1 => fun h => by
    show sumD f n + f n = sumD g n + g n
    rw [sumD_congr n (fun i hi => h i (by omega)), h n (by omega)]
theorem sumD_mul (f : Nat → Dyadic) (t : Dyadic) : ∀ n, sumD f n * t = sumD (fun i => f i * t) n
  | 0 => by show (0 : Dyadic) * t = 0; grind
  | n + 1 => by
    have := sumD_mul f t n
    show (sumD f n + f n) * t = sumD (fun i => f i * t) n + f n * t
    rw [← this]; grind
theorem coefV_has {p n : Nat} {a b : List Iv} {x y : Nat → Dyadic} (ha : ∀ i, i < n + 1 → hasV (gI a i) (x i)) (hb : ∀ i, i < n + 1 → hasV (gI b i) (y i)) : ∀ i, i ≤ n + 1 → hasV (coefV p a b n i) (sumD (fun i => x i * y (n - i)) i)
  | 0 => fun _ => by
    show hasV iv0 0
    unfold hasV
    rw [show iv0.lo.val = 0 from rfl, show iv0.hi.val = 0 from rfl]
    exact ⟨Dyadic.le_refl _, Dyadic.le_refl _⟩
  | i + 1 => fun hi => by
    have h1 := coefV_has (p := p) ha hb i (by omega)
    have h2 := mulV_has (p := p) (ha i (by omega)) (hb (n - i) (by omega))
    unfold coefV
    by_cases h0 : i = 0
    · rw [if_pos h0]
      subst h0
      show hasV _ (0 + x 0 * y (n - 0))
      rw [show (0 : Dyadic) + x 0 * y (n - 0) = x 0 * y (n - 0) by grind]
      exact h2
    · rw [if_neg h0]
      exact addV_has h1 h2
theorem rightTo_sm {k q n : Nat} {l : List Iv} (h : SmL k q (n + 1) l) (hl : n < l.length) (hk : k ≤ 4000) (hq : q ≤ 4000) : rightTo l n = true := by
  unfold rightTo
  rw [decide_eq_true hl, Bool.true_and]
  exact decide_eq_true fun i hi => ((h i hi).v hk hq).ok.2
theorem coefR_sm {p k q m r n : Nat} {a b : List Iv} (ha : SmL k q (n + 1) a) (hb : SmL m r (n + 1) b) (la : n < a.length) (lb : n < b.length) (h8 : 8 ≤ p) (h256 : p ≤ 256) (hk : k + m + 2 * n ≤ 1400) (hq : q + r ≤ 1400) (hn : n ≤ 10) :
    coefR p a b (n : Nat) = (coefV p a b n (n + 1), 0) ∧ SmV (k + m + 3 + 2 * n) (q + r) (coefV p a b n (n + 1)) := by
  obtain ⟨e, s⟩ := coefV_is ha hb h8 h256 hk hq (n + 1) (Nat.le_refl _)
  refine ⟨?_, s.mono (by omega)⟩
  unfold coefR okK
  rw [Int.toNat_natCast, rightTo_sm ha la (by omega) (by omega), rightTo_sm hb lb (by omega) (by omega), okP_of h8 h256, decide_eq_true (by omega), decide_eq_true (by omega)]
  exact e

/-! ### Sums -/
def sumV (p : Nat) (a : List Iv) (h : Iv) : Nat → Iv
  | 0 => gI a (a.length - 1)
  | i + 1 => addV p (mulV p (sumV p a h i) h) (gI a (a.length - 2 - i))
theorem sumV_is {p k q m r : Nat} {a : List Iv} {h : Iv} (ha : SmL k q a.length a) (hh : SmV m r h) (h8 : 8 ≤ p) (h256 : p ≤ 256) (hl : 1 ≤ a.length) (hk : k + (m + r + 3) * a.length ≤ 1400) (hq : q + r * a.length ≤ 1400) :
    ∀ i, i < a.length → sumN p a h i = (sumV p a h i, 0) ∧ SmV (k + (m + r + 3) * i) (q + r * i) (sumV p a h i)
  | 0 => fun _ => ⟨rfl, ha _ (by omega)⟩
  | i + 1 => fun hi => by
    have c1 : (m + r + 3) * (i + 1) ≤ (m + r + 3) * a.length := Nat.mul_le_mul_left _ (by omega)
    have c2 : r * (i + 1) ≤ r * a.length := Nat.mul_le_mul_left _ (by omega)
    have c3 : (m + r + 3) * (i + 1) = (m + r + 3) * i + (m + r + 3) := by rw [Nat.mul_add, Nat.mul_one]
    have c4 : r * (i + 1) = r * i + r := by rw [Nat.mul_add, Nat.mul_one]
    have c5 : r * i ≤ (m + r + 3) * i := Nat.mul_le_mul_right _ (by omega)
    obtain ⟨e, s⟩ := sumV_is ha hh h8 h256 hl hk hq i (by omega)
    obtain ⟨e1, s1⟩ := mulV_sm s hh h8 h256 (by omega) (by omega)
    have s2 := (ha (a.length - 2 - i) (by omega)).lift (r * i + r)
    obtain ⟨e3, s3⟩ := addV_sm (s1.mono (m := k + (m + r + 3) * i + m + r + 1) (by omega)) (show SmV _ (q + r * i + r) _ by rw [show q + r * i + r = q + (r * i + r) by omega]; exact s2.mono (m := k + (m + r + 3) * i + m + r + 1) (by omega)) h8 h256 (by omega) (by omega)
    unfold sumN sumV
    rw [e, if_pos rfl, e1, if_pos rfl]
    refine ⟨e3, ?_⟩
    rw [c4, ← Nat.add_assoc]
    exact s3.mono (by omega)
theorem sumV_has {p : Nat} {a : List Iv} {h : Iv} {x : Nat → Dyadic} {t : Dyadic} (ha : ∀ i, i < a.length → hasV (gI a i) (x i)) (hh : hasV h t) : ∀ i, i < a.length → hasV (sumV p a h i) (sumD (fun j => x (a.length - 1 - i + j) * powD t j) (i + 1))
  | 0 => fun hi => by
    show hasV _ (0 + x (a.length - 1 - 0 + 0) * 1)
    rw [show (0 : Dyadic) + x (a.length - 1 - 0 + 0) * 1 = x (a.length - 1) by simp only [Nat.sub_zero, Nat.add_zero]; grind]
    exact ha _ (by omega)
  | i + 1 => fun hi => by
    have h1 := sumV_has (p := p) ha hh i (by omega)
    have h2 := addV_has (p := p) (mulV_has (p := p) h1 hh) (ha (a.length - 2 - i) (by omega))
    have e : sumD (fun j => x (a.length - 1 - (i + 1) + j) * powD t j) (i + 1 + 1) = sumD (fun j => x (a.length - 1 - i + j) * powD t j) (i + 1) * t + x (a.length - 2 - i) := by
      rw [sumD_head, sumD_mul]
      rw [sumD_congr (f := fun j => x (a.length - 1 - (i + 1) + (j + 1)) * powD t (j + 1)) (g := fun j => x (a.length - 1 - i + j) * powD t j * t) (i + 1) (fun j hj => by
        rw [show a.length - 1 - (i + 1) + (j + 1) = a.length - 1 - i + j by omega]
        show x _ * (powD t j * t) = x _ * powD t j * t
        grind)]
      rw [show a.length - 1 - (i + 1) + 0 = a.length - 2 - i by omega]
      show x (a.length - 2 - i) * 1 + _ = _
      grind
    rw [e]
    exact h2
theorem sumR_sm {p k q m r : Nat} {a : List Iv} {h : Iv} (ha : SmL k q a.length a) (hh : SmV m r h) (h8 : 8 ≤ p) (h256 : p ≤ 256) (hl : 1 ≤ a.length) (hl2 : a.length ≤ 11) (hk : k + (m + r + 3) * a.length ≤ 1400) (hq : q + r * a.length ≤ 1400) (hm : m ≤ 4000) (hr : r ≤ 4000) :
    sumR p a h = (sumV p a h (a.length - 1), 0) ∧ SmV (k + (m + r + 3) * (a.length - 1)) (q + r * (a.length - 1)) (sumV p a h (a.length - 1)) := by
  obtain ⟨e, s⟩ := sumV_is ha hh h8 h256 hl hk hq (a.length - 1) (by omega)
  refine ⟨?_, s⟩
  unfold sumR
  rw [rightTo_sm (n := a.length - 1) (k := k) (q := q) (by rw [show a.length - 1 + 1 = a.length by omega]; exact ha) (by omega) (by omega) (by omega), (hh.v hm hr).ok.2, okP_of h8 h256, decide_eq_true hl, decide_eq_true hl2]
  exact e
end Go.V
namespace Go.V
open Go Go.RowKit Go.Proofs
def qT10_20_5 : PT := (.lin [(0, 0), (1, 0), (2, 0), (3, 0), (4, 0), (5, 2), (6, 0), (7, 0), (8, 0), (9, 0), (10, 0), (11, 2)] (.fork 12 3 (.lin [(13, 0), (14, 0), (15, 0), (16, 4), (17, 3), (18, 0)] .nil) 16 4 (.lin [(12, 3), (13, 0), (14, 0), (15, 0), (17, 3), (18, 0)] .nil)))
def qT10_20_9 : List (Nat × Nat) := [(0, 0), (1, 1), (2, 0), (3, 0), (4, 0), (5, 1), (6, 3), (7, 0), (8, 0), (9, 0), (10, 3), (11, 0)]
attribute [go_sem] qT10_20_5 qT10_20_9
def plusR (p : Int) (v h x : Iv) : Iv × Int := if (mulI p v h).2 = 0 then addI p (mulI p v h).1 x else mulI p v h
theorem sumN_succ {p : Int} {a : List Iv} {h : Iv} {i : Nat} (he : (sumN p a h i).2 = 0) : sumN p a h (i + 1) = plusR p (sumN p a h i).1 h (gI a (a.length - 2 - i)) := by
  conv => lhs; unfold sumN
  rw [if_pos he]; rfl
set_option maxHeartbeats 1000000 in
theorem p_Sum1 {S : Store} {Q : D → Store → Prop} {k1 k2 : Nm} {b1 b2 : Nat} {v x h : Iv} {p : Int} (h1 : S k1 = some ⟨b1, 6, 0, [cI h]⟩) (h2 : S k2 = some ⟨b2, 1, 0, [[i64 p]]⟩) (hv : Wi 65536 v) (hx : Wi 65536 x) (hh : Wi 65536 h)
    (hQ : Q (IE (plusR p v h x)) S) : PFC Tryz.prog 51 [IV v, IV x, .ptr k1 b1 0 0 6, .ptr k2 b2 0 0 1] S Q := by
  have pM : PC Tryz.prog 48 [IV v, IV h, i64 p] fun d => d = IE (mulI p v h) := p_iMul hv hh
  have pA : PC Tryz.prog 49 [IV (mulI p v h).1, IV x, i64 p] fun d => d = IE (addI p (mulI p v h).1 x) := p_iAdd opI_wi hx
  have he : (mulI p v h).2 ≠ 0 → (mulI p v h).1 = iv0 := opI_err
  unfold plusR at hQ
  generalize mulI p v h = m at *
  obtain ⟨⟨⟨n1, e1, w1⟩, ⟨n2, e2, w2⟩⟩, em⟩ := m
  obtain ⟨⟨n3, e3, w3⟩, ⟨n4, e4, w4⟩⟩ := v
  obtain ⟨⟨n5, e5, w5⟩, ⟨n6, e6, w6⟩⟩ := x
  obtain ⟨⟨n7, e7, w7⟩, ⟨n8, e8, w8⟩⟩ := h
  unfold cI at h1
  simp only at *
  by_cases h0 : em = 0
  · subst h0
    rw [if_pos rfl] at hQ
    generalize addI p _ _ = q at *
    obtain ⟨⟨⟨n9, e9, w9⟩, ⟨n10, e10, w10⟩⟩, eq⟩ := q
    refine PFB (rs := [.cell 6 28, .tmp 7]) Tryz.func51 ?_
    have ft := And.intro h1 h2
    repeat (first | with_reducible refine pv_seq fun K hK => ?_ | ((with_reducible first | refine hK _ _ ?_ | (clear hK; refine hK _ _ ?_) | (clear hK; clear hK; refine hK _ _ ?_)); clear hK; try clear K) | refine W ?_ | exact Z | with_reducible intro b)
    exact hQ
  · rw [if_neg h0] at hQ
    have k1 := eq_false h0
    have h3 := he h0
    rw [h3] at hQ
    unfold iv0 nu0 at hQ
    refine PFB (rs := [.cell 6 28, .tmp 7]) Tryz.func51 ?_
    have ft := And.intro h1 (And.intro h2 k1)
    repeat (first | with_reducible refine pv_seq fun K hK => ?_ | ((with_reducible first | refine hK _ _ ?_ | (clear hK; refine hK _ _ ?_) | (clear hK; clear hK; refine hK _ _ ?_)); clear hK; try clear K) | refine W ?_ | exact Z | with_reducible intro b)
    exact hQ

theorem sumR_no {p : Int} {a : List Iv} {h : Iv} (hc : ¬ (1 ≤ a.length ∧ a.length ≤ 11)) : sumR p a h = (iv0, 1) := by
  unfold sumR
  by_cases h1 : 1 ≤ a.length
  · rw [decide_eq_false (p := a.length ≤ 11) (fun h2 => hc ⟨h1, h2⟩), Bool.and_false]; rfl
  · rw [decide_eq_false h1]; rfl
/-- What stays in sight in the loop. -/
structure Sum14 (a : List Iv) (h : Iv) (p : Int) (b4 b5 b6 b10 : Nat) (y z : List D) (e : DEnv) (S : Store) : Prop where
  g0 : e 0 = .g (eS eI a)
  g6 : e 6 = .ptr (.l 6) b6 0 0 6
  g9 : e 9 = .fn 51 [] [.ptr (.l 4) b4 0 0 6, .ptr (.l 5) b5 0 0 1]
  g10 : e 10 = .ptr (.l 10) b10 0 0 6
  s4 : S (.l 4) = some ⟨b4, 6, 0, [cI h]⟩
  s5 : S (.l 5) = some ⟨b5, 1, 0, [[i64 p]]⟩
  s6 : S (.l 6) = some ⟨b6, 6, 0, [y]⟩
  s10 : S (.l 10) = some ⟨b10, 6, 0, [z]⟩
set_option maxHeartbeats 4000000 in
theorem p_sSum {a : List Iv} {h : Iv} {p : Int} (ha : WfL a) (hh : Wi 65536 h) : PC Tryz.prog 20 [II a, IV h, i64 p] fun d => d = IE (sumR p a h) := by
  by_cases hc : 1 ≤ a.length ∧ a.length ≤ 11
  · obtain ⟨hc1, hc2⟩ := hc
    obtain ⟨n, hn⟩ : ∃ n, a.length = n + 1 := ⟨a.length - 1, by omega⟩
    have k1 : ((a.length : Int) < 1) = False := eq_false (by omega)
    have k2 : ((11 : Int) < (a.length : Int)) = False := eq_false (by omega)
    have k3 : ((a.length : Int) - 1) = (n : Int) := by omega
    have pR := p_sRight (k := n) ha (by omega)
    have pH := p_iRight hh
    have pV := p_Valid (p := p)
    unfold sumR
    rw [decide_eq_true hc1, decide_eq_true hc2, Bool.true_and, Bool.true_and, show a.length - 1 = n by omega]
    have hrt : rightTo a n = true → rightI (gI a n) = true := fun h => by
      unfold rightTo at h
      rw [Bool.and_eq_true, decide_eq_true_eq, decide_eq_true_eq] at h
      exact h.2 n (by omega)
    have wan := ha.at_ n
    generalize rightTo a n = r1 at *
    generalize rightI h = r2 at *
    generalize okP p = r3 at *
    have hgi := gI_at (l := a) (i := n) (by omega)
    have h0 : sumN p a h 0 = (gI a n, 0) := by
      unfold sumN; rw [hn]; rfl
    generalize hr : sumN p a h n = r at *
    obtain ⟨⟨n7, e7, w7⟩, ⟨n8, e8, w8⟩⟩ := h
    unfold II at *
    cases r1
    · unfold iv0 nu0 at *
      have d1 := @dr 5 qT10_20_5
      have d2 := @dl 9 qT10_20_9
      refine PB (rs := [.cell 6 28, .tmp 7]) Tryz.func20 ?_
      have ft := And.intro k1 (And.intro k2 k3)
      exact Wk
    · cases r2
      · unfold iv0 nu0 at *
        have d1 := @dr 5 qT10_20_5
        have d2 := @dl 9 qT10_20_9
        refine PB (rs := [.cell 6 28, .tmp 7]) Tryz.func20 ?_
        have ft := And.intro k1 (And.intro k2 k3)
        exact Wk
      · cases r3
        · unfold iv0 nu0 at *
          have d1 := @dr 5 qT10_20_5
          have d2 := @dl 9 qT10_20_9
          refine PB (rs := [.cell 6 28, .tmp 7]) Tryz.func20 ?_
          have ft := And.intro k1 (And.intro k2 k3)
          exact Wk
        · have pM := p_MakeI (x := (gI a n).lo) (y := (gI a n).hi) wan (by decide)
          have hri := hrt rfl
          unfold makeR at pM
          rw [show (⟨(gI a n).lo, (gI a n).hi⟩ : Iv) = gI a n from rfl, hri, if_pos rfl] at pM
          rw [Bool.and_self, Bool.and_self, if_pos rfl]
          clear hrt hri
          generalize hgn : gI a n = ga at *
          obtain ⟨⟨n1, e1, w1⟩, ⟨n2, e2, w2⟩⟩ := ga
          simp only at pM
          have kt : (n : Int).toNat = n := by omega
          have d1 := @dr 5 qT10_20_5
          have d2 := @dl 9 qT10_20_9
          refine PB (rs := [.cell 6 28, .tmp 7]) Tryz.func20 ?_
          have ft := And.intro k1 (And.intro k2 (And.intro k3 (And.intro hgi kt)))
          repeat (first | with_reducible refine pv_stop 5 ?_ | with_reducible refine pv_seq fun K hK => ?_ | ((with_reducible first | refine hK _ _ ?_ | (clear hK; refine hK _ _ ?_) | (clear hK; clear hK; refine hK _ _ ?_)); clear hK; try clear K) | refine W ?_ | exact Z | with_reducible intro b)
          refine ⟨fun K q0 hC => ?_⟩
          have J : ∀ (e : DEnv) (S : Store) (b4 b5 b6 b10 : Nat), e 8 = i64 a.length → e 11 = i64 0 → Sum14 a ⟨⟨n7, e7, w7⟩, ⟨n8, e8, w8⟩⟩ p b4 b5 b6 b10 [bl false, i64 0, .nil, bl false, i64 0, .nil] (cI ⟨⟨n1, e1, w1⟩, ⟨n2, e2, w2⟩⟩) e S → K e S := by
            intro e S b4 b5 b6 b10 g8 g11 ⟨g0, g6, g9, g10, s4, s5, s6, s10⟩
            refine q0 _ _ ?_
            clear q0 hC
            have k4 : ((a.length : Int) - 2) = (n : Int) - 1 := by omega
            have ft := And.intro g0 (And.intro g6 (And.intro g8 (And.intro g9 (And.intro g10 (And.intro g11 k4)))))
            repeat (first | with_reducible refine pv_seq fun K hK => ?_ | ((with_reducible first | refine hK _ _ ?_ | (clear hK; refine hK _ _ ?_) | (clear hK; clear hK; refine hK _ _ ?_)); clear hK; try clear K) | refine W0 ?_ | exact Z | with_reducible intro b)
            have J2 : ∀ (e : DEnv) (S : Store) (b4 b5 b6 b10 : Nat), r.2 = 0 → e 11 = i64 0 → Sum14 a ⟨⟨n7, e7, w7⟩, ⟨n8, e8, w8⟩⟩ p b4 b5 b6 b10 [bl false, i64 0, .nil, bl false, i64 0, .nil] (cI r.1) e S → K e S := by
              intro e S b4 b5 b6 b10 h0 g11 ⟨g0, g6, g9, g10, s4, s5, s6, s10⟩
              obtain ⟨⟨⟨n3, e3, w3⟩, ⟨n4, e4, w4⟩⟩, er⟩ := r
              simp only at h0
              subst h0
              unfold cI at s10
              have ft := And.intro g6 (And.intro g10 (And.intro g11 (And.intro s6 s10)))
              exact Wk
            have J3 : ∀ (e : DEnv) (S : Store) (b4 b5 b6 b10 : Nat) (z : List D), r.2 ≠ 0 → r.1 = iv0 → e 11 = i64 r.2 → Sum14 a ⟨⟨n7, e7, w7⟩, ⟨n8, e8, w8⟩⟩ p b4 b5 b6 b10 [bl false, i64 0, .nil, bl false, i64 0, .nil] z e S → K e S := by
              intro e S b4 b5 b6 b10 z h0 h1 g11 ⟨g0, g6, g9, g10, s4, s5, s6, s10⟩
              obtain ⟨r, er⟩ := r
              simp only at h0 h1 g11
              have k5 := eq_false h0
              subst h1
              unfold iv0 nu0 at *
              have ft := And.intro g6 (And.intro g10 (And.intro g11 (And.intro s6 k5)))
              exact Wk
            clear hK
            obtain ⟨I, mk, el⟩ := hide fun e S => ∃ (i : Nat) (z : List D), i ≤ n ∧ e 12 = i64 ((n : Int) - 1 - i) ∧ e 11 = i64 (sumN p a ⟨⟨n7, e7, w7⟩, ⟨n8, e8, w8⟩⟩ i).2 ∧ z.length = 6 ∧ ((sumN p a ⟨⟨n7, e7, w7⟩, ⟨n8, e8, w8⟩⟩ i).2 = 0 → z = cI (sumN p a ⟨⟨n7, e7, w7⟩, ⟨n8, e8, w8⟩⟩ i).1) ∧ Sum14 a ⟨⟨n7, e7, w7⟩, ⟨n8, e8, w8⟩⟩ p b4 b5 b6 b10 [bl false, i64 0, .nil, bl false, i64 0, .nil] z e S
            refine pv_loop I (fun e _ => (intD (e 12) + 1).toNat) ?_ ?_
            · exact mk _ _ ⟨0, _, Nat.zero_le _, by rw [show (n : Int) - 1 - ((0 : Nat) : Int) = (n : Int) - 1 by omega]; exact Zr, by rw [h0]; exact Zr, rfl, fun _ => by rw [h0], Zr, Zr, Zr, Zr, s4, s5, s6, s10⟩
            · intro e S hI
              obtain ⟨i, z, hi, g12, g11, hz, hzi, ⟨g0, g6, g9, g10, s4, s5, s6, s10⟩⟩ := el e S hI
              clear el hI
              have hm0 : intD (e 12) = (n : Int) - 1 - i := by rw [g12]; rfl
              have hst : (sumN p a ⟨⟨n7, e7, w7⟩, ⟨n8, e8, w8⟩⟩ i).2 ≠ 0 → r = sumN p a ⟨⟨n7, e7, w7⟩, ⟨n8, e8, w8⟩⟩ i := fun h => by rw [← hr]; exact sumN_stuck h hi
              have her := sumN_err (p := p) (a := a) (h := ⟨⟨n7, e7, w7⟩, ⟨n8, e8, w8⟩⟩) i
              by_cases he : (sumN p a ⟨⟨n7, e7, w7⟩, ⟨n8, e8, w8⟩⟩ i).2 = 0
              · have hzc := hzi he
                rw [he] at g11
                by_cases hin : i < n
                · have k5 : (0 ≤ (n : Int) - 1 - (i : Int)) = True := eq_true (by omega)
                  have k6 : ((n : Int) - 1 - (i : Int)).toNat = a.length - 2 - i := by omega
                  have k7 : ((n : Int) - 1 - (i : Int) < (a.length : Int)) = True := eq_true (by omega)
                  have q1 := gI_at (l := a) (i := a.length - 2 - i) (by omega)
                  have hs := sumN_succ he
                  have w0 := sumN_wi (p := p) (h := ⟨⟨n7, e7, w7⟩, ⟨n8, e8, w8⟩⟩) ha.w i
                  have wx := ha.at_ (a.length - 2 - i)
                  have mk2 : ∀ (e : DEnv) (S : Store) (z : List D), e 12 = i64 ((n : Int) - 1 - (i + 1 : Nat)) → e 11 = i64 (sumN p a ⟨⟨n7, e7, w7⟩, ⟨n8, e8, w8⟩⟩ (i + 1)).2 → z.length = 6 → ((sumN p a ⟨⟨n7, e7, w7⟩, ⟨n8, e8, w8⟩⟩ (i + 1)).2 = 0 → z = cI (sumN p a ⟨⟨n7, e7, w7⟩, ⟨n8, e8, w8⟩⟩ (i + 1)).1) → Sum14 a ⟨⟨n7, e7, w7⟩, ⟨n8, e8, w8⟩⟩ p b4 b5 b6 b10 [bl false, i64 0, .nil, bl false, i64 0, .nil] z e S → I e S := fun e S z a1 a2 a3 a4 a5 => mk e S ⟨i + 1, z, by omega, a1, a2, a3, a4, a5⟩
                  clear hst her hzi mk J2 J3 hr h0
                  generalize sumN p a ⟨⟨n7, e7, w7⟩, ⟨n8, e8, w8⟩⟩ (i + 1) = t1 at *
                  generalize sumN p a ⟨⟨n7, e7, w7⟩, ⟨n8, e8, w8⟩⟩ i = t0 at *
                  generalize gI a (a.length - 2 - i) = x at *
                  obtain ⟨t0, e0⟩ := t0
                  simp only at he hs w0 hzc
                  subst hzc
                  have hk9 : (n : Int) - 1 - (i : Int) - 1 = (n : Int) - 1 - ((i + 1 : Nat) : Int) := by omega
                  have hps : PFC Tryz.prog 51 [IV t0, IV x, .ptr (.l 4) b4 0 0 6, .ptr (.l 5) b5 0 0 1] = PFC Tryz.prog 51 [IV t0, IV x, .ptr (.l 4) b4 0 0 6, .ptr (.l 5) b5 0 0 1] := rfl
                  have hpl := fun (S : Store) (Q : D → Store → Prop) a1 a2 a3 => p_Sum1 (S := S) (Q := Q) (k1 := .l 4) (k2 := .l 5) (b1 := b4) (b2 := b5) (v := t0) (x := x) (h := ⟨⟨n7, e7, w7⟩, ⟨n8, e8, w8⟩⟩) (p := p) a1 a2 w0 wx hh a3
                  rw [← hs] at hpl
                  clear hs w0 wx
                  obtain ⟨⟨⟨n3, e3, w3⟩, ⟨n4, e4, w4⟩⟩, e1'⟩ := t1
                  obtain ⟨⟨n5, e5, w5⟩, ⟨n6, e6, w6⟩⟩ := t0
                  obtain ⟨⟨n9, e9, w9⟩, ⟨n10, e10, w10⟩⟩ := x
                  unfold cI at s10
                  have ft := And.intro g0 (And.intro g6 (And.intro g9 (And.intro g10 (And.intro g11 (And.intro g12 (And.intro s10 (And.intro q1 (And.intro k5 (And.intro k6 (And.intro k7 hk9))))))))))
                  repeat (first | with_reducible refine pv_seq fun K hK => ?_ | ((with_reducible first | refine hK _ _ ?_ | (clear hK; refine hK _ _ ?_) | (clear hK; clear hK; refine hK _ _ ?_)); clear hK; try clear K) | refine W0 ?_ | exact Z | with_reducible intro b)
                  refine hpl _ _ s4 s5 ?_
                  repeat (first | with_reducible refine pv_seq fun K hK => ?_ | ((with_reducible first | refine hK _ _ ?_ | (clear hK; refine hK _ _ ?_) | (clear hK; clear hK; refine hK _ _ ?_)); clear hK; try clear K) | refine W0 ?_ | exact Z | with_reducible intro b)
                  refine ⟨mk2 _ _ _ Zr Zr rfl (fun _ => rfl) ⟨Zr, Zr, Zr, Zr, by simp only [updS_apply]; exact s4, by simp only [updS_apply]; exact s5, by simp only [updS_apply]; exact s6, by simp only [updS_apply]; rfl⟩, ?_⟩
                  simp only [intD]
                  omega
                · obtain rfl : i = n := by omega
                  have k5 : (0 ≤ (i : Int) - 1 - (i : Int)) = False := eq_false (by omega)
                  rw [hr] at he hzc
                  have ft := And.intro g0 (And.intro g6 (And.intro g9 (And.intro g10 (And.intro g11 (And.intro g12 k5)))))
                  repeat (first | with_reducible refine pv_seq fun K hK => ?_ | ((with_reducible first | refine hK _ _ ?_ | (clear hK; refine hK _ _ ?_) | (clear hK; clear hK; refine hK _ _ ?_)); clear hK; try clear K) | refine W0 ?_ | exact Z | with_reducible intro b)
                  exact J2 _ _ b4 b5 b6 b10 he Zr ⟨Zr, Zr, Zr, Zr, s4, s5, s6, by rw [← hzc]; exact s10⟩
              · have hr1 := hst he
                have hr2 := her he
                have k5 := eq_false he
                rw [← hr1] at he hr2 g11 k5
                by_cases k6 : 0 ≤ (n : Int) - 1 - (i : Int)
                · have k6' := eq_true k6
                  have ft := And.intro g0 (And.intro g6 (And.intro g9 (And.intro g10 (And.intro g11 (And.intro g12 (And.intro k5 k6'))))))
                  repeat (first | with_reducible refine pv_seq fun K hK => ?_ | ((with_reducible first | refine hK _ _ ?_ | (clear hK; refine hK _ _ ?_) | (clear hK; clear hK; refine hK _ _ ?_)); clear hK; try clear K) | refine W0 ?_ | exact Z | with_reducible intro b)
                  exact J3 _ _ b4 b5 b6 b10 z he hr2 Zr ⟨Zr, Zr, Zr, Zr, s4, s5, s6, s10⟩
                · have k6' := eq_false k6
                  have ft := And.intro g0 (And.intro g6 (And.intro g9 (And.intro g10 (And.intro g11 (And.intro g12 (And.intro k5 k6'))))))
                  repeat (first | with_reducible refine pv_seq fun K hK => ?_ | ((with_reducible first | refine hK _ _ ?_ | (clear hK; refine hK _ _ ?_) | (clear hK; clear hK; refine hK _ _ ?_)); clear hK; try clear K) | refine W0 ?_ | exact Z | with_reducible intro b)
                  exact J3 _ _ b4 b5 b6 b10 z he hr2 Zr ⟨Zr, Zr, Zr, Zr, s4, s5, s6, s10⟩
          clear q0 hC
          repeat' (first | with_reducible refine pv_seq fun K hK => ?_ | ((with_reducible first | refine hK _ _ ?_ | (clear hK; refine hK _ _ ?_) | (clear hK; clear hK; refine hK _ _ ?_)); clear hK; try clear K) | refine W ?_ | exact Z | with_reducible intro b | with_reducible refine And.intro ?_ ?_ )
          all_goals exact J _ _ _ _ _ _ Zr Zr ⟨Zr, Zr, Zr, Zr, by simp only [updS_apply]; rfl, by simp only [updS_apply]; rfl, by simp only [updS_apply]; rfl, by simp only [updS_apply]; rfl⟩
  · rw [sumR_no hc]
    obtain ⟨⟨n7, e7, w7⟩, ⟨n8, e8, w8⟩⟩ := h
    unfold II iv0 nu0 at *
    by_cases h1 : (a.length : Int) < 1
    · have k1 := eq_true h1
      have d1 := @dr 5 qT10_20_5
      have d2 := @dl 9 qT10_20_9
      refine PB (rs := [.cell 6 28, .tmp 7]) Tryz.func20 ?_
      have ft := k1
      exact Wk
    · have k1 := eq_false h1
      have k2 : ((11 : Int) < (a.length : Int)) = True := eq_true (by omega)
      have d1 := @dr 5 qT10_20_5
      have d2 := @dl 9 qT10_20_9
      refine PB (rs := [.cell 6 28, .tmp 7]) Tryz.func20 ?_
      have ft := And.intro k1 k2
      exact Wk

end Go.V
namespace Go.V
open Go Go.RowKit Go.Proofs

def pt (d : Dyadic) : Iv := ivD d d
theorem minP_pt {x y : Dyadic} : minP x x y y = x * y := by rcases (minP_spec x x y y).2 with e | e | e | e <;> exact e
theorem maxP_pt {x y : Dyadic} : maxP x x y y = x * y := by rcases (maxP_spec x x y y).2 with e | e | e | e <;> exact e
theorem Sm.pb {k q p : Nat} {d : Dyadic} (h : Sm k q d) (hk : k ≤ p) : Pb p d := Nat.lt_of_lt_of_le h.bx.n (Nat.pow_le_pow_right (by decide) hk)
theorem Sm.ok2 {k q : Nat} {d : Dyadic} (h : Sm k q d) (hk : k ≤ 4000) (hq : q ≤ 4000) : OkD d := (h.bx).ok (by omega) (by omega)
theorem pt0 : iv0 = pt 0 := by unfold pt ivD; rw [nuOf_zero]; rfl
theorem mulI_pt {p k q m r : Nat} {x y : Dyadic} (hx : Sm k q x) (hy : Sm m r y) (h8 : 8 ≤ p) (h256 : p ≤ 256) (hp : k + m ≤ p) (hq : q + r ≤ 2000) : mulI p (pt x) (pt y) = (pt (x * y), 0) := by
  have o1 := hx.ok2 (by omega) (by omega)
  have o2 := hy.ok2 (by omega) (by omega)
  have s := hx.mul hy
  have o3 := s.ok2 (by omega) (by omega)
  have b := s.pb hp
  unfold mulI pt
  rw [ivD_l, ivD_h, ivD_l, ivD_h, minP_pt, maxP_pt, opI_ok o1 o1 o2 o2 (Dyadic.le_refl _) (Dyadic.le_refl _) h8 h256 (by rw [rd_fix b]; exact o3) (by rw [rd_fix b]; exact o3), rd_fix b, rd_fix b]
theorem addI_pt {p k q : Nat} {x y : Dyadic} (hx : Sm k q x) (hy : Sm k q y) (h8 : 8 ≤ p) (h256 : p ≤ 256) (hp : k + 1 ≤ p) (hq : q ≤ 2000) : addI p (pt x) (pt y) = (pt (x + y), 0) := by
  have o1 := hx.ok2 (by omega) (by omega)
  have o2 := hy.ok2 (by omega) (by omega)
  have s := hx.add hy
  have o3 := s.ok2 (by omega) (by omega)
  have b := s.pb hp
  unfold addI pt
  rw [ivD_l, ivD_h, ivD_l, ivD_h, opI_ok o1 o1 o2 o2 (Dyadic.le_refl _) (Dyadic.le_refl _) h8 h256 (by rw [rd_fix b]; exact o3) (by rw [rd_fix b]; exact o3), rd_fix b, rd_fix b]

/-- The first coefficients of a series are points. -/
structure Pts (k q n : Nat) (a : List Iv) (x : Nat → Dyadic) : Prop where
  len : n < a.length
  at_ : ∀ i, i < n + 1 → gI a i = pt (x i)
  sm : ∀ i, i < n + 1 → Sm k q (x i)
def convD (x y : Nat → Dyadic) (n : Nat) : Dyadic := sumD (fun i => x i * y (n - i)) (n + 1)
theorem coefN_pt {p k q m r n : Nat} {a b : List Iv} {x y : Nat → Dyadic} (ha : Pts k q n a x) (hb : Pts m r n b y) (h8 : 8 ≤ p) (h256 : p ≤ 256) (hp : k + m + n + 2 ≤ p) (hq : q + r ≤ 2000) :
    ∀ i, i ≤ n + 1 → coefN p a b n i = (pt (sumD (fun i => x i * y (n - i)) i), 0) ∧ Sm (k + m + i) (q + r) (sumD (fun i => x i * y (n - i)) i)
  | 0 => fun _ => ⟨by show (iv0, 0) = (pt 0, 0); rw [pt0], Sm.zero⟩
  | i + 1 => fun hi => by
    obtain ⟨e, s⟩ := coefN_pt ha hb h8 h256 hp hq i (by omega)
    have sx := ha.sm i (by omega)
    have sy := hb.sm (n - i) (by omega)
    have e1 := mulI_pt sx sy h8 h256 (by omega) hq
    have sm := sx.mul sy
    have e2 := addI_pt s (sm.mono (show k + m ≤ k + m + i by omega)) h8 h256 (by omega) hq
    unfold coefN
    rw [e, ha.at_ i (by omega), hb.at_ (n - i) (by omega), e1]
    refine ⟨?_, ?_⟩
    · rw [if_pos rfl, if_pos rfl]
      by_cases h0 : i = 0
      · rw [if_pos h0]
        subst h0
        show (pt (x 0 * y (n - 0)), 0) = (pt (0 + x 0 * y (n - 0)), 0)
        rw [show (0 : Dyadic) + x 0 * y (n - 0) = x 0 * y (n - 0) by grind]
      · rw [if_neg h0, e2]; rfl
    · have := s.add (sm.mono (show k + m ≤ k + m + i by omega))
      exact this
theorem Pts.right {k q n : Nat} {a : List Iv} {x : Nat → Dyadic} (h : Pts k q n a x) {j : Nat} (hj : j ≤ n) (hk : k ≤ 4000) (hq : q ≤ 4000) : rightTo a j = true := by
  refine rightTo_yes (by have := h.len; omega) fun i hi => ?_
  rw [h.at_ i (by omega)]
  have := (h.sm i (by omega)).ok2 hk hq
  exact rightI_yes this this (Dyadic.le_refl _)
theorem Pts.le {k q n j : Nat} {a : List Iv} {x : Nat → Dyadic} (h : Pts k q n a x) (hj : j ≤ n) : Pts k q j a x := ⟨by have := h.len; omega, fun i hi => h.at_ i (by omega), fun i hi => h.sm i (by omega)⟩
theorem coefR_pt {p k q m r n : Nat} {a b : List Iv} {x y : Nat → Dyadic} (ha : Pts k q n a x) (hb : Pts m r n b y) (h8 : 8 ≤ p) (h256 : p ≤ 256) (hp : k + m + n + 2 ≤ p) (hq : q + r ≤ 2000) (hn : n ≤ 10) :
    coefR p a b (n : Nat) = (pt (convD x y n), 0) ∧ Sm (k + m + n + 1) (q + r) (convD x y n) := by
  obtain ⟨e, s⟩ := coefN_pt ha hb h8 h256 hp hq (n + 1) (Nat.le_refl _)
  refine ⟨?_, s⟩
  unfold coefR okK
  rw [Int.toNat_natCast, ha.right (Nat.le_refl _) (by omega) (by omega), hb.right (Nat.le_refl _) (by omega) (by omega), okP_of h8 h256, decide_eq_true (by omega), decide_eq_true (by omega)]
  exact e
theorem timesN_pt {p k q m r n : Nat} {a b : List Iv} {x y : Nat → Dyadic} (ha : Pts k q n a x) (hb : Pts m r n b y) (h8 : 8 ≤ p) (h256 : p ≤ 256) (hp : k + m + n + 2 ≤ p) (hq : q + r ≤ 2000) (hn : n ≤ 10) :
    ∀ j, j ≤ n + 1 → timesN p a b j = ((List.range j).map fun i => pt (convD x y i), 0)
  | 0 => fun _ => rfl
  | j + 1 => fun hj => by
    have e := timesN_pt ha hb h8 h256 hp hq hn j (by omega)
    have e1 := (coefR_pt (n := j) (ha.le (by omega)) (hb.le (by omega)) h8 h256 (by omega) hq (by omega)).1
    unfold timesN
    rw [e, e1, if_pos rfl, if_pos rfl, List.range_succ, List.map_append]; rfl
theorem times_pt {p k q m r n : Nat} {a b : List Iv} {x y : Nat → Dyadic} (ha : Pts k q n a x) (hb : Pts m r n b y) (h8 : 8 ≤ p) (h256 : p ≤ 256) (hp : k + m + n + 2 ≤ p) (hq : q + r ≤ 2000) (hn : n ≤ 10) :
    ∃ l, timesN p a b (n + 1) = (l, 0) ∧ Pts (k + m + n + 1) (q + r) n l (convD x y) := by
  refine ⟨_, timesN_pt ha hb h8 h256 hp hq hn (n + 1) (Nat.le_refl _), by simp, fun i hi => ?_, fun i hi => ?_⟩
  · unfold gI
    simp [List.getD, hi]
  · exact (coefR_pt (n := i) (ha.le (by omega)) (hb.le (by omega)) h8 h256 (by omega) hq (by omega)).2.mono (by omega)
theorem on_pts {k q n : Nat} {d : Dyadic} (h : Sm k q d) : Pts k q n (onS (nuOf d) n).1 (fun i => if i = 0 then d else 0) := by
  refine ⟨by simp [onS], fun i hi => ?_, fun i hi => ?_⟩
  · cases i with
    | zero => rfl
    | succ i =>
      show gI (List.replicate n iv0) i = pt 0
      unfold gI
      rw [← pt0]
      simp [List.getD, List.getElem?_replicate, show i < n by omega]
  · split
    · exact h
    · exact Sm.zero

/-! ### The known ones -/
def kO : Nu := ⟨false, 0, [1]⟩
theorem kNu14 {s : Bool} {n : Nat} {e : Int} (ho : n % 2 = 1) (hn : n < 18446744073709551616) (h1 : -60000 ≤ e) (h2 : e ≤ 60000) : nuOf (dy s n e) = ⟨s, e, [n]⟩ := ((w1 ho hn h1 h2).1).symm
theorem kO_eq : kO = nuOf 1 := by rw [show (1 : Dyadic) = dy false 1 0 by decide, kNu14 (by decide) (by decide) (by decide) (by decide)]; rfl
theorem pts_11 : Pts 1 0 1 [⟨kO, kO⟩, ⟨kO, kO⟩] (fun _ => 1) := by
  refine ⟨by decide, fun i hi => ?_, fun i hi => Sm.one⟩
  rw [kO_eq]
  match i, hi with
  | 0, _ => rfl
  | 1, _ => rfl
theorem sm_3 : Sm 2 0 3 := ⟨3, by decide, by decide⟩
theorem k3_eq : (⟨false, 0, [3]⟩ : Nu) = nuOf 3 := by rw [show (3 : Dyadic) = dy false 3 0 by decide, kNu14 (by decide) (by decide) (by decide) (by decide)]
theorem pt2_eq : pt 2 = ⟨⟨false, 1, [1]⟩, ⟨false, 1, [1]⟩⟩ := by unfold pt ivD; rw [show (2 : Dyadic) = dy false 1 1 by decide, kNu14 (by decide) (by decide) (by decide) (by decide)]
theorem pt6_eq : pt 6 = ⟨⟨false, 1, [3]⟩, ⟨false, 1, [3]⟩⟩ := by unfold pt ivD; rw [show (6 : Dyadic) = dy false 3 1 by decide, kNu14 (by decide) (by decide) (by decide) (by decide)]
theorem known_coef : coefR 16 [⟨kO, kO⟩, ⟨kO, kO⟩] [⟨kO, kO⟩, ⟨kO, kO⟩] 1 = (pt 2, 0) := by
  have := (coefR_pt (p := 16) pts_11 pts_11 (by decide) (by decide) (by decide) (by decide) (by decide)).1
  rw [show convD (fun _ => 1) (fun _ => 1) 1 = 2 by decide +kernel] at this
  exact this
theorem known_over : ∃ l, overR 16 [[⟨kO, kO⟩, ⟨kO, kO⟩]] 1 ⟨⟨false, 0, [3]⟩, [2]⟩ = (l, 0) ∧ gI l 1 = pt 6 := by
  rw [k3_eq]
  obtain ⟨l1, e1, p1⟩ := times_pt (p := 16) (on_pts (n := 1) sm_3) pts_11 (by decide) (by decide) (by decide) (by decide) (by decide)
  obtain ⟨l2, e2, p2⟩ := times_pt (p := 16) p1 pts_11 (by decide) (by decide) (by decide) (by decide) (by decide)
  refine ⟨l2, ?_, ?_⟩
  · show mulS 16 _ 1 (onS (nuOf 3) 1) 2 = _
    have h1 : mulS 16 [⟨kO, kO⟩, ⟨kO, kO⟩] 1 (onS (nuOf 3) 1) 1 = (l1, 0) := by rw [mulS_succ rfl]; exact e1
    rw [mulS_succ (by rw [show ([[⟨kO, kO⟩, ⟨kO, kO⟩]] : List (List Iv)).getD 0 [] = [⟨kO, kO⟩, ⟨kO, kO⟩] from rfl, h1]), show ([[⟨kO, kO⟩, ⟨kO, kO⟩]] : List (List Iv)).getD 0 [] = [⟨kO, kO⟩, ⟨kO, kO⟩] from rfl, h1]
    exact e2
  · rw [p2.at_ 1 (by decide)]
    rw [show convD (convD (fun i => if i = 0 then 3 else 0) fun x => 1) (fun x => 1) 1 = 6 by decide +kernel]
theorem k3_r : rightB ⟨false, 0, [3]⟩ = true := by rw [k3_eq, rightB_nuOf]; exact decide_eq_true (sm_3.ok2 (by decide) (by decide))
theorem known_of : ofR 16 [⟨⟨false, 0, [3]⟩, [2]⟩] [[⟨kO, kO⟩, ⟨kO, kO⟩]] 1 = (pt 6, 0) := by
  have hp : polyB [⟨⟨false, 0, [3]⟩, [2]⟩] 1 = true := by
    unfold polyB
    rw [monosB_yes fun i hi => ?_]
    · rfl
    · obtain rfl : i = 0 := by simp at hi; exact hi
      refine ⟨?_, by decide, fun h => absurd h (by decide)⟩
      show monoB ⟨⟨false, 0, [3]⟩, [2]⟩ 1 = true
      unfold monoB
      rw [k3_r]; rfl
  have hr : rightTo [⟨kO, kO⟩, ⟨kO, kO⟩] 1 = true := pts_11.right (Nat.le_refl _) (by decide) (by decide)
  unfold ofR okK
  obtain ⟨l, e, h⟩ := known_over
  have h0 : ofN 16 [⟨⟨false, 0, [3]⟩, [2]⟩] [[⟨kO, kO⟩, ⟨kO, kO⟩]] 1 1 = (pt 6, 0) := by
    rw [ofN_succ rfl]
    rw [show gM [⟨⟨false, 0, [3]⟩, [2]⟩] 0 = ⟨⟨false, 0, [3]⟩, [2]⟩ from rfl, e, if_pos rfl, h]
    show addI 16 iv0 (pt 6) = _
    have e3 : addI 16 (pt 0) (pt 6) = (pt (0 + 6), 0) := addI_pt (p := 16) (k := 3) (q := 0) Sm.zero ⟨6, by decide, by decide⟩ (by decide) (by decide) (by decide) (by decide)
    rw [pt0, e3, show (0 : Dyadic) + 6 = 6 by decide]
  have hx : decide (∀ x ∈ [[(⟨kO, kO⟩ : Iv), ⟨kO, kO⟩]], rightTo x (1 : Int).toNat = true) = true := decide_eq_true fun x hx => by rw [List.mem_singleton.1 hx]; exact hr
  rw [show (([[⟨kO, kO⟩, ⟨kO, kO⟩]] : List (List Iv)).length : Int) = 1 from rfl, hp, hx, show (1 : Int).toNat = 1 from rfl]
  exact h0
theorem known_sum : sumR 16 [⟨kO, kO⟩, ⟨kO, kO⟩] ⟨kO, kO⟩ = (pt 2, 0) := by
  have hr : rightTo [⟨kO, kO⟩, ⟨kO, kO⟩] 1 = true := pts_11.right (Nat.le_refl _) (by decide) (by decide)
  have e1 : (⟨kO, kO⟩ : Iv) = pt 1 := by rw [kO_eq]; rfl
  have hi : rightI ⟨kO, kO⟩ = true := by
    rw [e1]
    have := (Sm.one).ok2 (by decide) (by decide)
    exact rightI_yes this this (Dyadic.le_refl _)
  unfold sumR
  rw [show ([(⟨kO, kO⟩ : Iv), ⟨kO, kO⟩]).length = 2 from rfl, show 2 - 1 = 1 from rfl, hr, hi]
  show sumN 16 _ _ 1 = _
  rw [sumN_succ rfl]
  show plusR 16 ⟨kO, kO⟩ ⟨kO, kO⟩ ⟨kO, kO⟩ = _
  rw [e1]
  unfold plusR
  have e2 : mulI 16 (pt 1) (pt 1) = (pt (1 * 1), 0) := mulI_pt (p := 16) Sm.one Sm.one (by decide) (by decide) (by decide) (by decide)
  have e3 : addI 16 (pt 1) (pt 1) = (pt (1 + 1), 0) := addI_pt (p := 16) Sm.one Sm.one (by decide) (by decide) (by decide) (by decide)
  rw [e2, if_pos rfl, show (1 : Dyadic) * 1 = 1 by decide, e3, show (1 : Dyadic) + 1 = 2 by decide]
theorem known_wf : WfL [⟨kO, kO⟩, ⟨kO, kO⟩] := ⟨by decide, fun x hx => by
  have hw : Wi 65536 ⟨kO, kO⟩ := by
    have h : Wl 65536 kO := by rw [kO_eq]; exact (((Sm.one).ok2 (by decide) (by decide)).sz).wl
    exact ⟨h, h⟩
  simp only [List.mem_cons, List.not_mem_nil, or_false, or_self] at hx
  rw [hx]; exact hw⟩
set_option maxHeartbeats 2000000 in
theorem p_known14 : PC Tryz.prog 7 [] fun d => d = bl true := by
  have pA := p_OfI (x := kO) (by decide)
  have pC := p_Coef (k := 1) (p := 16) known_wf known_wf
  rw [known_coef, pt2_eq] at pC
  have hm : WfM [⟨⟨false, 0, [3]⟩, [2]⟩] := ⟨by decide, fun m hm => by
    rw [List.mem_singleton.1 hm]
    exact ⟨⟨fun y hy => by rw [List.mem_singleton.1 hy]; decide, by decide⟩, by decide⟩⟩
  have pD := p_sOf (k := 1) (p := 16) hm (xs := [[⟨kO, kO⟩, ⟨kO, kO⟩]]) ⟨by decide, fun l hl => by rw [List.mem_singleton.1 hl]; exact known_wf⟩
  rw [known_of, pt6_eq] at pD
  have pS := p_sSum (p := 16) known_wf (known_wf.w ⟨kO, kO⟩ (by simp))
  rw [known_sum, pt2_eq] at pS
  have pW := p_hWords (xs := [3]) (ys := [3]) (by decide) (by decide) (by decide) (by decide)
  rw [decide_eq_true rfl] at pW
  unfold kO at pA pC pS pD
  unfold II at pC pS
  refine PB (rs := [.tmp 0]) Tryz.func7 ?_
  repeat (first | with_reducible refine pv_stop 2 ?_ | with_reducible refine pv_seq fun K hK => ?_ | ((with_reducible first | refine hK _ _ ?_ | (clear hK; refine hK _ _ ?_) | (clear hK; clear hK; refine hK _ _ ?_)); clear hK; try clear K) | refine W ?_ | exact Z | with_reducible intro b)
  refine ⟨fun K q hC => ?_⟩
  repeat (first | with_reducible refine pv_seq fun K hK => ?_ | ((with_reducible first | refine hK _ _ ?_ | (clear hK; refine hK _ _ ?_) | (clear hK; clear hK; refine hK _ _ ?_)); clear hK; try clear K) | refine W0 ?_ | exact Z | with_reducible intro b)
  refine hC _ _ (Recast.frzSlot 2 (k := .l 14) rfl rfl (gs := [eI ⟨kO, kO⟩, eI ⟨kO, kO⟩]) rfl (by decide) ?_)
  rw [show G.sl [eI ⟨kO, kO⟩, eI ⟨kO, kO⟩] = eS eI [⟨kO, kO⟩, ⟨kO, kO⟩] from rfl]
  refine q _ _ ?_
  clear q hC
  unfold kO
  repeat (first | with_reducible refine pv_seq fun K hK => ?_ | ((with_reducible first | refine hK _ _ ?_ | (clear hK; refine hK _ _ ?_) | (clear hK; clear hK; refine hK _ _ ?_)); clear hK; try clear K) | refine W ?_ | exact Z | with_reducible intro b)
  refine PFC.frzCell (k2 := .l 26) (k := .l 22) (by repeat first | exact updS_at | refine (updS_ne (by decide)).trans ?_) 0 2 rfl rfl (by decide) (by repeat first | exact updS_at | refine (updS_ne (by decide)).trans ?_) (gs := [[.lit (.int .u64 3)]]) rfl (by decide) ?_
  refine PFC.frzCell (k2 := .l 26) (k := .l 24) (by repeat first | exact updS_at | refine (updS_ne (by decide)).trans ?_) 0 3 rfl rfl (by decide) (by repeat first | exact updS_at | refine (updS_ne (by decide)).trans ?_) (gs := [[.lit (.int .i64 2)]]) rfl (by decide) ?_
  refine PFC.coe ?_
  try simp -implicitDefEqProofs only [ft, go_sem, seval]
  exact Wk
end Go.V
namespace Go.V
open Go Go.RowKit Go.Proofs
def qT12_26_1 : List (Nat × Nat) := [(0, 0), (1, 1), (3, 2), (5, 2), (2, 4), (4, 4), (6, 3), (7, 0), (8, 0), (9, 2), (10, 0), (11, 1), (13, 2), (12, 4), (14, 4), (15, 3), (16, 0), (17, 0), (18, 0)]
attribute [go_sem] qT12_26_1
set_option maxHeartbeats 1000000 in
theorem p_dSmallBox {k : Nm} {S : Store} {Q : D → Store → Prop} {b i n : Nat} {w : List Nat} (hS : S k = some ⟨b, 2, 0, [[W64 w, i64 i]]⟩) (hb : B64 w) (hn : n ≤ 1000) (hi : i + 3 * n ≤ 900000000)
    (hQ : ∀ (l : List Iv) (j : Nat), l.length = n → (∀ a ∈ l, SmV 14 6 a) → j ≤ i + 3 * n → Q (II l) (updS S k (some ⟨b, 2, 0, [[W64 w, i64 j]]⟩))) :
    PFC Tryz.prog 13 [.ptr k b 0 0 2, i64 n] S Q := by
  refine PFB (rs := [.tmp 4]) Tryz.func13 ?_
  repeat (first | with_reducible refine pv_seq fun K hK => ?_ | ((with_reducible first | refine hK _ _ ?_ | (clear hK; refine hK _ _ ?_) | (clear hK; clear hK; refine hK _ _ ?_)); clear hK; try clear K) | refine W0 ?_ | exact Z | with_reducible intro b)
  have J : ∀ (e : DEnv) (T : Store) (l : List Iv) (j : Nat), l.length = n → (∀ a ∈ l, SmV 14 6 a) → j ≤ i + 3 * n → RowD T (.l 16) 6 (e 5) (rS eI l) → Dk S k T (some ⟨b, 2, 0, [[W64 w, i64 j]]⟩) → K e T := by
    intro e T l j hl hm hj hw hd
    repeat (first | with_reducible refine pv_seq fun K hK => ?_ | ((with_reducible first | refine hK _ _ ?_ | (clear hK; refine hK _ _ ?_) | (clear hK; clear hK; refine hK _ _ ?_)); clear hK; try clear K) | refine W0 ?_ | exact Z | with_reducible intro b)
    exact hw.coeD fun T2 _ hT2 => by rw [(hd.of hT2).dn]; exact hQ l j hl hm hj
  clear hK
  refine pv_loop (fun e T => ∃ (t j : Nat) (l : List Iv), t ≤ n ∧ l.length = t ∧ (∀ a ∈ l, SmV 14 6 a) ∧ j ≤ i + 3 * t ∧ e 0 = .ptr (.up k) b 0 0 2 ∧ e 1 = i64 n ∧ e 6 = i64 t ∧ RowD T (.l 16) 6 (e 5) (rS eI l) ∧ Dk S k T (some ⟨b, 2, 0, [[W64 w, i64 j]]⟩)) (fun e _ => n - (intD (e 6)).toNat) ?_ ?_
  · exact ⟨0, i, [], Nat.zero_le _, rfl, fun a ha => (by cases ha), by omega, Zr, Zr, Zr, .inl ⟨Zr, rfl⟩, Dk.up hS⟩
  · rintro e T ⟨t, j, l, htn, hl, hm, hj, g0, g1, g6, hw, hd⟩
    have ft := And.intro g0 (And.intro g1 g6)
    repeat (first | with_reducible refine pv_seq fun K hK => ?_ | ((with_reducible first | refine hK _ _ ?_ | (clear hK; refine hK _ _ ?_) | (clear hK; clear hK; refine hK _ _ ?_)); clear hK; try clear K) | refine W0 ?_ | exact Z | with_reducible intro b)
    refine pv_cdD (fun ht => ?_) (fun ht => ?_)
    · repeat (first | with_reducible refine pv_seq fun K hK => ?_ | ((with_reducible first | refine hK _ _ ?_ | (clear hK; refine hK _ _ ?_) | (clear hK; clear hK; refine hK _ _ ?_)); clear hK; try clear K) | refine W0 ?_ | exact Z | with_reducible intro b)
      refine p_dSmallIv hd.at_ hb (by omega) fun x y j2 sx sy hxy hj2 => ?_
      have hnew := rS_iv (l := l) (a := ivD x y)
      have hsm : SmV 14 6 (ivD x y) := ⟨x, y, rfl, sx, sy, hxy⟩
      generalize ivD x y = q at *
      obtain ⟨⟨n1, e1, w1⟩, ⟨n2, e2, w2⟩⟩ := q
      repeat (first | with_reducible refine pv_seq fun K hK => ?_ | ((with_reducible first | refine hK _ _ ?_ | (clear hK; refine hK _ _ ?_) | (clear hK; clear hK; refine hK _ _ ?_)); clear hK; try clear K) | refine W0 ?_ | exact Z | with_reducible intro b)
      refine RowD.appL (hw.up (updS_ne (by simp))) (by decide) rfl (by simp [D.one, W64]) ?_ ?_ fun d' S3 hr3 hS3 => ?_
      · rw [rS_len]; simp; omega
      · rw [rS_len]; simp; omega
      repeat (first | with_reducible refine pv_seq fun K hK => ?_ | ((with_reducible first | refine hK _ _ ?_ | (clear hK; refine hK _ _ ?_) | (clear hK; clear hK; refine hK _ _ ?_)); clear hK; try clear K) | refine W0 ?_ | exact Z | with_reducible intro b)
      refine ⟨⟨t + 1, j2, l ++ [⟨⟨n1, e1, w1⟩, ⟨n2, e2, w2⟩⟩], by omega, by simp [hl], fun a ha => ?_, by omega, Zr, by rw [← hnew]; exact hr3, (hd.set.l).of hS3⟩, by simp only [intD]; omega⟩
      rcases List.mem_append.1 ha with h | h
      · exact hm a h
      · rw [List.mem_singleton.1 h]; exact hsm
    · obtain rfl : t = n := by omega
      repeat (first | with_reducible refine pv_seq fun K hK => ?_ | ((with_reducible first | refine hK _ _ ?_ | (clear hK; refine hK _ _ ?_) | (clear hK; clear hK; refine hK _ _ ?_)); clear hK; try clear K) | refine W0 ?_ | exact Z | with_reducible intro b)
      exact J _ _ l j hl hm hj hw hd

/-- A list of numbers. -/
def UL (l : List Dyadic) : D := .g (eS eU (l.map nuOf))
def gD (l : List Dyadic) (i : Nat) : Dyadic := l.getD i 0
theorem gD_at {l : List Dyadic} {i : Nat} (h : i < l.length) : (l.map nuOf)[i]? = some (nuOf (gD l i)) := by
  rw [List.getElem?_map]; unfold gD; simp [List.getD, List.getElem?_eq_getElem h]
theorem rS_u {l : List Dyadic} {x : Dyadic} : rS eU (l.map nuOf) ++ [[bl (nuOf x).neg, i64 (nuOf x).exp, W64 (nuOf x).w]] = rS eU ((l ++ [x]).map nuOf) := by rw [List.map_append, ← rS_app]; rfl
theorem gD_app {l : List Dyadic} {a : Dyadic} {q : Nat} (hq : q < l.length) : gD (l ++ [a]) q = gD l q := by simp [gD, List.getD, List.getElem?_append_left hq]
theorem gD_last {l : List Dyadic} {a : Dyadic} : gD (l ++ [a]) l.length = a := by simp [gD, List.getD]
/-- Is a number one that the deck draws of an interval? -/
def inS (a : Iv) (t : Dyadic) : Prop := ∃ x y, a = ivD x y ∧ x ≤ y ∧ InS x y t ∧ OkD t
set_option maxHeartbeats 1000000 in
theorem p_dInBox {k : Nm} {S : Store} {Q : D → Store → Prop} {bd i : Nat} {w : List Nat} {l : List Iv} (hS : S k = some ⟨bd, 2, 0, [[W64 w, i64 i]]⟩) (hb : B64 w) (hl : l.length ≤ 1000) (hi : i + l.length ≤ 700000000) (hv : ∀ a ∈ l, OkV a)
    (hQ : ∀ (m : List Dyadic), m.length = l.length → (∀ q, q < l.length → inS (gI l q) (gD m q)) → Q (UL m) (updS S k (some ⟨bd, 2, 0, [[W64 w, i64 ((i + l.length : Nat) : Int)]]⟩))) :
    PFC Tryz.prog 17 [.ptr k bd 0 0 2, II l] S Q := by
  unfold II
  refine PFB (rs := [.tmp 4]) Tryz.func17 ?_
  repeat (first | with_reducible refine pv_seq fun K hK => ?_ | ((with_reducible first | refine hK _ _ ?_ | (clear hK; refine hK _ _ ?_) | (clear hK; clear hK; refine hK _ _ ?_)); clear hK; try clear K) | refine W0 ?_ | exact Z | with_reducible intro b)
  have J : ∀ (e : DEnv) (T : Store) (m : List Dyadic), m.length = l.length → (∀ q, q < l.length → inS (gI l q) (gD m q)) → RowD T (.l 21) 3 (e 5) (rS eU (m.map nuOf)) → Dk S k T (some ⟨bd, 2, 0, [[W64 w, i64 ((i + l.length : Nat) : Int)]]⟩) → K e T := by
    intro e T m hm hin hw hd
    repeat (first | with_reducible refine pv_seq fun K hK => ?_ | ((with_reducible first | refine hK _ _ ?_ | (clear hK; refine hK _ _ ?_) | (clear hK; clear hK; refine hK _ _ ?_)); clear hK; try clear K) | refine W0 ?_ | exact Z | with_reducible intro b)
    exact hw.coeD fun T2 _ hT2 => by rw [(hd.of hT2).dn]; exact hQ m hm hin
  clear hK
  refine pv_loop (fun e T => Hid (∃ (t : Nat) (m : List Dyadic), t ≤ l.length ∧ m.length = t ∧ (∀ q, q < t → inS (gI l q) (gD m q)) ∧ e 0 = .ptr (.up k) bd 0 0 2 ∧ e 1 = .g (eS eI l) ∧ e 6 = i64 t ∧ RowD T (.l 21) 3 (e 5) (rS eU (m.map nuOf)) ∧ Dk S k T (some ⟨bd, 2, 0, [[W64 w, i64 ((i + t : Nat) : Int)]]⟩))) (fun e _ => l.length - (intD (e 6)).toNat) ?_ ?_
  · exact ⟨0, [], Nat.zero_le _, rfl, fun q hq => by omega, Zr, Zr, Zr, .inl ⟨Zr, rfl⟩, Dk.up hS⟩
  · rintro e T ⟨t, m, htn, hm, hin, g0, g1, g6, hw, hd⟩
    have ft := And.intro g0 (And.intro g1 g6)
    repeat (first | with_reducible refine pv_seq fun K hK => ?_ | ((with_reducible first | refine hK _ _ ?_ | (clear hK; refine hK _ _ ?_) | (clear hK; clear hK; refine hK _ _ ?_)); clear hK; try clear K) | refine W0 ?_ | exact Z | with_reducible intro b)
    refine pv_cdD (fun ht => ?_) (fun ht => ?_)
    · have htl : t < l.length := by omega
      have q1 := gI_at htl
      obtain ⟨x, y, hxy, ox, oy, hle⟩ := hv _ (gI_mem htl)
      have hpt : ∀ p : Dyadic, OkD p → InS x y p → inS (gI l t) p := fun p op hp => ⟨x, y, hxy, hle, hp, op⟩
      rw [hxy] at q1
      have q1' : l[t]? = some ⟨nuOf x, nuOf y⟩ := q1
      have ft := And.intro g0 (And.intro g1 (And.intro g6 q1'))
      repeat (first | with_reducible refine pv_seq fun K hK => ?_ | ((with_reducible first | refine hK _ _ ?_ | (clear hK; refine hK _ _ ?_) | (clear hK; clear hK; refine hK _ _ ?_)); clear hK; try clear K) | refine W0 ?_ | exact Z | with_reducible intro b)
      refine p_dIn (x := x) (y := y) hd.at_ hb (by omega) ox oy fun p op hp => ?_
      have v1 := hpt p op hp
      have hnew := rS_u (l := m) (x := p)
      generalize nuOf p = q at *
      obtain ⟨n1, e1, w1⟩ := q
      repeat (first | with_reducible refine pv_seq fun K hK => ?_ | ((with_reducible first | refine hK _ _ ?_ | (clear hK; refine hK _ _ ?_) | (clear hK; clear hK; refine hK _ _ ?_)); clear hK; try clear K) | refine W0 ?_ | exact Z | with_reducible intro b)
      refine RowD.appL (hw.up (updS_ne (by simp))) (by decide) rfl (by simp [D.one, W64]) ?_ ?_ fun d' S3 hr3 hS3 => ?_
      · rw [rS_len]; simp; omega
      · rw [rS_len]; simp; omega
      repeat (first | with_reducible refine pv_seq fun K hK => ?_ | ((with_reducible first | refine hK _ _ ?_ | (clear hK; refine hK _ _ ?_) | (clear hK; clear hK; refine hK _ _ ?_)); clear hK; try clear K) | refine W0 ?_ | exact Z | with_reducible intro b)
      have hd2 : Dk S k S3 (some ⟨bd, 2, 0, [[W64 w, i64 ((i + (t + 1) : Nat) : Int)]]⟩) := by rw [show i + (t + 1) = i + t + 1 by omega]; exact (hd.set.l).of hS3
      refine ⟨⟨t + 1, m ++ [p], by omega, by simp [hm], fun q hq => ?_, Zr, Zr, Zr, by rw [← hnew]; exact hr3, hd2⟩, by simp only [intD]; omega⟩
      rcases Nat.lt_or_ge q t with h | h
      · rw [gD_app (by omega)]; exact hin q h
      · obtain rfl : q = t := by omega
        rw [← hm, gD_last, hm]; exact v1
    · obtain rfl : t = l.length := by omega
      repeat (first | with_reducible refine pv_seq fun K hK => ?_ | ((with_reducible first | refine hK _ _ ?_ | (clear hK; refine hK _ _ ?_) | (clear hK; clear hK; refine hK _ _ ?_)); clear hK; try clear K) | refine W0 ?_ | exact Z | with_reducible intro b)
      exact J _ _ m hm hin hw hd

set_option maxHeartbeats 1000000 in
theorem p_Within1 {v x y : Dyadic} (ov : OkD v) (ox : OkD x) (oy : OkD y) (h1 : x ≤ v) (h2 : v ≤ y) : PC Tryz.prog 26 [VA v, VA 1, IV (ivD x y)] fun d => d = bl true := by
  have o1 := p_rOf ox
  have o2 := p_rOf oy
  have oo : OkD 1 := Sm.one.ok (by decide) (by decide)
  have b1 := p_rBy ox.bd oo.bd (by decide)
  have b2 := p_rBy oy.bd oo.bd (by decide)
  rw [show x * 1 = x by grind] at b1
  rw [show y * 1 = y by grind] at b2
  have r1 := p_rOrder ox.bd ov.bd (by decide)
  have r2 := p_rOrder ov.bd oy.bd (by decide)
  have k1 : (cmpD x v ≤ 0) = True := by rw [cmpD_le0']; exact eq_true h1
  have k2 : (cmpD v y ≤ 0) = True := by rw [cmpD_le0']; exact eq_true h2
  generalize cmpD x v = c1 at *
  generalize cmpD v y = c2 at *
  unfold ivD
  generalize nuOf x = X at *
  generalize nuOf y = Y at *
  obtain ⟨n1, e1, w1⟩ := X
  obtain ⟨n2, e2, w2⟩ := Y
  unfold VA at *
  have d1 := @dl 1 qT12_26_1
  refine PB (rs := [.tmp 6]) Tryz.func26 ?_
  have ft := And.intro k1 k2
  repeat' (first | with_reducible refine pv_seq fun K hK => ?_ | ((with_reducible first | refine hK _ _ ?_ | (clear hK; refine hK _ _ ?_) | (clear hK; clear hK; refine hK _ _ ?_)); clear hK; try clear K) | refine W ?_ | exact Z | with_reducible intro b | with_reducible refine And.intro ?_ ?_ )
end Go.V
namespace Go.V
open Go Go.RowKit Go.Proofs
def qT13_5_6_0 : PT := (.lin [(0, 0), (1, 0), (3, 0), (4, 0), (6, 0)] (.fork3 2 3 (.lin [] (.fork3 5 3 (.lin [] (.fork 7 3 (.lin [] (.fork 8 3 (.lin [(9, 3), (10, 0), (11, 0)] .nil) 9 3 (.lin [(8, 3), (10, 0), (11, 0)] .nil))) 9 3 (.lin [(7, 3), (8, 3), (10, 0), (11, 0)] .nil))) 7 3 (.lin [] (.fork 5 3 (.lin [] (.fork 8 3 (.lin [(9, 3), (10, 0), (11, 0)] .nil) 9 3 (.lin [(8, 3), (10, 0), (11, 0)] .nil))) 9 3 (.lin [(5, 3), (8, 3), (10, 0), (11, 0)] .nil))) 9 3 (.lin [] (.fork 5 3 (.lin [(7, 3), (8, 3), (10, 0), (11, 0)] .nil) 7 3 (.lin [(5, 3), (8, 3), (10, 0), (11, 0)] .nil))))) 7 3 (.lin [] (.fork 2 3 (.lin [] (.fork 5 3 (.lin [] (.fork 8 3 (.lin [(9, 3), (10, 0), (11, 0)] .nil) 9 3 (.lin [(8, 3), (10, 0), (11, 0)] .nil))) 9 3 (.lin [(5, 3), (8, 3), (10, 0), (11, 0)] .nil))) 9 3 (.lin [(2, 3), (5, 3), (8, 3), (10, 0), (11, 0)] .nil))) 9 3 (.lin [] (.fork 2 3 (.lin [] (.fork 5 3 (.lin [(7, 3), (8, 3), (10, 0), (11, 0)] .nil) 7 3 (.lin [(5, 3), (8, 3), (10, 0), (11, 0)] .nil))) 7 3 (.lin [(2, 3), (5, 3), (8, 3), (10, 0), (11, 0)] .nil)))))
def qT13_5_6_1 : PT := (.lin [(12, 3)] .nil)
def qT13_5_15 : List (Nat × Nat) := [(0, 2), (1, 0), (2, 0), (3, 0), (4, 1), (6, 0), (7, 0), (8, 0), (9, 0), (10, 0), (11, 2), (5, 4), (12, 4), (13, 4), (14, 3), (15, 3)]
def qT13_5_16 : List (Nat × Nat) := [(0, 2), (1, 0), (2, 0), (3, 0), (4, 1), (6, 2), (8, 0), (5, 4), (7, 4), (9, 4), (10, 4), (11, 3), (12, 3)]
def qT13_5_17 : List (Nat × Nat) := [(0, 2), (2, 2), (1, 4), (3, 3), (4, 0), (5, 2), (7, 2), (6, 4), (8, 3), (9, 0), (10, 0)]
attribute [go_sem] qT13_5_6_0 qT13_5_6_1 qT13_5_15 qT13_5_16 qT13_5_17
def cV (d : Dyadic) : List D := [bl (fS d), W32 (D32 (fN d)), i64 (fE d)]
theorem Recast.z3v {N : DEnv → Store → Prop} {e : DEnv} {S : Store} {k : Nm} {b : Nat} (hk : S k = some ⟨b, 3, 0, [[bl false, .nil, i64 0]]⟩) (h : N e (updS S k (some ⟨b, 3, 0, [cV 0]⟩))) : Recast N e S :=
  Recast.cell (i := 0) (j := 1) (es := [bl false, .nil, i64 0]) (d := .nil) (d' := W32 []) hk rfl rfl (fun I H v hv => nil_row hv) (by
    have : cV 0 = [bl false, W32 [], i64 0] := by unfold cV; rw [fN_zero, fE_zero, D32_0]; rfl
    rw [this] at h; exact h)
theorem inS.has {a : Iv} {t : Dyadic} (h : inS a t) : hasV a t := by
  obtain ⟨x, y, rfl, hxy, ht, _⟩ := h
  unfold hasV; rw [ivD_l, ivD_h]; exact ht.in hxy
theorem inS.sm {a : Iv} {t : Dyadic} (h : inS a t) (ha : SmV 14 6 a) : Sm 18 9 t := by
  obtain ⟨x, y, e, hxy, ht, _⟩ := h
  obtain ⟨x', y', e', sx, sy, _⟩ := ha
  have h1 := congrArg (fun a => a.lo.val) (e.symm.trans e')
  have h2 := congrArg (fun a => a.hi.val) (e.symm.trans e')
  simp only [ivD_l, ivD_h] at h1 h2
  subst h1; subst h2
  exact ht.sm sx sy
theorem sumD_sm {k q n : Nat} {f : Nat → Dyadic} (h : ∀ i, i < n → Sm k q (f i)) : ∀ i, i ≤ n → Sm (k + i) q (sumD f i)
  | 0 => fun _ => Sm.zero
  | i + 1 => fun hi => (sumD_sm h i (by omega)).add ((h i (by omega)).mono (by omega))
theorem powD_smL {t : Dyadic} (h : Sm 18 9 t) {i : Nat} (hi : i ≤ 5) : Sm 91 45 (powD t i) := by
  have h1 := (powD_sm h i).lift (45 - 9 * i)
  rw [show 9 * i + (45 - 9 * i) = 45 by omega] at h1
  exact h1.mono (by omega)
/-- What stays in sight in the loop. -/
structure Hold14 (k p : Nat) (x y : List Dyadic) (t : Dyadic) (c s : Iv) (b11 b12 b14 : Nat) (e : DEnv) (S : Store) : Prop where
  g4 : e 4 = i64 k
  g9 : e 9 = .g (eS eU (x.map nuOf))
  g10 : e 10 = .g (eS eU (y.map nuOf))
  g11 : e 11 = .ptr (.l 11) b11 0 0 3
  g12 : e 12 = .ptr (.l 12) b12 0 0 6
  g14 : e 14 = .ptr (.l 14) b14 0 0 6
  s11 : S (.l 11) = some ⟨b11, 3, 0, [[bl (nuOf t).neg, i64 (nuOf t).exp, W64 (nuOf t).w]]⟩
  s12 : S (.l 12) = some ⟨b12, 6, 0, [cI c]⟩
  s14 : S (.l 14) = some ⟨b14, 6, 0, [cI s]⟩
set_option maxHeartbeats 8000000 in
theorem p_SeriesHolds {w : List Nat} (hb : B64 w) : PC Tryz.prog 5 [W64 w] fun d => d = bl true := by
  have pK := p_known14
  have d1 := @dj Tryz.prog 6 [qT13_5_6_0, qT13_5_6_1]
  have d2 := @dl 15 qT13_5_15
  have d3 := @dl 16 qT13_5_16
  have d4 := @dl 17 qT13_5_17
  refine PB (rs := [.tmp 2]) Tryz.func5 ?_
  repeat (first | with_reducible refine pv_seq fun K hK => ?_ | ((with_reducible first | refine hK _ _ ?_ | (clear hK; refine hK _ _ ?_) | (clear hK; clear hK; refine hK _ _ ?_)); clear hK; try clear K) | refine W ?_ | exact Z | with_reducible intro b)
  refine p_Of (fun b0 => ?_)
  repeat (first | with_reducible refine pv_seq fun K hK => ?_ | ((with_reducible first | refine hK _ _ ?_ | (clear hK; refine hK _ _ ?_) | (clear hK; clear hK; refine hK _ _ ?_)); clear hK; try clear K) | refine W0 ?_ | exact Z | with_reducible intro b)
  refine p_dN (n := 6) (i := 0) (by simp -implicitDefEqProofs only [updS, upS, if_true]; rfl) hb (by omega) (by decide) (by decide) (fun k hk => ?_)
  repeat (first | with_reducible refine pv_seq fun K hK => ?_ | ((with_reducible first | refine hK _ _ ?_ | (clear hK; refine hK _ _ ?_) | (clear hK; clear hK; refine hK _ _ ?_)); clear hK; try clear K) | refine W0 ?_ | exact Z | with_reducible intro b)
  refine p_dPrec (i := 1) (by simp -implicitDefEqProofs only [updS, upS, if_true]; rfl) hb (by omega) (fun p j1 h8 h256 l1 => ?_)
  repeat (first | with_reducible refine pv_seq fun K hK => ?_ | ((with_reducible first | refine hK _ _ ?_ | (clear hK; refine hK _ _ ?_) | (clear hK; clear hK; refine hK _ _ ?_)); clear hK; try clear K) | refine W0 ?_ | exact Z | with_reducible intro b)
  refine p_dSmallBox (n := k + 1) (i := j1) (by simp -implicitDefEqProofs only [updS, upS, if_true]; rfl) hb (by omega) (by omega) (fun a j2 la sa l2 => ?_)
  repeat (first | with_reducible refine pv_seq fun K hK => ?_ | ((with_reducible first | refine hK _ _ ?_ | (clear hK; refine hK _ _ ?_) | (clear hK; clear hK; refine hK _ _ ?_)); clear hK; try clear K) | refine W0 ?_ | exact Z | with_reducible intro b)
  refine p_dSmallBox (n := k + 1) (i := j2) (by simp -implicitDefEqProofs only [updS, upS, if_true]; rfl) hb (by omega) (by omega) (fun v j3 lv sv l3 => ?_)
  repeat (first | with_reducible refine pv_seq fun K hK => ?_ | ((with_reducible first | refine hK _ _ ?_ | (clear hK; refine hK _ _ ?_) | (clear hK; clear hK; refine hK _ _ ?_)); clear hK; try clear K) | refine W0 ?_ | exact Z | with_reducible intro b)
  refine p_dSmallIv (i := j3) (by simp -implicitDefEqProofs only [updS, upS, if_true]; rfl) hb (by omega) (fun hx hy j4 sx sy hxy l4 => ?_)
  have ox := sx.ok (by decide) (by decide)
  have oy := sy.ok (by decide) (by decide)
  repeat (first | with_reducible refine pv_seq fun K hK => ?_ | ((with_reducible first | refine hK _ _ ?_ | (clear hK; refine hK _ _ ?_) | (clear hK; clear hK; refine hK _ _ ?_)); clear hK; try clear K) | refine W0 ?_ | exact Z | with_reducible intro b)
  have hva : ∀ z ∈ a, OkV z := fun z hz => (sa z hz).v (by decide) (by decide)
  have hvv : ∀ z ∈ v, OkV z := fun z hz => (sv z hz).v (by decide) (by decide)
  have J : ∀ (e : DEnv) (S : Store) (b8 b11 : Nat) (x y : List Dyadic) (t : Dyadic), x.length = a.length → (∀ q, q < a.length → inS (gI a q) (gD x q)) → y.length = v.length → (∀ q, q < v.length → inS (gI v q) (gD y q)) → InS hx hy t → OkD t → e 4 = i64 k → e 5 = i64 p → e 6 = .g (eS eI a) → e 7 = .g (eS eI v) → e 8 = .ptr (.l 8) b8 0 0 6 → e 9 = .g (eS eU (x.map nuOf)) → e 10 = .g (eS eU (y.map nuOf)) → e 11 = .ptr (.l 11) b11 0 0 3 →
      S (.l 8) = some ⟨b8, 6, 0, [cI (ivD hx hy)]⟩ → S (.l 11) = some ⟨b11, 3, 0, [[bl (nuOf t).neg, i64 (nuOf t).exp, W64 (nuOf t).w]]⟩ → K e S := by
    as_aux_lemma =>
    intro e S b8 b11 x y t lx ix ly iy it ot g4 g5 g6 g7 g8 g9 g10 g11 s8 s11
    have Sa : SmL 14 6 (k + 1) a := fun i hi => sa _ (gI_mem (by omega))
    have Sv : SmL 14 6 (k + 1) v := fun i hi => sv _ (gI_mem (by omega))
    have Sh : SmV 14 6 (ivD hx hy) := ⟨hx, hy, rfl, sx, sy, hxy⟩
    have wa : WfL a := ⟨by omega, fun z hz => ((sa z hz).v (by decide) (by decide)).ok.1⟩
    have wv : WfL v := ⟨by omega, fun z hz => ((sv z hz).v (by decide) (by decide)).ok.1⟩
    obtain ⟨ec, sc⟩ := coefR_sm (p := p) Sa Sv (by omega) (by omega) h8 h256 (by omega) (by omega) (by omega)
    have hmul : (14 + 6 + 3) * a.length ≤ (14 + 6 + 3) * 6 := Nat.mul_le_mul_left _ (by omega)
    have hmul2 : 6 * a.length ≤ 6 * 6 := Nat.mul_le_mul_left _ (by omega)
    have hmul3 : (14 + 6 + 3) * (a.length - 1) ≤ (14 + 6 + 3) * 6 := Nat.mul_le_mul_left _ (by omega)
    have hmul4 : 6 * (a.length - 1) ≤ 6 * 6 := Nat.mul_le_mul_left _ (by omega)
    obtain ⟨es, ss⟩ := sumR_sm (p := p) (by rw [la]; exact Sa) Sh h8 h256 (by omega) (by omega) (by omega) (by omega) (by decide) (by decide)
    have hc := coefV_has (p := p) (n := k) (a := a) (b := v) (x := gD x) (y := gD y) (fun i hi => (ix i (by omega)).has) (fun i hi => (iy i (by omega)).has) (k + 1) (Nat.le_refl _)
    have hs := sumV_has (p := p) (a := a) (h := ivD hx hy) (x := gD x) (t := t) (fun i hi => (ix i hi).has) (by unfold hasV; rw [ivD_l, ivD_h]; exact it.in hxy) (a.length - 1) (by omega)
    rw [show a.length - 1 + 1 = k + 1 by omega, sumD_congr (f := fun j => gD x (a.length - 1 - (a.length - 1) + j) * powD t j) (g := fun j => gD x j * powD t j) (k + 1) (fun j _ => by rw [Nat.sub_self, Nat.zero_add])] at hs
    have smx : ∀ i, i < k + 1 → Sm 18 9 (gD x i) := fun i hi => (ix i (by omega)).sm (Sa i hi)
    have smy : ∀ i, i < k + 1 → Sm 18 9 (gD y i) := fun i hi => (iy i (by omega)).sm (Sv i hi)
    have smt : Sm 18 9 t := it.sm sx sy
    have pC := p_Coef (k := (k : Int)) (p := (p : Int)) wa wv
    have pS := p_sSum (p := (p : Int)) wa (Sh.v (by decide) (by decide)).ok.1
    rw [ec] at pC
    rw [es] at pS
    have okc := sc.v (by omega) (by omega)
    have oks := ss.v (by omega) (by omega)
    have pI := p_iRight okc.ok.1
    have pJ := p_iRight oks.ok.1
    rw [okc.ok.2] at pI
    rw [oks.ok.2] at pJ
    clear ec es sc ss hmul hmul2 hmul3 hmul4 Sa Sv wa wv
    generalize coefV p a v k (k + 1) = c at *
    generalize sumV p a (ivD hx hy) (a.length - 1) = s at *
    obtain ⟨cl, ch, rfl, ocl, och, hcl⟩ := okc
    obtain ⟨sl, sh, rfl, osl, osh, hsl⟩ := oks
    unfold hasV at hc hs
    rw [ivD_l, ivD_h] at hc hs
    refine hK _ _ ?_
    clear hK
    unfold II at pC pS
    unfold cI at s8
    generalize hdc : ivD cl ch = dc at *
    generalize hds : ivD sl sh = ds at *
    generalize ivD hx hy = dh at *
    have hdc2 := hdc
    have hds2 := hds
    obtain ⟨⟨n1, e1, w1⟩, ⟨n2, e2, w2⟩⟩ := dc
    obtain ⟨⟨n3, e3, w3⟩, ⟨n4, e4, w4⟩⟩ := ds
    obtain ⟨⟨n5, e5, w5⟩, ⟨n6, e6, w6⟩⟩ := dh
    have ft := And.intro g4 (And.intro g5 (And.intro g6 (And.intro g7 (And.intro g8 (And.intro g9 (And.intro g10 (And.intro g11 (And.intro s8 s11))))))))
    repeat (first | with_reducible refine pv_stop 11 ?_ | with_reducible refine pv_seq fun K hK => ?_ | ((with_reducible first | refine hK _ _ ?_ | (clear hK; refine hK _ _ ?_) | (clear hK; clear hK; refine hK _ _ ?_)); clear hK; try clear K) | refine W ?_ | exact Z | with_reducible intro b)
    refine ⟨fun K q0 hC => ?_⟩
    repeat (first | with_reducible refine pv_seq fun K hK => ?_ | ((with_reducible first | refine hK _ _ ?_ | (clear hK; refine hK _ _ ?_) | (clear hK; clear hK; refine hK _ _ ?_)); clear hK; try clear K) | refine W0 ?_ | exact Z | with_reducible intro b)
    refine hC _ _ (Recast.join (Recast.z3v (k := .l 16) rfl (Recast.z3v (k := .l 17) rfl ?_)))
    refine q0 _ _ ?_
    clear hC q0
    have of_ : ∀ i, i ≤ k + 1 → OkD (sumD (fun j => gD x j * gD y (k - j)) i) := fun i hi => (sumD_sm (k := 36) (q := 18) (n := k + 1) (fun j hj => (smx j hj).mul (smy (k - j) (by omega))) i hi).ok2 (by omega) (by decide)
    have og_ : ∀ i, i ≤ k + 1 → OkD (sumD (fun j => gD x j * powD t j) i) := fun i hi => (sumD_sm (k := 109) (q := 54) (n := k + 1) (fun j hj => (smx j hj).mul (powD_smL smt (by omega))) i hi).ok2 (by omega) (by decide)
    have om : ∀ i, i < k + 1 → OkD (gD x i * gD y (k - i)) := fun i hi => ((smx i hi).mul (smy (k - i) (by omega))).ok2 (by decide) (by decide)
    have og : ∀ i, i < k + 1 → OkD (gD x i * powD t i) := fun i hi => ((smx i hi).mul (powD_smL smt (by omega))).ok2 (by decide) (by decide)
    have ow : ∀ i, i < k + 1 → OkD (powD t i) := fun i hi => (powD_smL smt (by omega)).ok2 (by decide) (by decide)
    have sf : ∀ i, sumD (fun j => gD x j * gD y (k - j)) (i + 1) = sumD (fun j => gD x j * gD y (k - j)) i + gD x i * gD y (k - i) := fun _ => rfl
    have sg : ∀ i, sumD (fun j => gD x j * powD t j) (i + 1) = sumD (fun j => gD x j * powD t j) i + gD x i * powD t i := fun _ => rfl
    have z0 : sumD (fun j => gD x j * gD y (k - j)) 0 = 0 := rfl
    have z1 : sumD (fun j => gD x j * powD t j) 0 = 0 := rfl
    generalize sumD (fun j => gD x j * gD y (k - j)) = F at *
    generalize sumD (fun j => gD x j * powD t j) = G at *
    repeat (first | with_reducible refine pv_seq fun K hK => ?_ | ((with_reducible first | refine hK _ _ ?_ | (clear hK; refine hK _ _ ?_) | (clear hK; clear hK; refine hK _ _ ?_)); clear hK; try clear K) | refine W0 ?_ | exact Z | with_reducible intro b)
    have J : ∀ (e : DEnv) (S : Store) (b12 b14 b16 b17 : Nat), e 12 = .ptr (.l 12) b12 0 0 6 → e 14 = .ptr (.l 14) b14 0 0 6 → e 16 = .ptr (.l 16) b16 0 0 3 → e 17 = .ptr (.l 17) b17 0 0 3 →
        S (.l 12) = some ⟨b12, 6, 0, [cI ⟨⟨n1, e1, w1⟩, ⟨n2, e2, w2⟩⟩]⟩ → S (.l 14) = some ⟨b14, 6, 0, [cI ⟨⟨n3, e3, w3⟩, ⟨n4, e4, w4⟩⟩]⟩ → S (.l 16) = some ⟨b16, 3, 0, [cV (F (k + 1))]⟩ → S (.l 17) = some ⟨b17, 3, 0, [cV (G (k + 1))]⟩ → K e S := by
      intro e S b12 b14 b16 b17 g12 g14 g16 g17 s12 s14 s16 s17
      have p1 := p_rWhole (n := 1) (by unfold R64; omega)
      rw [dy_one] at p1
      have r1 := p_Within1 (of_ (k + 1) (Nat.le_refl _)) ocl och hc.1 hc.2
      have r2 := p_Within1 (og_ (k + 1) (Nat.le_refl _)) osl osh hs.1 hs.2
      rw [hdc2] at r1
      rw [hds2] at r2
      unfold VA at p1 r1 r2
      unfold cI at s12 s14
      unfold cV at s16 s17
      simp only at s12 s14
      have ft := And.intro g12 (And.intro g14 (And.intro g16 (And.intro g17 (And.intro s12 (And.intro s14 (And.intro s16 s17))))))
      repeat' (first | with_reducible refine pv_seq fun K hK => ?_ | ((with_reducible first | refine hK _ _ ?_ | (clear hK; refine hK _ _ ?_) | (clear hK; clear hK; refine hK _ _ ?_)); clear hK; try clear K) | refine W ?_ | exact Z | with_reducible intro b | with_reducible refine And.intro ?_ ?_ )
    clear hK
    obtain ⟨I, mk, el⟩ := hide fun e S => ∃ (i b12 b14 b16 b17 : Nat), i ≤ k + 1 ∧ e 16 = .ptr (.l 16) b16 0 0 3 ∧ e 17 = .ptr (.l 17) b17 0 0 3 ∧ e 18 = i64 i ∧ S (.l 16) = some ⟨b16, 3, 0, [cV (F i)]⟩ ∧ S (.l 17) = some ⟨b17, 3, 0, [cV (G i)]⟩ ∧ Hold14 k p x y t ⟨⟨n1, e1, w1⟩, ⟨n2, e2, w2⟩⟩ ⟨⟨n3, e3, w3⟩, ⟨n4, e4, w4⟩⟩ b11 b12 b14 e S
    refine pv_loop I (fun e _ => k + 1 - (intD (e 18)).toNat) ?_ ?_
    · exact mk _ _ ⟨0, _, _, _, _, Nat.zero_le _, Zr, Zr, Zr, by rw [z0]; simp only [updS_apply]; rfl, by rw [z1]; simp only [updS_apply]; rfl, ⟨Zr, Zr, Zr, Zr, Zr, Zr, by simp only [updS_apply]; exact s11, by simp only [updS_apply]; rfl, by simp only [updS_apply]; rfl⟩⟩
    · intro e S hI
      obtain ⟨i, b12, b14, b16, b17, hi, g16, g17, g18, s16, s17, ⟨g4, g9, g10, g11, g12, g14, s11, s12, s14⟩⟩ := el e S hI
      clear el hI
      have ft := And.intro g4 (And.intro g9 (And.intro g10 (And.intro g11 (And.intro g12 (And.intro g14 (And.intro g16 (And.intro g17 g18)))))))
      repeat (first | with_reducible refine pv_seq fun K hK => ?_ | ((with_reducible first | refine hK _ _ ?_ | (clear hK; refine hK _ _ ?_) | (clear hK; clear hK; refine hK _ _ ?_)); clear hK; try clear K) | refine W0 ?_ | exact Z | with_reducible intro b)
      refine pv_cdD (fun ht => ?_) (fun ht => ?_)
      · have hil : i < k + 1 := by omega
        have q1 := gD_at (l := x) (i := i) (by omega)
        have q2 := gD_at (l := y) (i := k - i) (by omega)
        have kt : ((k : Int) - (i : Int)).toNat = k - i := by omega
        have o1 := p_rOf ((smx i hil).ok2 (by decide) (by decide))
        have o2 := p_rOf ((smy (k - i) (by omega)).ok2 (by decide) (by decide))
        have o3 := p_rOf ot
        have m1 := p_rBy ((smx i hil).ok2 (by decide) (by decide)).bd ((smy (k - i) (by omega)).ok2 (by decide) (by decide)).bd (by decide)
        have m2 := p_rBy ((smx i hil).ok2 (by decide) (by decide)).bd (ow i hil).bd (by decide)
        have pw := p_rPower (k := i) ot.bd (by omega)
        have a1 := p_rPlus (of_ i hi).bd (om i hil).bd (by decide)
        have a2 := p_rPlus (og_ i hi).bd (og i hil).bd (by decide)
        rw [← sf] at a1
        rw [← sg] at a2
        have mk2 : ∀ (e : DEnv) (S : Store), e 16 = .ptr (.l 16) b16 0 0 3 → e 17 = .ptr (.l 17) b17 0 0 3 → e 18 = i64 ((i + 1 : Nat) : Int) → S (.l 16) = some ⟨b16, 3, 0, [cV (F (i + 1))]⟩ → S (.l 17) = some ⟨b17, 3, 0, [cV (G (i + 1))]⟩ → Hold14 k p x y t ⟨⟨n1, e1, w1⟩, ⟨n2, e2, w2⟩⟩ ⟨⟨n3, e3, w3⟩, ⟨n4, e4, w4⟩⟩ b11 b12 b14 e S → I e S := fun e S a1 a2 a3 a4 a5 a6 => mk e S ⟨i + 1, b12, b14, b16, b17, by omega, a1, a2, a3, a4, a5, a6⟩
        clear mk J of_ og_ om og ow sf sg smx smy hc hs pI pJ pC pS
        generalize gD x i * gD y (k - i) = u1 at *
        generalize gD x i * powD t i = u2 at *
        generalize powD t i = u3 at *
        generalize hX : nuOf (gD x i) = X at *
        generalize hY : nuOf (gD y (k - i)) = Y at *
        generalize gD x i = xi at *
        generalize gD y (k - i) = yi at *
        generalize hT : nuOf t = T at *
        obtain ⟨n7, e7, w7⟩ := X
        obtain ⟨n8, e8, w8⟩ := Y
        obtain ⟨n9, e9, w9⟩ := T
        unfold VA at o1 o2 o3 m1 m2 pw a1 a2
        unfold cV at *
        simp only at s11
        have ft := And.intro g4 (And.intro g9 (And.intro g10 (And.intro g11 (And.intro g12 (And.intro g14 (And.intro g16 (And.intro g17 (And.intro g18 (And.intro s11 (And.intro s16 (And.intro s17 (And.intro q1 (And.intro q2 kt)))))))))))))
        repeat' (first | with_reducible refine pv_seq fun K hK => ?_ | ((with_reducible first | refine hK _ _ ?_ | (clear hK; refine hK _ _ ?_) | (clear hK; clear hK; refine hK _ _ ?_)); clear hK; try clear K) | refine W ?_ | exact Z | with_reducible intro b | with_reducible refine And.intro ?_ ?_ )
        all_goals first | (rw [List.length_map]; omega) | (simp only [intD]; omega) | exact mk2 _ _ Zr Zr Zr (by simp only [updS_apply]; rfl) (by simp only [updS_apply]; rfl) ⟨Zr, Zr, Zr, Zr, Zr, Zr, by rw [hT]; simp only [updS_apply]; exact s11, by simp only [updS_apply]; exact s12, by simp only [updS_apply]; exact s14⟩
      · obtain rfl : i = k + 1 := by omega
        repeat (first | with_reducible refine pv_seq fun K hK => ?_ | ((with_reducible first | refine hK _ _ ?_ | (clear hK; refine hK _ _ ?_) | (clear hK; clear hK; refine hK _ _ ?_)); clear hK; try clear K) | refine W0 ?_ | exact Z | with_reducible intro b)
        exact J _ _ b12 b14 b16 b17 Zr Zr Zr Zr s12 s14 s16 s17
  clear hK
  repeat' (first | with_reducible refine pv_seq fun K hK => ?_ | ((with_reducible first | refine hK _ _ ?_ | (clear hK; refine hK _ _ ?_) | (clear hK; clear hK; refine hK _ _ ?_)); clear hK; try clear K) | refine W ?_ | exact Z | with_reducible intro b | with_reducible refine And.intro ?_ ?_ | (refine cj fun K hK => ?_) | (refine p_dInBox (i := j4) (l := a) (by simp -implicitDefEqProofs only [updS, upS, if_true]; rfl) hb (by omega) (by omega) hva (fun x lx ix => ?_)) | (refine p_dInBox (i := j4 + a.length) (l := v) (by simp -implicitDefEqProofs only [updS, upS, if_true]; rfl) hb (by omega) (by omega) hvv (fun y ly iy => ?_)) | (refine p_dIn (i := j4 + a.length + v.length) (x := hx) (y := hy) (by simp -implicitDefEqProofs only [updS, upS, if_true]; rfl) hb (by omega) ox oy (fun t ot it => ?_)) | exact J _ _ _ _ x y t lx ix ly iy it ot Zr Zr Zr Zr Zr Zr Zr Zr Zr Zr)
end Go.V

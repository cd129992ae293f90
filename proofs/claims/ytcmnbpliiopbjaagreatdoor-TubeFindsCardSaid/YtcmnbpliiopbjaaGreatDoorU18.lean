/- Plain laws of boxes in boxes and tubes in tubes. -/
import Derived.Test.YtcmnbpliiopbjaaGreatDoorU17
import Derived.Test.YtcmnbpliiopbjaaGreatDoorI23
set_option linter.unusedSimpArgs false
set_option linter.unusedVariables false
set_option maxRecDepth 100000
namespace Go.V
open Go Go.RowKit Go.Proofs

/-- An interval of right numbers. -/
def OkV (a : Iv) : Prop := ∃ x y, a = ivD x y ∧ OkD x ∧ OkD y ∧ x ≤ y
theorem SmI.v {a : Iv} (h : SmI a) : OkV a := by
  obtain ⟨x, y, rfl, hx, hy, h⟩ := h
  exact ⟨x, y, rfl, hx.ok (by decide) (by decide), hy.ok (by decide) (by decide), h⟩
theorem OkV.ok {a : Iv} (h : OkV a) : Wi 65536 a ∧ rightI a = true := by
  obtain ⟨x, y, rfl, ox, oy, h⟩ := h
  exact ⟨wi_D ox oy, by rw [rightI_D ox oy]; exact decide_eq_true h⟩
/-- Is one interval in another one? -/
def inI (a b : Iv) : Prop := endsR a b 0 = true
theorem inI_iff {a b : Iv} (ha : OkV a) (hb : OkV b) : inI a b ↔ b.lo.val ≤ a.lo.val ∧ a.hi.val ≤ b.hi.val := by
  unfold inI endsR
  rw [ha.ok.2, hb.ok.2, Bool.and_self, Bool.true_and, Bool.and_eq_true, decide_eq_true_eq, decide_eq_true_eq, cmpD_0le, cmpD_0le]
theorem inI_refl {a : Iv} (h : OkV a) : inI a a := (inI_iff h h).2 ⟨by grind, by grind⟩
theorem inI_trans {a b c : Iv} (ha : OkV a) (hb : OkV b) (hc : OkV c) (h1 : inI a b) (h2 : inI b c) : inI a c := by
  rw [inI_iff ha hb] at h1
  rw [inI_iff hb hc] at h2
  exact (inI_iff ha hc).2 ⟨by grind, by grind⟩
theorem part_in {x y t u : Dyadic} (ox : OkD x) (oy : OkD y) (hxy : x ≤ y) (ot : OkD t) (ou : OkD u) (ht : InS x y t) (hu : InS x y u) : OkV (ivD (loD t u) (hiD t u)) ∧ inI (ivD (loD t u) (hiD t u)) (ivD x y) := by
  have e1 : loD t u = t ∨ loD t u = u := by unfold loD; split <;> simp
  have e2 : hiD t u = t ∨ hiD t u = u := by unfold hiD; split <;> simp
  have h1 := ht.in hxy
  have h2 := hu.in hxy
  have ol : OkD (loD t u) := by rcases e1 with h | h <;> rw [h] <;> assumption
  have oh : OkD (hiD t u) := by rcases e2 with h | h <;> rw [h] <;> assumption
  have v : OkV (ivD (loD t u) (hiD t u)) := ⟨_, _, rfl, ol, oh, lo_le_hi t u⟩
  refine ⟨v, (inI_iff v ⟨_, _, rfl, ox, oy, hxy⟩).2 ?_⟩
  show (nuOf x).val ≤ (nuOf (loD t u)).val ∧ (nuOf (hiD t u)).val ≤ (nuOf y).val
  rw [val_nuOf, val_nuOf, val_nuOf, val_nuOf]
  exact ⟨by rcases e1 with h | h <;> rw [h]; exact h1.1; exact h2.1, by rcases e2 with h | h <;> rw [h]; exact h1.2; exact h2.2⟩

/-- A box in a box. -/
structure InX (a b : List Iv) : Prop where
  len : a.length = b.length
  ok : ∀ x ∈ a, OkV x
  it : ∀ i, i < a.length → inI (gI a i) (gI b i)
theorem InX.refl {a : List Iv} (h : ∀ x ∈ a, OkV x) : InX a a := ⟨rfl, h, fun i hi => inI_refl (h _ (gI_mem hi))⟩
theorem InX.trans {a b c : List Iv} (h1 : InX a b) (h2 : InX b c) (hc : ∀ x ∈ c, OkV x) : InX a c := ⟨h1.len.trans h2.len, h1.ok, fun i hi => by
  have l1 := h1.len
  have l2 := h2.len
  exact inI_trans (h1.ok _ (gI_mem hi)) (h2.ok _ (gI_mem (by omega))) (hc _ (gI_mem (by omega))) (h1.it i hi) (h2.it i (by omega))⟩
theorem InX.inB {a b : List Iv} (h : InX a b) (hr : rightL b = true) : inB a b = true := by
  have hr2 : rightL a = true := by unfold rightL at hr ⊢; rw [h.len]; exact hr
  unfold V.inB allI
  rw [hr2, hr, decide_eq_true h.len, Bool.and_self, Bool.true_and, Bool.true_and]
  exact decide_eq_true fun i hi => h.it i hi

/-- A tube with the same times and parts of the boxes. -/
structure SubT (b a : List Sg) : Prop where
  len : b.length = a.length
  it : ∀ i, i < a.length → (gS b i).fr = (gS a i).fr ∧ (gS b i).to = (gS a i).to ∧ (gS b i).t0 = (gS a i).t0 ∧ (gS b i).t1 = (gS a i).t1 ∧ InX (gS b i).box (gS a i).box
theorem SubT.okP {a b : List Sg} (h : SubT b a) (ha : ∀ s ∈ a, OkP s) : ∀ s ∈ b, OkP s := by
  intro s hs
  obtain ⟨i, hi⟩ := List.mem_iff_getElem?.1 hs
  have hl : i < b.length := (List.getElem?_eq_some_iff.1 hi).1
  have e : s = gS b i := by have := gS_at hl; rw [hi] at this; injection this
  have la := h.len
  obtain ⟨_, _, e3, e4, e5⟩ := h.it i (by omega)
  have h2 := ha _ (gS_mem (show i < a.length by omega))
  subst e
  exact ⟨⟨by rw [e3]; exact h2.a, by rw [e4]; exact h2.b, by rw [e3]; exact h2.ra, by rw [e4]; exact h2.rb⟩, fun x hx => (e5.ok x hx).ok, by rw [e5.len]; exact h2.n⟩
theorem SubT.row {a b : List Sg} (h : SubT b a) {i : Nat} (hi : i < a.length) (hr : rowAt a i) : rowAt b i := by
  obtain ⟨e1, e2, e3, e4, e5⟩ := h.it i hi
  obtain ⟨p1, p2, p3, p4, p5⟩ := h.it (i - 1) (by omega)
  obtain ⟨q1, q2, q3, q4, q5⟩ := h.it 0 (by omega)
  refine ⟨?_, fun h0 => ?_⟩
  · have h1 := hr.1
    unfold rightS rightL at h1 ⊢
    rw [e1, e2, e3, e4, e5.len]; exact h1
  · have h1 := hr.2 h0
    unfold behB at h1 ⊢
    rw [e1, e3, p2, p4, e5.len, q5.len]; exact h1
theorem SubT.tube {a b : List Sg} (h : SubT b a) (ha : tubeB a = true) : tubeB b = true := by
  have la := h.len
  unfold tubeB rowB
  rw [decide_eq_true fun i hi => h.row (i := i) (by omega) (tube_row ha (by omega)), Bool.true_and]
  by_cases h0 : b.length = 0
  · rw [decide_eq_true h0]; rfl
  · obtain ⟨h1, h2⟩ := tube_head ha (by omega)
    obtain ⟨q1, q2, q3, q4, q5⟩ := h.it 0 (by omega)
    rw [q1, q3, decide_eq_true h1, decide_eq_true h2]; simp
theorem SubT.refl {a : List Sg} (h : ∀ s ∈ a, ∀ x ∈ s.box, OkV x) : SubT a a := ⟨rfl, fun i hi => ⟨rfl, rfl, rfl, rfl, InX.refl (h _ (gS_mem hi))⟩⟩
theorem SubT.trans {a b c : List Sg} (h1 : SubT c b) (h2 : SubT b a) (ha : ∀ s ∈ a, ∀ x ∈ s.box, OkV x) : SubT c a := by
  have l1 := h1.len
  have l2 := h2.len
  refine ⟨by omega, fun i hi => ?_⟩
  obtain ⟨e1, e2, e3, e4, e5⟩ := h1.it i (by omega)
  obtain ⟨p1, p2, p3, p4, p5⟩ := h2.it i hi
  exact ⟨e1.trans p1, e2.trans p2, e3.trans p3, e4.trans p4, e5.trans p5 (ha _ (gS_mem hi))⟩
theorem SubT.last {a b : List Sg} (h : SubT b a) (ha : tubeB a = true) : (lastT b).to = (lastT a).to ∧ (lastT b).t1 = (lastT a).t1 := by
  have hb := h.tube ha
  have la := h.len
  rcases Nat.eq_zero_or_pos a.length with h0 | h0
  · unfold lastT
    rw [if_pos (.inl (by omega)), if_pos (.inl h0)]
    exact ⟨rfl, rfl⟩
  · rw [lastT_eq ha h0, lastT_eq hb (by omega), la]
    obtain ⟨e1, e2, e3, e4, e5⟩ := h.it (a.length - 1) (by omega)
    exact ⟨e2, e4⟩
theorem SubT.covers {a b : List Sg} (h : SubT b a) (ha : tubeB a = true) : coversB a b = true := by
  have la := h.len
  obtain ⟨h1, h2⟩ := h.last ha
  unfold coversB allIn
  rw [ha, h.tube ha, h1, h2, decide_eq_true rfl, decide_eq_true rfl, Bool.and_self, Bool.and_self, Bool.and_self, Bool.true_and]
  refine decide_eq_true fun i hi => inSome_yes (k := i) (by omega) ?_
  obtain ⟨e1, e2, e3, e4, e5⟩ := h.it i (by omega)
  unfold withinB
  rw [e1, e2, e3, e4, e5.inB (rightS_f (tube_row ha (show i < a.length by omega)).1).2.2.2.2]
  simp
/-- What meets a span does so in the part, too. -/
theorem SubT.meet {a b : List Sg} (h : SubT b a) {lo hi : Nu} {i : Nat} (hi' : i < a.length) : meetB lo hi (gS b i) = meetB lo hi (gS a i) := by
  obtain ⟨e1, e2, e3, e4, e5⟩ := h.it i hi'
  unfold meetB
  rw [e3, e4]
theorem SubT.met {a b : List Sg} (h : SubT b a) {lo hi : Nu} : metL lo hi b b.length = metL lo hi a a.length := by
  unfold metL
  rw [h.len]
  exact List.filter_congr fun i hi => h.meet (List.mem_range.1 hi)
/-- A tube does not cover a shorter one. -/
theorem covers_short {a : List Sg} (ha : tubeB a = true) (h0 : 0 < a.length) : coversB a (a.take (a.length - 1)) = false := by
  have h1 : (lastT a).to ≠ (lastT (a.take (a.length - 1))).to := by
    have hl : (a.take (a.length - 1)).length = a.length - 1 := by rw [List.length_take]; omega
    have hf := rightS_f (tube_row ha (show a.length - 1 < a.length by omega)).1
    rw [lastT_eq ha h0]
    unfold lastT
    split
    · show (gS a (a.length - 1)).to ≠ 0; omega
    · rename_i hn
      have h2 : 0 < a.length - 1 := by rcases Nat.eq_zero_or_pos (a.length - 1) with h | h; exact absurd (.inl (by omega)) hn; exact h
      have h3 : gS (a.take (a.length - 1)) ((a.take (a.length - 1)).length - 1) = gS a (a.length - 1 - 1) := by
        unfold gS
        rw [hl, List.getD, List.getD, List.getElem?_take, if_pos (by omega)]
      rw [h3]
      have := tube_lt ha (show a.length - 1 - 1 < a.length - 1 by omega) (by omega)
      omega
  unfold coversB
  rw [decide_eq_false h1]
  simp
end Go.V

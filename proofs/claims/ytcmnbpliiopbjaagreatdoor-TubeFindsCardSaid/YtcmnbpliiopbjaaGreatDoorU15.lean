/- Plain laws of the deck's times. -/
import Derived.Test.YtcmnbpliiopbjaaGreatDoorU11
set_option linter.unusedSimpArgs false
set_option linter.unusedVariables false
set_option maxRecDepth 100000
namespace Go.V
open Go Go.RowKit Go.Proofs

/-- A number of eighths. -/
def e8 (c : Nat) : Dyadic := dy false c (-3)
theorem e8_lt {a b : Nat} : e8 a < e8 b ↔ a < b := by
  unfold e8 dy
  have h := owp_lt (x := sg false a) (y := sg false b) (p := 3)
  rw [show (-(-3 : Int)) = 3 from rfl]
  rw [h]
  simp [sg]
theorem e8_add (a b : Nat) : e8 a + e8 b = e8 (a + b) := by
  unfold e8 dy
  rw [owp_add]
  congr 1
theorem Tm.e8 {d : Dyadic} (h : Tm d) : ∃ c, d = e8 c ∧ 1 ≤ c ∧ c ≤ 64 := by
  obtain ⟨m, e, rfl, h1, h2, h3, h4⟩ := h
  obtain ⟨k, rfl, hk⟩ : ∃ k : Nat, e = (k : Int) - 3 ∧ k ≤ 3 := ⟨(e + 3).toNat, by omega, by omega⟩
  refine ⟨m * 2 ^ k, ?_, ?_, ?_⟩
  · unfold V.e8 dy
    have := owp_shl (sg false m) (-((k : Int) - 3)) k
    rw [show -((k : Int) - 3) + (k : Int) = -(-3 : Int) by omega] at this
    rw [← this]
    congr 1
  · exact Nat.mul_pos h1 (Nat.pow_pos (by decide))
  · have : 2 ^ k ≤ 2 ^ 3 := Nat.pow_le_pow_right (by decide) hk
    exact Nat.mul_le_mul h2 this
theorem e8_ok {c : Nat} (h : c ≤ 2000) : OkD (e8 c) := (Bx.dy (m := 11) (l := 20) (j := 0) (by omega) (by decide) (by decide)).ok (by decide) (by decide)
/-- A piece of the deck's. -/
def PcOk (n : Nat) (s : Sg) : Prop := OkP s ∧ s.box.length = n ∧ ∀ a ∈ s.box, SmI a
/-- What the deck's tube is, piece by piece. -/
structure TubeI (n : Nat) (l : List Sg) (at_ c : Nat) : Prop where
  pc : ∀ s ∈ l, PcOk n s
  row : ∀ i, i < l.length → rowAt l i
  head : 0 < l.length → (gS l 0).fr = 1 ∧ (gS l 0).t0.val = 0
  last : 0 < l.length → (gS l (l.length - 1)).to = (at_ : Int) ∧ (gS l (l.length - 1)).t1 = nuOf (e8 c)
  nil : l.length = 0 → at_ = 0 ∧ c = 0
  cb : c ≤ 64 * l.length
  ab : at_ ≤ 6 * l.length
theorem TubeI.start (n : Nat) : TubeI n [] 0 0 := ⟨fun s h => (by cases h), fun i h => (by cases h), fun h => (by cases h), fun h => (by cases h), fun _ => ⟨rfl, rfl⟩, by decide, by decide⟩
theorem TubeI.tube {n : Nat} {l : List Sg} {a c : Nat} (h : TubeI n l a c) : tubeB l = true := by
  unfold tubeB rowB
  rw [decide_eq_true h.row, Bool.true_and]
  by_cases h0 : l.length = 0
  · rw [decide_eq_true h0]; rfl
  · obtain ⟨h1, h2⟩ := h.head (by omega)
    rw [decide_eq_true h1, decide_eq_true h2]; simp
theorem gS_left {l : List Sg} {s : Sg} {i : Nat} (h : i < l.length) : gS (l ++ [s]) i = gS l i := by simp [gS, List.getD, List.getElem?_append_left h]
theorem gS_new {l : List Sg} {s : Sg} : gS (l ++ [s]) l.length = s := by simp [gS, List.getD]
theorem TubeI.step {n a c x d : Nat} {l : List Sg} {box : List Iv} (h : TubeI n l a c) (hl : l.length ≤ 20) (hn1 : 1 ≤ n) (hn4 : n ≤ 4) (hx : x ≤ 4) (hd : 1 ≤ d) (hd2 : d ≤ 64) (hb : box.length = n) (hbs : ∀ b ∈ box, SmI b) :
    TubeI n (l ++ [⟨(a : Int) + 1, (a : Int) + 1 + x, nuOf (e8 c), nuOf (e8 (c + d)), box⟩]) (a + 1 + x) (c + d) := by
  have hc := h.cb
  have ha := h.ab
  have o1 : OkD (e8 c) := e8_ok (by omega)
  have o2 : OkD (e8 (c + d)) := e8_ok (by omega)
  obtain ⟨s, hs⟩ : ∃ s : Sg, s = ⟨(a : Int) + 1, (a : Int) + 1 + x, nuOf (e8 c), nuOf (e8 (c + d)), box⟩ := ⟨_, rfl⟩
  have ok : OkP s := by
    subst hs
    exact ⟨⟨(o1.sz).wl, (o2.sz).wl, by rw [rightB_nuOf]; exact decide_eq_true o1, by rw [rightB_nuOf]; exact decide_eq_true o2⟩, fun b hb => (hbs b hb).ok, by show box.length ≤ 100000; omega⟩
  have hR : rightS s = true := by
    subst hs
    unfold rightS rightL
    simp only [val_nuOf, hb, Bool.and_eq_true, decide_eq_true_eq]
    refine ⟨⟨⟨⟨⟨by omega, by omega⟩, by omega⟩, dy_nn _ _⟩, e8_lt.2 (by omega)⟩, by omega, by omega⟩
  have e1 : s.fr = (a : Int) + 1 := by subst hs; rfl
  have e2 : s.to = (a : Int) + 1 + x := by subst hs; rfl
  have e3 : s.t0 = nuOf (e8 c) := by subst hs; rfl
  have e4 : s.t1 = nuOf (e8 (c + d)) := by subst hs; rfl
  have e5 : s.box = box := by subst hs; rfl
  rw [← hs]
  clear hs
  have hlen : (l ++ [s]).length = l.length + 1 := by simp
  refine ⟨fun q hq => ?_, fun i hi => ?_, fun _ => ?_, fun _ => ?_, fun h0 => by omega, by omega, by omega⟩
  · rcases List.mem_append.1 hq with h1 | h1
    · exact h.pc q h1
    · rw [List.mem_singleton.1 h1]; exact ⟨ok, by rw [e5]; exact hb, by rw [e5]; exact hbs⟩
  · rcases Nat.lt_or_ge i l.length with h1 | h1
    · have h2 := h.row i h1
      refine ⟨by rw [gS_left h1]; exact h2.1, fun h3 => ?_⟩
      have h4 := h2.2 h3
      unfold behB at h4 ⊢
      rw [gS_left h1, gS_left (show i - 1 < l.length by omega), gS_left (show 0 < l.length by omega)]
      exact h4
    · obtain rfl : i = l.length := by omega
      refine ⟨by rw [gS_new]; exact hR, fun h3 => ?_⟩
      obtain ⟨h4, h5⟩ := h.last h3
      have h6 := h.pc _ (gS_mem h3)
      unfold behB
      rw [gS_new, gS_left (show l.length - 1 < l.length by omega), gS_left h3, h4, h5, e1, e3, e5, h6.2.1, hb]
      simp
  · rcases Nat.eq_zero_or_pos l.length with h1 | h1
    · obtain ⟨h2, h3⟩ := h.nil h1
      have hl0 : l = [] := List.eq_nil_of_length_eq_zero h1
      subst hl0
      refine ⟨by show s.fr = 1; rw [e1, h2]; rfl, ?_⟩
      show s.t0.val = 0
      rw [e3, val_nuOf, h3]
      exact dy_zero.2 rfl
    · rw [gS_left h1]; exact h.head h1
  · have h1 : (l ++ [s]).length - 1 = l.length := by omega
    rw [h1, gS_new, e2, e4]
    exact ⟨by omega, rfl⟩
end Go.V

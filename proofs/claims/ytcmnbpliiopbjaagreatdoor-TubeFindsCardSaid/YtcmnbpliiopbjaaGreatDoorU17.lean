/- Plain laws of tubes: which piece is ahead of which, what covers what, what meets a span. -/
import Derived.Test.YtcmnbpliiopbjaaGreatDoorU15
import Derived.Test.YtcmnbpliiopbjaaGreatDoorU12
set_option linter.unusedSimpArgs false
set_option linter.unusedVariables false
set_option maxRecDepth 100000
namespace Go.V
open Go Go.RowKit Go.Proofs

theorem tube_row {l : List Sg} (h : tubeB l = true) {i : Nat} (hi : i < l.length) : rowAt l i := by
  unfold tubeB rowB at h
  rw [Bool.and_eq_true] at h
  exact of_decide_eq_true h.1 i hi
theorem tube_head {l : List Sg} (h : tubeB l = true) (h0 : 0 < l.length) : (gS l 0).fr = 1 ∧ (gS l 0).t0.val = 0 := by
  unfold tubeB at h
  rw [Bool.and_eq_true, decide_eq_false (show ¬ l.length = 0 by omega), Bool.false_or, Bool.and_eq_true] at h
  exact ⟨of_decide_eq_true h.2.1, of_decide_eq_true h.2.2⟩
theorem rightS_f {s : Sg} (h : rightS s = true) : 1 ≤ s.fr ∧ s.fr ≤ s.to ∧ 0 ≤ s.t0.val ∧ s.t0.val < s.t1.val ∧ rightL s.box = true := by
  unfold rightS at h
  simp only [Bool.and_eq_true, decide_eq_true_eq] at h
  exact ⟨h.1.1.1.1.1, h.1.1.1.1.2, h.1.1.2, h.1.2, h.2⟩
theorem behB_f {l : List Sg} {i : Nat} (h : behB l i = true) : (gS l i).fr = (gS l (i - 1)).to + 1 ∧ (gS l i).t0.val = (gS l (i - 1)).t1.val ∧ (gS l i).box.length = (gS l 0).box.length := by
  unfold behB at h
  simp only [Bool.and_eq_true, decide_eq_true_eq] at h
  exact ⟨h.1.1, h.1.2, h.2⟩
theorem tube_lt {l : List Sg} (h : tubeB l = true) {i k : Nat} (hik : i < k) (hk : k < l.length) : (gS l i).to < (gS l k).fr ∧ (gS l i).to < (gS l k).to := by
  induction k with
  | zero => omega
  | succ k ih =>
    have h1 := tube_row h hk
    have h2 := (behB_f (h1.2 (by omega))).1
    rw [show k + 1 - 1 = k by omega] at h2
    have h3 := rightS_f h1.1
    by_cases hi : i = k
    · subst hi; omega
    · have := ih (by omega) (by omega); omega
theorem tube_fr {l : List Sg} (h : tubeB l = true) {i k : Nat} (hik : i ≤ k) (hk : k < l.length) : (gS l i).fr ≤ (gS l k).fr := by
  rcases Nat.lt_or_eq_of_le hik with h1 | rfl
  · have h2 := tube_lt h h1 hk
    have h3 := rightS_f (tube_row h (show i < l.length by omega)).1
    omega
  · exact Int.le_refl _
theorem lastT_eq {l : List Sg} (h : tubeB l = true) (h0 : 0 < l.length) : lastT l = gS l (l.length - 1) := by
  unfold lastT
  rw [if_neg (by rw [h]; intro hn; rcases hn with h1 | h1 <;> first | omega | cases h1)]
theorem nuOf_0 : nuOf (e8 0) = nu0 := by
  have : e8 0 = 0 := dy_zero.2 rfl
  rw [this]; rfl
theorem TubeI.til {n a c : Nat} {l : List Sg} (h : TubeI n l a c) : (lastT l).t1 = nuOf (e8 c) := by
  rcases Nat.eq_zero_or_pos l.length with h0 | h0
  · unfold lastT
    rw [if_pos (.inl h0), (h.nil h0).2, nuOf_0]; rfl
  · rw [lastT_eq h.tube h0]; exact (h.last h0).2
theorem TubeI.step_n {n a c : Nat} {l : List Sg} (h : TubeI n l a c) : (lastT l).to = (a : Int) := by
  rcases Nat.eq_zero_or_pos l.length with h0 | h0
  · unfold lastT
    rw [if_pos (.inl h0), (h.nil h0).1]; rfl
  · rw [lastT_eq h.tube h0]; exact (h.last h0).1
theorem TubeI.okP {n a c : Nat} {l : List Sg} (h : TubeI n l a c) : ∀ s ∈ l, OkP s := fun s hs => (h.pc s hs).1

/-- Is a piece within one of a tube's? -/
def inSome (a : List Sg) (s : Sg) : Bool := (List.range a.length).any fun k => withinB s (gS a k)
theorem inSome_yes {a : List Sg} {s : Sg} {k : Nat} (hk : k < a.length) (h : withinB s (gS a k) = true) : inSome a s = true := List.any_eq_true.2 ⟨k, List.mem_range.2 hk, h⟩
theorem inSome_no {a : List Sg} {s : Sg} (h : ∀ k, k < a.length → withinB s (gS a k) = false) : inSome a s = false := by
  unfold inSome
  rw [List.any_eq_false]
  intro k hk
  rw [h k (List.mem_range.1 hk)]; decide
def allIn (a b : List Sg) : Bool := decide (∀ i, i < b.length → inSome a (gS b i) = true)
theorem allIn_no {a b : List Sg} {i : Nat} (hi : i < b.length) (h : inSome a (gS b i) = false) : allIn a b = false := decide_eq_false fun h2 => by have := h2 i hi; rw [h] at this; cases this
def coversB (a b : List Sg) : Bool := tubeB a && tubeB b && decide ((lastT a).to = (lastT b).to) && decide ((lastT a).t1.val = (lastT b).t1.val) && allIn a b
theorem withinB_f {b a : Sg} (h : withinB b a = true) : a.fr ≤ b.fr ∧ b.to ≤ a.to ∧ a.t0.val ≤ b.t0.val ∧ b.t1.val ≤ a.t1.val ∧ inB b.box a.box = true := by
  unfold withinB at h
  simp only [Bool.and_eq_true, decide_eq_true_eq] at h
  exact ⟨h.1.1.1.1, h.1.1.1.2, h.1.1.2, h.1.2, h.2⟩
theorem withinB_no1 {b a : Sg} (hb : b.fr ≤ b.to) (h : a.to < b.fr) : withinB b a = false := by
  cases hw : withinB b a with
  | false => rfl
  | true => have := withinB_f hw; omega
theorem withinB_no2 {b a : Sg} (h : b.fr < a.fr) : withinB b a = false := by
  cases hw : withinB b a with
  | false => rfl
  | true => have := withinB_f hw; omega
/-- The piece at i is the first that ends behind the beginning, and does not hold it: no piece does. -/
theorem inSome_at {a : List Sg} {s : Sg} {i : Nat} (ha : tubeB a = true) (hs : s.fr ≤ s.to) (hi : i ≤ a.length) (h1 : ∀ k, k < i → (gS a k).to < s.fr) (h2 : i < a.length → s.fr ≤ (gS a i).to ∧ withinB s (gS a i) = false) : inSome a s = false := by
  refine inSome_no fun k hk => ?_
  rcases Nat.lt_trichotomy k i with h | rfl | h
  · exact withinB_no1 hs (h1 k h)
  · exact (h2 hk).2
  · have h3 := h2 (by omega)
    have h4 := tube_lt ha h hk
    exact withinB_no2 (by omega)
theorem meetB_t {lo hi : Nu} {s : Sg} (h1 : lo.val ≤ hi.val) (h2 : lo.val ≤ s.t1.val) (h3 : s.t0.val ≤ hi.val) : meetB lo hi s = true := by
  unfold meetB
  rw [decide_eq_true h1, decide_eq_true h2, decide_eq_true h3]; rfl
/-- A span that begins in a tube's time meets a piece. -/
theorem met_some {l : List Sg} {lo hi : Nu} (h : tubeB l = true) (h0 : 0 ≤ lo.val) (hle : lo.val ≤ hi.val) (m : Nat) (hm : m ≤ l.length) : (∀ i, i < m → (gS l i).t1.val < lo.val) ∨ ∃ i, i < m ∧ meetB lo hi (gS l i) = true ∧ (∀ k, k < i → (gS l k).t1.val < lo.val) := by
  induction m with
  | zero => exact .inl fun i hi => by omega
  | succ m ih =>
    rcases ih (by omega) with h1 | ⟨i, hi, h1, h2⟩
    · by_cases ht : (gS l m).t1.val < lo.val
      · left
        intro i hi
        rcases Nat.lt_or_ge i m with h3 | h3
        · exact h1 i h3
        · obtain rfl : i = m := by omega
          exact ht
      · right
        refine ⟨m, by omega, meetB_t hle (by grind) ?_, h1⟩
        rcases Nat.eq_zero_or_pos m with h4 | h4
        · subst h4; rw [(tube_head h (by omega)).2]; grind
        · have h5 := (behB_f ((tube_row h (show m < l.length by omega)).2 h4)).2.1
          have h6 := h1 (m - 1) (by omega)
          grind
    · exact .inr ⟨i, by omega, h1, h2⟩
theorem met_mem {l : List Sg} {lo hi : Nu} {i : Nat} (hi' : i < l.length) (h : meetB lo hi (gS l i) = true) : 0 < (metL lo hi l l.length).length := by
  have := metL_at hi' h
  rw [List.getElem?_eq_some_iff] at this
  obtain ⟨h1, _⟩ := this
  omega
theorem met_pos {n a c : Nat} {l : List Sg} {lo hi : Nu} (h : TubeI n l a c) (hl : 0 < l.length) (h0 : 0 ≤ lo.val) (hle : lo.val ≤ hi.val) (h1 : lo.val ≤ e8 c) : 0 < (metL lo hi l l.length).length := by
  rcases met_some h.tube h0 hle l.length (Nat.le_refl _) with h2 | ⟨i, hi', h2, _⟩
  · have h3 := h2 (l.length - 1) (by omega)
    rw [(h.last hl).2, val_nuOf] at h3
    grind
  · exact met_mem hi' h2
end Go.V

/- Package tube over values as data: tubes. -/
import Derived.Test.YtcmnbpliiopbjaaGreatDoorU7
set_option linter.unusedSimpArgs false
set_option linter.unusedVariables false
set_option maxRecDepth 100000
namespace Go.V
open Go Go.RowKit Go.Proofs
def qU8_43_6 : List (Nat × Nat) := [(0, 0), (1, 0), (2, 0), (3, 0), (4, 1), (5, 0), (6, 0), (7, 0), (8, 0), (9, 0), (10, 1), (11, 0), (12, 0), (13, 0), (14, 0), (15, 1), (16, 0), (17, 0), (18, 0), (19, 0), (20, 0), (21, 1), (22, 3), (23, 0), (24, 0), (25, 0), (26, 0), (27, 1), (28, 0), (29, 0), (30, 0), (31, 0), (32, 1), (33, 0), (34, 0), (35, 0), (36, 0)]
attribute [go_sem] qU8_43_6

theorem gS_at {l : List Sg} {i : Nat} (h : i < l.length) : l[i]? = some (gS l i) := by simp [gS, List.getD, List.getElem?_eq_getElem h]
theorem gS_mem {l : List Sg} {i : Nat} (h : i < l.length) : gS l i ∈ l := List.mem_of_getElem? (gS_at h)
/-- Does piece i go on where the one ahead ends? -/
def behB (l : List Sg) (i : Nat) : Bool := decide ((gS l i).fr = (gS l (i - 1)).to + 1) && decide ((gS l i).t0.val = (gS l (i - 1)).t1.val) && decide ((gS l i).box.length = (gS l 0).box.length)
def rowAt (l : List Sg) (i : Nat) : Prop := rightS (gS l i) = true ∧ (0 < i → behB l i = true)
instance (l : List Sg) (i : Nat) : Decidable (rowAt l i) := inferInstanceAs (Decidable (_ ∧ _))
def rowB (l : List Sg) : Bool := decide (∀ i, i < l.length → rowAt l i)
theorem rowB_no {l : List Sg} {i : Nat} (hi : i < l.length) (h : ¬ rowAt l i) : rowB l = false := decide_eq_false fun h2 => h (h2 i hi)
theorem cmp_eq0 (a b : Dyadic) : (cmpD a b = 0) = (a = b) := by
  apply propext
  unfold cmpD
  constructor
  · intro h; split at h <;> first | grind | (split at h <;> grind)
  · intro h; split <;> first | grind | (split <;> grind)
theorem rightS_to {s : Sg} (h : rightS s = true) : 1 ≤ s.to ∧ s.to ≤ 4096 := by
  unfold rightS at h
  simp only [Bool.and_eq_true, decide_eq_true_eq] at h
  omega

set_option maxHeartbeats 2000000 in
theorem p_Row {l : List Sg} (hl : l.length ≤ 100000) (hg : ∀ s ∈ l, OkP s) : PC Tryz.prog 43 [SS l] fun d => d = bl (rowB l) := by
  generalize hr : rowB l = r
  have d1 := @dl 6 qU8_43_6
  refine PB (rs := [.tmp 2]) Tryz.func43 ?_
  repeat (first | with_reducible refine pv_seq fun K hK => ?_ | ((with_reducible first | refine hK _ _ ?_ | (clear hK; refine hK _ _ ?_) | (clear hK; clear hK; refine hK _ _ ?_)); clear hK; try clear K) | refine W0 ?_ | exact Z | with_reducible intro b)
  have J : ∀ (e : DEnv) (S : Store), r = true → K e S := by
    intro e S h
    subst h
    exact Wk
  clear hK
  refine pv_loop (fun e S => ∃ i : Nat, i ≤ l.length ∧ e 0 = .g (eS eG l) ∧ e 5 = .g (eS eG l) ∧ e 6 = i64 l.length ∧ e 7 = i64 i ∧ ∀ j, j < i → rowAt l j) (fun e _ => l.length - (intD (e 7)).toNat) ?_ ?_
  · exact ⟨0, Nat.zero_le _, Zr, Zr, Zr, Zr, fun j hj => by omega⟩
  · rintro e S ⟨i, hi, g0, g5, g6, g7, hz⟩
    have ft := And.intro g0 (And.intro g5 (And.intro g6 g7))
    repeat (first | with_reducible refine pv_seq fun K hK => ?_ | ((with_reducible first | refine hK _ _ ?_ | (clear hK; refine hK _ _ ?_) | (clear hK; clear hK; refine hK _ _ ?_)); clear hK; try clear K) | refine W0 ?_ | exact Z | with_reducible intro b)
    refine pv_cdD (fun ht => ?_) (fun ht => ?_)
    · have hil : i < l.length := by omega
      have q1 := gS_at hil
      have pR := p_RightSeg (hg _ (gS_mem hil))
      have oi := hg _ (gS_mem hil)
      have hz2 : rowAt l i → ∀ j, j < i + 1 → rowAt l j := fun h j hj => by
        rcases Nat.lt_or_ge j i with h1 | h1
        · exact hz j h1
        · obtain rfl : j = i := by omega
          exact h
      have hno : ¬ rowAt l i → r = false := fun h => by rw [← hr]; exact rowB_no hil h
      by_cases hR : rightS (gS l i) = true
      · rw [hR] at pR
        rcases Nat.eq_zero_or_pos i with rfl | hpos
        · have hz3 := hz2 ⟨hR, fun h => by omega⟩
          clear hz hz2 hno hR oi
          generalize gS l 0 = q at *
          obtain ⟨fr, to, ⟨n0, e0, w0⟩, ⟨n1, e1, w1⟩, bx⟩ := q
          have hii : ((0 : Int) < ((0 : Nat) : Int)) = False := eq_false (by omega)
          have ft := And.intro g0 (And.intro g5 (And.intro g6 (And.intro g7 (And.intro q1 hii))))
          repeat (first | with_reducible refine pv_seq fun K hK => ?_ | ((with_reducible first | refine hK _ _ ?_ | (clear hK; refine hK _ _ ?_) | (clear hK; clear hK; refine hK _ _ ?_)); clear hK; try clear K) | refine W ?_ | exact Z | with_reducible intro b)
          exact ⟨⟨1, by omega, rfl, hz3⟩, by simp only [intD]; omega⟩
        · have qp := gS_at (l := l) (i := i - 1) (by omega)
          have q0 := gS_at (l := l) (i := 0) (by omega)
          have op := hg _ (gS_mem (l := l) (i := i - 1) (by omega))
          have pC := p_nCmpR oi.a op.b (by decide) oi.ra op.rb
          have hto := rightS_to (hz (i - 1) (by omega)).1
          have kc := cmp_eq0 (gS l i).t0.val (gS l (i - 1)).t1.val
          have hyes : (gS l i).fr = (gS l (i - 1)).to + 1 → cmpD (gS l i).t0.val (gS l (i - 1)).t1.val = 0 → (gS l i).box.length = (gS l 0).box.length → ∀ j, j < i + 1 → rowAt l j := fun h1 h2 h3 => by
            refine hz2 ⟨hR, fun _ => ?_⟩
            unfold behB
            rw [decide_eq_true h1, decide_eq_true (show (gS l i).t0.val = (gS l (i - 1)).t1.val by rw [kc] at h2; exact h2), decide_eq_true h3]; rfl
          have hnot : ¬ ((gS l i).fr = (gS l (i - 1)).to + 1 ∧ cmpD (gS l i).t0.val (gS l (i - 1)).t1.val = 0 ∧ (gS l i).box.length = (gS l 0).box.length) → r = false := fun h => hno fun h2 => h (by
            have h3 := h2.2 hpos
            unfold behB at h3
            simp only [Bool.and_eq_true, decide_eq_true_eq] at h3
            exact ⟨h3.1.1, by rw [kc]; exact h3.1.2, h3.2⟩)
          clear hz hz2 hno hR oi op kc
          have hii : ((0 : Int) < (i : Int)) = True := eq_true (by omega)
          have hin : ((i : Int) - 1).toNat = i - 1 := by omega
          generalize cmpD (gS l i).t0.val (gS l (i - 1)).t1.val = c at *
          generalize gS l i = q at *
          generalize gS l (i - 1) = p at *
          generalize gS l 0 = z at *
          obtain ⟨fr, to, ⟨n0, e0, w0⟩, ⟨n1, e1, w1⟩, bx⟩ := q
          obtain ⟨fr2, to2, ⟨n2, e2, w2⟩, ⟨n3, e3, w3⟩, bx2⟩ := p
          obtain ⟨fr3, to3, ⟨n4, e4, w4⟩, ⟨n5, e5, w5⟩, bx3⟩ := z
          simp only at hyes hnot hto
          by_cases a1 : fr = to2 + 1
          · have a1' := eq_true a1
            by_cases a2 : c = 0
            · have a2' := eq_true a2
              by_cases a3 : bx.length = bx3.length
              · have a3' : ((bx.length : Int) = (bx3.length : Int)) = True := eq_true (by omega)
                have hz3 := hyes a1 a2 a3
                clear hyes hnot
                have ft := And.intro g0 (And.intro g5 (And.intro g6 (And.intro g7 (And.intro q1 (And.intro hii (And.intro hin (And.intro qp (And.intro q0 (And.intro a1' (And.intro a2' a3'))))))))))
                repeat (first | with_reducible refine pv_seq fun K hK => ?_ | ((with_reducible first | refine hK _ _ ?_ | (clear hK; refine hK _ _ ?_) | (clear hK; clear hK; refine hK _ _ ?_)); clear hK; try clear K) | refine W ?_ | exact Z | with_reducible intro b)
                exact ⟨⟨i + 1, by omega, rfl, hz3⟩, by simp only [intD]; omega⟩
              · have a3' : ((bx.length : Int) = (bx3.length : Int)) = False := eq_false (by omega)
                have h := hnot fun h => a3 h.2.2
                subst h
                clear hyes hnot
                have ft := And.intro g0 (And.intro g5 (And.intro g6 (And.intro g7 (And.intro q1 (And.intro hii (And.intro hin (And.intro qp (And.intro q0 (And.intro a1' (And.intro a3' a2'))))))))))
                exact Wk
            · have a2' := eq_false a2
              have h := hnot fun h => a2 h.2.1
              subst h
              clear hyes hnot
              have ft := And.intro g0 (And.intro g5 (And.intro g6 (And.intro g7 (And.intro q1 (And.intro hii (And.intro hin (And.intro qp (And.intro q0 (And.intro a1' a2')))))))))
              exact Wk
          · have a1' := eq_false a1
            have h := hnot fun h => a1 h.1
            subst h
            clear hyes hnot
            have ft := And.intro g0 (And.intro g5 (And.intro g6 (And.intro g7 (And.intro q1 (And.intro hii (And.intro hin (And.intro qp (And.intro q0 a1'))))))))
            exact Wk
      · have h := hno fun h => hR h.1
        subst h
        rw [Bool.not_eq_true] at hR
        rw [hR] at pR
        clear hz hz2 hno hR oi
        generalize gS l i = q at *
        obtain ⟨fr, to, ⟨n0, e0, w0⟩, ⟨n1, e1, w1⟩, bx⟩ := q
        have ft := And.intro g0 (And.intro g5 (And.intro g6 (And.intro g7 q1)))
        exact Wk
    · obtain rfl : i = l.length := by omega
      have ft := And.intro g0 (And.intro g5 (And.intro g7 g6))
      repeat (first | with_reducible refine pv_seq fun K hK => ?_ | ((with_reducible first | refine hK _ _ ?_ | (clear hK; refine hK _ _ ?_) | (clear hK; clear hK; refine hK _ _ ?_)); clear hK; try clear K) | refine W0 ?_ | exact Z | with_reducible intro b)
      refine J _ _ ?_
      rw [← hr]; exact decide_eq_true hz
end Go.V

/- Package tube over values as data: like tubes. -/
import Derived.Test.YtcmnbpliiopbjaaGreatDoorU9
set_option linter.unusedSimpArgs false
set_option linter.unusedVariables false
set_option maxRecDepth 100000
namespace Go.V
open Go Go.RowKit Go.Proofs
def qU14_22_6 : List (Nat × Nat) := [(0, 0), (1, 0), (2, 0), (3, 1), (4, 0), (5, 0), (6, 0), (7, 1), (8, 3), (9, 0)]
attribute [go_sem] qU14_22_6

def allS (a b : List Sg) : Bool := decide (a.length = b.length) && decide (∀ i, i < a.length → sameG (gS a i) (gS b i) = true)
set_option maxHeartbeats 1000000 in
theorem p_tSame {a b : List Sg} (ha : a.length ≤ 100000) (hb : b.length ≤ 100000) (ga : ∀ s ∈ a, LnG s) (gb : ∀ s ∈ b, LnG s) : PC Tryz.prog 22 [SS a, SS b] fun d => d = bl (allS a b) := by
  have hf : ∀ i, i < a.length → i < b.length → PC Tryz.prog 46 [SEG (gS a i), SEG (gS b i)] fun d => d = bl (sameG (gS a i) (gS b i)) := fun i h1 h2 => p_SameSeg (ga _ (gS_mem h1)) (gb _ (gS_mem h2))
  generalize hr : allS a b = r
  unfold allS at hr
  generalize sameG = p at *
  by_cases hl : a.length = b.length
  · have k1 : ((a.length : Int) = (b.length : Int)) = True := eq_true (by omega)
    unfold SS
    have d1 := @dl 6 qU14_22_6
    refine PB (rs := [.tmp 4]) Tryz.func22 ?_
    have ft := k1
    repeat (first | with_reducible refine pv_seq fun K hK => ?_ | ((with_reducible first | refine hK _ _ ?_ | (clear hK; refine hK _ _ ?_) | (clear hK; clear hK; refine hK _ _ ?_)); clear hK; try clear K) | refine W0 ?_ | exact Z | with_reducible intro b)
    have J : ∀ (e : DEnv) (S : Store), r = true → K e S := by
      intro e S h
      subst h
      exact Wk
    clear hK
    refine pv_loop (fun e S => ∃ i : Nat, i ≤ a.length ∧ e 0 = .g (eS eG a) ∧ e 1 = .g (eS eG b) ∧ e 12 = i64 a.length ∧ e 13 = i64 i ∧ ∀ j, j < i → p (gS a j) (gS b j) = true) (fun e _ => a.length - (intD (e 13)).toNat) ?_ ?_
    · exact ⟨0, Nat.zero_le _, Zr, Zr, Zr, Zr, fun j hj => by omega⟩
    · rintro e S ⟨i, hi, g0, g1, g12, g13, hz⟩
      have ft := And.intro g0 (And.intro g1 (And.intro g12 g13))
      repeat (first | with_reducible refine pv_seq fun K hK => ?_ | ((with_reducible first | refine hK _ _ ?_ | (clear hK; refine hK _ _ ?_) | (clear hK; clear hK; refine hK _ _ ?_)); clear hK; try clear K) | refine W0 ?_ | exact Z | with_reducible intro b)
      refine pv_cdD (fun ht => ?_) (fun ht => ?_)
      · have hil : i < a.length := by omega
        have q1 := gS_at hil
        have q2 := gS_at (l := b) (i := i) (by omega)
        have pf := hf i hil (by omega)
        have hz2 : p (gS a i) (gS b i) = true → ∀ j, j < i + 1 → p (gS a j) (gS b j) = true := fun h j hj => by
          rcases Nat.lt_or_ge j i with h1 | h1
          · exact hz j h1
          · obtain rfl : j = i := by omega
            exact h
        have hno : p (gS a i) (gS b i) = false → r = false := fun h => by rw [← hr, Bool.and_eq_false_iff]; exact .inr (decide_eq_false fun h2 => by rw [h2 i hil] at h; cases h)
        generalize p (gS a i) (gS b i) = t at *
        generalize gS a i = x at *
        generalize gS b i = y at *
        obtain ⟨f1, t1, ⟨n1, e1, w1⟩, ⟨n2, e2, w2⟩, bx1⟩ := x
        obtain ⟨f2, t2, ⟨n3, e3, w3⟩, ⟨n4, e4, w4⟩, bx2⟩ := y
        cases t
        · have h := hno rfl
          subst h
          have ft := And.intro g0 (And.intro g1 (And.intro g12 (And.intro g13 (And.intro q1 q2))))
          exact Wk
        · have ft := And.intro g0 (And.intro g1 (And.intro g12 (And.intro q1 (And.intro g13 q2))))
          repeat (first | with_reducible refine pv_seq fun K hK => ?_ | ((with_reducible first | refine hK _ _ ?_ | (clear hK; refine hK _ _ ?_) | (clear hK; clear hK; refine hK _ _ ?_)); clear hK; try clear K) | refine W ?_ | exact Z | with_reducible intro b)
          exact ⟨⟨i + 1, by omega, rfl, hz2 rfl⟩, by simp only [intD]; omega⟩
      · obtain rfl : i = a.length := by omega
        have ft := And.intro g0 (And.intro g1 (And.intro g13 g12))
        repeat (first | with_reducible refine pv_seq fun K hK => ?_ | ((with_reducible first | refine hK _ _ ?_ | (clear hK; refine hK _ _ ?_) | (clear hK; clear hK; refine hK _ _ ?_)); clear hK; try clear K) | refine W0 ?_ | exact Z | with_reducible intro b)
        refine J _ _ ?_
        rw [← hr]; rw [decide_eq_true hl, decide_eq_true hz]; rfl
  · have k1 : ((a.length : Int) = (b.length : Int)) = False := eq_false (by omega)
    unfold SS
    have : r = false := by rw [← hr, decide_eq_false hl]; rfl
    subst this
    have d1 := @dl 6 qU14_22_6
    refine PB (rs := [.tmp 4]) Tryz.func22 ?_
    have ft := k1
    exact Wk

end Go.V

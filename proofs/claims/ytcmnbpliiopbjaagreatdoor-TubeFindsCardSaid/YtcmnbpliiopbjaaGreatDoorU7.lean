/- Right pieces over values as data. -/
import Derived.Test.YtcmnbpliiopbjaaGreatDoorU6
import Derived.Test.YtcmnbpliiopbjaaGreatDoorU5
set_option linter.unusedSimpArgs false
set_option linter.unusedVariables false
set_option maxRecDepth 100000
namespace Go.V
open Go Go.RowKit Go.Proofs

/-- What package record asks of a piece whose numbers are right. -/
def rightS (s : Sg) : Bool := decide (1 ≤ s.fr) && decide (s.fr ≤ s.to) && decide (s.to ≤ 4096) && decide (0 ≤ s.t0.val) && decide (s.t0.val < s.t1.val) && rightL s.box
/-- A piece of right numbers and right intervals. -/
structure OkP (s : Sg) : Prop extends OkG s where
  bx : OkB s.box
  n : s.box.length ≤ 100000
theorem OkP.ln {s : Sg} (h : OkP s) : LnG s := ⟨by have := h.a.len; omega, by have := h.b.len; omega, h.bx.w h.n⟩
theorem sgn_0le (v : Dyadic) : (0 ≤ sgnD v) = (0 ≤ v) := by
  apply propext
  unfold sgnD
  constructor
  · intro h; split at h <;> first | grind | (split at h <;> grind)
  · intro h; split <;> first | grind | (split <;> grind)

set_option maxHeartbeats 2000000 in
theorem p_RightSeg {s : Sg} (h : OkP s) : PC Tryz.prog 70 [SEG s] fun d => d = bl (rightS s) := by
  have pA := p_nRight h.a.b
  have pB := p_nRight h.b.b
  have pS := p_nSign h.a (by decide)
  have pC := p_nCmpR h.a h.b (by decide) h.ra h.rb
  have pR := p_bRight h.bx h.n
  rw [h.ra] at pA
  rw [h.rb] at pB
  have hrv : rv s.t0 = s.t0.val := by unfold rv; rw [if_pos h.ra]
  rw [hrv] at pS
  have k1 := sgn_0le s.t0.val
  have k2 := cmpD_lt0 (a := s.t0.val) (b := s.t1.val)
  change PC _ _ _ fun d => d = bl (rightL s.box) at pR
  unfold rightS
  generalize sgnD s.t0.val = c1 at *
  generalize cmpD s.t0.val s.t1.val = c2 at *
  generalize rightL s.box = r at *
  clear h hrv
  unfold II at pR
  obtain ⟨fr, to, ⟨n0, e0, w0⟩, ⟨n1, e1, w1⟩, bx⟩ := s
  simp only at k1 k2 ⊢
  rw [← show decide (0 ≤ c1) = decide (0 ≤ (⟨n0, e0, w0⟩ : Nu).val) from decide_eq_decide.2 (Iff.of_eq k1), ← show decide (c2 < 0) = decide ((⟨n0, e0, w0⟩ : Nu).val < (⟨n1, e1, w1⟩ : Nu).val) from decide_eq_decide.2 (Iff.of_eq k2)]
  clear k1 k2
  by_cases a1 : fr < 1
  · have a1' := eq_true a1
    rw [decide_eq_false (show ¬ 1 ≤ fr by omega)]
    refine PB (rs := [.tmp 2]) Tryz.func70 ?_
    have ft := a1'
    exact Wk
  · have a1' := eq_false a1
    by_cases a2 : to < fr
    · have a2' := eq_true a2
      rw [decide_eq_true (show 1 ≤ fr by omega), decide_eq_false (show ¬ fr ≤ to by omega)]
      refine PB (rs := [.tmp 2]) Tryz.func70 ?_
      have ft := And.intro a1' a2'
      exact Wk
    · have a2' := eq_false a2
      by_cases a3 : 4096 < to
      · have a3' := eq_true a3
        rw [decide_eq_true (show 1 ≤ fr by omega), decide_eq_true (show fr ≤ to by omega), decide_eq_false (show ¬ to ≤ 4096 by omega)]
        refine PB (rs := [.tmp 2]) Tryz.func70 ?_
        have ft := And.intro a1' (And.intro a2' a3')
        exact Wk
      · have a3' := eq_false a3
        rw [decide_eq_true (show 1 ≤ fr by omega), decide_eq_true (show fr ≤ to by omega), decide_eq_true (show to ≤ 4096 by omega)]
        by_cases a4 : 0 ≤ c1
        · have a4' := eq_true a4
          rw [decide_eq_true a4]
          by_cases a5 : c2 < 0
          · have a5' := eq_true a5
            rw [decide_eq_true a5]
            refine PB (rs := [.tmp 2]) Tryz.func70 ?_
            have ft := And.intro a1' (And.intro a2' (And.intro a3' (And.intro a4' a5')))
            exact Wk
          · have a5' := eq_false a5
            rw [decide_eq_false a5]
            refine PB (rs := [.tmp 2]) Tryz.func70 ?_
            have ft := And.intro a1' (And.intro a2' (And.intro a3' (And.intro a5' a4')))
            exact Wk
        · have a4' := eq_false a4
          rw [decide_eq_false a4]
          refine PB (rs := [.tmp 2]) Tryz.func70 ?_
          have ft := And.intro a1' (And.intro a2' (And.intro a3' a4'))
          exact Wk
end Go.V

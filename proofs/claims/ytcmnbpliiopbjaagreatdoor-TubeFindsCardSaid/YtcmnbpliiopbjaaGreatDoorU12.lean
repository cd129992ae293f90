/- Package tube over values as data: a piece within another one. -/
import Derived.Test.YtcmnbpliiopbjaaGreatDoorU9
set_option linter.unusedSimpArgs false
set_option linter.unusedVariables false
set_option maxRecDepth 100000
namespace Go.V
open Go Go.RowKit Go.Proofs

def withinB (b a : Sg) : Bool := decide (a.fr ≤ b.fr) && decide (b.to ≤ a.to) && decide (a.t0.val ≤ b.t0.val) && decide (b.t1.val ≤ a.t1.val) && inB b.box a.box
set_option maxHeartbeats 2000000 in
theorem p_within {b a : Sg} (hb : OkP b) (ha : OkP a) : PC Tryz.prog 45 [SEG b, SEG a] fun d => d = bl (withinB b a) := by
  have pA := p_nCmpR ha.a hb.a (by decide) ha.ra hb.ra
  have pB := p_nCmpR hb.b ha.b (by decide) hb.rb ha.rb
  have pC := p_bIn hb.bx ha.bx hb.n ha.n
  have k1 : decide (cmpD a.t0.val b.t0.val ≤ 0) = decide (a.t0.val ≤ b.t0.val) := decide_eq_decide.2 (Iff.of_eq cmpD_le0')
  have k2 : decide (cmpD b.t1.val a.t1.val ≤ 0) = decide (b.t1.val ≤ a.t1.val) := decide_eq_decide.2 (Iff.of_eq cmpD_le0')
  unfold withinB
  rw [← k1, ← k2]
  clear k1 k2 ha hb
  generalize cmpD a.t0.val b.t0.val = c1 at *
  generalize cmpD b.t1.val a.t1.val = c2 at *
  generalize inB b.box a.box = r at *
  unfold II at pC
  obtain ⟨fr, to, ⟨n0, e0, w0⟩, ⟨n1, e1, w1⟩, bx⟩ := b
  obtain ⟨fr2, to2, ⟨n2, e2, w2⟩, ⟨n3, e3, w3⟩, bx2⟩ := a
  simp only
  by_cases a1 : fr2 ≤ fr
  · have a1' := eq_true a1
    rw [decide_eq_true a1]
    by_cases a2 : to ≤ to2
    · have a2' := eq_true a2
      rw [decide_eq_true a2]
      by_cases a3 : c1 ≤ 0
      · have a3' := eq_true a3
        rw [decide_eq_true a3]
        by_cases a4 : c2 ≤ 0
        · have a4' := eq_true a4
          rw [decide_eq_true a4]
          refine PB (rs := [.tmp 4]) Tryz.func45 ?_
          have ft := And.intro a1' (And.intro a2' (And.intro a3' a4'))
          exact Wk
        · have a4' := eq_false a4
          rw [decide_eq_false a4]
          refine PB (rs := [.tmp 4]) Tryz.func45 ?_
          have ft := And.intro a1' (And.intro a2' (And.intro a4' a3'))
          exact Wk
      · have a3' := eq_false a3
        rw [decide_eq_false a3]
        refine PB (rs := [.tmp 4]) Tryz.func45 ?_
        have ft := And.intro a1' (And.intro a2' a3')
        exact Wk
    · have a2' := eq_false a2
      rw [decide_eq_false a2]
      refine PB (rs := [.tmp 4]) Tryz.func45 ?_
      have ft := And.intro a1' a2'
      exact Wk
  · have a1' := eq_false a1
    rw [decide_eq_false a1]
    refine PB (rs := [.tmp 4]) Tryz.func45 ?_
    have ft := a1'
    exact Wk
end Go.V

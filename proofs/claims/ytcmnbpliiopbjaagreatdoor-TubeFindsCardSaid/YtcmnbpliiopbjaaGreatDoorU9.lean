/- Package tube over values as data: right tubes, how far they go. -/
import Derived.Test.YtcmnbpliiopbjaaGreatDoorU8
set_option linter.unusedSimpArgs false
set_option linter.unusedVariables false
set_option maxRecDepth 100000
namespace Go.V
open Go Go.RowKit Go.Proofs

def tubeB (l : List Sg) : Bool := rowB l && (decide (l.length = 0) || (decide ((gS l 0).fr = 1) && decide ((gS l 0).t0.val = 0)))
set_option maxHeartbeats 1000000 in
theorem p_tRight {l : List Sg} (hl : l.length ≤ 100000) (hg : ∀ s ∈ l, OkP s) : PC Tryz.prog 19 [SS l] fun d => d = bl (tubeB l) := by
  have pA := p_Row hl hg
  unfold tubeB
  unfold SS at pA ⊢
  generalize rowB l = r at *
  by_cases h0 : l.length = 0
  · have k0 : ((l.length : Int) = 0) = True := eq_true (by omega)
    rw [decide_eq_true h0]
    cases r
    · refine PB (rs := [.tmp 2]) Tryz.func19 ?_
      have ft := k0
      exact Wk
    · refine PB (rs := [.tmp 2]) Tryz.func19 ?_
      have ft := k0
      exact Wk
  · have k0 : ((l.length : Int) = 0) = False := eq_false (by omega)
    have hpos : 0 < l.length := by omega
    rw [decide_eq_false h0]
    have q0 := gS_at hpos
    have op := hg _ (gS_mem hpos)
    have pS := p_nSign op.a (by decide)
    have hrv : rv (gS l 0).t0 = (gS l 0).t0.val := by unfold rv; rw [if_pos op.ra]
    rw [hrv] at pS
    have k1 : decide (sgnD (gS l 0).t0.val = 0) = decide ((gS l 0).t0.val = 0) := decide_eq_decide.2 sgnD_zero
    rw [← k1]
    clear op hrv k1 hg
    generalize sgnD (gS l 0).t0.val = c at *
    generalize gS l 0 = q at *
    obtain ⟨fr, to, ⟨n0, e0, w0⟩, ⟨n1, e1, w1⟩, bx⟩ := q
    simp only
    cases r
    · refine PB (rs := [.tmp 2]) Tryz.func19 ?_
      have ft := And.intro k0 q0
      exact Wk
    · by_cases a1 : fr = 1
      · have a1' := eq_true a1
        rw [decide_eq_true a1]
        refine PB (rs := [.tmp 2]) Tryz.func19 ?_
        have ft := And.intro k0 (And.intro q0 a1')
        exact Wk
      · have a1' := eq_false a1
        rw [decide_eq_false a1]
        refine PB (rs := [.tmp 2]) Tryz.func19 ?_
        have ft := And.intro k0 (And.intro a1' q0)
        exact Wk

/-- The last piece of a tube; else nothing. -/
def lastT (l : List Sg) : Sg := if l.length = 0 ∨ tubeB l = false then sg0 else gS l (l.length - 1)
def lastR (l : List Sg) : Bool := !decide (l.length = 0) && tubeB l
set_option maxHeartbeats 1000000 in
theorem p_last {l : List Sg} (hl : l.length ≤ 100000) (hg : ∀ s ∈ l, OkP s) : PC Tryz.prog 26 [SS l] fun d => d = .tup [SEG (lastT l), bl (lastR l)] := by
  have pA := p_tRight hl hg
  unfold lastT lastR
  unfold SS at pA ⊢
  clear hg
  generalize tubeB l = r at *
  by_cases h0 : l.length = 0
  · have k0 : ((l.length : Int) = 0) = True := eq_true (by omega)
    rw [decide_eq_true h0, if_pos (.inl h0)]
    refine PB (rs := [.cell 2 38, .tmp 3]) Tryz.func26 ?_
    have ft := k0
    exact Wk
  · have k0 : ((l.length : Int) = 0) = False := eq_false (by omega)
    have hpos : 0 < l.length := by omega
    rw [decide_eq_false h0]
    have q0 := gS_at (l := l) (i := l.length - 1) (by omega)
    have hin : ((l.length : Int) - 1).toNat = l.length - 1 := by omega
    cases r
    · rw [if_pos (.inr rfl)]
      refine PB (rs := [.cell 2 38, .tmp 3]) Tryz.func26 ?_
      have ft := k0
      exact Wk
    · rw [if_neg (by simp [h0])]
      generalize gS l (l.length - 1) = q at *
      obtain ⟨fr, to, ⟨n0, e0, w0⟩, ⟨n1, e1, w1⟩, bx⟩ := q
      refine PB (rs := [.cell 2 38, .tmp 3]) Tryz.func26 ?_
      have ft := And.intro k0 (And.intro hin q0)
      exact Wk
theorem p_Steps {l : List Sg} (hl : l.length ≤ 100000) (hg : ∀ s ∈ l, OkP s) : PC Tryz.prog 13 [SS l] fun d => d = i64 (lastT l).to := by
  have pA := p_last hl hg
  clear hg
  generalize lastR l = r at *
  generalize lastT l = q at *
  obtain ⟨fr, to, ⟨n0, e0, w0⟩, ⟨n1, e1, w1⟩, bx⟩ := q
  unfold SS at pA ⊢
  unfold SEG at pA
  refine PB (rs := [.tmp 2]) Tryz.func13 ?_
  exact Wk
theorem lastT_ok {l : List Sg} (hg : ∀ s ∈ l, OkP s) : lastT l = sg0 ∨ OkP (lastT l) := by
  unfold lastT
  split
  · exact .inl rfl
  · rename_i h
    exact .inr (hg _ (gS_mem (by have : l.length ≠ 0 := fun h2 => h (.inl h2); omega)))
theorem p_Until {l : List Sg} (hl : l.length ≤ 100000) (hg : ∀ s ∈ l, OkP s) : PC Tryz.prog 8 [SS l] fun d => d = NU (lastT l).t1 := by
  have pA := p_last hl hg
  have hlen : (lastT l).t1.w.length ≤ 1099511627776 := by
    rcases lastT_ok hg with h | h
    · rw [h]; decide
    · have := h.b.len; omega
  have pB := p_OfI hlen
  clear hg hlen
  generalize lastR l = r at *
  generalize lastT l = q at *
  obtain ⟨fr, to, ⟨n0, e0, w0⟩, ⟨n1, e1, w1⟩, bx⟩ := q
  unfold SS at pA ⊢
  unfold SEG at pA
  refine PB (rs := [.cell 2 30]) Tryz.func8 ?_
  exact Wk
end Go.V

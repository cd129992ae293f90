/- The document's like boxes, like pieces. -/
import Derived.Test.YtcmnbpliiopbjaaGreatU6
set_option linter.unusedSimpArgs false
set_option linter.unusedVariables false
set_option maxRecDepth 100000
namespace Go.V
open Go Go.RowKit Go.Proofs
def qU13_51_6 : List (Nat × Nat) := [(0, 0), (1, 0), (2, 0), (3, 1), (4, 0), (5, 0), (6, 0), (7, 1), (8, 3), (9, 0)]
attribute [go_sem] qU13_51_6

set_option maxHeartbeats 1000000 in
theorem p_rSameBox {a b : List Iv} (wa : OkW a) (wb : OkW b) : PC Tryz.prog 51 [II a, II b] fun d => d = bl (allI sameI a b) := by
  have ha := wa.1
  have hb := wb.1
  have hf : ∀ i, i < a.length → i < b.length → PC Tryz.prog 72 [IV (gI a i), IV (gI b i)] fun d => d = bl (sameI (gI a i) (gI b i)) := fun i h1 h2 => p_rSameIv (wa.2 _ (gI_mem h1)).1 (wa.2 _ (gI_mem h1)).2
  generalize hp : sameI = p at *
  generalize hr : allI p a b = r
  by_cases hl : a.length = b.length
  · have k1 : ((a.length : Int) = (b.length : Int)) = True := eq_true (by omega)
    unfold II
    have d1 := @dl 6 qU13_51_6
    refine PB (rs := [.tmp 4]) Tryz.func51 ?_
    have ft := k1
    repeat (first | with_reducible refine pv_seq fun K hK => ?_ | ((with_reducible first | refine hK _ _ ?_ | (clear hK; refine hK _ _ ?_) | (clear hK; clear hK; refine hK _ _ ?_)); clear hK; try clear K) | refine W0 ?_ | exact Z | with_reducible intro b)
    have J : ∀ (e : DEnv) (S : Store), r = true → K e S := by
      intro e S h
      subst h
      exact Wk
    clear hK
    refine pv_loop (fun e S => ∃ i : Nat, i ≤ a.length ∧ e 0 = .g (eS eI a) ∧ e 1 = .g (eS eI b) ∧ e 5 = i64 i ∧ ∀ j, j < i → p (gI a j) (gI b j) = true) (fun e _ => a.length - (intD (e 5)).toNat) ?_ ?_
    · exact ⟨0, Nat.zero_le _, Zr, Zr, Zr, fun j hj => by omega⟩
    · rintro e S ⟨i, hi, g0, g1, g5, hz⟩
      have ft := And.intro g0 (And.intro g1 g5)
      repeat (first | with_reducible refine pv_seq fun K hK => ?_ | ((with_reducible first | refine hK _ _ ?_ | (clear hK; refine hK _ _ ?_) | (clear hK; clear hK; refine hK _ _ ?_)); clear hK; try clear K) | refine W0 ?_ | exact Z | with_reducible intro b)
      refine pv_cdD (fun ht => ?_) (fun ht => ?_)
      · have hil : i < a.length := by omega
        have q1 := gI_at hil
        have q2 := gI_at (l := b) (i := i) (by omega)
        have pf := hf i hil (by omega)
        have hz2 : p (gI a i) (gI b i) = true → ∀ j, j < i + 1 → p (gI a j) (gI b j) = true := fun h j hj => by
          rcases Nat.lt_or_ge j i with h1 | h1
          · exact hz j h1
          · obtain rfl : j = i := by omega
            exact h
        have hno : p (gI a i) (gI b i) = false → r = false := fun h => by rw [← hr]; exact allI_no hil h
        generalize p (gI a i) (gI b i) = t at *
        generalize gI a i = x at *
        generalize gI b i = y at *
        obtain ⟨⟨n1, e1, w1⟩, ⟨n2, e2, w2⟩⟩ := x
        obtain ⟨⟨n3, e3, w3⟩, ⟨n4, e4, w4⟩⟩ := y
        cases t
        · have h := hno rfl
          subst h
          have ft := And.intro g0 (And.intro g1 (And.intro g5 (And.intro q1 q2)))
          exact Wk
        · have ft := And.intro g0 (And.intro g1 (And.intro q1 (And.intro g5 q2)))
          repeat (first | with_reducible refine pv_seq fun K hK => ?_ | ((with_reducible first | refine hK _ _ ?_ | (clear hK; refine hK _ _ ?_) | (clear hK; clear hK; refine hK _ _ ?_)); clear hK; try clear K) | refine W ?_ | exact Z | with_reducible intro b)
          exact ⟨⟨i + 1, by omega, rfl, hz2 rfl⟩, by simp only [intD]; omega⟩
      · obtain rfl : i = a.length := by omega
        have ft := And.intro g0 (And.intro g5 g1)
        repeat (first | with_reducible refine pv_seq fun K hK => ?_ | ((with_reducible first | refine hK _ _ ?_ | (clear hK; refine hK _ _ ?_) | (clear hK; clear hK; refine hK _ _ ?_)); clear hK; try clear K) | refine W0 ?_ | exact Z | with_reducible intro b)
        refine J _ _ ?_
        rw [← hr]; unfold allI; rw [decide_eq_true hl, decide_eq_true hz]; rfl
  · have k1 : ((a.length : Int) = (b.length : Int)) = False := eq_false (by omega)
    unfold II
    have : r = false := by rw [← hr]; unfold allI; rw [decide_eq_false hl]; rfl
    subst this
    have d1 := @dl 6 qU13_51_6
    refine PB (rs := [.tmp 4]) Tryz.func51 ?_
    have ft := k1
    exact Wk

set_option maxHeartbeats 1000000 in
theorem p_rSameSeg {a b : Sg} (ha : LnG a) (hb : LnG b) : PC Tryz.prog 24 [SEG a, SEG b] fun d => d = bl (sameG a b) := by
  have pA := p_rSame (x := a.t0) (y := b.t0) ha.a
  have pB := p_rSame (x := a.t1) (y := b.t1) ha.b
  have pC := p_rSameBox ha.w hb.w
  unfold sameG
  generalize decide (a.t0 = b.t0) = r0 at *
  generalize decide (a.t1 = b.t1) = r1 at *
  generalize allI sameI a.box b.box = r2 at *
  unfold II at pC
  clear ha hb
  obtain ⟨f1, t1, ⟨n0, e0, w0⟩, ⟨n1, e1, w1⟩, bx⟩ := a
  obtain ⟨f2, t2, ⟨n2, e2, w2⟩, ⟨n3, e3, w3⟩, by_⟩ := b
  simp only
  by_cases h1 : f1 = f2
  · have h1' := eq_true h1
    by_cases h2 : t1 = t2
    · have h2' := eq_true h2
      rw [decide_eq_true h1, decide_eq_true h2]
      refine PB (rs := [.tmp 4]) Tryz.func24 ?_
      cases r0
      · have ft := And.intro h1' h2'
        exact Wk
      · cases r1
        · have ft := And.intro h1' h2'
          exact Wk
        · have ft := And.intro h1' h2'
          exact Wk
    · have h2' := eq_false h2
      rw [decide_eq_true h1, decide_eq_false h2]
      refine PB (rs := [.tmp 4]) Tryz.func24 ?_
      have ft := And.intro h1' h2'
      exact Wk
  · have h1' := eq_false h1
    rw [decide_eq_false h1]
    refine PB (rs := [.tmp 4]) Tryz.func24 ?_
    have ft := h1'
    exact Wk

end Go.V

/- Boxes and pieces over values as data: two boxes interval by interval; right pieces, like pieces. -/
import Derived.Test.YtcmnbpliiopbjaaGreatDoorU2
set_option linter.unusedSimpArgs false
set_option linter.unusedVariables false
set_option maxRecDepth 100000
namespace Go.V
open Go Go.RowKit Go.Proofs
def qU6_93_6 : List (Nat × Nat) := [(0, 0), (1, 0), (2, 0), (3, 0), (4, 1), (5, 0), (6, 0), (7, 0), (8, 1), (9, 3), (10, 0)]
attribute [go_sem] qU6_93_6

/-- Are two lists as long, and is something so of each two? -/
def allI (p : Iv → Iv → Bool) (a b : List Iv) : Bool := decide (a.length = b.length) && decide (∀ i, i < a.length → p (gI a i) (gI b i) = true)
theorem allI_no {p : Iv → Iv → Bool} {a b : List Iv} {i : Nat} (hi : i < a.length) (h : p (gI a i) (gI b i) = false) : allI p a b = false := by
  unfold allI
  rw [Bool.and_eq_false_iff]
  right
  exact decide_eq_false fun h2 => by rw [h2 i hi] at h; cases h
set_option maxHeartbeats 1000000 in
theorem p_bAll {a b : List Iv} {f : FuncId} {p : Iv → Iv → Bool} (ha : a.length ≤ 100000) (hb : b.length ≤ 100000) (hf : ∀ i, i < a.length → i < b.length → PC Tryz.prog f [IV (gI a i), IV (gI b i)] fun d => d = bl (p (gI a i) (gI b i))) :
    PC Tryz.prog 93 [II a, II b, .fn f [] []] fun d => d = bl (allI p a b) := by
  generalize hr : allI p a b = r
  by_cases hl : a.length = b.length
  · have k1 : ((a.length : Int) = (b.length : Int)) = True := eq_true (by omega)
    unfold II
    have d1 := @dl 6 qU6_93_6
    refine PB (rs := [.tmp 6]) Tryz.func93 ?_
    have ft := k1
    repeat (first | with_reducible refine pv_seq fun K hK => ?_ | ((with_reducible first | refine hK _ _ ?_ | (clear hK; refine hK _ _ ?_) | (clear hK; clear hK; refine hK _ _ ?_)); clear hK; try clear K) | refine W0 ?_ | exact Z | with_reducible intro b)
    have J : ∀ (e : DEnv) (S : Store), r = true → K e S := by
      intro e S h
      subst h
      exact Wk
    clear hK
    refine pv_loop (fun e S => ∃ i : Nat, i ≤ a.length ∧ e 0 = .g (eS eI a) ∧ e 1 = .g (eS eI b) ∧ e 2 = .fn f [] [] ∧ e 14 = i64 a.length ∧ e 15 = i64 i ∧ ∀ j, j < i → p (gI a j) (gI b j) = true) (fun e _ => a.length - (intD (e 15)).toNat) ?_ ?_
    · exact ⟨0, Nat.zero_le _, Zr, Zr, Zr, Zr, Zr, fun j hj => by omega⟩
    · rintro e S ⟨i, hi, g0, g1, g2, g14, g15, hz⟩
      have ft := And.intro g0 (And.intro g1 (And.intro g2 (And.intro g14 g15)))
      repeat (first | with_reducible refine pv_seq fun K hK => ?_ | ((with_reducible first | refine hK _ _ ?_ | (clear hK; refine hK _ _ ?_) | (clear hK; clear hK; refine hK _ _ ?_)); clear hK; try clear K) | refine W0 ?_ | exact Z | with_reducible intro b)
      refine pv_cdD (fun ht => ?_) (fun ht => ?_)
      · have hil : i < a.length := by omega
        have q1 := gI_at hil
        have q2 := gI_at (l := b) (i := i) (by omega)
        have pf := hf i hil (by omega)
        have hz2 : p (gI a i) (gI b i) = true → ∀ j, j < i + 1 → p (gI a j) (gI b j) = true := fun h j hj => by
          rcases Nat.lt_or_ge j i with h1 | h1
          · exact hz j h1
          · obtain rfl : j = i := by omega
            exact h
        have hno : p (gI a i) (gI b i) = false → r = false := fun h => by rw [← hr]; exact allI_no hil h
        generalize p (gI a i) (gI b i) = t at *
        generalize gI a i = x at *
        generalize gI b i = y at *
        obtain ⟨⟨n1, e1, w1⟩, ⟨n2, e2, w2⟩⟩ := x
        obtain ⟨⟨n3, e3, w3⟩, ⟨n4, e4, w4⟩⟩ := y
        cases t
        · have h := hno rfl
          subst h
          have ft := And.intro g0 (And.intro g1 (And.intro g2 (And.intro g14 (And.intro g15 (And.intro q1 q2)))))
          exact Wk
        · have ft := And.intro g0 (And.intro g1 (And.intro g2 (And.intro g14 (And.intro q1 (And.intro g15 q2)))))
          repeat (first | with_reducible refine pv_seq fun K hK => ?_ | ((with_reducible first | refine hK _ _ ?_ | (clear hK; refine hK _ _ ?_) | (clear hK; clear hK; refine hK _ _ ?_)); clear hK; try clear K) | refine W ?_ | exact Z | with_reducible intro b)
          exact ⟨⟨i + 1, by omega, rfl, hz2 rfl⟩, by simp only [intD]; omega⟩
      · obtain rfl : i = a.length := by omega
        have ft := And.intro g0 (And.intro g1 (And.intro g2 (And.intro g15 g14)))
        repeat (first | with_reducible refine pv_seq fun K hK => ?_ | ((with_reducible first | refine hK _ _ ?_ | (clear hK; refine hK _ _ ?_) | (clear hK; clear hK; refine hK _ _ ?_)); clear hK; try clear K) | refine W0 ?_ | exact Z | with_reducible intro b)
        refine J _ _ ?_
        rw [← hr]; unfold allI; rw [decide_eq_true hl, decide_eq_true hz]; rfl
  · have k1 : ((a.length : Int) = (b.length : Int)) = False := eq_false (by omega)
    unfold II
    have : r = false := by rw [← hr]; unfold allI; rw [decide_eq_false hl]; rfl
    subst this
    have d1 := @dl 6 qU6_93_6
    refine PB (rs := [.tmp 6]) Tryz.func93 ?_
    have ft := k1
    exact Wk
def sameI (x y : Iv) : Bool := decide (x.lo = y.lo) && decide (x.hi = y.hi)
def OkW (l : List Iv) : Prop := l.length ≤ 100000 ∧ ∀ a ∈ l, a.lo.w.length ≤ 1099511627776 ∧ a.hi.w.length ≤ 1099511627776
theorem OkB.w {l : List Iv} (h : OkB l) (hl : l.length ≤ 100000) : OkW l := ⟨hl, fun a ha => ⟨by have := (h a ha).1.lo.len; omega, by have := (h a ha).1.hi.len; omega⟩⟩
theorem p_bSame {a b : List Iv} (ha : OkW a) (hb : OkW b) : PC Tryz.prog 73 [II a, II b] fun d => d = bl (allI sameI a b) := by
  have pA := p_bAll (p := sameI) ha.1 hb.1 fun i h1 h2 => p_SameI (ha.2 _ (gI_mem h1)).1 (ha.2 _ (gI_mem h1)).2
  unfold II at pA ⊢
  refine PB (rs := [.tmp 4]) Tryz.func73 ?_
  exact Wk
def rightL (l : List Iv) : Bool := decide (1 ≤ l.length) && decide (l.length ≤ 4)
def inB (a b : List Iv) : Bool := rightL a && rightL b && allI (fun x y => endsR x y 0) a b
theorem p_bIn {a b : List Iv} (ha : OkB a) (hb : OkB b) (la : a.length ≤ 100000) (lb : b.length ≤ 100000) : PC Tryz.prog 71 [II a, II b] fun d => d = bl (inB a b) := by
  have pA := p_bAll (p := fun x y => endsR x y 0) la lb fun i h1 h2 => p_InI (ha.wi h1) (hb.wi h2)
  have pR := p_bRight ha la
  have pS := p_bRight hb lb
  unfold inB
  change PC _ _ _ fun d => d = bl (rightL a) at pR
  change PC _ _ _ fun d => d = bl (rightL b) at pS
  generalize allI (fun x y => endsR x y 0) a b = r at *
  generalize rightL a = s at *
  generalize rightL b = t at *
  unfold II at pA pR pS ⊢
  refine PB (rs := [.tmp 4]) Tryz.func71 ?_
  cases s
  · exact Wk
  · cases t
    · exact Wk
    · exact Wk
def sameG (a b : Sg) : Bool := decide (a.fr = b.fr) && decide (a.to = b.to) && decide (a.t0 = b.t0) && decide (a.t1 = b.t1) && allI sameI a.box b.box
structure LnG (s : Sg) : Prop where
  a : s.t0.w.length ≤ 1099511627776
  b : s.t1.w.length ≤ 1099511627776
  w : OkW s.box
set_option maxHeartbeats 1000000 in
theorem p_SameSeg {a b : Sg} (ha : LnG a) (hb : LnG b) : PC Tryz.prog 46 [SEG a, SEG b] fun d => d = bl (sameG a b) := by
  have pA := p_nSame (x := a.t0) (y := b.t0) ha.a
  have pB := p_nSame (x := a.t1) (y := b.t1) ha.b
  have pC := p_bSame ha.w hb.w
  unfold sameG
  generalize decide (a.t0 = b.t0) = r0 at *
  generalize decide (a.t1 = b.t1) = r1 at *
  generalize allI sameI a.box b.box = r2 at *
  unfold II at pC
  clear ha hb
  obtain ⟨f1, t1, ⟨n0, e0, w0⟩, ⟨n1, e1, w1⟩, bx⟩ := a
  obtain ⟨f2, t2, ⟨n2, e2, w2⟩, ⟨n3, e3, w3⟩, by_⟩ := b
  simp only
  by_cases h1 : f1 = f2
  · have h1' := eq_true h1
    by_cases h2 : t1 = t2
    · have h2' := eq_true h2
      rw [decide_eq_true h1, decide_eq_true h2]
      refine PB (rs := [.tmp 4]) Tryz.func46 ?_
      cases r0
      · have ft := And.intro h1' h2'
        exact Wk
      · cases r1
        · have ft := And.intro h1' h2'
          exact Wk
        · have ft := And.intro h1' h2'
          exact Wk
    · have h2' := eq_false h2
      rw [decide_eq_true h1, decide_eq_false h2]
      refine PB (rs := [.tmp 4]) Tryz.func46 ?_
      have ft := And.intro h1' h2'
      exact Wk
  · have h1' := eq_false h1
    rw [decide_eq_false h1]
    refine PB (rs := [.tmp 4]) Tryz.func46 ?_
    have ft := h1'
    exact Wk

end Go.V

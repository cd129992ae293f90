/- The document's boxes and pieces. -/
import Derived.Test.YtcmnbpliiopbjaaGreatU25
set_option linter.unusedSimpArgs false
set_option linter.unusedVariables false
set_option maxRecDepth 100000
namespace Go.V
open Go Go.RowKit Go.Proofs
def qU26_55_6 : List (Nat × Nat) := [(0, 0), (1, 0), (2, 0), (3, 1), (4, 0), (5, 0), (6, 0), (7, 1), (8, 3), (9, 0)]
attribute [go_sem] qU26_55_6

theorem p_rRightBox {l : List Iv} (hb : OkB l) (hl : l.length ≤ 100000) : PC Tryz.prog 73 [II l] fun d => d = bl (rightL l) := by
  unfold II rightL
  refine PB (rs := [.tmp 2]) Tryz.func73 ?_
  repeat (first | with_reducible refine pv_seq fun K hK => ?_ | ((with_reducible first | refine hK _ _ ?_ | (clear hK; refine hK _ _ ?_) | (clear hK; clear hK; refine hK _ _ ?_)); clear hK; try clear K) | refine W0 ?_ | exact Z | with_reducible intro b)
  have J : ∀ (e : DEnv) (S : Store), e 0 = .g (eS eI l) → K e S := by
    intro e S g0
    by_cases h1 : 1 ≤ l.length
    · have k1 : ((0 : Int) < (l.length : Int)) = True := eq_true (by omega)
      have k2 : ((l.length : Int) ≤ 4) = (l.length ≤ 4) := propext ⟨fun h => by omega, fun h => by omega⟩
      have ft := And.intro g0 (And.intro k1 k2)
      repeat (first | with_reducible refine pv_seq fun K hK => ?_ | ((with_reducible first | refine hK _ _ ?_ | (clear hK; refine hK _ _ ?_) | (clear hK; clear hK; refine hK _ _ ?_)); clear hK; try clear K) | refine W0 ?_ | exact Z | with_reducible intro b)
      rw [decide_eq_true h1, Bool.true_and]
    · have k1 : ((0 : Int) < (l.length : Int)) = False := eq_false (by omega)
      have ft := And.intro g0 k1
      repeat (first | with_reducible refine pv_seq fun K hK => ?_ | ((with_reducible first | refine hK _ _ ?_ | (clear hK; refine hK _ _ ?_) | (clear hK; clear hK; refine hK _ _ ?_)); clear hK; try clear K) | refine W0 ?_ | exact Z | with_reducible intro b)
      rw [decide_eq_false h1, Bool.false_and]
  clear hK
  refine pv_loop (fun e S => ∃ i : Nat, i ≤ l.length ∧ e 0 = .g (eS eI l) ∧ e 3 = i64 i) (fun e _ => l.length - (intD (e 3)).toNat) ?_ ?_
  · exact ⟨0, Nat.zero_le _, Zr, Zr⟩
  · rintro e S ⟨i, hi, g0, g3⟩
    by_cases h1 : i < l.length
    · have k1 : ((i : Int) < (l.length : Int)) = True := eq_true (by omega)
      by_cases h2 : i < 4
      · have k2 : ((i : Int) < 4) = True := eq_true (by omega)
        have q1 := gI_at h1
        have pR := p_rRightIv (hb.wi h1)
        rw [hb.rt h1] at pR
        generalize gI l i = q at *
        obtain ⟨⟨n1, e1, w1⟩, ⟨n2, e2, w2⟩⟩ := q
        have ft := And.intro g0 (And.intro g3 (And.intro k1 (And.intro k2 q1)))
        repeat (first | with_reducible refine pv_seq fun K hK => ?_ | ((with_reducible first | refine hK _ _ ?_ | (clear hK; refine hK _ _ ?_) | (clear hK; clear hK; refine hK _ _ ?_)); clear hK; try clear K) | refine W ?_ | exact Z | with_reducible intro b)
        exact ⟨⟨i + 1, by omega, rfl⟩, by simp only [intD]; omega⟩
      · have k2 : ((i : Int) < 4) = False := eq_false (by omega)
        have ft := And.intro g0 (And.intro g3 (And.intro k1 k2))
        repeat (first | with_reducible refine pv_seq fun K hK => ?_ | ((with_reducible first | refine hK _ _ ?_ | (clear hK; refine hK _ _ ?_) | (clear hK; clear hK; refine hK _ _ ?_)); clear hK; try clear K) | refine W0 ?_ | exact Z | with_reducible intro b)
        exact J _ _ g0
    · have k1 : ((i : Int) < (l.length : Int)) = False := eq_false (by omega)
      have ft := And.intro g0 (And.intro g3 k1)
      repeat (first | with_reducible refine pv_seq fun K hK => ?_ | ((with_reducible first | refine hK _ _ ?_ | (clear hK; refine hK _ _ ?_) | (clear hK; clear hK; refine hK _ _ ?_)); clear hK; try clear K) | refine W0 ?_ | exact Z | with_reducible intro b)
      exact J _ _ g0
set_option maxHeartbeats 1000000 in
theorem p_rInBox {a b : List Iv} (oa : OkB a) (ob : OkB b) (ha : a.length ≤ 100000) (hb : b.length ≤ 100000) : PC Tryz.prog 55 [II a, II b] fun d => d = bl (inB a b) := by
  have pA := p_rRightBox oa ha
  have pB := p_rRightBox ob hb
  have hf : ∀ i, i < a.length → i < b.length → PC Tryz.prog 75 [IV (gI a i), IV (gI b i)] fun d => d = bl (endsR (gI a i) (gI b i) 0) := fun i h1 h2 => p_rIn (oa.wi h1) (ob.wi h2)
  have hu : inB a b = (rightL a && rightL b && allI (fun x y => endsR x y 0) a b) := rfl
  rw [hu]
  clear hu
  generalize hp : (fun x y => endsR x y 0) = p at *
  have hf2 : ∀ i, i < a.length → i < b.length → PC Tryz.prog 75 [IV (gI a i), IV (gI b i)] fun d => d = bl (p (gI a i) (gI b i)) := fun i h1 h2 => by rw [← hp]; exact hf i h1 h2
  clear hf hp
  generalize rightL a = ra at *
  generalize rightL b = rb at *
  unfold II at pA pB ⊢
  have d1 := @dl 6 qU26_55_6
  refine PB (rs := [.tmp 4]) Tryz.func55 ?_
  cases ra
  · exact Wk
  cases rb
  · exact Wk
  by_cases hl : a.length = b.length
  · have k1 : ((a.length : Int) = (b.length : Int)) = True := eq_true (by omega)
    generalize hr0 : (true && true && allI p a b) = r at *
    have hr : allI p a b = r := by rw [← hr0]; rfl
    have ft := k1
    repeat (first | with_reducible refine pv_seq fun K hK => ?_ | ((with_reducible first | refine hK _ _ ?_ | (clear hK; refine hK _ _ ?_) | (clear hK; clear hK; refine hK _ _ ?_)); clear hK; try clear K) | refine W ?_ | exact Z | with_reducible intro b)
    have J : ∀ (e : DEnv) (S : Store), r = true → K e S := by
      intro e S h
      subst h
      exact Wk
    clear hK
    refine pv_loop (fun e S => ∃ i : Nat, i ≤ a.length ∧ e 0 = .g (eS eI a) ∧ e 1 = .g (eS eI b) ∧ e 5 = i64 i ∧ ∀ j, j < i → p (gI a j) (gI b j) = true) (fun e _ => a.length - (intD (e 5)).toNat) ?_ ?_
    · exact ⟨0, Nat.zero_le _, Zr, Zr, Zr, fun j hj => by omega⟩
    · rintro e S ⟨i, hi, g0, g1, g5, hz⟩
      have ft := And.intro g0 (And.intro g1 g5)
      repeat (first | with_reducible refine pv_seq fun K hK => ?_ | ((with_reducible first | refine hK _ _ ?_ | (clear hK; refine hK _ _ ?_) | (clear hK; clear hK; refine hK _ _ ?_)); clear hK; try clear K) | refine W0 ?_ | exact Z | with_reducible intro b)
      refine pv_cdD (fun ht => ?_) (fun ht => ?_)
      · have hil : i < a.length := by omega
        have q1 := gI_at hil
        have q2 := gI_at (l := b) (i := i) (by omega)
        have pf := hf2 i hil (by omega)
        have hz2 : p (gI a i) (gI b i) = true → ∀ j, j < i + 1 → p (gI a j) (gI b j) = true := fun h j hj => by
          rcases Nat.lt_or_ge j i with h1 | h1
          · exact hz j h1
          · obtain rfl : j = i := by omega
            exact h
        have hno : p (gI a i) (gI b i) = false → r = false := fun h => by rw [← hr]; exact allI_no hil h
        generalize p (gI a i) (gI b i) = t at *
        generalize gI a i = x at *
        generalize gI b i = y at *
        obtain ⟨⟨n1, e1, w1⟩, ⟨n2, e2, w2⟩⟩ := x
        obtain ⟨⟨n3, e3, w3⟩, ⟨n4, e4, w4⟩⟩ := y
        cases t
        · have h := hno rfl
          subst h
          have ft := And.intro g0 (And.intro g1 (And.intro g5 (And.intro q1 q2)))
          exact Wk
        · have ft := And.intro g0 (And.intro g1 (And.intro q1 (And.intro g5 q2)))
          repeat (first | with_reducible refine pv_seq fun K hK => ?_ | ((with_reducible first | refine hK _ _ ?_ | (clear hK; refine hK _ _ ?_) | (clear hK; clear hK; refine hK _ _ ?_)); clear hK; try clear K) | refine W ?_ | exact Z | with_reducible intro b)
          exact ⟨⟨i + 1, by omega, rfl, hz2 rfl⟩, by simp only [intD]; omega⟩
      · obtain rfl : i = a.length := by omega
        have ft := And.intro g0 (And.intro g5 g1)
        repeat (first | with_reducible refine pv_seq fun K hK => ?_ | ((with_reducible first | refine hK _ _ ?_ | (clear hK; refine hK _ _ ?_) | (clear hK; clear hK; refine hK _ _ ?_)); clear hK; try clear K) | refine W0 ?_ | exact Z | with_reducible intro b)
        refine J _ _ ?_
        rw [← hr]; unfold allI; rw [decide_eq_true hl, decide_eq_true hz]; rfl
  · have k1 : ((a.length : Int) = (b.length : Int)) = False := eq_false (by omega)
    have hr : (true && true && allI p a b) = false := by unfold allI; rw [decide_eq_false hl]; rfl
    rw [hr]
    clear hr
    have ft := k1
    exact Wk
theorem neg_val {k : Nat} {x : Nu} (h : Wl k x) (hr : rightB x = true) : (!x.neg) = decide (0 ≤ x.val) := by
  obtain ⟨d, hd, rfl⟩ := right_is h.b hr
  rw [val_nuOf]
  show (!fS d) = _
  have e := dy_f d
  have h2 := dy_nn (fN d) (fE d)
  cases hs : fS d
  · rw [hs] at e
    rw [e] at h2
    rw [decide_eq_true h2]; rfl
  · rw [hs] at e
    have h0 : d ≠ 0 := fun h => by rw [h, fS_zero] at hs; cases hs
    have h1 : -dy false (fN d) (fE d) = d := by rw [dy_neg]; exact e
    rw [decide_eq_false (by intro h3; grind)]; rfl
set_option maxHeartbeats 2000000 in
theorem p_rRightSeg {s : Sg} (h : OkP s) : PC Tryz.prog 52 [SEG s] fun d => d = bl (rightS s) := by
  have pA := p_rRight h.a.b
  have pB := p_rRight h.b.b
  have pC := p_rCmpNum h.a.b h.b.b
  have pR := p_rRightBox h.bx h.n
  rw [h.ra, h.rb, Bool.and_self, if_pos rfl] at pC
  rw [h.ra] at pA
  rw [h.rb] at pB
  have kn : (!s.t0.neg) = decide (0 ≤ s.t0.val) := neg_val h.a h.ra
  have k2 := cmpD_lt0 (a := s.t0.val) (b := s.t1.val)
  unfold rightS
  rw [← kn, ← show decide (cmpD s.t0.val s.t1.val < 0) = decide (s.t0.val < s.t1.val) from decide_eq_decide.2 (Iff.of_eq k2)]
  clear kn k2
  generalize cmpD s.t0.val s.t1.val = c2 at *
  generalize rightL s.box = r at *
  clear h
  unfold II at pR
  obtain ⟨fr, to, ⟨n0, e0, w0⟩, ⟨n1, e1, w1⟩, bx⟩ := s
  simp only
  by_cases a1 : fr < 1
  · have a1' := eq_true a1
    rw [decide_eq_false (show ¬ 1 ≤ fr by omega)]
    have a1'' : (1 ≤ fr) = False := eq_false (by omega)
    refine PB (rs := [.tmp 2]) Tryz.func52 ?_
    have ft := And.intro a1' a1''
    exact Wk
  have a1' := eq_false a1
  have a1'' : (1 ≤ fr) = True := eq_true (by omega)
  rw [decide_eq_true (show 1 ≤ fr by omega)]
  by_cases a2 : to < fr
  · have a2' := eq_true a2
    have a2'' : (fr ≤ to) = False := eq_false (by omega)
    rw [decide_eq_false (show ¬ fr ≤ to by omega)]
    refine PB (rs := [.tmp 2]) Tryz.func52 ?_
    have ft := And.intro a1' (And.intro a1'' (And.intro a2' a2''))
    exact Wk
  have a2' := eq_false a2
  have a2'' : (fr ≤ to) = True := eq_true (by omega)
  rw [decide_eq_true (show fr ≤ to by omega)]
  by_cases a3 : to ≤ 4096
  · have a3' := eq_true a3
    rw [decide_eq_true a3]
    cases n0
    · by_cases a4 : c2 < 0
      · have a4' := eq_true a4
        rw [decide_eq_true a4]
        refine PB (rs := [.tmp 2]) Tryz.func52 ?_
        have ft := And.intro a1' (And.intro a1'' (And.intro a2' (And.intro a2'' (And.intro a3' a4'))))
        exact Wk
      · have a4' := eq_false a4
        rw [decide_eq_false a4]
        refine PB (rs := [.tmp 2]) Tryz.func52 ?_
        have ft := And.intro a1' (And.intro a1'' (And.intro a2' (And.intro a2'' (And.intro a3' a4'))))
        exact Wk
    · refine PB (rs := [.tmp 2]) Tryz.func52 ?_
      have ft := And.intro a1' (And.intro a1'' (And.intro a2' (And.intro a2'' a3')))
      exact Wk
  · have a3' := eq_false a3
    rw [decide_eq_false a3]
    refine PB (rs := [.tmp 2]) Tryz.func52 ?_
    have ft := And.intro a1' (And.intro a1'' (And.intro a2' (And.intro a2'' a3')))
    exact Wk
set_option maxHeartbeats 1000000 in
theorem p_rBehind {a b : Sg} (ha : OkP a) (hb : OkP b) (ht : 1 ≤ a.to ∧ a.to ≤ 4096) : PC Tryz.prog 53 [SEG a, SEG b] fun d => d = bl (behS a b) := by
  have pC := p_rCmpNum ha.b.b hb.a.b
  rw [ha.rb, hb.ra, Bool.and_self, if_pos rfl] at pC
  have k2 := cmp_eq0 a.t1.val b.t0.val
  unfold behS
  rw [← show decide (cmpD a.t1.val b.t0.val = 0) = decide (a.t1.val = b.t0.val) from decide_eq_decide.2 (Iff.of_eq k2)]
  clear k2
  generalize cmpD a.t1.val b.t0.val = c at *
  clear ha hb
  obtain ⟨fr, to, ⟨n0, e0, w0⟩, ⟨n1, e1, w1⟩, bx⟩ := a
  obtain ⟨fr2, to2, ⟨n2, e2, w2⟩, ⟨n3, e3, w3⟩, bx2⟩ := b
  simp only at ht ⊢
  by_cases a1 : fr2 = to + 1
  · have a1' := eq_true a1
    rw [decide_eq_true a1]
    by_cases a2 : c = 0
    · have a2' := eq_true a2
      rw [decide_eq_true a2]
      by_cases a3 : bx.length = bx2.length
      · have a3' : ((bx.length : Int) = (bx2.length : Int)) = True := eq_true (by omega)
        rw [decide_eq_true a3]
        refine PB (rs := [.tmp 4]) Tryz.func53 ?_
        have ft := And.intro a1' (And.intro a2' a3')
        exact Wk
      · have a3' : ((bx.length : Int) = (bx2.length : Int)) = False := eq_false (by omega)
        rw [decide_eq_false a3]
        refine PB (rs := [.tmp 4]) Tryz.func53 ?_
        have ft := And.intro a1' (And.intro a2' a3')
        exact Wk
    · have a2' := eq_false a2
      rw [decide_eq_false a2]
      refine PB (rs := [.tmp 4]) Tryz.func53 ?_
      have ft := And.intro a1' a2'
      exact Wk
  · have a1' := eq_false a1
    rw [decide_eq_false a1]
    refine PB (rs := [.tmp 4]) Tryz.func53 ?_
    have ft := a1'
    exact Wk
set_option maxHeartbeats 1000000 in
theorem p_rMeets {s : Sg} {lo hi : Nu} (h : OkP s) (o1 : Wl 65536 lo) (o2 : Wl 65536 hi) (r1 : rightB lo = true) (r2 : rightB hi = true) : PC Tryz.prog 50 [SEG s, NU lo, NU hi] fun d => d = bl (meetB lo hi s) := by
  have pA := p_rCmpNum o1.b o2.b
  have pB := p_rCmpNum h.a.b o2.b
  have pC := p_rCmpNum o1.b h.b.b
  rw [r1, r2, Bool.and_self, if_pos rfl] at pA
  rw [h.ra, r2, Bool.and_self, if_pos rfl] at pB
  rw [r1, h.rb, Bool.and_self, if_pos rfl] at pC
  have hm : meetB lo hi s = (decide (cmpD lo.val hi.val ≤ 0) && decide (cmpD s.t0.val hi.val ≤ 0) && decide (cmpD lo.val s.t1.val ≤ 0)) := by
    unfold meetB
    rw [decide_eq_decide.2 (Iff.of_eq (cmpD_le0' (a := lo.val) (b := hi.val))), decide_eq_decide.2 (Iff.of_eq (cmpD_le0' (a := s.t0.val) (b := hi.val))), decide_eq_decide.2 (Iff.of_eq (cmpD_le0' (a := lo.val) (b := s.t1.val)))]
    cases decide (lo.val ≤ hi.val) <;> cases decide (s.t0.val ≤ hi.val) <;> cases decide (lo.val ≤ s.t1.val) <;> rfl
  rw [hm]
  clear hm
  generalize cmpD lo.val hi.val = c1 at *
  generalize cmpD s.t0.val hi.val = c2 at *
  generalize cmpD lo.val s.t1.val = c3 at *
  clear h o1 o2 r1 r2
  obtain ⟨n8, x8, w8⟩ := lo
  obtain ⟨n9, x9, w9⟩ := hi
  obtain ⟨fr, to, ⟨n0, e0, w0⟩, ⟨n1, e1, w1⟩, bx⟩ := s
  by_cases a1 : c1 ≤ 0
  · have a1' := eq_true a1
    rw [decide_eq_true a1]
    by_cases a2 : c2 ≤ 0
    · have a2' := eq_true a2
      rw [decide_eq_true a2]
      refine PB (rs := [.tmp 6]) Tryz.func50 ?_
      have ft := And.intro a1' a2'
      exact Wk
    · have a2' := eq_false a2
      rw [decide_eq_false a2]
      refine PB (rs := [.tmp 6]) Tryz.func50 ?_
      have ft := And.intro a1' a2'
      exact Wk
  · have a1' := eq_false a1
    rw [decide_eq_false a1]
    refine PB (rs := [.tmp 6]) Tryz.func50 ?_
    have ft := a1'
    exact Wk
end Go.V

/- Numbers over values as data: the document's values: their parts, sums, products. Numbers over values as data: the document's values: differences, order, right numbers. The statements' own small functions of layer 2: light. The seat's deck: numbers drawn from a list of words. A plan's check by bit masks: quick enough for the kernel at a region of a hundred operations. Plans with forks that join again, checked by bit masks. The statements' own small functions of layer 2: known, light. -/
import Derived.Test.YtolccagkfobbmaaGreatDoorZPX
import Derived.Test.YtolccagkfobbmaaGreatDoorZPU
import Derived.Test.YtolccagkfobbmaaGreatDoorZPC
set_option linter.unusedSimpArgs false
set_option linter.unusedVariables false
set_option maxRecDepth 100000
namespace Go.V
open Go Go.RowKit Go.Proofs
def qC4_51_1 : List (Nat × Nat) := [(0, 0), (1, 2), (2, 0), (3, 1), (5, 0), (6, 2), (4, 4), (7, 0), (8, 3)]
def qC4_78_3 : List (Nat × Nat) := [(0, 0), (1, 2), (2, 0), (3, 2), (4, 0), (5, 0), (6, 1), (7, 0), (8, 1), (10, 0), (11, 2), (12, 0), (13, 2), (14, 0), (9, 4), (15, 0), (16, 3)]
def qC4_76_6 : List (Nat × Nat) := [(0, 0), (1, 1), (2, 0), (3, 1), (4, 0), (5, 0), (7, 0), (8, 2), (9, 0), (10, 2), (11, 0), (12, 0), (6, 4), (13, 3), (14, 0), (15, 0)]
def qC4_76_8 : List (Nat × Nat) := [(0, 0), (1, 2), (2, 0), (3, 0), (5, 0), (4, 4), (6, 3), (7, 3)]
def qC4_76_11 : List (Nat × Nat) := [(0, 0), (1, 2), (2, 0), (3, 0), (5, 0), (4, 4), (6, 3), (7, 3)]
def qC4_76_13 : List (Nat × Nat) := [(0, 0), (1, 2), (2, 0), (3, 0), (5, 0), (4, 4), (6, 3), (7, 3)]
attribute [go_sem] qC4_51_1 qC4_78_3 qC4_76_6 qC4_76_8 qC4_76_11 qC4_76_13
/-- A value of the document's. -/
def VA (d : Dyadic) : D := .agg [bl (fS d), W32 (D32 (fN d)), i64 (fE d)]
attribute [go_sem] VA
theorem D32_0 : D32 0 = [] := digs_zero _
theorem N32_D32 (n : Nat) : N32 (D32 n) = n := nval_digs (by decide) n
theorem D32_b (n : Nat) : B32 (D32 n) := digs_lt (by decide) n
theorem D32_l0 {n : Nat} : ((D32 n).length = 0) = (n = 0) := by rw [List.length_eq_zero_iff]; exact propext (digs_eq_nil (by decide))
theorem VA_0 : VA 0 = .agg [bl false, W32 [], i64 0] := by unfold VA; rw [fN_zero, D32_0]; rfl

theorem p_rOdd {k : Nat} {neg : Bool} {n : Nat} {e : Int} (hn : n < 2 ^ k) (hk : k ≤ 1073741824) (h1 : -1099511627776 ≤ e) (h2 : e ≤ 1099511627776) : PC Tryz.prog 74 [bl neg, W32 (D32 n), i64 e] fun d => d = VA (dy neg n e) := by
  have hl : (D32 n).length ≤ k := digs32_le hn
  have pZ := p_rZeros (n := n) (by omega)
  by_cases h0 : n = 0
  · subst h0
    rw [dy_zero.2 rfl, VA_0, D32_0]
    refine PB (rs := [.cell 6 63]) Tryz.func74 ?_
    exact Wk
  · have ht := tz_lt hn h0
    have pD := p_rDown (n := tz n) (D32_b n) (D32_nt n) (show (D32 n).length ≤ 1099511627776 by omega) (by omega)
    rw [N32_D32] at pD
    obtain ⟨f1, f2, f3⟩ := f_of (neg := neg) (e := e) h0
    unfold VA
    rw [f1, f2, f3]
    have hl0 : ((D32 n).length = 0) = False := eq_false (by rw [D32_l0]; exact h0)
    refine PB (rs := [.cell 6 63]) Tryz.func74 ?_
    have ft := hl0
    repeat (first | with_reducible refine pv_seq fun K hK => ?_ | ((with_reducible first | refine hK _ _ ?_ | (clear hK; refine hK _ _ ?_) | (clear hK; clear hK; refine hK _ _ ?_)); clear hK; try clear K) | refine W ?_ | exact Z | with_reducible intro b)
    refine call_pc pD ?_
    rintro d ⟨b, rfl⟩
    exact Wk

theorem p_rOf {d : Dyadic} (hd : OkD d) : PC Tryz.prog 51 [NU (nuOf d)] fun r => r = VA d := by
  have hl := hd.len
  rw [nuOf_f] at hl
  simp only at hl
  have pP := p_Part (xs := D64 (fN d)) (digs_lt (by decide) _) (by show (digs _ _).length ≤ _; omega)
  rw [show N64 (D64 (fN d)) = fN d from nval_digs (by decide) _] at pP
  unfold VA
  rw [nuOf_f]
  have d1 := @dl 1 qC4_51_1
  refine PB (rs := [.cell 2 63]) Tryz.func51 ?_
  exact Wk

theorem p_rNum {k : Nat} {d : Dyadic} (hd : Bd k d) (hk : k ≤ 1073741824) : PC Tryz.prog 36 [VA d] fun r => r = NE (numR d) := by
  have hl : (D32 (fN d)).length ≤ k := digs32_le hd.1
  by_cases h0 : d = 0
  · subst h0
    rw [VA_0, numR_zero]
    refine PB (rs := [.cell 2 38, .tmp 3]) Tryz.func36 ?_
    exact Wk
  · have hl0 : ((D32 (fN d)).length = 0) = False := eq_false (by rw [D32_l0]; exact mt fN_eq_zero.1 h0)
    have pW := p_Words (n := fN d) (by omega)
    have hok : OkD d ↔ (D64 (fN d)).length ≤ 64 ∧ -65536 ≤ fE d ∧ fE d ≤ 65536 := by
      unfold OkD; rw [nuOf_f]; exact ⟨fun h => ⟨h.1, h.2, h.3⟩, fun h => ⟨h.1, h.2.1, h.2.2⟩⟩
    have hnu : OkD d → numR d = (⟨fS d, fE d, D64 (fN d)⟩, 0) := fun h => by rw [numR_ok h, nuOf_f]
    have hno : ¬ OkD d → numR d = (nu0, 2) := numR_over
    unfold VA
    generalize numR d = r at *
    generalize fS d = s at *
    generalize fE d = e at *
    generalize fN d = n at *
    refine PB (rs := [.cell 2 38, .tmp 3]) Tryz.func36 ?_
    have ft := hl0
    repeat (first | with_reducible refine pv_seq fun K hK => ?_ | ((with_reducible first | refine hK _ _ ?_ | (clear hK; refine hK _ _ ?_) | (clear hK; clear hK; refine hK _ _ ?_)); clear hK; try clear K) | refine W0 ?_ | exact Z | with_reducible intro b)
    refine call_is pW ?_
    by_cases g1 : (64 : Int) < ((D64 n).length : Int)
    · have ft := (eq_true g1)
      repeat (first | with_reducible refine pv_seq fun K hK => ?_ | ((with_reducible first | refine hK _ _ ?_ | (clear hK; refine hK _ _ ?_) | (clear hK; clear hK; refine hK _ _ ?_)); clear hK; try clear K) | refine W0 ?_ | exact Z | with_reducible intro b)
      rw [hno fun h => by have := hok.1 h; omega]; try rfl
    · by_cases g2 : e < -65536
      · have ft := And.intro (eq_false g1) (eq_true g2)
        repeat (first | with_reducible refine pv_seq fun K hK => ?_ | ((with_reducible first | refine hK _ _ ?_ | (clear hK; refine hK _ _ ?_) | (clear hK; clear hK; refine hK _ _ ?_)); clear hK; try clear K) | refine W0 ?_ | exact Z | with_reducible intro b)
        rw [hno fun h => by have := hok.1 h; omega]; try rfl
      · by_cases g3 : 65536 < e
        · have ft := And.intro (eq_false g1) (And.intro (eq_false g2) (eq_true g3))
          repeat (first | with_reducible refine pv_seq fun K hK => ?_ | ((with_reducible first | refine hK _ _ ?_ | (clear hK; refine hK _ _ ?_) | (clear hK; clear hK; refine hK _ _ ?_)); clear hK; try clear K) | refine W0 ?_ | exact Z | with_reducible intro b)
          rw [hno fun h => by have := hok.1 h; omega]; try rfl
        · have ft := And.intro (eq_false g1) (And.intro (eq_false g2) (eq_false g3))
          repeat (first | with_reducible refine pv_seq fun K hK => ?_ | ((with_reducible first | refine hK _ _ ?_ | (clear hK; refine hK _ _ ?_) | (clear hK; clear hK; refine hK _ _ ?_)); clear hK; try clear K) | refine W0 ?_ | exact Z | with_reducible intro b)
          rw [hnu (hok.2 (by omega))]; try rfl

theorem p_rTurned {d : Dyadic} : PC Tryz.prog 94 [VA d] fun r => r = VA (-d) := by
  by_cases h0 : d = 0
  · subst h0
    rw [show -(0 : Dyadic) = 0 from rfl, VA_0]
    refine PB (rs := [.cell 2 63]) Tryz.func94 ?_
    exact Wk
  · have hl0 : (0 < (D32 (fN d)).length) = True := eq_true (by
      rcases Nat.eq_zero_or_pos (D32 (fN d)).length with h | h
      · rw [D32_l0] at h; exact absurd (fN_eq_zero.1 h) h0
      · exact h)
    obtain ⟨a, b, c⟩ := f_neg d h0
    unfold VA
    rw [a, b, c]
    refine PB (rs := [.cell 2 63]) Tryz.func94 ?_
    have ft := hl0
    exact Wk


theorem p_rBy {k : Nat} {a b : Dyadic} (ha : Bd k a) (hb : Bd k b) (hk : k ≤ 268435456) : PC Tryz.prog 78 [VA a, VA b] fun r => r = VA (a * b) := by
  have la : (D32 (fN a)).length ≤ k := digs32_le ha.1
  have lb : (D32 (fN b)).length ≤ k := digs32_le hb.1
  have pM := p_rMul (D32_b (fN a)) (D32_b (fN b)) (by omega) (by omega)
  rw [N32_D32, N32_D32] at pM
  have a1 := ha.2.1; have a2 := ha.2.2; have b1 := hb.2.1; have b2 := hb.2.2
  by_cases h0 : a = 0
  · subst h0
    rw [Dyadic.zero_mul, VA_0]
    unfold VA
    have d1 := @dl 3 qC4_78_3
    refine PB (rs := [.cell 4 63]) Tryz.func78 ?_
    exact Wk
  · have hl0 : ((D32 (fN a)).length = 0) = False := eq_false (by rw [D32_l0]; exact mt fN_eq_zero.1 h0)
    by_cases h1 : b = 0
    · subst h1
      rw [Dyadic.mul_zero, VA_0]
      unfold VA
      have d1 := @dl 3 qC4_78_3
      refine PB (rs := [.cell 4 63]) Tryz.func78 ?_
      have ft := hl0
      exact Wk
    · have hl1 : ((D32 (fN b)).length = 0) = False := eq_false (by rw [D32_l0]; exact mt fN_eq_zero.1 h1)
      obtain ⟨x, y, z⟩ := mul_odd h0 h1
      unfold VA
      rw [x, y, z]
      have d1 := @dl 3 qC4_78_3
      refine PB (rs := [.cell 4 63]) Tryz.func78 ?_
      have ft := And.intro hl0 hl1
      exact Wk

set_option maxHeartbeats 1000000 in
theorem p_rPlus {k : Nat} {a c : Dyadic} (ha : Bd k a) (hb : Bd k c) (hk : k ≤ 67108864) : PC Tryz.prog 76 [VA a, VA c] fun r => r = VA (a + c) := by
  have la : (D32 (fN a)).length ≤ k := digs32_le ha.1
  have lb : (D32 (fN c)).length ≤ k := digs32_le hb.1
  have a1 := ha.2.1; have a2 := ha.2.2; have b1 := hb.2.1; have b2 := hb.2.2
  by_cases h0 : a = 0
  · subst h0
    rw [Dyadic.zero_add, VA_0]
    unfold VA
    have d1 := @dl 6 qC4_76_6
    have d2 := @dl 8 qC4_76_8
    have d3 := @dl 11 qC4_76_11
    have d4 := @dl 13 qC4_76_13
    refine PB (rs := [.cell 4 63]) Tryz.func76 ?_
    exact Wk
  · have hl0 : ((D32 (fN a)).length = 0) = False := eq_false (by rw [D32_l0]; exact mt fN_eq_zero.1 h0)
    by_cases h1 : c = 0
    · subst h1
      rw [Dyadic.add_zero, VA_0]
      unfold VA
      have d1 := @dl 6 qC4_76_6
      have d2 := @dl 8 qC4_76_8
      have d3 := @dl 11 qC4_76_11
      have d4 := @dl 13 qC4_76_13
      refine PB (rs := [.cell 4 63]) Tryz.func76 ?_
      have ft := hl0
      exact Wk
    · have hl1 : ((D32 (fN c)).length = 0) = False := eq_false (by rw [D32_l0]; exact mt fN_eq_zero.1 h1)
      obtain ⟨e, i, j, hm, hi, hj⟩ := low_e a c
      have e1 : -(k : Int) ≤ e := by rw [← hm]; split <;> assumption
      have e2 : e ≤ k := by rw [← hm]; split <;> assumption
      have i1 : i ≤ 2 * k := by omega
      have j1 : j ≤ 2 * k := by omega
      have x := up_lt2 ha.1 i1
      have y := up_lt2 hb.1 j1
      have hp : (2 : Nat) ^ (k + 2 * k) + 2 ^ (k + 2 * k) = 2 ^ (3 * k + 1) := by rw [show k + 2 * k = 3 * k by omega, Nat.pow_succ]; omega
      have lx : (D32 (fN a * 2 ^ i)).length ≤ k + 2 * k := digs32_le x
      have ly : (D32 (fN c * 2 ^ j)).length ≤ k + 2 * k := digs32_le y
      have ea := up_f hi
      have eb := up_f hj
      have pA := p_rLeft (n := i) (D32_b (fN a)) (by omega) (by omega)
      have pB := p_rLeft (n := j) (D32_b (fN c)) (by omega) (by omega)
      rw [N32_D32] at pA pB
      generalize hX : fN a * 2 ^ i = X at *
      generalize hY : fN c * 2 ^ j = Y at *
      have hab : a + c = dy (fS a) X e + dy (fS c) Y e := by rw [← ea, ← eb]
      unfold VA
      have d1 := @dl 6 qC4_76_6
      have d2 := @dl 8 qC4_76_8
      have d3 := @dl 11 qC4_76_11
      have d4 := @dl 13 qC4_76_13
      refine PB (rs := [.cell 4 63]) Tryz.func76 ?_
      have ft := And.intro hl0 (And.intro hl1 (And.intro hm (And.intro hi hj)))
      repeat (first | with_reducible refine pv_seq fun K hK => ?_ | ((with_reducible first | refine hK _ _ ?_ | (clear hK; refine hK _ _ ?_) | (clear hK; clear hK; refine hK _ _ ?_)); clear hK; try clear K) | refine W ?_ | exact Z | with_reducible intro b)
      by_cases hs : fS a = fS c
      · rw [← hs, dy_add] at hab
        have pS := p_rAdd (D32_b X) (D32_b Y) (by omega) (by omega)
        rw [N32_D32, N32_D32] at pS
        have hbq : (fS a == fS c) = true := by rw [hs]; exact beq_self_eq_true _
        have ft := hbq
        repeat (first | with_reducible refine pv_seq fun K hK => ?_ | ((with_reducible first | refine hK _ _ ?_ | (clear hK; refine hK _ _ ?_) | (clear hK; clear hK; refine hK _ _ ?_)); clear hK; try clear K) | refine W ?_ | exact Z | with_reducible intro b)
        refine call_is (p_rOdd (neg := fS a) (n := X + Y) (e := e) (k := 3 * k + 1) (by omega) (by omega) (by omega) (by omega)) ?_
        rw [← hab]
        exact Wk
      · have hbq : (fS a == fS c) = false := by
          generalize fS a = p at *
          generalize fS c = q at *
          cases p <;> cases q <;> simp at hs ⊢
        have pC := p_rCmp (m := X) (n := Y) (by omega) (by omega)
        have ft := hbq
        repeat (first | with_reducible refine pv_seq fun K hK => ?_ | ((with_reducible first | refine hK _ _ ?_ | (clear hK; refine hK _ _ ?_) | (clear hK; clear hK; refine hK _ _ ?_)); clear hK; try clear K) | refine W0 ?_ | exact Z | with_reducible intro b)
        refine call_is pC ?_
        rcases Nat.lt_trichotomy X Y with h | h | h
        · have hc : cmpI (X : Int) (Y : Int) = -1 := by unfold cmpI; rw [if_pos (by omega)]
          rw [hc]
          rw [Dyadic.add_comm (dy (fS a) X e), dy_sub (Ne.symm hs) (by omega)] at hab
          have pS := p_rSub (D32_b Y) (D32_b X) (by omega) (by rw [N32_D32, N32_D32]; omega)
          rw [N32_D32, N32_D32] at pS
          have ft := true_and
          repeat (first | with_reducible refine pv_seq fun K hK => ?_ | ((with_reducible first | refine hK _ _ ?_ | (clear hK; refine hK _ _ ?_) | (clear hK; clear hK; refine hK _ _ ?_)); clear hK; try clear K) | refine W ?_ | exact Z | with_reducible intro b)
          refine call_is (p_rOdd (neg := fS c) (n := Y - X) (e := e) (k := 3 * k + 1) (by omega) (by omega) (by omega) (by omega)) ?_
          rw [← hab]
          exact Wk
        · have hc : cmpI (X : Int) (Y : Int) = 0 := by unfold cmpI; rw [if_neg (by omega), if_neg (by omega)]
          rw [hc]
          rw [dy_sub hs (by omega), h, Nat.sub_self, dy_zero.2 rfl] at hab
          have ft := true_and
          repeat (first | with_reducible refine pv_seq fun K hK => ?_ | ((with_reducible first | refine hK _ _ ?_ | (clear hK; refine hK _ _ ?_) | (clear hK; clear hK; refine hK _ _ ?_)); clear hK; try clear K) | refine W0 ?_ | exact Z | with_reducible intro b)
          rw [hab]; exact VA_0.symm
        · have hc : cmpI (X : Int) (Y : Int) = 1 := by unfold cmpI; rw [if_neg (by omega), if_pos (by omega)]
          rw [hc]
          rw [dy_sub hs (by omega)] at hab
          have pS := p_rSub (D32_b X) (D32_b Y) (by omega) (by rw [N32_D32, N32_D32]; omega)
          rw [N32_D32, N32_D32] at pS
          have ft := true_and
          repeat (first | with_reducible refine pv_seq fun K hK => ?_ | ((with_reducible first | refine hK _ _ ?_ | (clear hK; refine hK _ _ ?_) | (clear hK; clear hK; refine hK _ _ ?_)); clear hK; try clear K) | refine W ?_ | exact Z | with_reducible intro b)
          refine call_is (p_rOdd (neg := fS a) (n := X - Y) (e := e) (k := 3 * k + 1) (by omega) (by omega) (by omega) (by omega)) ?_
          rw [← hab]
          exact Wk

end Go.V
namespace Go.V
open Go Go.RowKit Go.Proofs
def qC5_77_1 : List (Nat × Nat) := [(0, 2), (1, 1), (2, 4), (3, 3), (4, 3)]
def qC5_22_7 : List (Nat × Nat) := [(0, 0), (1, 2), (2, 0), (3, 1), (5, 0), (6, 2), (7, 0), (8, 0), (4, 4), (9, 0), (10, 3), (11, 0), (12, 0), (13, 3), (14, 0)]
attribute [go_sem] qC5_77_1 qC5_22_7
theorem p_rLess {k : Nat} {a b : Dyadic} (ha : Bd k a) (hb : Bd k b) (hk : k ≤ 67108864) : PC Tryz.prog 77 [VA a, VA b] fun r => r = VA (a - b) := by
  have e : a - b = a + -b := by grind
  have pT := p_rTurned (d := b)
  have pP := p_rPlus ha hb.neg hk
  rw [e]
  unfold VA at *
  have d1 := @dl 1 qC5_77_1
  refine PB (rs := [.cell 4 63]) Tryz.func77 ?_
  exact Wk



/-- Sum, difference, product. -/
def exD (n : Int) (a b : Dyadic) : Dyadic := if n = 0 then a + b else if n = 1 then a - b else a * b
theorem p_rExact {k : Nat} {n : Int} {a b : Dyadic} (ha : Bd k a) (hb : Bd k b) (hk : k ≤ 67108864) : PC Tryz.prog 54 [i64 n, VA a, VA b] fun r => r = VA (exD n a b) := by
  have pP := p_rPlus ha hb hk
  have pL := p_rLess ha hb hk
  have pB := p_rBy ha hb (by omega)
  unfold VA at *
  unfold exD
  refine PB (rs := [.cell 6 63]) Tryz.func54 ?_
  repeat (first | with_reducible refine pv_seq fun K hK => ?_ | ((with_reducible first | refine hK _ _ ?_ | (clear hK; refine hK _ _ ?_) | (clear hK; clear hK; refine hK _ _ ?_)); clear hK; try clear K) | refine W0 ?_ | exact Z | with_reducible intro b)
  refine pv_cdD (fun h1 => ?_) (fun h1 => ?_)
  · repeat (first | with_reducible refine pv_seq fun K hK => ?_ | ((with_reducible first | refine hK _ _ ?_ | (clear hK; refine hK _ _ ?_) | (clear hK; clear hK; refine hK _ _ ?_)); clear hK; try clear K) | refine W ?_ | exact Z | with_reducible intro b)
    rw [if_pos h1]
  · repeat (first | with_reducible refine pv_seq fun K hK => ?_ | ((with_reducible first | refine hK _ _ ?_ | (clear hK; refine hK _ _ ?_) | (clear hK; clear hK; refine hK _ _ ?_)); clear hK; try clear K) | refine W0 ?_ | exact Z | with_reducible intro b)
    refine pv_cdD (fun h2 => ?_) (fun h2 => ?_)
    · repeat (first | with_reducible refine pv_seq fun K hK => ?_ | ((with_reducible first | refine hK _ _ ?_ | (clear hK; refine hK _ _ ?_) | (clear hK; clear hK; refine hK _ _ ?_)); clear hK; try clear K) | refine W ?_ | exact Z | with_reducible intro b)
      rw [if_neg h1, if_pos h2]
    · repeat (first | with_reducible refine pv_seq fun K hK => ?_ | ((with_reducible first | refine hK _ _ ?_ | (clear hK; refine hK _ _ ?_) | (clear hK; clear hK; refine hK _ _ ?_)); clear hK; try clear K) | refine W ?_ | exact Z | with_reducible intro b)
      rw [if_neg h1, if_neg h2]
theorem exD_bd {k : Nat} {n : Int} {a b : Dyadic} (ha : Bd k a) (hb : Bd k b) : Bd (4 * k + 1) (exD n a b) := by
  unfold exD; split
  · exact ha.add hb
  · split
    · exact ha.sub hb
    · exact (ha.mul hb).mono (by omega)




theorem p_rScale {x : Nu} {j : Int} (hx : B64 x.w) (hj : R64 j) : PC Tryz.prog 22 [NU x, i64 j] fun d => d = NE (scR x j) := by
  have pX := p_rRight hx
  unfold scR
  by_cases h : rightB x = true
  · rw [if_pos h]
    rw [h] at pX
    obtain ⟨a, ha, rfl⟩ := right_is hx h
    by_cases h0 : a = 0
    · subst h0
      rw [nuOf_zero] at pX ⊢
      rw [if_pos (show nu0.w.length = 0 from rfl)]
      have d1 := @dl 7 qC5_22_7
      refine PB (args := [NU ⟨false, 0, []⟩, i64 j]) (rs := [.cell 4 38, .tmp 5]) Tryz.func22 ?_
      exact Wk
    · have hl : ((D64 (fN a)).length = 0) = False := eq_false fun h => h0 (fN_eq_zero.1 ((digs_eq_nil (by decide)).1 (List.eq_nil_of_length_eq_zero h)))
      have hbd := ha.bd
      have hlen := ha.len
      rw [nuOf_f] at hlen
      simp only at hlen
      have pP := p_Part (xs := D64 (fN a)) (digs_lt (by decide) _) (by show (digs _ _).length ≤ _; omega)
      rw [show N64 (D64 (fN a)) = fN a from nval_digs (by decide) _] at pP
      have hodd := fN_mod h0
      have hb1 := hbd.2.1; have hb2 := hbd.2.2
      rw [nuOf_f] at pX ⊢
      simp only
      rw [show N64 (digs 18446744073709551616 (fN a)) = fN a from nval_digs (by decide) _, if_neg (by rw [hl]; exact id)]
      by_cases g1 : 131072 < j
      · rw [if_pos (.inl g1)]
        have d1 := @dl 7 qC5_22_7
        refine PB (rs := [.cell 4 38, .tmp 5]) Tryz.func22 ?_
        have ft := And.intro hl (eq_true g1)
        exact Wk
      · by_cases g2 : j < -131072
        · rw [if_pos (.inr g2)]
          have d1 := @dl 7 qC5_22_7
          refine PB (rs := [.cell 4 38, .tmp 5]) Tryz.func22 ?_
          have ft := And.intro hl (And.intro (eq_false g1) (eq_true g2))
          exact Wk
        · rw [if_neg (by omega)]
          have hv : VA (dy (fS a) (fN a) (fE a + j)) = .agg [bl (fS a), W32 (D32 (fN a)), i64 (fE a + j)] := by unfold VA; rw [fS_odd hodd, fN_odd hodd, fE_odd hodd]
          obtain ⟨q, hq⟩ : ∃ q : Nat, q = 196608 := ⟨_, rfl⟩
          have hbq := ha.bdk (k := q) (by omega)
          have pN := p_rNum (k := q) (d := dy (fS a) (fN a) (fE a + j)) ⟨by rw [fN_odd hodd]; exact hbq.1, by rw [fE_odd hodd]; omega, by rw [fE_odd hodd]; omega⟩ (by omega)
          rw [hv] at pN
          generalize numR (dy (fS a) (fN a) (fE a + j)) = r at *
          have d1 := @dl 7 qC5_22_7
          refine PB (rs := [.cell 4 38, .tmp 5]) Tryz.func22 ?_
          have ft := And.intro hl (And.intro (eq_false g1) (eq_false g2))
          exact Wk
  · rw [if_neg h]
    rw [Bool.not_eq_true] at h
    rw [h] at pX
    obtain ⟨neg, exp, w⟩ := x
    have d1 := @dl 7 qC5_22_7
    refine PB (rs := [.cell 4 38, .tmp 5]) Tryz.func22 ?_
    exact Wk


end Go.V
namespace Go.V
open Go Go.RowKit Go.Proofs

/-- A list of numbers. -/
def eU (x : Nu) : List G := [.lit (.bool x.neg), .lit (.int .i64 x.exp), eS (eK .u64) x.w]
def NN (xs : List Nu) : D := .g (eS eU xs)
theorem lenD_NN {xs : List Nu} {K : D → Prop} : lenD (NN xs) K = K (.g (.lit (.int .i64 xs.length))) := lenD_eS
theorem ixD_NN {xs : List Nu} {i : Int} {K : D → Prop} : ixD 3 (NN xs) i K = (0 ≤ i ∧ i < xs.length ∧ K (.ip (eU (xs.getD i.toNat nu0)))) := by
  rw [NN, ixD_eS, eq_iff_iff]
  constructor
  · rintro ⟨h0, h1, h2⟩
    refine ⟨h0, h1, ?_⟩
    have : xs[i.toNat]? = some (xs.getD i.toNat nu0) := by simp [List.getD, List.getElem?_eq_getElem (show i.toNat < xs.length by omega)]
    rw [this] at h2; exact h2.2
  · rintro ⟨h0, h1, h2⟩
    refine ⟨h0, h1, ?_⟩
    have : xs[i.toNat]? = some (xs.getD i.toNat nu0) := by simp [List.getD, List.getElem?_eq_getElem (show i.toNat < xs.length by omega)]
    rw [this]; exact ⟨rfl, h2⟩
theorem eU_0 {x : Nu} : (eU x) = [.lit (.bool x.neg), .lit (.int .i64 x.exp), eS (eK .u64) x.w] := rfl
attribute [go_sem ↓] lenD_NN ixD_NN
attribute [go_sem] lenD_NN ixD_NN
end Go.V
namespace Go.V
open Go Go.RowKit Go.Proofs
end Go.V
namespace Go.V
open Go Go.RowKit

variable {P : Program} {N : DEnv → Store → Prop} {X : Nat → DEnv → Store → Prop} {R : DEnv → Store → Prop} {e : DEnv} {S : Store}
end Go.V
namespace Go.V
open Go Go.RowKit

def graft : PT → PT → PT
  | .nil, r => r
  | .lin pl t, r => .lin pl (graft t r)
  | .fork i m a j k b, r => .fork i m (graft a r) j k (graft b r)
  | .fork3 i m a j k b p q c, r => .fork3 i m (graft a r) j k (graft b r) p q (graft c r)
  | .fork4 i m a j k b p q c s u d, r => .fork4 i m (graft a r) j k (graft b r) p q (graft c r) s u (graft d r)
  | .mix cs ars t, r => .mix cs ars (graft t r)
def chain : List PT → PT
  | [] => .nil
  | t :: r => graft t (chain r)
section
variable {ops : List Oper} {mode : Nat → Nat}
end
section
variable {P : Program} {ops : List Oper}
end
variable {P : Program} {N : DEnv → Store → Prop} {X : Nat → DEnv → Store → Prop} {R : DEnv → Store → Prop} {e : DEnv} {S : Store} {l : List Oper}
end Go.V
namespace Go.V
open Go Go.RowKit Go.Proofs

/-- Numbers of one odd word. -/
theorem w1 {s : Bool} {k : Int} {n : Nat} (ho : n % 2 = 1) (hn : n < 18446744073709551616) (h1 : -60000 ≤ k) (h2 : k ≤ 60000) : (⟨s, k, [n]⟩ : Nu) = nuOf (dy s n k) ∧ OkD (dy s n k) ∧ rightB ⟨s, k, [n]⟩ = true ∧ (⟨s, k, [n]⟩ : Nu).val = dy s n k := by
  have e : (⟨s, k, [n]⟩ : Nu) = nuOf (dy s n k) := by rw [nuOf_odd ho, digs_small (by decide) (by omega) hn]
  have hk : OkD (dy s n k) := OkD_word hn (by omega) (by omega)
  refine ⟨e, hk, ?_, ?_⟩
  · rw [e, rightB_nuOf, decide_eq_true hk]
  · rw [e, val_nuOf]
end Go.V

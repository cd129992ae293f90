/- The document's tubes: right, alike, steps, end, first piece with a time, all places. -/
import Derived.Test.YtcmnbpliiopbjaaGreatU26
import Derived.Test.YtcmnbpliiopbjaaGreatU13
import Derived.Test.YtcmnbpliiopbjaaGreatU14
set_option linter.unusedSimpArgs false
set_option linter.unusedVariables false
set_option maxRecDepth 100000
namespace Go.V
open Go Go.RowKit Go.Proofs
def qU27_26_8 : List (Nat × Nat) := [(0, 0), (1, 0), (2, 0), (3, 0), (4, 0), (5, 0), (6, 0), (7, 1), (8, 0), (9, 0), (10, 0), (11, 1), (12, 3), (13, 0), (14, 0)]
def qU27_27_6 : List (Nat × Nat) := [(0, 0), (1, 0), (2, 0), (3, 1), (4, 0), (5, 0), (6, 0), (7, 1), (8, 3), (9, 0)]
def qU27_23_6 : List (Nat × Nat) := [(0, 0), (1, 0), (2, 0), (3, 1), (4, 1), (5, 1), (6, 3)]
def qU27_25_7 : List (Nat × Nat) := [(0, 0), (1, 0), (2, 0), (3, 1), (4, 1), (5, 1), (6, 3)]
attribute [go_sem] qU27_26_8 qU27_27_6 qU27_23_6 qU27_25_7

set_option maxHeartbeats 2000000 in
theorem p_rTube {l : List Sg} (hl : l.length ≤ 100000) (hg : ∀ s ∈ l, OkP s) : PC Tryz.prog 26 [SS l] fun d => d = bl (tubeB l) := by
  have hyes0 := tube_yesT hg
  have hno0 : ∀ i, i < l.length → ¬ rowT l i → tubeB l = false := fun i hi h => tube_noT hg hi h
  unfold SS
  generalize tubeB l = r at *
  have d1 := @dl 8 qU27_26_8
  refine PB (rs := [.tmp 2]) Tryz.func26 ?_
  repeat (first | with_reducible refine pv_seq fun K hK => ?_ | ((with_reducible first | refine hK _ _ ?_ | (clear hK; refine hK _ _ ?_) | (clear hK; clear hK; refine hK _ _ ?_)); clear hK; try clear K) | refine W0 ?_ | exact Z | with_reducible intro b)
  have J : ∀ (e : DEnv) (S : Store), r = true → K e S := by
    intro e S h
    subst h
    exact Wk
  clear hK
  refine pv_loop (fun e S => ∃ i : Nat, i ≤ l.length ∧ e 0 = .g (eS eG l) ∧ e 3 = i64 i ∧ ∀ j, j < i → rowT l j) (fun e _ => l.length - (intD (e 3)).toNat) ?_ ?_
  · exact ⟨0, Nat.zero_le _, Zr, Zr, fun j hj => by omega⟩
  · rintro e S ⟨i, hi, g0, g3, hz⟩
    have ft := And.intro g0 g3
    repeat (first | with_reducible refine pv_seq fun K hK => ?_ | ((with_reducible first | refine hK _ _ ?_ | (clear hK; refine hK _ _ ?_) | (clear hK; clear hK; refine hK _ _ ?_)); clear hK; try clear K) | refine W0 ?_ | exact Z | with_reducible intro b)
    refine pv_cdD (fun ht => ?_) (fun ht => ?_)
    · have hil : i < l.length := by omega
      have q1 := gS_at hil
      have oi := hg _ (gS_mem hil)
      have pR := p_rRightSeg oi
      have hz2 : rowT l i → ∀ j, j < i + 1 → rowT l j := fun h j hj => by
        rcases Nat.lt_or_ge j i with h1 | h1
        · exact hz j h1
        · obtain rfl : j = i := by omega
          exact h
      have hno : ¬ rowT l i → r = false := hno0 i hil
      by_cases hR : rightS (gS l i) = true
      · rw [hR] at pR
        rcases Nat.eq_zero_or_pos i with rfl | hpos
        · have hyes : (gS l 0).fr = 1 → (gS l 0).t0.w.length = 0 → ∀ j, j < 1 → rowT l j := fun h1 h2 => hz2 ⟨hR, fun _ => ⟨h1, h2⟩, fun h => by omega⟩
          have hnot : ¬ ((gS l 0).fr = 1 ∧ (gS l 0).t0.w.length = 0) → r = false := fun h => hno fun h2 => h (h2.2.1 rfl)
          clear hz hz2 hno hR oi hno0 hyes0
          generalize gS l 0 = q at *
          obtain ⟨fr, to, ⟨n0, e0, w0⟩, ⟨n1, e1, w1⟩, bx⟩ := q
          simp only at hyes hnot
          have hii : ((0 : Int) < ((0 : Nat) : Int)) = False := eq_false (by omega)
          have hi0 : (((0 : Nat) : Int) = 0) = True := eq_true rfl
          by_cases a1 : fr = 1
          · have a1' := eq_true a1
            by_cases a2 : w0.length = 0
            · have a2' : ((0 : Int) < (w0.length : Int)) = False := eq_false (by omega)
              have hz3 := hyes a1 a2
              clear hyes hnot
              have ft := And.intro g0 (And.intro g3 (And.intro q1 (And.intro hii (And.intro hi0 (And.intro a1' a2')))))
              repeat (first | with_reducible refine pv_seq fun K hK => ?_ | ((with_reducible first | refine hK _ _ ?_ | (clear hK; refine hK _ _ ?_) | (clear hK; clear hK; refine hK _ _ ?_)); clear hK; try clear K) | refine W ?_ | exact Z | with_reducible intro b)
              exact ⟨⟨1, by omega, rfl, hz3⟩, by simp only [intD]; omega⟩
            · have a2' : ((0 : Int) < (w0.length : Int)) = True := eq_true (by omega)
              have h := hnot fun h => a2 h.2
              subst h
              clear hyes hnot
              have ft := And.intro g0 (And.intro g3 (And.intro q1 (And.intro hii (And.intro hi0 (And.intro a1' a2')))))
              exact Wk
          · have a1' := eq_false a1
            have h := hnot fun h => a1 h.1
            subst h
            clear hyes hnot
            have ft := And.intro g0 (And.intro g3 (And.intro q1 (And.intro hii (And.intro hi0 a1'))))
            exact Wk
        · have qp := gS_at (l := l) (i := i - 1) (by omega)
          have op := hg _ (gS_mem (l := l) (i := i - 1) (by omega))
          have hto := rightS_to (hz (i - 1) (by omega)).1
          have pB := p_rBehind op oi hto
          have hyes : behS (gS l (i - 1)) (gS l i) = true → ∀ j, j < i + 1 → rowT l j := fun h => hz2 ⟨hR, fun h => by omega, fun _ => h⟩
          have hnot : behS (gS l (i - 1)) (gS l i) = false → r = false := fun h => hno fun h2 => by have := h2.2.2 hpos; rw [h] at this; cases this
          clear hz hz2 hno hR oi op hno0 hyes0 hto
          have hii : ((0 : Int) < (i : Int)) = True := eq_true (by omega)
          have hi0 : ((i : Int) = 0) = False := eq_false (by omega)
          have hin : ((i : Int) - 1).toNat = i - 1 := by omega
          generalize behS (gS l (i - 1)) (gS l i) = bb at *
          generalize gS l i = q at *
          generalize gS l (i - 1) = p at *
          obtain ⟨fr, to, ⟨n0, e0, w0⟩, ⟨n1, e1, w1⟩, bx⟩ := q
          obtain ⟨fr2, to2, ⟨n2, e2, w2⟩, ⟨n3, e3, w3⟩, bx2⟩ := p
          cases bb
          · have h := hnot rfl
            subst h
            clear hyes hnot
            have ft := And.intro g0 (And.intro g3 (And.intro q1 (And.intro hii (And.intro hi0 (And.intro hin qp)))))
            exact Wk
          · have hz3 := hyes rfl
            clear hyes hnot
            have ft := And.intro g0 (And.intro g3 (And.intro q1 (And.intro hii (And.intro hi0 (And.intro qp hin)))))
            repeat (first | with_reducible refine pv_seq fun K hK => ?_ | ((with_reducible first | refine hK _ _ ?_ | (clear hK; refine hK _ _ ?_) | (clear hK; clear hK; refine hK _ _ ?_)); clear hK; try clear K) | refine W ?_ | exact Z | with_reducible intro b)
            exact ⟨⟨i + 1, by omega, rfl, hz3⟩, by simp only [intD]; omega⟩
      · have h := hno fun h => hR h.1
        subst h
        rw [Bool.not_eq_true] at hR
        rw [hR] at pR
        clear hz hz2 hno hR oi hno0 hyes0
        generalize gS l i = q at *
        obtain ⟨fr, to, ⟨n0, e0, w0⟩, ⟨n1, e1, w1⟩, bx⟩ := q
        have ft := And.intro g0 (And.intro g3 q1)
        exact Wk
    · obtain rfl : i = l.length := by omega
      repeat (first | with_reducible refine pv_seq fun K hK => ?_ | ((with_reducible first | refine hK _ _ ?_ | (clear hK; refine hK _ _ ?_) | (clear hK; clear hK; refine hK _ _ ?_)); clear hK; try clear K) | refine W0 ?_ | exact Z | with_reducible intro b)
      exact J _ _ (hyes0 hz)
set_option maxHeartbeats 1000000 in
theorem p_rSameTube {a b : List Sg} (ha : a.length ≤ 100000) (hb : b.length ≤ 100000) (ga : ∀ s ∈ a, LnG s) (gb : ∀ s ∈ b, LnG s) : PC Tryz.prog 27 [SS a, SS b] fun d => d = bl (allS a b) := by
  have hf : ∀ i, i < a.length → i < b.length → PC Tryz.prog 24 [SEG (gS a i), SEG (gS b i)] fun d => d = bl (sameG (gS a i) (gS b i)) := fun i h1 h2 => p_rSameSeg (ga _ (gS_mem h1)) (gb _ (gS_mem h2))
  generalize hr : allS a b = r
  unfold allS at hr
  generalize sameG = p at *
  unfold SS
  by_cases hl : a.length = b.length
  · have k1 : ((a.length : Int) = (b.length : Int)) = True := eq_true (by omega)
    rw [decide_eq_true hl, Bool.true_and] at hr
    have d1 := @dl 6 qU27_27_6
    refine PB (rs := [.tmp 4]) Tryz.func27 ?_
    have ft := k1
    repeat (first | with_reducible refine pv_seq fun K hK => ?_ | ((with_reducible first | refine hK _ _ ?_ | (clear hK; refine hK _ _ ?_) | (clear hK; clear hK; refine hK _ _ ?_)); clear hK; try clear K) | refine W0 ?_ | exact Z | with_reducible intro b)
    have J : ∀ (e : DEnv) (S : Store), r = true → K e S := by
      intro e S h
      subst h
      exact Wk
    clear hK
    refine pv_loop (fun e S => ∃ i : Nat, i ≤ a.length ∧ e 0 = .g (eS eG a) ∧ e 1 = .g (eS eG b) ∧ e 5 = i64 i ∧ ∀ j, j < i → p (gS a j) (gS b j) = true) (fun e _ => a.length - (intD (e 5)).toNat) ?_ ?_
    · exact ⟨0, Nat.zero_le _, Zr, Zr, Zr, fun j hj => by omega⟩
    · rintro e S ⟨i, hi, g0, g1, g5, hz⟩
      have ft := And.intro g0 (And.intro g1 g5)
      repeat (first | with_reducible refine pv_seq fun K hK => ?_ | ((with_reducible first | refine hK _ _ ?_ | (clear hK; refine hK _ _ ?_) | (clear hK; clear hK; refine hK _ _ ?_)); clear hK; try clear K) | refine W0 ?_ | exact Z | with_reducible intro b)
      refine pv_cdD (fun ht => ?_) (fun ht => ?_)
      · have hil : i < a.length := by omega
        have q1 := gS_at hil
        have q2 := gS_at (l := b) (i := i) (by omega)
        have pf := hf i hil (by omega)
        have hz2 : p (gS a i) (gS b i) = true → ∀ j, j < i + 1 → p (gS a j) (gS b j) = true := fun h j hj => by
          rcases Nat.lt_or_ge j i with h1 | h1
          · exact hz j h1
          · obtain rfl : j = i := by omega
            exact h
        have hno : p (gS a i) (gS b i) = false → r = false := fun h => by
          rw [← hr]; exact decide_eq_false fun h2 => by rw [h2 i hil] at h; cases h
        clear hf hz
        generalize p (gS a i) (gS b i) = t at *
        generalize gS a i = x at *
        generalize gS b i = y at *
        obtain ⟨fr, to, ⟨n0, e0, w0⟩, ⟨n1, e1, w1⟩, bx⟩ := x
        obtain ⟨fr2, to2, ⟨n2, e2, w2⟩, ⟨n3, e3, w3⟩, bx2⟩ := y
        cases t
        · have h := hno rfl
          subst h
          have ft := And.intro g0 (And.intro g1 (And.intro g5 (And.intro q1 q2)))
          exact Wk
        · have hz3 := hz2 rfl
          have ft := And.intro g0 (And.intro g1 (And.intro q1 (And.intro g5 q2)))
          repeat (first | with_reducible refine pv_seq fun K hK => ?_ | ((with_reducible first | refine hK _ _ ?_ | (clear hK; refine hK _ _ ?_) | (clear hK; clear hK; refine hK _ _ ?_)); clear hK; try clear K) | refine W ?_ | exact Z | with_reducible intro b)
          exact ⟨⟨i + 1, by omega, rfl, hz3⟩, by simp only [intD]; omega⟩
      · obtain rfl : i = a.length := by omega
        have ft := And.intro g0 (And.intro g5 g1)
        repeat (first | with_reducible refine pv_seq fun K hK => ?_ | ((with_reducible first | refine hK _ _ ?_ | (clear hK; refine hK _ _ ?_) | (clear hK; clear hK; refine hK _ _ ?_)); clear hK; try clear K) | refine W0 ?_ | exact Z | with_reducible intro b)
        refine J _ _ ?_
        rw [← hr]; exact decide_eq_true hz
  · have k1 : ((a.length : Int) = (b.length : Int)) = False := eq_false (by omega)
    have : r = false := by rw [← hr, decide_eq_false hl]; rfl
    subst this
    have d1 := @dl 6 qU27_27_6
    refine PB (rs := [.tmp 4]) Tryz.func27 ?_
    have ft := k1
    exact Wk
set_option maxHeartbeats 1000000 in
theorem p_rSteps {l : List Sg} (hl : l.length ≤ 100000) (hg : ∀ s ∈ l, OkP s) : PC Tryz.prog 28 [SS l] fun d => d = i64 (lastT l).to := by
  have pA := p_rTube hl hg
  unfold lastT
  unfold SS at pA ⊢
  clear hg
  generalize tubeB l = r at *
  by_cases h0 : l.length = 0
  · have k0 : ((l.length : Int) = 0) = True := eq_true (by omega)
    rw [if_pos (.inl h0)]
    refine PB (rs := [.tmp 2]) Tryz.func28 ?_
    have ft := k0
    exact Wk
  · have k0 : ((l.length : Int) = 0) = False := eq_false (by omega)
    have q0 := gS_at (l := l) (i := l.length - 1) (by omega)
    have hin : ((l.length : Int) - 1).toNat = l.length - 1 := by omega
    have hpos : 0 < l.length := by omega
    cases r
    · rw [if_pos (.inr rfl)]
      refine PB (rs := [.tmp 2]) Tryz.func28 ?_
      have ft := k0
      exact Wk
    · rw [if_neg (by simp [h0])]
      generalize gS l (l.length - 1) = q at *
      obtain ⟨fr, to, ⟨n0, e0, w0⟩, ⟨n1, e1, w1⟩, bx⟩ := q
      refine PB (rs := [.tmp 2]) Tryz.func28 ?_
      have ft := And.intro k0 (And.intro hin q0)
      exact Wk
set_option maxHeartbeats 1000000 in
theorem p_rUntil {l : List Sg} (hl : l.length ≤ 100000) (hg : ∀ s ∈ l, OkP s) : PC Tryz.prog 29 [SS l] fun d => d = NU (lastT l).t1 := by
  have pA := p_rTube hl hg
  unfold lastT
  unfold SS at pA ⊢
  clear hg
  generalize tubeB l = r at *
  by_cases h0 : l.length = 0
  · have k0 : ((l.length : Int) = 0) = True := eq_true (by omega)
    rw [if_pos (.inl h0)]
    refine PB (rs := [.cell 2 30]) Tryz.func29 ?_
    have ft := k0
    exact Wk
  · have k0 : ((l.length : Int) = 0) = False := eq_false (by omega)
    have q0 := gS_at (l := l) (i := l.length - 1) (by omega)
    have hin : ((l.length : Int) - 1).toNat = l.length - 1 := by omega
    have hpos : 0 < l.length := by omega
    cases r
    · rw [if_pos (.inr rfl)]
      refine PB (rs := [.cell 2 30]) Tryz.func29 ?_
      have ft := k0
      exact Wk
    · rw [if_neg (by simp [h0])]
      generalize gS l (l.length - 1) = q at *
      obtain ⟨fr, to, ⟨n0, e0, w0⟩, ⟨n1, e1, w1⟩, bx⟩ := q
      refine PB (rs := [.cell 2 30]) Tryz.func29 ?_
      have ft := And.intro k0 (And.intro hin q0)
      exact Wk
set_option maxHeartbeats 1000000 in
theorem p_rFind {l : List Sg} {t : Nu} (hl : l.length ≤ 100000) (hg : ∀ s ∈ l, OkP s) (o : Wl 65536 t) (rt : rightB t = true) : PC Tryz.prog 23 [SS l, NU t] fun d => d = fndD (firstS t (ownL l)) := by
  have pA := p_rTube hl hg
  have pB := p_rRight o.b
  rw [rt] at pB
  have pM : ∀ i, i < l.length → PC Tryz.prog 50 [SEG (gS l i), NU t, NU t] fun d => d = bl (meetB t t (gS l i)) := fun i h => p_rMeets (hg _ (gS_mem h)) o o rt rt
  cases ht : tubeB l
  · rw [ht] at pA
    rw [ownL_f ht, first_none (fun j hj => by cases hj)]
    clear pM hg o rt ht
    unfold SS at pA ⊢
    obtain ⟨n0, e0, w0⟩ := t
    have d1 := @dl 6 qU27_23_6
    refine PB (rs := [.cell 4 34, .tmp 5]) Tryz.func23 ?_
    exact Wk
  · rw [ht] at pA
    rw [ownL_t ht]
    have hat : ∀ i, i < l.length → (∀ j, j < i → meetB t t (gS l j) = false) → meetB t t (gS l i) = true → firstS t l = some (gS l i) := fun i h1 h2 h3 => first_at h1 h2 h3
    have hnone : (∀ j, j < l.length → meetB t t (gS l j) = false) → firstS t l = none := first_none
    clear hg o rt ht
    generalize firstS t l = r at *
    unfold SS at pA ⊢
    generalize meetB t t = mb at *
    obtain ⟨n0, e0, w0⟩ := t
    have d1 := @dl 6 qU27_23_6
    refine PB (rs := [.cell 4 34, .tmp 5]) Tryz.func23 ?_
    repeat (first | with_reducible refine pv_seq fun K hK => ?_ | ((with_reducible first | refine hK _ _ ?_ | (clear hK; refine hK _ _ ?_) | (clear hK; clear hK; refine hK _ _ ?_)); clear hK; try clear K) | refine W ?_ | exact Z | with_reducible intro b)
    rename_i b3
    refine pv_loop (fun e S => ∃ i : Nat, i ≤ l.length ∧ e 0 = .g (eS eG l) ∧ e 3 = .ptr (.l 3) b3 0 0 3 ∧ e 4 = .ptr (.l 4) b 0 0 9 ∧ e 6 = i64 i ∧ S (.l 3) = some ⟨b3, 3, 0, [[bl n0, i64 e0, W64 w0]]⟩ ∧ S (.l 4) = some ⟨b, 9, 0, [[i64 0, i64 0, bl false, i64 0, .nil, bl false, i64 0, .nil, .nil]]⟩ ∧ ∀ j, j < i → mb (gS l j) = false) (fun e _ => l.length - (intD (e 6)).toNat) ?_ ?_
    · exact ⟨0, Nat.zero_le _, Zr, Zr, Zr, Zr, Zr, Zr, fun j hj => by omega⟩
    · rintro e S ⟨i, hi, g0, g3, g4, g6, s3, s4, hz⟩
      have ft := And.intro g0 (And.intro g3 (And.intro g4 (And.intro g6 (And.intro s3 s4))))
      repeat (first | with_reducible refine pv_seq fun K hK => ?_ | ((with_reducible first | refine hK _ _ ?_ | (clear hK; refine hK _ _ ?_) | (clear hK; clear hK; refine hK _ _ ?_)); clear hK; try clear K) | refine W0 ?_ | exact Z | with_reducible intro b)
      refine pv_cdD (fun ht => ?_) (fun ht => ?_)
      · have hil : i < l.length := by omega
        have q1 := gS_at hil
        have pm := pM i hil
        have h1 := hat i hil hz
        have hz2 : mb (gS l i) = false → ∀ j, j < i + 1 → mb (gS l j) = false := fun h j hj => by
          rcases Nat.lt_or_ge j i with h1 | h1
          · exact hz j h1
          · obtain rfl : j = i := by omega
            exact h
        clear pM hat hz hnone
        generalize mb (gS l i) = c at *
        generalize gS l i = q at *
        obtain ⟨fr, to, ⟨n2, e2, w2⟩, ⟨n3, e3, w3⟩, bx⟩ := q
        cases c
        · have hz3 := hz2 rfl
          have ft := And.intro g0 (And.intro g3 (And.intro g4 (And.intro g6 (And.intro s3 (And.intro s4 q1)))))
          repeat (first | with_reducible refine pv_seq fun K hK => ?_ | ((with_reducible first | refine hK _ _ ?_ | (clear hK; refine hK _ _ ?_) | (clear hK; clear hK; refine hK _ _ ?_)); clear hK; try clear K) | refine W ?_ | exact Z | with_reducible intro b)
          exact ⟨⟨i + 1, by omega, rfl, hz3⟩, by simp only [intD]; omega⟩
        · have h := h1 rfl
          subst h
          have ft := And.intro g0 (And.intro g3 (And.intro g4 (And.intro g6 (And.intro s3 (And.intro q1 s4)))))
          exact Wk
      · obtain rfl : i = l.length := by omega
        have h := hnone hz
        subst h
        exact Wk
set_option maxHeartbeats 2000000 in
theorem p_rEach {l : List Sg} {lo hi : Nu} (hl : l.length ≤ 100000) (hg : ∀ s ∈ l, OkP s) (o1 : Wl 65536 lo) (o2 : Wl 65536 hi) (r1 : rightB lo = true) (r2 : rightB hi = true) : PC Tryz.prog 25 [SS l, NU lo, NU hi] fun d => d = NI (metL lo hi (ownL l) (ownL l).length) := by
  have pA := p_rTube hl hg
  have pB := p_rRight o1.b
  have pC := p_rRight o2.b
  rw [r1] at pB
  rw [r2] at pC
  have pM : ∀ i, i < l.length → PC Tryz.prog 50 [SEG (gS l i), NU lo, NU hi] fun d => d = bl (meetB lo hi (gS l i)) := fun i h => p_rMeets (hg _ (gS_mem h)) o1 o2 r1 r2
  unfold NI
  cases ht : tubeB l
  · rw [ht] at pA
    rw [ownL_f ht, metL_none (fun j hj => by cases hj)]
    clear pM hg o1 o2 r1 r2 ht
    unfold SS at pA ⊢
    obtain ⟨n0, e0, w0⟩ := lo
    obtain ⟨n1, e1, w1⟩ := hi
    have d1 := @dl 7 qU27_25_7
    refine PB (rs := [.tmp 6]) Tryz.func25 ?_
    exact Wk
  · rw [ht] at pA
    rw [ownL_t ht]
    have hyes : ∀ i, meetB lo hi (gS l i) = true → metL lo hi l (i + 1) = metL lo hi l i ++ [i] := fun i h => metL_yes h
    have hno : ∀ i, meetB lo hi (gS l i) = false → metL lo hi l (i + 1) = metL lo hi l i := fun i h => metL_no h
    have h0 : metL lo hi l 0 = [] := rfl
    have hlen : ∀ i, i ≤ l.length → (metL lo hi l i).length ≤ 100000 := fun i h => by
      have := List.length_filter_le (fun i => meetB lo hi (gS l i)) (List.range i)
      rw [List.length_range] at this
      show (List.filter _ _).length ≤ _; omega
    clear hg o1 o2 r1 r2 ht
    generalize metL lo hi l = mt at *
    unfold SS at pA ⊢
    generalize meetB lo hi = mb at *
    obtain ⟨n0, e0, w0⟩ := lo
    obtain ⟨n1, e1, w1⟩ := hi
    have d1 := @dl 7 qU27_25_7
    refine PB (rs := [.tmp 6]) Tryz.func25 ?_
    repeat (first | with_reducible refine pv_seq fun K hK => ?_ | ((with_reducible first | refine hK _ _ ?_ | (clear hK; refine hK _ _ ?_) | (clear hK; clear hK; refine hK _ _ ?_)); clear hK; try clear K) | refine W ?_ | exact Z | with_reducible intro b)
    rename_i b4
    generalize b = b5
    have J : ∀ (e : DEnv) (S : Store), RowD S (.l 39) 1 (e 7) (rS (eK .i64) (mt l.length)) → K e S := by
      intro e S h
      repeat (first | with_reducible refine pv_seq fun K hK => ?_ | ((with_reducible first | refine hK _ _ ?_ | (clear hK; refine hK _ _ ?_) | (clear hK; clear hK; refine hK _ _ ?_)); clear hK; try clear K) | refine W0 ?_ | exact Z | with_reducible intro b)
      exact h.coeD fun T2 _ hT2 => rfl
    clear hK
    refine pv_loop (fun e S => ∃ i : Nat, i ≤ l.length ∧ e 0 = .g (eS eG l) ∧ e 4 = .ptr (.l 4) b4 0 0 3 ∧ e 5 = .ptr (.l 5) b5 0 0 3 ∧ e 8 = i64 i ∧ S (.l 4) = some ⟨b4, 3, 0, [[bl n0, i64 e0, W64 w0]]⟩ ∧ S (.l 5) = some ⟨b5, 3, 0, [[bl n1, i64 e1, W64 w1]]⟩ ∧ RowD S (.l 39) 1 (e 7) (rS (eK .i64) (mt i))) (fun e _ => l.length - (intD (e 8)).toNat) ?_ ?_
    · exact ⟨0, Nat.zero_le _, Zr, Zr, Zr, Zr, Zr, Zr, .inl ⟨Zr, by rw [h0]; rfl⟩⟩
    · rintro e S ⟨i, hi, g0, g4, g5, g8, s4, s5, hw⟩
      have ft := And.intro g0 (And.intro g4 (And.intro g5 (And.intro s4 (And.intro s5 g8))))
      repeat (first | with_reducible refine pv_seq fun K hK => ?_ | ((with_reducible first | refine hK _ _ ?_ | (clear hK; refine hK _ _ ?_) | (clear hK; clear hK; refine hK _ _ ?_)); clear hK; try clear K) | refine W0 ?_ | exact Z | with_reducible intro b)
      refine pv_cdD (fun ht => ?_) (fun ht => ?_)
      · have hil : i < l.length := by omega
        have q1 := gS_at hil
        have pm := pM i hil
        have h1 := hyes i
        have h2 := hno i
        have h3 := hlen i hi
        clear pM hyes hno h0 hlen
        generalize mb (gS l i) = c at *
        generalize gS l i = q at *
        obtain ⟨fr, to, ⟨n2, e2, w2⟩, ⟨n3, e3, w3⟩, bx⟩ := q
        cases c
        · have h4 := h2 rfl
          have ft := And.intro g0 (And.intro g4 (And.intro g5 (And.intro s4 (And.intro s5 (And.intro g8 q1)))))
          repeat (first | with_reducible refine pv_seq fun K hK => ?_ | ((with_reducible first | refine hK _ _ ?_ | (clear hK; refine hK _ _ ?_) | (clear hK; clear hK; refine hK _ _ ?_)); clear hK; try clear K) | refine W ?_ | exact Z | with_reducible intro b)
          exact ⟨⟨i + 1, by omega, rfl, by rw [h4]; exact hw⟩, by simp only [intD]; omega⟩
        · have h4 := h1 rfl
          have ft := And.intro g0 (And.intro g4 (And.intro g5 (And.intro s4 (And.intro s5 (And.intro q1 g8)))))
          repeat (first | with_reducible refine pv_seq fun K hK => ?_ | ((with_reducible first | refine hK _ _ ?_ | (clear hK; refine hK _ _ ?_) | (clear hK; clear hK; refine hK _ _ ?_)); clear hK; try clear K) | refine W ?_ | exact Z | with_reducible intro b)
          refine RowD.appL (hw.up (by rfl)) (by decide) rfl (by simp [D.one]) ?_ ?_ fun d' S3 hr3 hS3 => ?_
          · rw [rS_len]; simp; omega
          · rw [rS_len]; simp; omega
          have u4 : S3 (.l 4) = some ⟨b4, 3, 0, [[bl n0, i64 e0, W64 w0]]⟩ := by rw [hS3 _ (by decide)]; exact s4
          have u5 : S3 (.l 5) = some ⟨b5, 3, 0, [[bl n1, i64 e1, W64 w1]]⟩ := by rw [hS3 _ (by decide)]; exact s5
          have ft := And.intro g0 (And.intro g4 (And.intro g5 (And.intro u4 (And.intro u5 (And.intro q1 g8)))))
          repeat (first | with_reducible refine pv_seq fun K hK => ?_ | ((with_reducible first | refine hK _ _ ?_ | (clear hK; refine hK _ _ ?_) | (clear hK; clear hK; refine hK _ _ ?_)); clear hK; try clear K) | refine W0 ?_ | exact Z | with_reducible intro b)
          exact ⟨⟨i + 1, by omega, rfl, by rw [h4, ← rS_n]; exact hr3⟩, by simp only [intD]; omega⟩
      · obtain rfl : i = l.length := by omega
        repeat (first | with_reducible refine pv_seq fun K hK => ?_ | ((with_reducible first | refine hK _ _ ?_ | (clear hK; refine hK _ _ ?_) | (clear hK; clear hK; refine hK _ _ ?_)); clear hK; try clear K) | refine W0 ?_ | exact Z | with_reducible intro b)
        exact J _ _ hw
end Go.V

/- The statement TubeFinds of layer 26. -/
import Derived.Test.YtcmnbpliiopbjaaGreatDoorU22
import Derived.Test.YtcmnbpliiopbjaaGreatDoorU25
import Derived.Test.YtcmnbpliiopbjaaGreatDoorU16
set_option linter.unusedSimpArgs false
set_option linter.unusedVariables false
set_option maxRecDepth 100000
namespace Go.V
open Go Go.RowKit Go.Proofs
def qU31_3_12 : PT := (.lin [(1, 0)] (.fork3 0 3 (.lin [] (.fork 2 3 (.lin [] (.fork 3 3 (.lin [(4, 0), (5, 0), (6, 0), (7, 3), (8, 3), (9, 0)] .nil) 7 3 (.lin [(3, 3), (4, 0), (5, 0), (6, 0), (8, 3), (9, 0)] .nil))) 7 3 (.lin [(2, 3), (3, 3), (4, 0), (5, 0), (6, 0), (8, 3), (9, 0)] .nil))) 2 3 (.lin [] (.fork 0 3 (.lin [] (.fork 3 3 (.lin [(4, 0), (5, 0), (6, 0), (7, 3), (8, 3), (9, 0)] .nil) 7 3 (.lin [(3, 3), (4, 0), (5, 0), (6, 0), (8, 3), (9, 0)] .nil))) 7 3 (.lin [(0, 3), (3, 3), (4, 0), (5, 0), (6, 0), (8, 3), (9, 0)] .nil))) 7 3 (.lin [] (.fork 0 3 (.lin [(2, 3), (3, 3), (4, 0), (5, 0), (6, 0), (8, 3), (9, 0)] .nil) 2 3 (.lin [(0, 3), (3, 3), (4, 0), (5, 0), (6, 0), (8, 3), (9, 0)] .nil)))))
def qU31_3_15 : List (Nat × Nat) := [(0, 0), (1, 0), (2, 0), (3, 0), (4, 0), (5, 0), (6, 0), (7, 0), (8, 0), (9, 0), (10, 0), (11, 0), (13, 0), (14, 0), (15, 0), (16, 0), (17, 0), (18, 0), (19, 2), (12, 4), (20, 0), (21, 0), (22, 0)]
attribute [go_sem] qU31_3_12 qU31_3_15

theorem lo_of {a b : Dyadic} (h : a ≤ b) : loD a b = a := by unfold loD; split <;> grind
theorem hi_of {a b : Dyadic} (h : a ≤ b) : hiD a b = b := by unfold hiD; split <;> grind
/-- Times rise along a tube. -/
theorem tube_t1 {l : List Sg} (h : tubeB l = true) {i k : Nat} (hik : i ≤ k) (hk : k < l.length) : (gS l i).t1.val ≤ (gS l k).t1.val := by
  induction k with
  | zero => obtain rfl : i = 0 := by omega
            grind
  | succ k ih =>
    by_cases hi : i = k + 1
    · subst hi; grind
    · have h1 := ih (by omega) (by omega)
      have h2 := tube_row h hk
      have h3 := (behB_f (h2.2 (by omega))).2.1
      have h4 := (rightS_f h2.1).2.2.2.1
      rw [show k + 1 - 1 = k by omega] at h3
      grind
theorem meetB_f {lo hi : Nu} {s : Sg} (h : meetB lo hi s = true) : lo.val ≤ hi.val ∧ lo.val ≤ s.t1.val ∧ s.t0.val ≤ hi.val := by
  unfold meetB at h
  simp only [Bool.and_eq_true, decide_eq_true_eq] at h
  exact ⟨h.1.1, h.1.2, h.2⟩
theorem meetB_no {lo hi : Nu} {s : Sg} (h : s.t1.val < lo.val ∨ hi.val < s.t0.val) : meetB lo hi s = false := by
  cases hm : meetB lo hi s with
  | false => rfl
  | true =>
    have := meetB_f hm
    rcases h with h | h <;> grind
/-- The first piece with a time of the tube's: the time is in it, and at its beginning only in the first of all. -/
theorem find_yes {n a c : Nat} {l : List Sg} {t : Nu} (hT : TubeI n l a c) (h0 : 0 < l.length) (h1 : 0 ≤ t.val) (h2 : t.val ≤ e8 c) : ∃ s, s ∈ l ∧ firstS t l = some s ∧ s.t0.val ≤ t.val ∧ t.val ≤ s.t1.val ∧ (s.t0.val = t.val → s.fr ≤ 1) := by
  rcases met_some (lo := t) (hi := t) hT.tube h1 (by grind) l.length (Nat.le_refl _) with h3 | ⟨i, hi, h3, h4⟩
  · have h5 := h3 (l.length - 1) (by omega)
    rw [(hT.last h0).2, val_nuOf] at h5
    grind
  · obtain ⟨_, h6, h7⟩ := meetB_f h3
    refine ⟨gS l i, gS_mem hi, first_at hi (fun j hj => meetB_no (.inl (h4 j hj))) h3, h7, h6, fun h8 => ?_⟩
    rcases Nat.eq_zero_or_pos i with h9 | h9
    · subst h9; rw [(tube_head hT.tube hi).1]; omega
    · have h10 := (behB_f ((tube_row hT.tube hi).2 h9)).2.1
      have h11 := h4 (i - 1) (by omega)
      grind
theorem find_far {n a c : Nat} {l : List Sg} {t : Nu} (hT : TubeI n l a c) (h2 : e8 c < t.val) : firstS t l = none := by
  refine first_none fun j hj => meetB_no (.inl ?_)
  have h1 := tube_t1 hT.tube (i := j) (k := l.length - 1) (by omega) (by omega)
  rw [(hT.last (by omega)).2, val_nuOf] at h1
  grind
theorem find_below {n a c : Nat} {l : List Sg} {t : Nu} (hT : TubeI n l a c) (h2 : t.val < 0) : firstS t l = none := by
  refine first_none fun j hj => meetB_no (.inr ?_)
  have h1 := (rightS_f (tube_row hT.tube hj).1).2.2.1
  grind
theorem p_nAddE {c d : Nat} (hc : c + d ≤ 2000) : PC Tryz.prog 15 [NU (nuOf (e8 c)), NU (nuOf (e8 d))] fun r => r = NE (nuOf (e8 (c + d)), 0) := by
  have := p_nAddD (e8_ok (show c ≤ 2000 by omega)) (e8_ok (show d ≤ 2000 by omega))
  rwa [e8_add, numR_ok (e8_ok hc)] at this
theorem okD_neg {d : Dyadic} (h : OkD d) : OkD (-d) := by
  by_cases h0 : d = 0
  · subst h0; exact h
  · obtain ⟨_, h2, h3⟩ := f_neg d h0
    unfold OkD at *
    rw [nuOf_f] at h ⊢
    rw [h2, h3]; exact ⟨h.len, h.lo, h.hi⟩
theorem p_nNegO {a : Dyadic} (ha : OkD a) : PC Tryz.prog 17 [NU (nuOf a)] fun d => d = NU (nuOf (-a)) := by
  have := p_nNeg (k := 65536) (x := nuOf a) ((ha.sz).wl) (by decide)
  have hr : rv (nuOf a) = a := by unfold rv; rw [if_pos (by rw [rightB_nuOf]; exact decide_eq_true ha), val_nuOf]
  rwa [hr] at this
set_option maxHeartbeats 4000000 in
theorem p_TubeFinds {w : List Nat} (hb : B64 w) : PC Tryz.prog 3 [W64 w] fun d => d = bl true := by
  have pK := p_known26
  have d1 := @dr 12 qU31_3_12
  have d2 := @dl 15 qU31_3_15
  refine PB (rs := [.tmp 2]) Tryz.func3 ?_
  repeat (first | with_reducible refine pv_seq fun K hK => ?_ | ((with_reducible first | refine hK _ _ ?_ | (clear hK; refine hK _ _ ?_) | (clear hK; clear hK; refine hK _ _ ?_)); clear hK; try clear K) | refine W ?_ | exact Z | with_reducible intro b)
  refine p_Of (fun b0 => ?_)
  repeat (first | with_reducible refine pv_seq fun K hK => ?_ | ((with_reducible first | refine hK _ _ ?_ | (clear hK; refine hK _ _ ?_) | (clear hK; clear hK; refine hK _ _ ?_)); clear hK; try clear K) | refine W0 ?_ | exact Z | with_reducible intro b)
  refine p_dN (n := 3) (i := 0) rfl hb (by omega) (by decide) (by decide) fun r hr => ?_
  repeat (first | with_reducible refine pv_seq fun K hK => ?_ | ((with_reducible first | refine hK _ _ ?_ | (clear hK; refine hK _ _ ?_) | (clear hK; clear hK; refine hK _ _ ?_)); clear hK; try clear K) | refine W0 ?_ | exact Z | with_reducible intro b)
  rw [show (1 + (r : Int)) = ((r + 1 : Nat) : Int) by omega]
  refine p_dTube (n := r + 1) (m := 6) (i := 1) rfl hb (by omega) (by omega) (by decide) (by decide) fun l j a c hl hT hj => ?_
  have hok := hT.okP
  have hll : l.length ≤ 100000 := by omega
  have pU := p_Until hll hok
  rw [hT.til] at pU
  unfold SS at pU
  have o0 : OkD (e8 0) := e8_ok (by decide)
  have hcb := hT.cb
  have oc : OkD (e8 c) := e8_ok (by omega)
  have h0' : e8 0 = 0 := dy_zero.2 rfl
  have h0c : e8 0 ≤ e8 c := by rw [h0']; exact dy_nn _ _
  have pB : PC Tryz.prog 10 [NU nu0, NU (nuOf (e8 c))] fun d => d = IV (ivD (e8 0) (e8 c)) := by
    have := p_Between o0 oc
    rwa [nuOf_0, lo_of h0c, hi_of h0c] at this
  repeat (first | with_reducible refine pv_seq fun K hK => ?_ | ((with_reducible first | refine hK _ _ ?_ | (clear hK; refine hK _ _ ?_) | (clear hK; clear hK; refine hK _ _ ?_)); clear hK; try clear K) | refine W ?_ | exact Z | with_reducible intro b)
  refine p_dIn (x := e8 0) (y := e8 c) (i := j) rfl hb (by omega) o0 oc fun x ox hx => ?_
  have hx2 := hx.in h0c
  rw [h0'] at hx2
  have wx := (ox.sz).wl
  have rx : rightB (nuOf x) = true := by rw [rightB_nuOf]; exact decide_eq_true ox
  have pF := p_FindS hll hok wx rx
  rw [ownL_t hT.tube] at pF
  have pS := p_Steps hll hok
  rcases Nat.eq_zero_or_pos l.length with h0 | h0
  · have z1 : (l.length = 0) = True := eq_true h0
    have z2 : ((l.length : Int) = 0) = True := eq_true (by omega)
    have hnil := hT.nil h0
    have pZ := p_hZero (x := nuOf (e8 c)) (by have := (oc.sz).wl.len; omega)
    rw [decide_eq_true (show nuOf (e8 c) = nu0 by rw [hnil.2, nuOf_0])] at pZ
    rw [show (lastT l).to = 0 by unfold lastT; rw [if_pos (.inl h0)]; rfl] at pS
    rw [first_none (fun j hj => by omega)] at pF
    change PC _ _ _ fun d => d = .tup [SEG ⟨0, 0, ⟨false, 0, []⟩, ⟨false, 0, []⟩, []⟩, bl false] at pF
    unfold SS at pF pS
    have ft := And.intro z1 z2
    exact Wk
  · have z1 : (l.length = 0) = False := eq_false (by omega)
    have z2 : ((l.length : Int) = 0) = False := eq_false (by omega)
    obtain ⟨s, hs, hf, k1, k2, k3⟩ := find_yes (t := nuOf x) hT h0 (by rw [val_nuOf]; exact hx2.1) (by rw [val_nuOf]; exact hx2.2)
    rw [hf] at pF
    change PC _ _ _ fun d => d = .tup [SEG s, bl true] at pF
    have os := hok _ hs
    have p1 := p_nCmpR os.a wx (by decide) os.ra rx
    have p2 := p_nCmpR wx os.b (by decide) rx os.rb
    have c1 : (0 < cmpD s.t0.val (nuOf x).val) = False := cmpD_le k1
    have c2 : (0 < cmpD (nuOf x).val s.t1.val) = False := cmpD_le k2
    have c3 : cmpD s.t0.val (nuOf x).val = 0 → s.fr ≤ 1 := fun h => k3 (by have := cmp_eq0 s.t0.val (nuOf x).val; rw [this] at h; exact h)
    clear hf hs k1 k2 k3 os
    generalize cmpD s.t0.val (nuOf x).val = v1 at *
    generalize cmpD (nuOf x).val s.t1.val = v2 at *
    obtain ⟨fr, to, ⟨n0, e0, w0⟩, ⟨n1, e1, w1⟩, bx⟩ := s
    simp only at c3
    rw [lastT_eq hT.tube h0] at pS
    have hq := gS_at (l := l) (i := l.length - 1) (by omega)
    have hin : ((l.length : Int) - 1).toNat = l.length - 1 := by omega
    generalize gS l (l.length - 1) = q at *
    obtain ⟨fr2, to2, ⟨n2, e2, w2⟩, ⟨n3, e3, w3⟩, bx2⟩ := q
    unfold SS at pF pS
    unfold SEG at pF
    have ft := And.intro z1 z2
    repeat (first | with_reducible refine pv_stopQ 10 ?_ | with_reducible refine pv_seq fun K hK => ?_ | ((with_reducible first | refine hK _ _ ?_ | (clear hK; refine hK _ _ ?_) | (clear hK; clear hK; refine hK _ _ ?_)); clear hK; try clear K) | refine W ?_ | exact Z | with_reducible intro b)
    refine ⟨fun K10 q10 hC10 => ?_⟩
    have J10 : ∀ (e : DEnv) (S : Store) (b5 : Nat), e 3 = .ptr (.r 0 0) b0 0 0 2 → e 4 = .g (eS eG l) → e 5 = .ptr (.l 5) b5 0 0 3 → S (.l 5) = some ⟨b5, 3, 0, [[bl (nuOf (e8 c)).neg, i64 (nuOf (e8 c)).exp, W64 (nuOf (e8 c)).w]]⟩ → S (.r 0 0) = some ⟨b0, 2, 0, [[W64 w, i64 ((j + 1 : Nat) : Int)]]⟩ → K10 e S := by
      intro e S b5 g3 g4 g5 s5 sd
      as_aux_lemma =>
        refine q10 _ _ ?_
        clear q10 hC10 pF p1 p2
        have ft := And.intro g3 (And.intro g4 (And.intro g5 (And.intro s5 (And.intro sd (And.intro hq hin)))))
        repeat (first | with_reducible refine pv_stop 12 ?_ | with_reducible refine pv_seq fun K hK => ?_ | ((with_reducible first | refine hK _ _ ?_ | (clear hK; refine hK _ _ ?_) | (clear hK; clear hK; refine hK _ _ ?_)); clear hK; try clear K) | refine W ?_ | exact Z | with_reducible intro b)
        refine ⟨fun K12 q12 hC12 => ?_⟩
        have J12 : ∀ (e : DEnv) (S : Store) (b9 d : Nat), 1 ≤ d → d ≤ 64 → e 3 = .ptr (.r 0 0) b0 0 0 2 → e 4 = .g (eS eG l) → e 9 = .ptr (.l 9) b9 0 0 3 → e 10 = i64 0 → S (.l 9) = some ⟨b9, 3, 0, [[bl (nuOf (e8 (c + d))).neg, i64 (nuOf (e8 (c + d))).exp, W64 (nuOf (e8 (c + d))).w]]⟩ →
            S (.r 0 0) = some ⟨b0, 2, 0, [[W64 w, i64 ((j + 1 + 2 : Nat) : Int)]]⟩ → K12 e S := by
          clear ft g3 g4 g5 s5 sd
          intro e S b9 d hd1 hd2 g3 g4 g9 g10 s9 sd
          refine q12 _ _ ?_
          clear q12 hC12
          have of_ : OkD (e8 (c + d)) := e8_ok (by omega)
          have pF := p_FindS hll hok (t := nuOf (e8 (c + d))) (of_.sz).wl (by rw [rightB_nuOf]; exact decide_eq_true of_)
          rw [ownL_t hT.tube, find_far hT (by rw [val_nuOf]; exact e8_lt.2 (by omega))] at pF
          change PC _ _ _ fun d => d = .tup [SEG ⟨0, 0, ⟨false, 0, []⟩, ⟨false, 0, []⟩, []⟩, bl false] at pF
          unfold SS at pF
          have ft := And.intro g3 (And.intro g4 (And.intro g9 (And.intro g10 (And.intro s9 (And.intro sd (And.intro hq hin))))))
          repeat (first | with_reducible refine pv_seq fun K hK => ?_ | ((with_reducible first | refine hK _ _ ?_ | (clear hK; refine hK _ _ ?_) | (clear hK; clear hK; refine hK _ _ ?_)); clear hK; try clear K) | refine W ?_ | exact Z | with_reducible intro b)
          refine p_dTime (i := j + 1 + 2) sd hb (by omega) fun x ty => ?_
          have oy : OkD x := ty.sm.ok (by decide) (by decide)
          have on : OkD (-x) := okD_neg oy
          have pN := p_nNegO oy
          have pG := p_FindS hll hok (t := nuOf (-x)) (on.sz).wl (by rw [rightB_nuOf]; exact decide_eq_true on)
          rw [ownL_t hT.tube, find_below hT (by rw [val_nuOf]; have := ty.pos; grind)] at pG
          change PC _ _ _ fun d => d = .tup [SEG ⟨0, 0, ⟨false, 0, []⟩, ⟨false, 0, []⟩, []⟩, bl false] at pG
          unfold SS at pG
          exact Wk
        clear hC12 q12
        have ft := And.intro g3 (And.intro g4 (And.intro g5 (And.intro s5 sd)))
        repeat' (first | with_reducible refine pv_seq fun K hK => ?_ | ((with_reducible first | refine hK _ _ ?_ | (clear hK; refine hK _ _ ?_) | (clear hK; clear hK; refine hK _ _ ?_)); clear hK; try clear K) | refine W ?_ | exact Z | with_reducible intro b | with_reducible refine And.intro ?_ ?_ | (refine p_dTime (i := j + 1) sd hb (by omega) fun dd htm => ?_; obtain ⟨d, rfl, hd1, hd2⟩ := htm.e8) | (have pA := p_nAddE (c := c) (d := d) (by omega); unfold NE NU at pA; refine call_is pA ?_) | exact J12 _ _ _ d hd1 hd2 Zr Zr Zr Zr Zr Zr)
    clear q10 hC10
    by_cases h : v1 = 0
    · have h' := eq_true h
      have c4 : ((1 : Int) < fr) = False := eq_false (by have := c3 h; omega)
      have ft := And.intro c1 (And.intro c2 (And.intro h' c4))
      repeat (first | with_reducible refine pv_seq fun K hK => ?_ | ((with_reducible first | refine hK _ _ ?_ | (clear hK; refine hK _ _ ?_) | (clear hK; clear hK; refine hK _ _ ?_)); clear hK; try clear K) | refine W ?_ | exact Z | with_reducible intro b)
      exact J10 _ _ _ Zr Zr Zr Zr Zr
    · have h' := eq_false h
      have ft := And.intro c1 (And.intro c2 h')
      repeat (first | with_reducible refine pv_seq fun K hK => ?_ | ((with_reducible first | refine hK _ _ ?_ | (clear hK; refine hK _ _ ?_) | (clear hK; clear hK; refine hK _ _ ?_)); clear hK; try clear K) | refine W ?_ | exact Z | with_reducible intro b)
      exact J10 _ _ _ Zr Zr Zr Zr Zr
end Go.V

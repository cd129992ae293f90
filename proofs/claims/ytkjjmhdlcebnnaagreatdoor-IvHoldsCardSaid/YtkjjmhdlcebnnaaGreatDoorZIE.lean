/- Package iv over values as data: powers. The document's intervals over values as data: powers. The document's intervals over values as data: middles, radii, widths. The document's intervals over values as data: radii. -/
import Derived.Test.YtkjjmhdlcebnnaaGreatDoorZID
set_option linter.unusedSimpArgs false
set_option linter.unusedVariables false
set_option maxRecDepth 100000
namespace Go.V
open Go Go.RowKit Go.Proofs
def qI15_18_3 : PT := (.lin [(0, 0), (1, 2), (2, 0), (4, 0), (5, 2), (6, 0)] (.mix [3, 7] [8, 9] (.lin [(10, 3), (11, 3)] .nil)))
def qI15_18_4 : PT := (.lin [(0, 2), (1, 2), (3, 2), (4, 2)] (.mix [2, 5] [6, 7] (.lin [(8, 3), (9, 3)] .nil)))
attribute [go_sem] qI15_18_3 qI15_18_4
theorem dy_one : dy (decide ((1 : Int) < 0)) (1 : Int).natAbs 0 = 1 := by decide
theorem ok_one : OkD 1 := by rw [← dy_one]; exact OkD_word (by decide) (by decide) (by decide)
set_option maxHeartbeats 1000000 in
theorem p_times {k : Nat} {x : Nu} (hx : Sz 65536 x) (hk : k ≤ 8) : PC Tryz.prog 61 [NU x, i64 k] fun d => ∃ z, d = NU z ∧ Sz 655360 z ∧ z.val = powD x.val k := by
  have p1 := p_nInt (n := 1) (by unfold R64; omega)
  rw [dy_one] at p1
  have o1 := ok_one.sz
  have v1 := val_nuOf 1
  generalize nuOf 1 = u at *
  generalize hv : x.val = v at *
  obtain ⟨n1, e1, w1⟩ := x
  obtain ⟨n2, e2, w2⟩ := u
  refine PB (rs := [.cell 4 24]) Tryz.func61 ?_
  repeat (first | with_reducible refine pv_seq fun K hK => ?_ | ((with_reducible first | refine hK _ _ ?_ | (clear hK; refine hK _ _ ?_) | (clear hK; clear hK; refine hK _ _ ?_)); clear hK; try clear K) | refine W ?_ | exact Z | with_reducible intro b)
  have J : ∀ (e : DEnv) (S : Store) (b4 b5 : Nat) (z : Nu), Sz 655360 z → z.val = powD v k → e 4 = .ptr (.l 4) b4 0 0 3 → e 5 = .ptr (.l 5) b5 0 0 3 → S (.l 4) = some ⟨b4, 3, 0, [[bl false, i64 0, .nil]]⟩ → S (.l 5) = some ⟨b5, 3, 0, [[bl z.neg, i64 z.exp, W64 z.w]]⟩ → K e S := by
    rintro e S b4 b5 ⟨n3, e3, w3⟩ hz hzv g4 g5 s4 s5
    have ft := And.intro g4 (And.intro g5 (And.intro s4 s5))
    repeat (first | with_reducible refine pv_seq fun K hK => ?_ | ((with_reducible first | refine hK _ _ ?_ | (clear hK; refine hK _ _ ?_) | (clear hK; clear hK; refine hK _ _ ?_)); clear hK; try clear K) | refine W0 ?_ | exact Z | with_reducible intro b)
    exact ⟨⟨n3, e3, w3⟩, rfl, hz, hzv⟩
  clear hK
  refine pv_loop (fun e S => ∃ (i b2 b4 b5 : Nat) (z : Nu), i ≤ k ∧ Sz (65536 * (i + 1)) z ∧ z.val = powD v i ∧ e 7 = i64 k ∧ e 8 = i64 i ∧ e 2 = .ptr (.l 2) b2 0 0 3 ∧ e 4 = .ptr (.l 4) b4 0 0 3 ∧ e 5 = .ptr (.l 5) b5 0 0 3 ∧ S (.l 2) = some ⟨b2, 3, 0, [[bl n1, i64 e1, W64 w1]]⟩ ∧ S (.l 4) = some ⟨b4, 3, 0, [[bl false, i64 0, .nil]]⟩ ∧ S (.l 5) = some ⟨b5, 3, 0, [[bl z.neg, i64 z.exp, W64 z.w]]⟩) (fun e _ => k - (intD (e 8)).toNat) ?_ ?_
  · exact ⟨0, _, _, _, ⟨n2, e2, w2⟩, Nat.zero_le _, o1, v1, Zr, Zr, Zr, Zr, Zr, Zr, Zr, Zr⟩
  · rintro e S ⟨i, b2, b4, b5, z, hi, hz, hzv, g7, g8, g2, g4, g5, s2, s4, s5⟩
    obtain ⟨n3, e3, w3⟩ := z
    have ft := And.intro g7 (And.intro g8 (And.intro g2 (And.intro g4 (And.intro g5 (And.intro s2 (And.intro s4 s5))))))
    repeat (first | with_reducible refine pv_seq fun K hK => ?_ | ((with_reducible first | refine hK _ _ ?_ | (clear hK; refine hK _ _ ?_) | (clear hK; clear hK; refine hK _ _ ?_)); clear hK; try clear K) | refine W0 ?_ | exact Z | with_reducible intro b)
    refine pv_cdD (fun ht => ?_) (fun ht => ?_)
    · repeat (first | with_reducible refine pv_seq fun K hK => ?_ | ((with_reducible first | refine hK _ _ ?_ | (clear hK; refine hK _ _ ?_) | (clear hK; clear hK; refine hK _ _ ?_)); clear hK; try clear K) | refine W0 ?_ | exact Z | with_reducible intro b)
      refine call_pc (p_eMulW hz hx (by omega) (by omega)) ?_
      rintro d ⟨⟨n4, e4, w4⟩, rfl, hz', hzv'⟩
      repeat (first | with_reducible refine pv_seq fun K hK => ?_ | ((with_reducible first | refine hK _ _ ?_ | (clear hK; refine hK _ _ ?_) | (clear hK; clear hK; refine hK _ _ ?_)); clear hK; try clear K) | refine W0 ?_ | exact Z | with_reducible intro b)
      refine ⟨⟨i + 1, b2, b4, b5, ⟨n4, e4, w4⟩, by omega, by simpa [Nat.mul_add] using hz', ?_, rfl, rfl, rfl, rfl, rfl, rfl, rfl⟩, ?_⟩
      · rw [hzv', hzv, hv]; rfl
      · simp only [intD]; omega
    · obtain rfl : i = k := by omega
      repeat (first | with_reducible refine pv_seq fun K hK => ?_ | ((with_reducible first | refine hK _ _ ?_ | (clear hK; refine hK _ _ ?_) | (clear hK; clear hK; refine hK _ _ ?_)); clear hK; try clear K) | refine W0 ?_ | exact Z | with_reducible intro b)
      exact J _ _ b4 b5 ⟨n3, e3, w3⟩ (hz.mono (by omega)) hzv Zr Zr Zr Zr

/-- A power of an interval: 1 is ErrForm. -/
def pwI (a : Iv) (k p : Int) : Iv × Int := if rightI a && okP p && decide (0 ≤ k) && decide (k ≤ 8) then outR p.toNat (loP a.lo.val a.hi.val k.toNat) (hiP a.lo.val a.hi.val k.toNat) else (iv0, 1)
theorem loP_no {x y : Dyadic} {k : Nat} (h : ¬ (0 < k ∧ k % 2 = 0 ∧ x < 0 ∧ 0 < y)) (hxy : x ≤ y) : loP x y k = loD (powD x k) (powD y k) := by
  unfold loP
  by_cases h1 : 0 < k ∧ k % 2 = 0 ∧ x ≤ 0 ∧ 0 ≤ y
  · rw [if_pos h1]
    obtain ⟨a, b, c, d⟩ := h1
    have e1 := powD_neg x k
    have n1 := powD_nn (x := -x) (by grind) k
    rw [if_pos b] at e1
    have n2 := powD_nn d k
    have hz := powD_zero a
    have hx : x = 0 ∨ y = 0 := by
      by_cases h2 : x < 0
      · right
        by_cases h3 : 0 < y
        · exact absurd ⟨a, b, h2, h3⟩ h
        · grind
      · left; grind
    unfold loD
    rcases hx with rfl | rfl
    · split <;> grind
    · split <;> grind
  · rw [if_neg h1]
theorem loP_yes {x y : Dyadic} {k : Nat} (h : 0 < k ∧ k % 2 = 0 ∧ x < 0 ∧ 0 < y) : loP x y k = 0 := by
  unfold loP
  exact if_pos ⟨h.1, h.2.1, by grind, by grind⟩
theorem tmod2 {k : Nat} : ((k : Int).tmod 2 = 0) = (k % 2 = 0) := by
  apply propext
  have : (k : Int).tmod 2 = ((k % 2 : Nat) : Int) := by rw [Int.tmod_eq_emod_of_nonneg (by omega)]; rfl
  rw [this]; omega
set_option maxHeartbeats 2000000 in
theorem p_iPow {w : Nat} {a : Iv} {k p : Int} (ha : Wi w a) : PC Tryz.prog 18 [IV a, i64 k, i64 p] fun d => d = IE (pwI a k p) := by
  have pV := p_validI (p := p) ha ha
  unfold pwI
  by_cases h : (rightI a && okP p) = true
  · by_cases h0 : 0 ≤ k
    · by_cases h8 : k ≤ 8
      · rw [h, decide_eq_true h0, decide_eq_true h8]
        rw [Bool.and_eq_true] at h
        rw [h.1, h.2] at pV
        obtain ⟨m, rfl, m8, m256⟩ := okP_nat h.2
        obtain ⟨x, y, ox, oy, hxy, rfl⟩ := rightI_is ha h.1
        obtain ⟨j, rfl⟩ := Int.eq_ofNat_of_zero_le h0
        have t1 := p_times (k := j) ox.sz (by omega)
        have t2 := p_times (k := j) oy.sz (by omega)
        have sX := p_eSignD ox
        have sY := p_eSignD oy
        have kX : (sgnD x < 0) = (x < 0) := sgnD_lt0
        have kY : (0 < sgnD y) = (0 < y) := sgnD_0lt
        have k0 : ((j : Int) < 0) = False := eq_false (by omega)
        have k8 : (8 < (j : Int)) = False := eq_false (by omega)
        have kr := tmod2 (k := j)
        have kj : (0 < (j : Int)) = (0 < j) := propext (by omega)
        simp only [ivD, val_nuOf, Int.toNat_natCast, Bool.and_self, if_true] at *
        generalize hres : outR m (loP x y j) (hiP x y j) = res
        generalize sgnD x = gx at *
        generalize sgnD y = gy at *
        generalize nuOf x = X at *
        generalize nuOf y = Y at *
        obtain ⟨n1, e1, w1⟩ := X
        obtain ⟨n2, e2, w2⟩ := Y
        have d1 := @dr 3 qI15_18_3
        have d2 := @dr 4 qI15_18_4
        refine PB (rs := [.cell 6 26, .tmp 7]) Tryz.func18 ?_
        have ft := And.intro k0 k8
        repeat (first | with_reducible refine pv_seq fun K hK => ?_ | ((with_reducible first | refine hK _ _ ?_ | (clear hK; refine hK _ _ ?_) | (clear hK; clear hK; refine hK _ _ ?_)); clear hK; try clear K) | refine W ?_ | exact Z | with_reducible intro b)
        first | refine call_pc t1 ?_ | (refine ExtC_is ?_; simp -implicitDefEqProofs only [ft, go_sem, seval]; refine PC.mono t1 ?_)
        rintro d ⟨z1, rfl, hz1, hv1⟩
        obtain ⟨n3, e3, w3⟩ := z1
        repeat (first | with_reducible refine pv_seq fun K hK => ?_ | ((with_reducible first | refine hK _ _ ?_ | (clear hK; refine hK _ _ ?_) | (clear hK; clear hK; refine hK _ _ ?_)); clear hK; try clear K) | refine W0 ?_ | exact Z | with_reducible intro b)
        first | refine call_pc t2 ?_ | (refine ExtC_is ?_; simp -implicitDefEqProofs only [ft, go_sem, seval]; refine PC.mono t2 ?_)
        rintro d ⟨z2, rfl, hz2, hv2⟩
        obtain ⟨n4, e4, w4⟩ := z2
        have pL := p_least hz1 hz2 (by decide)
        have pG := p_greatest hz1 hz2 (by decide)
        have sl := minN_sz hz1 hz2; have vl := minN_val ⟨n3, e3, w3⟩ ⟨n4, e4, w4⟩; rw [hv1, hv2] at vl
        have sg := maxN_sz hz1 hz2; have vg := maxN_val ⟨n3, e3, w3⟩ ⟨n4, e4, w4⟩; rw [hv1, hv2] at vg
        generalize minN ⟨n3, e3, w3⟩ ⟨n4, e4, w4⟩ = L at *
        generalize maxN ⟨n3, e3, w3⟩ ⟨n4, e4, w4⟩ = G at *
        have pO := p_outward (p := m) sl sg (by decide) (by omega)
        have pO2 := p_outward (p := m) (Sz.zero 655360) sg (by decide) (by omega)
        rw [vl, vg] at pO
        rw [vg, show nu0.val = 0 from rfl] at pO2
        obtain ⟨n5, e5, w5⟩ := L
        obtain ⟨n6, e6, w6⟩ := G
        unfold nu0 at pO2
        have no : ¬ (0 < j ∧ j % 2 = 0 ∧ x < 0 ∧ 0 < y) → outR m (loD (powD x j) (powD y j)) (hiD (powD x j) (powD y j)) = res := fun h => by rw [← hres, loP_no h hxy]; rfl
        have yes : (0 < j ∧ j % 2 = 0 ∧ x < 0 ∧ 0 < y) → outR m 0 (hiD (powD x j) (powD y j)) = res := fun h => by rw [← hres, loP_yes h]; rfl
        clear hres
        by_cases c1 : 0 < j
        · rw [eq_true c1] at kj
          by_cases c2 : j % 2 = 0
          · rw [eq_true c2] at kr
            by_cases c3 : x < 0
            · rw [eq_true c3] at kX
              by_cases c4 : 0 < y
              · rw [eq_true c4] at kY
                rw [yes ⟨c1, c2, c3, c4⟩] at pO2
                obtain ⟨⟨⟨n7, e7, w7⟩, ⟨n8, e8, w8⟩⟩, er⟩ := res
                clear pO
                have ft := And.intro kj (And.intro kr (And.intro kX kY))
                exact Wk
              · rw [eq_false c4] at kY
                rw [no (fun h => c4 h.2.2.2)] at pO
                obtain ⟨⟨⟨n7, e7, w7⟩, ⟨n8, e8, w8⟩⟩, er⟩ := res
                clear pO2
                have ft := And.intro kj (And.intro kr (And.intro kX kY))
                exact Wk
            · rw [eq_false c3] at kX
              rw [no (fun h => c3 h.2.2.1)] at pO
              obtain ⟨⟨⟨n7, e7, w7⟩, ⟨n8, e8, w8⟩⟩, er⟩ := res
              clear pO2
              have ft := And.intro kj (And.intro kr kX)
              exact Wk
          · rw [eq_false c2] at kr
            rw [no (fun h => c2 h.2.1)] at pO
            obtain ⟨⟨⟨n7, e7, w7⟩, ⟨n8, e8, w8⟩⟩, er⟩ := res
            clear pO2
            have ft := And.intro kj kr
            exact Wk
        · rw [eq_false c1] at kj
          rw [no (fun h => c1 h.1)] at pO
          obtain ⟨⟨⟨n7, e7, w7⟩, ⟨n8, e8, w8⟩⟩, er⟩ := res
          clear pO2
          have ft := kj
          exact Wk
      · rw [decide_eq_false h8, Bool.and_false, if_neg (by decide)]
        rw [Bool.and_eq_true] at h
        rw [h.1, h.2] at pV
        obtain ⟨⟨n1, e1, w1⟩, ⟨n2, e2, w2⟩⟩ := a
        have k0 : (k < 0) = False := eq_false (by omega)
        have k8 : (8 < k) = True := eq_true (by omega)
        have d1 := @dr 3 qI15_18_3
        have d2 := @dr 4 qI15_18_4
        refine PB (rs := [.cell 6 26, .tmp 7]) Tryz.func18 ?_
        have ft := And.intro k0 k8
        exact Wk
    · rw [decide_eq_false h0, Bool.and_false, Bool.false_and, if_neg (by decide)]
      rw [Bool.and_eq_true] at h
      rw [h.1, h.2] at pV
      obtain ⟨⟨n1, e1, w1⟩, ⟨n2, e2, w2⟩⟩ := a
      have k0 : (k < 0) = True := eq_true (by omega)
      have d1 := @dr 3 qI15_18_3
      have d2 := @dr 4 qI15_18_4
      refine PB (rs := [.cell 6 26, .tmp 7]) Tryz.func18 ?_
      have ft := k0
      exact Wk
  · rw [Bool.not_eq_true] at h
    rw [h, Bool.false_and, Bool.false_and, if_neg (by decide)]
    have h3 : (rightI a && rightI a && okP p) = false := by rw [Bool.and_self]; exact h
    rw [h3] at pV
    obtain ⟨⟨n1, e1, w1⟩, ⟨n2, e2, w2⟩⟩ := a
    have d1 := @dr 3 qI15_18_3
    have d2 := @dr 4 qI15_18_4
    refine PB (rs := [.cell 6 26, .tmp 7]) Tryz.func18 ?_
    exact Wk
end Go.V
namespace Go.V
open Go Go.RowKit Go.Proofs
end Go.V
namespace Go.V
open Go Go.RowKit Go.Proofs
end Go.V
namespace Go.V
open Go Go.RowKit Go.Proofs
end Go.V

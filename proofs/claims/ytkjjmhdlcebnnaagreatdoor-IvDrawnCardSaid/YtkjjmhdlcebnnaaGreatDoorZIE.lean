/- Package iv over values as data: powers. The document's intervals over values as data: powers. The document's intervals over values as data: middles, radii, widths. The document's intervals over values as data: radii. -/
import Derived.Test.YtkjjmhdlcebnnaaGreatDoorZID
set_option linter.unusedSimpArgs false
set_option linter.unusedVariables false
set_option maxRecDepth 100000
namespace Go.V
open Go Go.RowKit Go.Proofs
def qI15_18_3 : PT := (.lin [(0, 0), (1, 2), (2, 0), (4, 0), (5, 2), (6, 0)] (.mix [3, 7] [8, 9] (.lin [(10, 3), (11, 3)] .nil)))
def qI15_18_4 : PT := (.lin [(0, 2), (1, 2), (3, 2), (4, 2)] (.mix [2, 5] [6, 7] (.lin [(8, 3), (9, 3)] .nil)))
attribute [go_sem] qI15_18_3 qI15_18_4
theorem dy_one : dy (decide ((1 : Int) < 0)) (1 : Int).natAbs 0 = 1 := by decide
theorem ok_one : OkD 1 := by rw [← dy_one]; exact OkD_word (by decide) (by decide) (by decide)
set_option maxHeartbeats 1000000 in
theorem p_times {k : Nat} {x : Nu} (hx : Sz 65536 x) (hk : k ≤ 8) : PC Tryz.prog 61 [NU x, i64 k] fun d => ∃ z, d = NU z ∧ Sz 655360 z ∧ z.val = powD x.val k := by
  have p1 := p_nInt (n := 1) (by unfold R64; omega)
  rw [dy_one] at p1
  have o1 := ok_one.sz
  have v1 := val_nuOf 1
  generalize nuOf 1 = u at *
  generalize hv : x.val = v at *
  obtain ⟨n1, e1, w1⟩ := x
  obtain ⟨n2, e2, w2⟩ := u
  refine PB (rs := [.cell 4 24]) Tryz.func61 ?_
  repeat (first | with_reducible refine pv_seq fun K hK => ?_ | ((with_reducible first | refine hK _ _ ?_ | (clear hK; refine hK _ _ ?_) | (clear hK; clear hK; refine hK _ _ ?_)); clear hK; try clear K) | refine W ?_ | exact Z | with_reducible intro b)
  have J : ∀ (e : DEnv) (S : Store) (b4 b5 : Nat) (z : Nu), Sz 655360 z → z.val = powD v k → e 4 = .ptr (.l 4) b4 0 0 3 → e 5 = .ptr (.l 5) b5 0 0 3 → S (.l 4) = some ⟨b4, 3, 0, [[bl false, i64 0, .nil]]⟩ → S (.l 5) = some ⟨b5, 3, 0, [[bl z.neg, i64 z.exp, W64 z.w]]⟩ → K e S := by
    rintro e S b4 b5 ⟨n3, e3, w3⟩ hz hzv g4 g5 s4 s5
    have ft := And.intro g4 (And.intro g5 (And.intro s4 s5))
    repeat (first | with_reducible refine pv_seq fun K hK => ?_ | ((with_reducible first | refine hK _ _ ?_ | (clear hK; refine hK _ _ ?_) | (clear hK; clear hK; refine hK _ _ ?_)); clear hK; try clear K) | refine W0 ?_ | exact Z | with_reducible intro b)
    exact ⟨⟨n3, e3, w3⟩, rfl, hz, hzv⟩
  clear hK
  refine pv_loop (fun e S => ∃ (i b2 b4 b5 : Nat) (z : Nu), i ≤ k ∧ Sz (65536 * (i + 1)) z ∧ z.val = powD v i ∧ e 7 = i64 k ∧ e 8 = i64 i ∧ e 2 = .ptr (.l 2) b2 0 0 3 ∧ e 4 = .ptr (.l 4) b4 0 0 3 ∧ e 5 = .ptr (.l 5) b5 0 0 3 ∧ S (.l 2) = some ⟨b2, 3, 0, [[bl n1, i64 e1, W64 w1]]⟩ ∧ S (.l 4) = some ⟨b4, 3, 0, [[bl false, i64 0, .nil]]⟩ ∧ S (.l 5) = some ⟨b5, 3, 0, [[bl z.neg, i64 z.exp, W64 z.w]]⟩) (fun e _ => k - (intD (e 8)).toNat) ?_ ?_
  · exact ⟨0, _, _, _, ⟨n2, e2, w2⟩, Nat.zero_le _, o1, v1, Zr, Zr, Zr, Zr, Zr, Zr, Zr, Zr⟩
  · rintro e S ⟨i, b2, b4, b5, z, hi, hz, hzv, g7, g8, g2, g4, g5, s2, s4, s5⟩
    obtain ⟨n3, e3, w3⟩ := z
    have ft := And.intro g7 (And.intro g8 (And.intro g2 (And.intro g4 (And.intro g5 (And.intro s2 (And.intro s4 s5))))))
    repeat (first | with_reducible refine pv_seq fun K hK => ?_ | ((with_reducible first | refine hK _ _ ?_ | (clear hK; refine hK _ _ ?_) | (clear hK; clear hK; refine hK _ _ ?_)); clear hK; try clear K) | refine W0 ?_ | exact Z | with_reducible intro b)
    refine pv_cdD (fun ht => ?_) (fun ht => ?_)
    · repeat (first | with_reducible refine pv_seq fun K hK => ?_ | ((with_reducible first | refine hK _ _ ?_ | (clear hK; refine hK _ _ ?_) | (clear hK; clear hK; refine hK _ _ ?_)); clear hK; try clear K) | refine W0 ?_ | exact Z | with_reducible intro b)
      refine call_pc (p_eMulW hz hx (by omega) (by omega)) ?_
      rintro d ⟨⟨n4, e4, w4⟩, rfl, hz', hzv'⟩
      repeat (first | with_reducible refine pv_seq fun K hK => ?_ | ((with_reducible first | refine hK _ _ ?_ | (clear hK; refine hK _ _ ?_) | (clear hK; clear hK; refine hK _ _ ?_)); clear hK; try clear K) | refine W0 ?_ | exact Z | with_reducible intro b)
      refine ⟨⟨i + 1, b2, b4, b5, ⟨n4, e4, w4⟩, by omega, by simpa [Nat.mul_add] using hz', ?_, rfl, rfl, rfl, rfl, rfl, rfl, rfl⟩, ?_⟩
      · rw [hzv', hzv, hv]; rfl
      · simp only [intD]; omega
    · obtain rfl : i = k := by omega
      repeat (first | with_reducible refine pv_seq fun K hK => ?_ | ((with_reducible first | refine hK _ _ ?_ | (clear hK; refine hK _ _ ?_) | (clear hK; clear hK; refine hK _ _ ?_)); clear hK; try clear K) | refine W0 ?_ | exact Z | with_reducible intro b)
      exact J _ _ b4 b5 ⟨n3, e3, w3⟩ (hz.mono (by omega)) hzv Zr Zr Zr Zr

/-- A power of an interval: 1 is ErrForm. -/
def pwI (a : Iv) (k p : Int) : Iv × Int := if rightI a && okP p && decide (0 ≤ k) && decide (k ≤ 8) then outR p.toNat (loP a.lo.val a.hi.val k.toNat) (hiP a.lo.val a.hi.val k.toNat) else (iv0, 1)
theorem loP_no {x y : Dyadic} {k : Nat} (h : ¬ (0 < k ∧ k % 2 = 0 ∧ x < 0 ∧ 0 < y)) (hxy : x ≤ y) : loP x y k = loD (powD x k) (powD y k) := by
  unfold loP
  by_cases h1 : 0 < k ∧ k % 2 = 0 ∧ x ≤ 0 ∧ 0 ≤ y
  · rw [if_pos h1]
    obtain ⟨a, b, c, d⟩ := h1
    have e1 := powD_neg x k
    have n1 := powD_nn (x := -x) (by grind) k
    rw [if_pos b] at e1
    have n2 := powD_nn d k
    have hz := powD_zero a
    have hx : x = 0 ∨ y = 0 := by
      by_cases h2 : x < 0
      · right
        by_cases h3 : 0 < y
        · exact absurd ⟨a, b, h2, h3⟩ h
        · grind
      · left; grind
    unfold loD
    rcases hx with rfl | rfl
    · split <;> grind
    · split <;> grind
  · rw [if_neg h1]
theorem loP_yes {x y : Dyadic} {k : Nat} (h : 0 < k ∧ k % 2 = 0 ∧ x < 0 ∧ 0 < y) : loP x y k = 0 := by
  unfold loP
  exact if_pos ⟨h.1, h.2.1, by grind, by grind⟩
theorem tmod2 {k : Nat} : ((k : Int).tmod 2 = 0) = (k % 2 = 0) := by
  apply propext
  have : (k : Int).tmod 2 = ((k % 2 : Nat) : Int) := by rw [Int.tmod_eq_emod_of_nonneg (by omega)]; rfl
  rw [this]; omega
set_option maxHeartbeats 2000000 in
theorem p_iPow {w : Nat} {a : Iv} {k p : Int} (ha : Wi w a) : PC Tryz.prog 18 [IV a, i64 k, i64 p] fun d => d = IE (pwI a k p) := by
  have pV := p_validI (p := p) ha ha
  unfold pwI
  by_cases h : (rightI a && okP p) = true
  · by_cases h0 : 0 ≤ k
    · by_cases h8 : k ≤ 8
      · rw [h, decide_eq_true h0, decide_eq_true h8]
        rw [Bool.and_eq_true] at h
        rw [h.1, h.2] at pV
        obtain ⟨m, rfl, m8, m256⟩ := okP_nat h.2
        obtain ⟨x, y, ox, oy, hxy, rfl⟩ := rightI_is ha h.1
        obtain ⟨j, rfl⟩ := Int.eq_ofNat_of_zero_le h0
        have t1 := p_times (k := j) ox.sz (by omega)
        have t2 := p_times (k := j) oy.sz (by omega)
        have sX := p_eSignD ox
        have sY := p_eSignD oy
        have kX : (sgnD x < 0) = (x < 0) := sgnD_lt0
        have kY : (0 < sgnD y) = (0 < y) := sgnD_0lt
        have k0 : ((j : Int) < 0) = False := eq_false (by omega)
        have k8 : (8 < (j : Int)) = False := eq_false (by omega)
        have kr := tmod2 (k := j)
        have kj : (0 < (j : Int)) = (0 < j) := propext (by omega)
        simp only [ivD, val_nuOf, Int.toNat_natCast, Bool.and_self, if_true] at *
        generalize hres : outR m (loP x y j) (hiP x y j) = res
        generalize sgnD x = gx at *
        generalize sgnD y = gy at *
        generalize nuOf x = X at *
        generalize nuOf y = Y at *
        obtain ⟨n1, e1, w1⟩ := X
        obtain ⟨n2, e2, w2⟩ := Y
        have d1 := @dr 3 qI15_18_3
        have d2 := @dr 4 qI15_18_4
        refine PB (rs := [.cell 6 26, .tmp 7]) Tryz.func18 ?_
        have ft := And.intro k0 k8
        repeat (first | with_reducible refine pv_seq fun K hK => ?_ | ((with_reducible first | refine hK _ _ ?_ | (clear hK; refine hK _ _ ?_) | (clear hK; clear hK; refine hK _ _ ?_)); clear hK; try clear K) | refine W ?_ | exact Z | with_reducible intro b)
        first | refine call_pc t1 ?_ | (refine ExtC_is ?_; simp -implicitDefEqProofs only [ft, go_sem, seval]; refine PC.mono t1 ?_)
        rintro d ⟨z1, rfl, hz1, hv1⟩
        obtain ⟨n3, e3, w3⟩ := z1
        repeat (first | with_reducible refine pv_seq fun K hK => ?_ | ((with_reducible first | refine hK _ _ ?_ | (clear hK; refine hK _ _ ?_) | (clear hK; clear hK; refine hK _ _ ?_)); clear hK; try clear K) | refine W0 ?_ | exact Z | with_reducible intro b)
        first | refine call_pc t2 ?_ | (refine ExtC_is ?_; simp -implicitDefEqProofs only [ft, go_sem, seval]; refine PC.mono t2 ?_)
        rintro d ⟨z2, rfl, hz2, hv2⟩
        obtain ⟨n4, e4, w4⟩ := z2
        have pL := p_least hz1 hz2 (by decide)
        have pG := p_greatest hz1 hz2 (by decide)
        have sl := minN_sz hz1 hz2; have vl := minN_val ⟨n3, e3, w3⟩ ⟨n4, e4, w4⟩; rw [hv1, hv2] at vl
        have sg := maxN_sz hz1 hz2; have vg := maxN_val ⟨n3, e3, w3⟩ ⟨n4, e4, w4⟩; rw [hv1, hv2] at vg
        generalize minN ⟨n3, e3, w3⟩ ⟨n4, e4, w4⟩ = L at *
        generalize maxN ⟨n3, e3, w3⟩ ⟨n4, e4, w4⟩ = G at *
        have pO := p_outward (p := m) sl sg (by decide) (by omega)
        have pO2 := p_outward (p := m) (Sz.zero 655360) sg (by decide) (by omega)
        rw [vl, vg] at pO
        rw [vg, show nu0.val = 0 from rfl] at pO2
        obtain ⟨n5, e5, w5⟩ := L
        obtain ⟨n6, e6, w6⟩ := G
        unfold nu0 at pO2
        have no : ¬ (0 < j ∧ j % 2 = 0 ∧ x < 0 ∧ 0 < y) → outR m (loD (powD x j) (powD y j)) (hiD (powD x j) (powD y j)) = res := fun h => by rw [← hres, loP_no h hxy]; rfl
        have yes : (0 < j ∧ j % 2 = 0 ∧ x < 0 ∧ 0 < y) → outR m 0 (hiD (powD x j) (powD y j)) = res := fun h => by rw [← hres, loP_yes h]; rfl
        clear hres
        by_cases c1 : 0 < j
        · rw [eq_true c1] at kj
          by_cases c2 : j % 2 = 0
          · rw [eq_true c2] at kr
            by_cases c3 : x < 0
            · rw [eq_true c3] at kX
              by_cases c4 : 0 < y
              · rw [eq_true c4] at kY
                rw [yes ⟨c1, c2, c3, c4⟩] at pO2
                obtain ⟨⟨⟨n7, e7, w7⟩, ⟨n8, e8, w8⟩⟩, er⟩ := res
                clear pO
                have ft := And.intro kj (And.intro kr (And.intro kX kY))
                exact Wk
              · rw [eq_false c4] at kY
                rw [no (fun h => c4 h.2.2.2)] at pO
                obtain ⟨⟨⟨n7, e7, w7⟩, ⟨n8, e8, w8⟩⟩, er⟩ := res
                clear pO2
                have ft := And.intro kj (And.intro kr (And.intro kX kY))
                exact Wk
            · rw [eq_false c3] at kX
              rw [no (fun h => c3 h.2.2.1)] at pO
              obtain ⟨⟨⟨n7, e7, w7⟩, ⟨n8, e8, w8⟩⟩, er⟩ := res
              clear pO2
              have ft := And.intro kj (And.intro kr kX)
              exact Wk
          · rw [eq_false c2] at kr
            rw [no (fun h => c2 h.2.1)] at pO
            obtain ⟨⟨⟨n7, e7, w7⟩, ⟨n8, e8, w8⟩⟩, er⟩ := res
            clear pO2
            have ft := And.intro kj kr
            exact Wk
        · rw [eq_false c1] at kj
          rw [no (fun h => c1 h.1)] at pO
          obtain ⟨⟨⟨n7, e7, w7⟩, ⟨n8, e8, w8⟩⟩, er⟩ := res
          clear pO2
          have ft := kj
          exact Wk
      · rw [decide_eq_false h8, Bool.and_false, if_neg (by decide)]
        rw [Bool.and_eq_true] at h
        rw [h.1, h.2] at pV
        obtain ⟨⟨n1, e1, w1⟩, ⟨n2, e2, w2⟩⟩ := a
        have k0 : (k < 0) = False := eq_false (by omega)
        have k8 : (8 < k) = True := eq_true (by omega)
        have d1 := @dr 3 qI15_18_3
        have d2 := @dr 4 qI15_18_4
        refine PB (rs := [.cell 6 26, .tmp 7]) Tryz.func18 ?_
        have ft := And.intro k0 k8
        exact Wk
    · rw [decide_eq_false h0, Bool.and_false, Bool.false_and, if_neg (by decide)]
      rw [Bool.and_eq_true] at h
      rw [h.1, h.2] at pV
      obtain ⟨⟨n1, e1, w1⟩, ⟨n2, e2, w2⟩⟩ := a
      have k0 : (k < 0) = True := eq_true (by omega)
      have d1 := @dr 3 qI15_18_3
      have d2 := @dr 4 qI15_18_4
      refine PB (rs := [.cell 6 26, .tmp 7]) Tryz.func18 ?_
      have ft := k0
      exact Wk
  · rw [Bool.not_eq_true] at h
    rw [h, Bool.false_and, Bool.false_and, if_neg (by decide)]
    have h3 : (rightI a && rightI a && okP p) = false := by rw [Bool.and_self]; exact h
    rw [h3] at pV
    obtain ⟨⟨n1, e1, w1⟩, ⟨n2, e2, w2⟩⟩ := a
    have d1 := @dr 3 qI15_18_3
    have d2 := @dr 4 qI15_18_4
    refine PB (rs := [.cell 6 26, .tmp 7]) Tryz.func18 ?_
    exact Wk
end Go.V
namespace Go.V
open Go Go.RowKit Go.Proofs
def qI16_19_3 : PT := (.lin [(0, 0), (1, 2), (3, 0), (5, 0), (6, 2), (8, 0)] (.mix [2, 4, 7, 9] [10, 11] (.lin [(12, 3), (13, 3)] .nil)))
def qI16_19_8 : List (Nat × Nat) := [(0, 1), (1, 0), (3, 2), (4, 0), (2, 4), (5, 3), (6, 3), (7, 0), (8, 0), (9, 3), (10, 0)]
attribute [go_sem] qI16_19_3 qI16_19_8
theorem powD_bd {d : Dyadic} (hd : Bd 65536 d) : ∀ k, Bd (65536 * (k + 1)) (powD d k)
  | 0 => (OkD.bd ok_one).mono (by omega)
  | k + 1 => ((powD_bd hd k).mul hd).mono (by omega)
set_option maxHeartbeats 1000000 in
theorem p_rPower {k : Nat} {d : Dyadic} (hd : Bd 65536 d) (hk : k ≤ 20) : PC Tryz.prog 68 [VA d, i64 k] fun r => r = VA (powD d k) := by
  have p1 := p_rWhole (n := 1) (by unfold R64; omega)
  rw [dy_one] at p1
  refine PB (rs := [.cell 4 73]) Tryz.func68 ?_
  unfold VA at p1 ⊢
  repeat (first | with_reducible refine pv_seq fun K hK => ?_ | ((with_reducible first | refine hK _ _ ?_ | (clear hK; refine hK _ _ ?_) | (clear hK; clear hK; refine hK _ _ ?_)); clear hK; try clear K) | refine W ?_ | exact Z | with_reducible intro b)
  have J : ∀ (e : DEnv) (S : Store) (b4 b5 : Nat), e 4 = .ptr (.l 4) b4 0 0 3 → e 5 = .ptr (.l 5) b5 0 0 3 → S (.l 4) = some ⟨b4, 3, 0, [[bl false, .nil, i64 0]]⟩ → S (.l 5) = some ⟨b5, 3, 0, [[bl (fS (powD d k)), W32 (D32 (fN (powD d k))), i64 (fE (powD d k))]]⟩ → K e S := by
    rintro e S b4 b5 g4 g5 s4 s5
    have ft := And.intro g4 (And.intro g5 (And.intro s4 s5))
    exact Wk
  clear hK
  refine pv_loop (fun e S => ∃ (i b2 b4 b5 : Nat), i ≤ k ∧ e 1 = i64 (k - i : Nat) ∧ e 2 = .ptr (.l 2) b2 0 0 3 ∧ e 4 = .ptr (.l 4) b4 0 0 3 ∧ e 5 = .ptr (.l 5) b5 0 0 3 ∧ S (.l 2) = some ⟨b2, 3, 0, [[bl (fS d), W32 (D32 (fN d)), i64 (fE d)]]⟩ ∧ S (.l 4) = some ⟨b4, 3, 0, [[bl false, .nil, i64 0]]⟩ ∧ S (.l 5) = some ⟨b5, 3, 0, [[bl (fS (powD d i)), W32 (D32 (fN (powD d i))), i64 (fE (powD d i))]]⟩) (fun e _ => (intD (e 1)).toNat) ?_ ?_
  · exact ⟨0, _, _, _, Nat.zero_le _, Zr, Zr, Zr, Zr, Zr, Zr, Zr⟩
  · rintro e S ⟨i, b2, b4, b5, hi, g1, g2, g4, g5, s2, s4, s5⟩
    have pB := p_rBy ((powD_bd hd i).mono (m := 65536 * 30) (by omega)) (hd.mono (by omega)) (by decide)
    unfold VA at pB
    have hpw : powD d i * d = powD d (i + 1) := rfl
    rw [hpw] at pB
    by_cases ht : i < k
    · have h0 : (0 < ((k - i : Nat) : Int)) = True := eq_true (by omega)
      have h1 : ((k - i : Nat) : Int) - 1 = ((k - (i + 1) : Nat) : Int) := by omega
      have h2 : k - (i + 1) < k - i := by omega
      generalize powD d i = v at *
      generalize hn : powD d (i + 1) = u at *
      generalize k - i = r at *
      generalize hr : k - (i + 1) = r' at *
      have ft := And.intro g1 (And.intro g2 (And.intro g4 (And.intro g5 (And.intro s2 (And.intro s4 (And.intro s5 (And.intro h0 h1)))))))
      repeat (first | with_reducible refine pv_seq fun K hK => ?_ | ((with_reducible first | refine hK _ _ ?_ | (clear hK; refine hK _ _ ?_) | (clear hK; clear hK; refine hK _ _ ?_)); clear hK; try clear K) | refine W ?_ | exact Z | with_reducible intro b)
      refine ⟨⟨i + 1, b2, b4, b5, by omega, ?_, rfl, rfl, rfl, rfl, rfl, ?_⟩, ?_⟩
      · rw [hr]
      · rw [hn]
      · simp only [intD]; omega
    · obtain rfl : i = k := by omega
      have h0 : (0 < ((i - i : Nat) : Int)) = False := eq_false (by omega)
      have ft := And.intro g1 (And.intro g2 (And.intro g4 (And.intro g5 (And.intro s2 (And.intro s4 (And.intro s5 h0))))))
      repeat (first | with_reducible refine pv_seq fun K hK => ?_ | ((with_reducible first | refine hK _ _ ?_ | (clear hK; refine hK _ _ ?_) | (clear hK; clear hK; refine hK _ _ ?_)); clear hK; try clear K) | refine W0 ?_ | exact Z | with_reducible intro b)
      exact J _ _ b4 b5 Zr Zr Zr Zr
set_option maxHeartbeats 2000000 in
theorem p_rPow {w : Nat} {a : Iv} {k p : Int} (ha : Wi w a) : PC Tryz.prog 19 [IV a, i64 k, i64 p] fun d => d = IE (pwI a k p) := by
  have pA := p_rRightIv ha
  have pP := p_precs (p := p)
  unfold pwI
  by_cases hr : rightI a = true
  · by_cases hp : okP p = true
    · by_cases h0 : 0 ≤ k
      · by_cases h8 : k ≤ 8
        · rw [hr, hp, decide_eq_true h0, decide_eq_true h8]
          have pH := p_rHas (x := nu0) ha (by intro x hx; cases hx)
          unfold hasR at pH
          rw [hr] at pA pH
          rw [hp] at pP
          obtain ⟨m, rfl, m8, m256⟩ := okP_nat hp
          obtain ⟨x, y, ox, oy, hxy, rfl⟩ := rightI_is ha hr
          obtain ⟨j, rfl⟩ := Int.eq_ofNat_of_zero_le h0
          have hj : j ≤ 8 := by omega
          have o1 := p_rOf ox; have o2 := p_rOf oy
          have t1 := p_rPower (k := j) ox.bd (by omega)
          have t2 := p_rPower (k := j) oy.bd (by omega)
          have d1 := (powD_bd ox.bd j).mono (m := 655360) (by omega)
          have d2 := (powD_bd oy.bd j).mono (m := 655360) (by omega)
          have pO := p_rOrder d1 d2 (by decide)
          have kO : (0 < cmpD (powD x j) (powD y j)) = (powD y j < powD x j) := cmpD_0lt
          have bL : Bd 655360 (loP x y j) := by unfold loP loD; (repeat' split) <;> first | exact Bd.zero _ | assumption
          have bH : Bd 655360 (hiP x y j) := by unfold hiP hiD; split <;> assumption
          have rl := p_rRound (p := m) (up := false) bL (by decide) (by omega)
          have rh := p_rRound (p := m) (up := true) bH (by decide) (by omega)
          have pE := p_rEnds (rd_bd (p := m) (up := false) bL (by omega)) (rd_bd (p := m) (up := true) bH (by omega)) (by omega)
          rw [← outR_end] at pE
          have k0 : ((j : Int) < 0) = False := eq_false (by omega)
          have k8 : (8 < (j : Int)) = False := eq_false (by omega)
          have kr := tmod2 (k := j)
          have kj : (0 < (j : Int)) = (0 < j) := propext (by omega)
          have hlo : loP x y j = if 0 < j ∧ j % 2 = 0 ∧ (decide (x ≤ 0) && decide (0 ≤ y)) = true then 0 else if powD y j < powD x j then powD y j else powD x j := by
            unfold loP loD
            simp only [Bool.and_eq_true, decide_eq_true_eq]
          have hhi : hiP x y j = if powD y j < powD x j then powD x j else powD y j := by
            unfold hiP hiD; split <;> split <;> grind
          rw [show rightB nu0 = true from rfl, show nu0.val = 0 from rfl, Bool.true_and, Bool.true_and] at pH
          unfold nu0 at pH
          simp only [ivD, val_nuOf, Int.toNat_natCast, Bool.and_self, if_true] at *
          generalize hq : outR m (loP x y j) (hiP x y j) = res at *
          generalize rd m false (loP x y j) = l at *
          generalize rd m true (hiP x y j) = g at *
          generalize loP x y j = lo at *
          generalize hiP x y j = hi at *
          generalize cmpD (powD x j) (powD y j) = c at *
          generalize powD x j = px at *
          generalize powD y j = py at *
          generalize (decide (x ≤ 0) && decide (0 ≤ y)) = t at *
          obtain ⟨⟨⟨n7, e7, w7⟩, ⟨n8, e8, w8⟩⟩, er⟩ := res
          generalize nuOf x = X at *
          generalize nuOf y = Y at *
          obtain ⟨n1, e1, w1⟩ := X
          obtain ⟨n2, e2, w2⟩ := Y
          have v0 := VA_0
          unfold VA at *
          by_cases c1 : 0 < j ∧ j % 2 = 0
          · rw [eq_true c1.1] at kj
            rw [eq_true c1.2] at kr
            cases t
            · rw [if_neg (by simp)] at hlo
              by_cases c5 : py < px
              · rw [if_pos c5] at hlo hhi
                rw [eq_true c5] at kO
                subst hlo hhi
                have d1 := @dr 3 qI16_19_3
                have d2 := @dl 8 qI16_19_8
                refine PB (rs := [.cell 6 26, .tmp 7]) Tryz.func19 ?_
                have ft := And.intro k0 (And.intro k8 (And.intro kj (And.intro kr kO)))
                exact Wk
              · rw [if_neg c5] at hlo hhi
                rw [eq_false c5] at kO
                subst hlo hhi
                have d1 := @dr 3 qI16_19_3
                have d2 := @dl 8 qI16_19_8
                refine PB (rs := [.cell 6 26, .tmp 7]) Tryz.func19 ?_
                have ft := And.intro k0 (And.intro k8 (And.intro kj (And.intro kr kO)))
                exact Wk
            · rw [if_pos ⟨c1.1, c1.2, rfl⟩] at hlo
              subst hlo
              rw [v0] at rl
              by_cases c5 : py < px
              · rw [if_pos c5] at hhi
                rw [eq_true c5] at kO
                subst hhi
                have d1 := @dr 3 qI16_19_3
                have d2 := @dl 8 qI16_19_8
                refine PB (rs := [.cell 6 26, .tmp 7]) Tryz.func19 ?_
                have ft := And.intro k0 (And.intro k8 (And.intro kj (And.intro kr kO)))
                exact Wk
              · rw [if_neg c5] at hhi
                rw [eq_false c5] at kO
                subst hhi
                have d1 := @dr 3 qI16_19_3
                have d2 := @dl 8 qI16_19_8
                refine PB (rs := [.cell 6 26, .tmp 7]) Tryz.func19 ?_
                have ft := And.intro k0 (And.intro k8 (And.intro kj (And.intro kr kO)))
                exact Wk
          · rw [if_neg (fun h => c1 ⟨h.1, h.2.1⟩)] at hlo
            have kjr : (0 < (j : Int)) = False ∨ ((0 < (j : Int)) = True ∧ ((j : Int).tmod 2 = 0) = False) := by
              by_cases c2 : 0 < j
              · right; rw [kj, kr]; exact ⟨eq_true c2, eq_false fun h => c1 ⟨c2, h⟩⟩
              · left; rw [kj]; exact eq_false c2
            clear kj kr
            rcases kjr with kj | ⟨kj, kr⟩
            · by_cases c5 : py < px
              · rw [if_pos c5] at hlo hhi
                rw [eq_true c5] at kO
                subst hlo hhi
                have d1 := @dr 3 qI16_19_3
                have d2 := @dl 8 qI16_19_8
                refine PB (rs := [.cell 6 26, .tmp 7]) Tryz.func19 ?_
                have ft := And.intro k0 (And.intro k8 (And.intro kj kO))
                exact Wk
              · rw [if_neg c5] at hlo hhi
                rw [eq_false c5] at kO
                subst hlo hhi
                have d1 := @dr 3 qI16_19_3
                have d2 := @dl 8 qI16_19_8
                refine PB (rs := [.cell 6 26, .tmp 7]) Tryz.func19 ?_
                have ft := And.intro k0 (And.intro k8 (And.intro kj kO))
                exact Wk
            · by_cases c5 : py < px
              · rw [if_pos c5] at hlo hhi
                rw [eq_true c5] at kO
                subst hlo hhi
                have d1 := @dr 3 qI16_19_3
                have d2 := @dl 8 qI16_19_8
                refine PB (rs := [.cell 6 26, .tmp 7]) Tryz.func19 ?_
                have ft := And.intro k0 (And.intro k8 (And.intro kj (And.intro kr kO)))
                exact Wk
              · rw [if_neg c5] at hlo hhi
                rw [eq_false c5] at kO
                subst hlo hhi
                have d1 := @dr 3 qI16_19_3
                have d2 := @dl 8 qI16_19_8
                refine PB (rs := [.cell 6 26, .tmp 7]) Tryz.func19 ?_
                have ft := And.intro k0 (And.intro k8 (And.intro kj (And.intro kr kO)))
                exact Wk
        · rw [decide_eq_false h8, Bool.and_false, if_neg (by decide)]
          rw [hr] at pA
          obtain ⟨⟨n1, e1, w1⟩, ⟨n2, e2, w2⟩⟩ := a
          have k0 : (k < 0) = False := eq_false (by omega)
          have k8 : (8 < k) = True := eq_true (by omega)
          have d1 := @dr 3 qI16_19_3
          have d2 := @dl 8 qI16_19_8
          refine PB (rs := [.cell 6 26, .tmp 7]) Tryz.func19 ?_
          have ft := And.intro k0 k8
          exact Wk
      · rw [decide_eq_false h0, Bool.and_false, Bool.false_and, if_neg (by decide)]
        rw [hr] at pA
        obtain ⟨⟨n1, e1, w1⟩, ⟨n2, e2, w2⟩⟩ := a
        have k0 : (k < 0) = True := eq_true (by omega)
        have d1 := @dr 3 qI16_19_3
        have d2 := @dl 8 qI16_19_8
        refine PB (rs := [.cell 6 26, .tmp 7]) Tryz.func19 ?_
        have ft := k0
        exact Wk
    · rw [Bool.not_eq_true] at hp
      rw [hp, Bool.and_false, Bool.false_and, Bool.false_and, if_neg (by decide)]
      rw [hr] at pA
      rw [hp] at pP
      obtain ⟨⟨n1, e1, w1⟩, ⟨n2, e2, w2⟩⟩ := a
      by_cases h0 : 0 ≤ k
      · by_cases h8 : k ≤ 8
        · have k0 : (k < 0) = False := eq_false (by omega)
          have k8 : (8 < k) = False := eq_false (by omega)
          have d1 := @dr 3 qI16_19_3
          have d2 := @dl 8 qI16_19_8
          refine PB (rs := [.cell 6 26, .tmp 7]) Tryz.func19 ?_
          have ft := And.intro k0 k8
          exact Wk
        · have k0 : (k < 0) = False := eq_false (by omega)
          have k8 : (8 < k) = True := eq_true (by omega)
          have d1 := @dr 3 qI16_19_3
          have d2 := @dl 8 qI16_19_8
          refine PB (rs := [.cell 6 26, .tmp 7]) Tryz.func19 ?_
          have ft := And.intro k0 k8
          exact Wk
      · have k0 : (k < 0) = True := eq_true (by omega)
        have d1 := @dr 3 qI16_19_3
        have d2 := @dl 8 qI16_19_8
        refine PB (rs := [.cell 6 26, .tmp 7]) Tryz.func19 ?_
        have ft := k0
        exact Wk
  · rw [Bool.not_eq_true] at hr
    rw [hr, Bool.false_and, Bool.false_and, Bool.false_and, if_neg (by decide)]
    rw [hr] at pA
    obtain ⟨⟨n1, e1, w1⟩, ⟨n2, e2, w2⟩⟩ := a
    have d1 := @dr 3 qI16_19_3
    have d2 := @dl 8 qI16_19_8
    refine PB (rs := [.cell 6 26, .tmp 7]) Tryz.func19 ?_
    exact Wk
end Go.V
namespace Go.V
open Go Go.RowKit Go.Proofs
def qI17_39_3 : List (Nat × Nat) := [(0, 0), (1, 1), (3, 0), (4, 2), (7, 0), (2, 4), (5, 3), (6, 3), (8, 3), (9, 3), (10, 0), (11, 0), (12, 3), (13, 0)]
def qI17_37_3 : PT := (.lin [(0, 0), (1, 2), (3, 0), (4, 2)] (.mix [2, 5, 6] [7] (.lin [(8, 3)] .nil)))
def qI17_37_7 : List (Nat × Nat) := [(0, 2), (1, 0), (2, 1), (3, 4), (4, 3), (5, 0)]
attribute [go_sem] qI17_39_3 qI17_37_3 qI17_37_7
set_option maxHeartbeats 1000000 in
theorem p_rWide {k : Nat} {a : Iv} {p : Int} (ha : Wi k a) : PC Tryz.prog 39 [IV a, i64 p] fun d => d = NE (wdI a p) := by
  have pA := p_rRightIv ha
  have pP := p_precs (p := p)
  unfold wdI
  by_cases h : rightI a = true
  · by_cases h2 : okP p = true
    · rw [h, h2]
      rw [h] at pA
      rw [h2] at pP
      obtain ⟨m, rfl, h8, h256⟩ := okP_nat h2
      obtain ⟨x, y, ox, oy, hxy, rfl⟩ := rightI_is ha h
      have o1 := p_rOf ox; have o2 := p_rOf oy
      have pL := p_rLess oy.bd ox.bd (by decide)
      have bL := oy.bd.sub ox.bd
      have pR := p_rRound (p := m) (up := true) bL (by decide) (by omega)
      have pN := p_rNum (rd_bd (p := m) (up := true) bL (by omega)) (by omega)
      simp only [ivD, val_nuOf, Int.toNat_natCast, Bool.and_self, if_true] at *
      generalize numR (rd m true (y - x)) = q at *
      generalize rd m true (y - x) = r at *
      generalize y - x = d at *
      obtain ⟨⟨s, e, w⟩, er⟩ := q
      generalize nuOf x = X at *
      generalize nuOf y = Y at *
      obtain ⟨n1, e1, w1⟩ := X
      obtain ⟨n2, e2, w2⟩ := Y
      unfold VA at *
      have d1 := @dl 3 qI17_39_3
      refine PB (rs := [.cell 4 24, .tmp 5]) Tryz.func39 ?_
      exact Wk
    · rw [Bool.not_eq_true] at h2
      rw [h, h2]
      rw [h] at pA
      rw [h2] at pP
      simp only [Bool.and_false, Bool.false_eq_true, if_false]
      obtain ⟨⟨n1, e1, w1⟩, ⟨n2, e2, w2⟩⟩ := a
      have d1 := @dl 3 qI17_39_3
      refine PB (rs := [.cell 4 24, .tmp 5]) Tryz.func39 ?_
      exact Wk
  · rw [Bool.not_eq_true] at h
    rw [h]
    rw [h] at pA
    simp only [Bool.false_and, Bool.false_eq_true, if_false]
    obtain ⟨⟨n1, e1, w1⟩, ⟨n2, e2, w2⟩⟩ := a
    have d1 := @dl 3 qI17_39_3
    refine PB (rs := [.cell 4 24, .tmp 5]) Tryz.func39 ?_
    exact Wk
theorem hfD_f {d : Dyadic} (h : d ≠ 0) : fS (hfD d) = fS d ∧ fN (hfD d) = fN d ∧ fE (hfD d) = fE d - 1 := by
  have h1 : dy false 1 (-1) ≠ 0 := by decide
  obtain ⟨a, b, c⟩ := mul_odd h h1
  obtain ⟨a2, b2, c2⟩ := f_of (neg := false) (n := 1) (e := -1) (by decide)
  rw [tz_odd (by decide)] at b2 c2
  unfold hfD
  rw [a, b, c, a2, b2, c2]
  refine ⟨by cases fS d <;> rfl, by simp, by omega⟩
theorem hfD_zero : hfD 0 = 0 := by decide
theorem hfD_bd {k : Nat} {d : Dyadic} (h : Bd k d) : Bd (k + 1) (hfD d) := by
  by_cases h0 : d = 0
  · subst h0; rw [hfD_zero]; exact Bd.zero _
  · obtain ⟨a, b, c⟩ := hfD_f h0
    refine ⟨by rw [b, Nat.pow_succ]; have := h.1; omega, ?_, ?_⟩
    · have := h.2.1; omega
    · have := h.2.2; omega
set_option maxHeartbeats 1000000 in
theorem p_rMid {k : Nat} {a : Iv} {p : Int} (ha : Wi k a) : PC Tryz.prog 37 [IV a, i64 p] fun d => d = NE (mdI a p) := by
  have pA := p_rRightIv ha
  have pP := p_precs (p := p)
  unfold mdI
  by_cases h : rightI a = true
  · by_cases h2 : okP p = true
    · rw [h, h2]
      rw [h] at pA
      rw [h2] at pP
      obtain ⟨m, rfl, h8, h256⟩ := okP_nat h2
      obtain ⟨x, y, ox, oy, hxy, rfl⟩ := rightI_is ha h
      have o1 := p_rOf ox; have o2 := p_rOf oy
      have pL := p_rPlus ox.bd oy.bd (by decide)
      have bL := ox.bd.add oy.bd
      have bH := hfD_bd bL
      have pR := p_rRound (p := m) (up := false) bH (by decide) (by omega)
      have bR := rd_bd (p := m) (up := false) bH (by omega)
      have pN := p_rNum bR (by omega)
      have pO := p_rOrder (bR.mono (m := 2000000) (by omega)) (ox.bdk (k := 2000000) (by omega)) (by decide)
      have kO : (cmpD (rd m false (hfD (x + y))) x < 0) = (rd m false (hfD (x + y)) < x) := cmpD_lt0
      have hn : numR x = (nuOf x, 0) := numR_ok ox
      simp only [ivD, val_nuOf, Int.toNat_natCast, Bool.and_self, if_true] at *
      generalize hv : rd m false (hfD (x + y)) = v at *
      have hhi : numR (hiD x v) = if v < x then numR x else numR v := by
        unfold hiD
        by_cases c1 : v < x
        · rw [if_pos c1, if_neg (by grind)]
        · rw [if_neg c1]
          by_cases c2 : x < v
          · rw [if_pos c2]
          · rw [if_neg c2, show v = x by grind]
      rw [hhi, hn]
      clear hhi hn
      generalize cmpD v x = c at *
      have v0 := VA_0
      have hz : (D32 (fN (x + y))).length = 0 ∨ ((0 : Int) < ((D32 (fN (x + y))).length : Int)) = True := by
        by_cases hz : (D32 (fN (x + y))).length = 0
        · exact .inl hz
        · exact .inr (eq_true (by omega))
      by_cases h0 : x + y = 0
      · rw [h0, hfD_zero] at pR
        rw [h0] at pL
        rw [v0] at pL pR
        generalize hq : numR v = q at *
        obtain ⟨⟨s, e, w⟩, er⟩ := q
        generalize nuOf x = X at *
        generalize nuOf y = Y at *
        obtain ⟨n1, e1, w1⟩ := X
        obtain ⟨n2, e2, w2⟩ := Y
        unfold VA at *
        by_cases c1 : v < x
        · rw [if_pos c1]
          rw [eq_true c1] at kO
          have d1 := @dr 3 qI17_37_3
          have d2 := @dl 7 qI17_37_7
          refine PB (rs := [.cell 4 24, .tmp 5]) Tryz.func37 ?_
          have ft := kO
          exact Wk
        · rw [if_neg c1]
          rw [eq_false c1] at kO
          have d1 := @dr 3 qI17_37_3
          have d2 := @dl 7 qI17_37_7
          refine PB (rs := [.cell 4 24, .tmp 5]) Tryz.func37 ?_
          have ft := kO
          exact Wk
      · have hz : ((0 : Int) < ((D32 (fN (x + y))).length : Int)) = True := by
          rcases hz with hz | hz
          · rw [D32_l0, fN_eq_zero] at hz; exact absurd hz h0
          · exact hz
        obtain ⟨f1, f2, f3⟩ := hfD_f h0
        have pR : PC Tryz.prog 73 [.agg [bl (fS (x + y)), W32 (D32 (fN (x + y))), i64 (fE (x + y) - 1)], i64 m, bl false] fun r => r = VA v := by
          unfold VA at pR
          rw [f1, f2, f3] at pR
          exact pR
        have hR : R64 (fE (x + y) - 1) := by have := bL.2.1; have := bL.2.2; unfold R64; omega
        generalize hq : numR v = q at *
        obtain ⟨⟨s, e, w⟩, er⟩ := q
        generalize nuOf x = X at *
        generalize nuOf y = Y at *
        obtain ⟨n1, e1, w1⟩ := X
        obtain ⟨n2, e2, w2⟩ := Y
        clear f1 f2 f3 hv bL bH bR
        unfold VA at *
        generalize fS (x + y) = t1 at *
        generalize fN (x + y) = t2 at *
        generalize fE (x + y) = t3 at *
        by_cases c1 : v < x
        · rw [if_pos c1]
          rw [eq_true c1] at kO
          have d1 := @dr 3 qI17_37_3
          have d2 := @dl 7 qI17_37_7
          refine PB (rs := [.cell 4 24, .tmp 5]) Tryz.func37 ?_
          have ft := And.intro kO hz
          exact Wk
        · rw [if_neg c1]
          rw [eq_false c1] at kO
          have d1 := @dr 3 qI17_37_3
          have d2 := @dl 7 qI17_37_7
          refine PB (rs := [.cell 4 24, .tmp 5]) Tryz.func37 ?_
          have ft := And.intro kO hz
          exact Wk
    · rw [Bool.not_eq_true] at h2
      rw [h, h2]
      rw [h] at pA
      rw [h2] at pP
      simp only [Bool.and_false, Bool.false_eq_true, if_false]
      obtain ⟨⟨n1, e1, w1⟩, ⟨n2, e2, w2⟩⟩ := a
      have d1 := @dr 3 qI17_37_3
      have d2 := @dl 7 qI17_37_7
      refine PB (rs := [.cell 4 24, .tmp 5]) Tryz.func37 ?_
      exact Wk
  · rw [Bool.not_eq_true] at h
    rw [h]
    rw [h] at pA
    simp only [Bool.false_and, Bool.false_eq_true, if_false]
    obtain ⟨⟨n1, e1, w1⟩, ⟨n2, e2, w2⟩⟩ := a
    have d1 := @dr 3 qI17_37_3
    have d2 := @dl 7 qI17_37_7
    refine PB (rs := [.cell 4 24, .tmp 5]) Tryz.func37 ?_
    exact Wk
end Go.V
namespace Go.V
open Go Go.RowKit Go.Proofs
def qI18_38_4 : PT := (.lin [(0, 0), (1, 2), (3, 2), (6, 2), (8, 0), (9, 2)] (.mix [2, 4, 5, 7, 10, 11] [12, 13] (.lin [(14, 3), (15, 3)] .nil)))
attribute [go_sem] qI18_38_4
theorem mdI_ok {a : Iv} {p : Int} (h : (mdI a p).2 = 0) : rightI a = true ∧ okP p = true ∧ ∃ d, OkD d ∧ (mdI a p).1 = nuOf d ∧ d = hiD a.lo.val (rd p.toNat false (hfD (a.lo.val + a.hi.val))) := by
  unfold mdI at *
  by_cases h1 : (rightI a && okP p) = true
  · rw [if_pos h1] at h ⊢
    rw [Bool.and_eq_true] at h1
    refine ⟨h1.1, h1.2, _, ?_, ?_, rfl⟩ <;> unfold numR at *
    · split at h
      · assumption
      · simp at h
    · split at h
      · rename_i h3; rw [if_pos h3]
      · simp at h
  · rw [if_neg h1] at h; simp at h
set_option maxHeartbeats 1000000 in
theorem p_rRad {k : Nat} {a : Iv} {p : Int} (ha : Wi k a) : PC Tryz.prog 38 [IV a, i64 p] fun d => d = NE (rdI a p) := by
  have pM := p_rMid (p := p) ha
  unfold rdI
  by_cases h : (mdI a p).2 = 0
  · rw [if_pos h]
    obtain ⟨hr, h2, d, od, hd, _⟩ := mdI_ok h
    obtain ⟨m, rfl, h8, h256⟩ := okP_nat h2
    obtain ⟨x, y, ox, oy, hxy, rfl⟩ := rightI_is ha hr
    have o1 := p_rOf ox; have o2 := p_rOf oy; have o3 := p_rOf od
    have l1 := p_rLess oy.bd od.bd (by decide)
    have l2 := p_rLess od.bd ox.bd (by decide)
    have b1 := oy.bd.sub od.bd
    have b2 := od.bd.sub ox.bd
    have pO := p_rOrder b1 b2 (by decide)
    have kO : (cmpD (y - d) (d - x) < 0) = (y - d < d - x) := cmpD_lt0
    have bH : Bd (4 * 65536 + 1) (hiD (y - d) (d - x)) := by unfold hiD; split <;> assumption
    have pR := p_rRound (p := m) (up := true) bH (by decide) (by omega)
    have pN := p_rNum (rd_bd (p := m) (up := true) bH (by omega)) (by omega)
    have hh : hiD (y - d) (d - x) = if y - d < d - x then d - x else y - d := rfl
    rw [hd, val_nuOf]
    generalize mdI (ivD x y) (m : Int) = q0 at *
    obtain ⟨g, er0⟩ := q0
    simp only [ivD, val_nuOf, Int.toNat_natCast] at *
    subst h hd
    generalize cmpD (y - d) (d - x) = c at *
    generalize hiD (y - d) (d - x) = z at *
    generalize y - d = s1 at *
    generalize d - x = s2 at *
    generalize numR (rd m true z) = q at *
    generalize rd m true z = v at *
    obtain ⟨⟨s, e, w⟩, er⟩ := q
    generalize nuOf x = X at *
    generalize nuOf y = Y at *
    generalize nuOf d = G at *
    obtain ⟨n1, e1, w1⟩ := X
    obtain ⟨n2, e2, w2⟩ := Y
    obtain ⟨n3, e3, w3⟩ := G
    unfold VA at *
    by_cases c1 : s1 < s2
    · rw [if_pos c1] at hh
      rw [eq_true c1] at kO
      subst hh
      have d1 := @dr 4 qI18_38_4
      refine PB (rs := [.cell 4 24, .tmp 5]) Tryz.func38 ?_
      have ft := kO
      exact Wk
    · rw [if_neg c1] at hh
      rw [eq_false c1] at kO
      subst hh
      have d1 := @dr 4 qI18_38_4
      refine PB (rs := [.cell 4 24, .tmp 5]) Tryz.func38 ?_
      have ft := kO
      exact Wk
  · rw [if_neg h]
    generalize mdI a p = q at *
    obtain ⟨⟨n1, e1, w1⟩, er⟩ := q
    obtain ⟨⟨n3, e3, w3⟩, ⟨n4, e4, w4⟩⟩ := a
    simp only at h pM ⊢
    have hf := eq_false h
    have d1 := @dr 4 qI18_38_4
    refine PB (rs := [.cell 4 24, .tmp 5]) Tryz.func38 ?_
    have ft := hf
    exact Wk
end Go.V

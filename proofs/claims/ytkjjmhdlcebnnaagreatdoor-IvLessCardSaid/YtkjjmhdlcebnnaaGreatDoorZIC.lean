/- The statements' own small functions of layer 5: light. Package iv over values as data: products, quotients. Package iv over values as data: quotients. Package iv over values as data: width. Package iv over values as data: middles. Package iv over values as data: radius. -/
import Derived.Test.YtkjjmhdlcebnnaaGreatDoorZIA
import Derived.Test.YtkjjmhdlcebnnaaGreatDoorZIB
import Derived.Test.YtkjjmhdlcebnnaaGreatDoorZPS
set_option linter.unusedSimpArgs false
set_option linter.unusedVariables false
set_option maxRecDepth 100000
namespace Go.V
open Go Go.RowKit Go.Proofs

def lightI (a : Iv) : Prop := a.lo.w.length ≤ 70 ∧ a.hi.w.length ≤ 70
instance (a : Iv) : Decidable (lightI a) := inferInstanceAs (Decidable (_ ∧ _))
end Go.V
namespace Go.V
open Go Go.RowKit Go.Proofs

theorem l_ne {i j : Nat} (h : i ≠ j) : (Nm.l i = Nm.l j) = False := eq_false (by intro h2; injection h2 with h2; exact h h2)
set_option maxHeartbeats 1000000 in
theorem p_iMul {k : Nat} {a b : Iv} {p : Int} (ha : Wi k a) (hb : Wi k b) : PC Tryz.prog 25 [IV a, IV b, i64 p] fun d => d = IE (opI a b p (minP a.lo.val a.hi.val b.lo.val b.hi.val) (maxP a.lo.val a.hi.val b.lo.val b.hi.val)) := by
  have pV := p_validI (p := p) ha hb
  unfold opI
  by_cases h : (rightI a && rightI b && okP p) = true
  · rw [if_pos h]
    rw [h] at pV
    rw [Bool.and_eq_true, Bool.and_eq_true] at h
    obtain ⟨m, rfl, h8, h256⟩ := okP_nat h.2
    obtain ⟨x, y, ox, oy, hxy, rfl⟩ := rightI_is ha h.1.1
    obtain ⟨u, v, ou, ov, huv, rfl⟩ := rightI_is hb h.1.2
    have m0 := p_eMul ox.sz ou.sz (by decide)
    have m1 := p_eMul ox.sz ov.sz (by decide)
    have m2 := p_eMul oy.sz ou.sz (by decide)
    have m3 := p_eMul oy.sz ov.sz (by decide)
    have pO := fun (z1 z2 : Nu) (h1 : Sz (2 * 65536) z1) (h2 : Sz (2 * 65536) z2) (v1 : z1.val = minP x y u v) (v2 : z2.val = maxP x y u v) => show PC Tryz.prog 65 [NU z1, NU z2, i64 (m : Nat)] fun d => d = IE (outR m (minP x y u v) (maxP x y u v)) from v1 ▸ v2 ▸ p_outward h1 h2 (by decide) (by omega)
    simp only [ivD, val_nuOf, Int.toNat_natCast] at *
    unfold minP maxP at *
    generalize x * u = d0 at *
    generalize x * v = d1 at *
    generalize y * u = d2 at *
    generalize y * v = d3 at *
    generalize outR m _ _ = q at *
    obtain ⟨⟨⟨n5, e5, w5⟩, ⟨n6, e6, w6⟩⟩, r⟩ := q
    generalize nuOf x = X at *
    generalize nuOf y = Y at *
    generalize nuOf u = U at *
    generalize nuOf v = V at *
    obtain ⟨n1, e1, w1⟩ := X
    obtain ⟨n2, e2, w2⟩ := Y
    obtain ⟨n3, e3, w3⟩ := U
    obtain ⟨n4, e4, w4⟩ := V
    refine PB (rs := [.cell 6 26, .tmp 7]) Tryz.func25 ?_
    repeat (first | with_reducible refine pv_seq fun K hK => ?_ | ((with_reducible first | refine hK _ _ ?_ | (clear hK; refine hK _ _ ?_) | (clear hK; clear hK; refine hK _ _ ?_)); clear hK; try clear K) | refine W ?_ | exact Z | with_reducible intro b)
    refine call_pc m0 ?_
    rintro d ⟨⟨s0, f0, z0⟩, rfl, t0, v0⟩
    repeat (first | with_reducible refine pv_seq fun K hK => ?_ | ((with_reducible first | refine hK _ _ ?_ | (clear hK; refine hK _ _ ?_) | (clear hK; clear hK; refine hK _ _ ?_)); clear hK; try clear K) | refine W0 ?_ | exact Z | with_reducible intro b)
    refine call_pc m1 ?_
    rintro d ⟨⟨s1, f1, z1⟩, rfl, t1, v1⟩
    repeat (first | with_reducible refine pv_seq fun K hK => ?_ | ((with_reducible first | refine hK _ _ ?_ | (clear hK; refine hK _ _ ?_) | (clear hK; clear hK; refine hK _ _ ?_)); clear hK; try clear K) | refine W0 ?_ | exact Z | with_reducible intro b)
    refine p_Mul1 (l := ⟨s0, f0, z0⟩) (h := ⟨s0, f0, z0⟩) (x := ⟨s1, f1, z1⟩) (by simp -implicitDefEqProofs only [ft, go_sem, seval] <;> rfl) (by simp -implicitDefEqProofs only [ft, go_sem, seval] <;> rfl) (l_ne (by decide)) t0 t0 t1 (by decide) ?_
    have a1 := minN_sz t0 t1; have a2 := minN_val ⟨s0, f0, z0⟩ ⟨s1, f1, z1⟩; rw [v0, v1] at a2
    have b1 := maxN_sz t0 t1; have b2 := maxN_val ⟨s0, f0, z0⟩ ⟨s1, f1, z1⟩; rw [v0, v1] at b2
    generalize minN ⟨s0, f0, z0⟩ ⟨s1, f1, z1⟩ = L1 at *
    generalize maxN ⟨s0, f0, z0⟩ ⟨s1, f1, z1⟩ = H1 at *
    obtain ⟨p1, p2, p3⟩ := L1
    obtain ⟨p4, p5, p6⟩ := H1
    repeat (first | with_reducible refine pv_seq fun K hK => ?_ | ((with_reducible first | refine hK _ _ ?_ | (clear hK; refine hK _ _ ?_) | (clear hK; clear hK; refine hK _ _ ?_)); clear hK; try clear K) | refine W0 ?_ | exact Z | with_reducible intro b)
    refine call_pc m2 ?_
    rintro d ⟨⟨s2, f2, z2⟩, rfl, t2, v2⟩
    repeat (first | with_reducible refine pv_seq fun K hK => ?_ | ((with_reducible first | refine hK _ _ ?_ | (clear hK; refine hK _ _ ?_) | (clear hK; clear hK; refine hK _ _ ?_)); clear hK; try clear K) | refine W0 ?_ | exact Z | with_reducible intro b)
    refine p_Mul1 (l := ⟨p1, p2, p3⟩) (h := ⟨p4, p5, p6⟩) (x := ⟨s2, f2, z2⟩) (by simp -implicitDefEqProofs only [ft, go_sem, seval] <;> rfl) (by simp -implicitDefEqProofs only [ft, go_sem, seval] <;> rfl) (l_ne (by decide)) a1 b1 t2 (by decide) ?_
    have c1 := minN_sz a1 t2; have c2 := minN_val ⟨p1, p2, p3⟩ ⟨s2, f2, z2⟩; rw [a2, v2] at c2
    have g1 := maxN_sz b1 t2; have g2 := maxN_val ⟨p4, p5, p6⟩ ⟨s2, f2, z2⟩; rw [b2, v2] at g2
    generalize minN ⟨p1, p2, p3⟩ ⟨s2, f2, z2⟩ = L2 at *
    generalize maxN ⟨p4, p5, p6⟩ ⟨s2, f2, z2⟩ = H2 at *
    obtain ⟨q1, q2, q3⟩ := L2
    obtain ⟨q4, q5, q6⟩ := H2
    repeat (first | with_reducible refine pv_seq fun K hK => ?_ | ((with_reducible first | refine hK _ _ ?_ | (clear hK; refine hK _ _ ?_) | (clear hK; clear hK; refine hK _ _ ?_)); clear hK; try clear K) | refine W0 ?_ | exact Z | with_reducible intro b)
    refine call_pc m3 ?_
    rintro d ⟨⟨s3, f3, z3⟩, rfl, t3, v3⟩
    repeat (first | with_reducible refine pv_seq fun K hK => ?_ | ((with_reducible first | refine hK _ _ ?_ | (clear hK; refine hK _ _ ?_) | (clear hK; clear hK; refine hK _ _ ?_)); clear hK; try clear K) | refine W0 ?_ | exact Z | with_reducible intro b)
    refine p_Mul1 (l := ⟨q1, q2, q3⟩) (h := ⟨q4, q5, q6⟩) (x := ⟨s3, f3, z3⟩) (by simp -implicitDefEqProofs only [ft, go_sem, seval] <;> rfl) (by simp -implicitDefEqProofs only [ft, go_sem, seval] <;> rfl) (l_ne (by decide)) c1 g1 t3 (by decide) ?_
    have k1 := minN_sz c1 t3; have k2 := minN_val ⟨q1, q2, q3⟩ ⟨s3, f3, z3⟩; rw [c2, v3] at k2
    have j1 := maxN_sz g1 t3; have j2 := maxN_val ⟨q4, q5, q6⟩ ⟨s3, f3, z3⟩; rw [g2, v3] at j2
    generalize minN ⟨q1, q2, q3⟩ ⟨s3, f3, z3⟩ = L3 at *
    generalize maxN ⟨q4, q5, q6⟩ ⟨s3, f3, z3⟩ = H3 at *
    have pO := pO _ _ k1 j1 k2 j2
    obtain ⟨r1, r2, r3⟩ := L3
    obtain ⟨r4, r5, r6⟩ := H3
    exact Wk
  · rw [if_neg h]
    rw [Bool.not_eq_true] at h
    rw [h] at pV
    obtain ⟨⟨n1, e1, w1⟩, ⟨n2, e2, w2⟩⟩ := a
    obtain ⟨⟨n3, e3, w3⟩, ⟨n4, e4, w4⟩⟩ := b
    refine PB (rs := [.cell 6 26, .tmp 7]) Tryz.func25 ?_
    exact Wk
end Go.V
namespace Go.V
open Go Go.RowKit Go.Proofs
def qI9_27_6 : List (Nat × Nat) := [(0, 1), (2, 2), (1, 4), (3, 3), (4, 3), (5, 3)]
def qI9_27_7 : PT := (.lin [(0, 0), (1, 2), (2, 0)] (.fork3 3 4 (.lin [] (.mix [] [4, 5] (.lin [(6, 3), (7, 3)] .nil))) 4 4 (.lin [] (.fork 3 4 (.lin [(5, 4), (6, 3), (7, 3)] .nil) 5 4 (.lin [] (.fork 3 4 (.lin [(6, 3), (7, 3)] .nil) 6 3 (.lin [(3, 4), (7, 3)] .nil))))) 5 4 (.lin [] (.fork 3 4 (.lin [(4, 4), (6, 3), (7, 3)] .nil) 4 4 (.lin [] (.fork 3 4 (.lin [(6, 3), (7, 3)] .nil) 6 3 (.lin [(3, 4), (7, 3)] .nil)))))))
attribute [go_sem] qI9_27_6 qI9_27_7
/-- A quotient of intervals: 1 is ErrForm, 3 ErrZero. -/
def qoI (p : Nat) (x y u v : Dyadic) : Iv × Int := endR (qlo p x u v) (qhi p y u v)
def dvI (a b : Iv) (p : Int) : Iv × Int :=
  if rightI a && rightI b && okP p then (if b.lo.val ≤ 0 ∧ 0 ≤ b.hi.val then (iv0, 3) else if b.lo.val < 0 then qoI p.toNat (-a.hi.val) (-a.lo.val) (-b.hi.val) (-b.lo.val) else qoI p.toNat a.lo.val a.hi.val b.lo.val b.hi.val) else (iv0, 1)
theorem p_eSignD {a : Dyadic} (ha : OkD a) : PC Tryz.prog 64 [NU (nuOf a)] fun d => d = i64 (sgnD a) := by
  have := p_eSign ha.sz (by decide)
  rw [val_nuOf] at this
  exact this
theorem p_rdDivD {a b : Dyadic} {p : Nat} {up : Bool} (ha : OkD a) (hb : OkD b) (hb0 : b ≠ 0) (h8 : 8 ≤ p) (h256 : p ≤ 256) : PC Tryz.prog 80 [NU (nuOf a), NU (nuOf b), i64 p, bl up] fun d => d = NE (numR (rd p up (quo p a b))) := by
  have := p_rdDiv (p := p) (up := up) (ha.sz).wl (hb.sz).wl
  rw [dvR_D ha hb h8 h256, if_neg hb0] at this
  exact this
theorem neg_ok {a : Dyadic} (h : OkD a) : OkD (-a) := by
  by_cases h0 : a = 0
  · subst h0; exact OkD.zero
  · obtain ⟨a1, b1, c1⟩ := f_neg _ h0
    unfold OkD at h ⊢
    rw [nuOf_f] at h ⊢
    rw [b1, c1]; exact ⟨h.len, h.lo, h.hi⟩
set_option maxHeartbeats 2000000 in
theorem p_iDiv {k : Nat} {a b : Iv} {p : Int} (ha : Wi k a) (hb : Wi k b) : PC Tryz.prog 27 [IV a, IV b, i64 p] fun d => d = IE (dvI a b p) := by
  have pV := p_validI (p := p) ha hb
  unfold dvI
  by_cases h : (rightI a && rightI b && okP p) = true
  · rw [if_pos h]
    rw [h] at pV
    rw [Bool.and_eq_true, Bool.and_eq_true] at h
    obtain ⟨m, rfl, h8, h256⟩ := okP_nat h.2
    obtain ⟨x, y, ox, oy, hxy, rfl⟩ := rightI_is ha h.1.1
    obtain ⟨u, v, ou, ov, huv, rfl⟩ := rightI_is hb h.1.2
    have pNa := p_NegI ha
    have pNb := p_NegI hb
    unfold negI at pNa pNb
    rw [if_pos h.1.1] at pNa
    rw [if_pos h.1.2] at pNb
    have sU := p_eSignD ou
    have sV := p_eSignD ov
    have kU : (sgnD u ≤ 0) = (u ≤ 0) := sgnD_le0
    have kV : (0 ≤ sgnD v) = (0 ≤ v) := sgnD_0le
    have kU2 : (sgnD u < 0) = (u < 0) := sgnD_lt0
    simp only [ivD, val_nuOf, Int.toNat_natCast] at *
    generalize hres : (if u ≤ 0 ∧ 0 ≤ v then (iv0, 3) else if u < 0 then qoI m (-y) (-x) (-v) (-u) else qoI m x y u v) = res
    -- what the quotient's ends come to
    generalize sgnD u = gu at *
    generalize sgnD v = gv at *
    have d1 := @dl 6 qI9_27_6
    have d2 := @dr 7 qI9_27_7
    refine PB (rs := [.cell 6 26, .tmp 7]) Tryz.func27 ?_
    refine pv_seq fun K0 h0 => ?_
    refine pv_reg ?_
    try simp -implicitDefEqProofs only [ft, go_sem, seval]
    intro b3 b4 b6
    refine h0 _ _ ?_
    clear h0
    refine pv_seq fun KA hA => ?_
    have J : ∀ (x y u v : Dyadic), OkD x → OkD y → OkD u → OkD v → 0 < u → u ≤ v → qoI m x y u v = res → ∀ (e : DEnv) (S : Store), e 2 = i64 m → e 3 = .ptr (.l 3) b3 0 0 6 → e 4 = .ptr (.l 4) b4 0 0 6 → e 6 = .ptr (.l 6) b6 0 0 6 → S (.l 3) = some ⟨b3, 6, 0, [[bl (nuOf x).neg, i64 (nuOf x).exp, W64 (nuOf x).w, bl (nuOf y).neg, i64 (nuOf y).exp, W64 (nuOf y).w]]⟩ → S (.l 4) = some ⟨b4, 6, 0, [[bl (nuOf u).neg, i64 (nuOf u).exp, W64 (nuOf u).w, bl (nuOf v).neg, i64 (nuOf v).exp, W64 (nuOf v).w]]⟩ → S (.l 6) = some ⟨b6, 6, 0, [[bl false, i64 0, .nil, bl false, i64 0, .nil]]⟩ → S (.l 8) = none → S (.l 9) = none → KA e S := by
      as_aux_lemma =>
      intro x y u v ox oy ou ov hu huv hq e S g2 g3 g4 g6 s3 s4 s6 s8 s9
      refine hA _ _ ?_
      clear hA
      have sX := p_eSignD ox
      have sY := p_eSignD oy
      have kX : (sgnD x < 0) = (x < 0) := sgnD_lt0
      have kY : (sgnD y < 0) = (y < 0) := sgnD_lt0
      unfold qoI qlo qhi at hq
      generalize sgnD x = gx at *
      generalize sgnD y = gy at *
      refine pv_seq fun KB hB => ?_
      have A : ∀ (e : DEnv) (S : Store) (b8 b9 : Nat), e 2 = i64 m → e 3 = .ptr (.l 3) b3 0 0 6 → e 4 = .ptr (.l 4) b4 0 0 6 → e 6 = .ptr (.l 6) b6 0 0 6 → S (.l 3) = some ⟨b3, 6, 0, [[bl (nuOf x).neg, i64 (nuOf x).exp, W64 (nuOf x).w, bl (nuOf y).neg, i64 (nuOf y).exp, W64 (nuOf y).w]]⟩ → S (.l 4) = some ⟨b4, 6, 0, [[bl (nuOf u).neg, i64 (nuOf u).exp, W64 (nuOf u).w, bl (nuOf v).neg, i64 (nuOf v).exp, W64 (nuOf v).w]]⟩ → S (.l 6) = some ⟨b6, 6, 0, [[bl false, i64 0, .nil, bl false, i64 0, .nil]]⟩ → e 8 = .ptr (.l 8) b8 0 0 3 → e 9 = .ptr (.l 9) b9 0 0 3 → S (.l 8) = some ⟨b8, 3, 0, [[bl (nuOf v).neg, i64 (nuOf v).exp, W64 (nuOf v).w]]⟩ → S (.l 9) = some ⟨b9, 3, 0, [[bl (nuOf u).neg, i64 (nuOf u).exp, W64 (nuOf u).w]]⟩ → KB e S := by
        as_aux_lemma =>
        intro e S b8 b9 g2 g3 g4 g6 s3 s4 s6 g8 g9 s8 s9
        refine hB _ _ ?_
        clear hB
        refine pv_seq fun KC hC => ?_
        have B : ∀ (e : DEnv) (S : Store) (l : Dyadic), OkD l → l ≠ 0 → endR (rd m false (quo m x l)) (rd m true (quo m y (if y < 0 then v else u))) = res → e 2 = i64 m → e 3 = .ptr (.l 3) b3 0 0 6 → e 4 = .ptr (.l 4) b4 0 0 6 → e 6 = .ptr (.l 6) b6 0 0 6 → S (.l 3) = some ⟨b3, 6, 0, [[bl (nuOf x).neg, i64 (nuOf x).exp, W64 (nuOf x).w, bl (nuOf y).neg, i64 (nuOf y).exp, W64 (nuOf y).w]]⟩ → S (.l 4) = some ⟨b4, 6, 0, [[bl (nuOf u).neg, i64 (nuOf u).exp, W64 (nuOf u).w, bl (nuOf v).neg, i64 (nuOf v).exp, W64 (nuOf v).w]]⟩ → S (.l 6) = some ⟨b6, 6, 0, [[bl false, i64 0, .nil, bl false, i64 0, .nil]]⟩ → e 8 = .ptr (.l 8) b8 0 0 3 → e 9 = .ptr (.l 9) b9 0 0 3 → S (.l 8) = some ⟨b8, 3, 0, [[bl (nuOf l).neg, i64 (nuOf l).exp, W64 (nuOf l).w]]⟩ → S (.l 9) = some ⟨b9, 3, 0, [[bl (nuOf u).neg, i64 (nuOf u).exp, W64 (nuOf u).w]]⟩ → KC e S := by
          as_aux_lemma =>
          intro e S l ol l0 hq g2 g3 g4 g6 s3 s4 s6 g8 g9 s8 s9
          refine hC _ _ ?_
          clear hC
          refine pv_seq fun KD hD => ?_
          have C : ∀ (e : DEnv) (S : Store) (h : Dyadic), OkD h → h ≠ 0 → endR (rd m false (quo m x l)) (rd m true (quo m y h)) = res → e 2 = i64 m → e 3 = .ptr (.l 3) b3 0 0 6 → e 4 = .ptr (.l 4) b4 0 0 6 → e 6 = .ptr (.l 6) b6 0 0 6 → S (.l 3) = some ⟨b3, 6, 0, [[bl (nuOf x).neg, i64 (nuOf x).exp, W64 (nuOf x).w, bl (nuOf y).neg, i64 (nuOf y).exp, W64 (nuOf y).w]]⟩ → S (.l 4) = some ⟨b4, 6, 0, [[bl (nuOf u).neg, i64 (nuOf u).exp, W64 (nuOf u).w, bl (nuOf v).neg, i64 (nuOf v).exp, W64 (nuOf v).w]]⟩ → S (.l 6) = some ⟨b6, 6, 0, [[bl false, i64 0, .nil, bl false, i64 0, .nil]]⟩ → e 8 = .ptr (.l 8) b8 0 0 3 → e 9 = .ptr (.l 9) b9 0 0 3 → S (.l 8) = some ⟨b8, 3, 0, [[bl (nuOf l).neg, i64 (nuOf l).exp, W64 (nuOf l).w]]⟩ → S (.l 9) = some ⟨b9, 3, 0, [[bl (nuOf h).neg, i64 (nuOf h).exp, W64 (nuOf h).w]]⟩ → KD e S := by
            as_aux_lemma =>
            intro e S h oh h0 hq g2 g3 g4 g6 s3 s4 s6 g8 g9 s8 s9
            refine hD _ _ ?_
            clear hD
            have pL := p_rdDivD (up := false) ox ol l0 h8 h256
            have pH := p_rdDivD (up := true) oy oh h0 h8 h256
            unfold endR at hq
            have e1 := numR_err (d := rd m false (quo m x l))
            have e2 := numR_err (d := rd m true (quo m y h))
            generalize numR (rd m false (quo m x l)) = q1 at *
            generalize numR (rd m true (quo m y h)) = q2 at *
            obtain ⟨⟨n1, x1, w1⟩, r1⟩ := q1
            obtain ⟨⟨n2, x2, w2⟩, r2⟩ := q2
            simp only at e1 e2 hq
            by_cases h1 : r1 = 0
            · rw [if_pos h1] at hq
              by_cases h2 : r2 = 0
              · rw [if_pos h2] at hq
                subst hq
                have ft := And.intro g2 (And.intro g3 (And.intro g4 (And.intro g6 (And.intro g8 (And.intro g9 (And.intro s3 (And.intro s4 (And.intro s6 (And.intro s8 (And.intro s9 (And.intro (eq_true h1) (eq_true h2))))))))))))
                exact Wk
              · rw [if_neg h2] at hq
                subst hq
                have h3 := e2 h2
                have ft := And.intro g2 (And.intro g3 (And.intro g4 (And.intro g6 (And.intro g8 (And.intro g9 (And.intro s3 (And.intro s4 (And.intro s6 (And.intro s8 (And.intro s9 (And.intro (eq_true h1) (eq_false h2))))))))))))
                repeat (first | with_reducible refine pv_seq fun K hK => ?_ | ((with_reducible first | refine hK _ _ ?_ | (clear hK; refine hK _ _ ?_) | (clear hK; clear hK; refine hK _ _ ?_)); clear hK; try clear K) | refine W ?_ | exact Z | with_reducible intro b)
                rw [h3]; rfl
            · rw [if_neg h1] at hq
              subst hq
              have h3 := e1 h1
              have ft := And.intro g2 (And.intro g3 (And.intro g4 (And.intro g6 (And.intro g8 (And.intro g9 (And.intro s3 (And.intro s4 (And.intro s6 (And.intro s8 (And.intro s9 (eq_false h1)))))))))))
              repeat (first | with_reducible refine pv_seq fun K hK => ?_ | ((with_reducible first | refine hK _ _ ?_ | (clear hK; refine hK _ _ ?_) | (clear hK; clear hK; refine hK _ _ ?_)); clear hK; try clear K) | refine W ?_ | exact Z | with_reducible intro b)
              rw [h3]; rfl
          clear hD
          by_cases hy : y < 0
          · rw [if_pos hy] at hq
            rw [eq_true hy] at kY
            have ft := And.intro g2 (And.intro g3 (And.intro g4 (And.intro g6 (And.intro g8 (And.intro g9 (And.intro s3 (And.intro s4 (And.intro s6 (And.intro s8 (And.intro s9 kY))))))))))
            repeat (first | with_reducible refine pv_seq fun K hK => ?_ | ((with_reducible first | refine hK _ _ ?_ | (clear hK; refine hK _ _ ?_) | (clear hK; clear hK; refine hK _ _ ?_)); clear hK; try clear K) | refine W ?_ | exact Z | with_reducible intro b)
            exact C _ _ v ov (by grind) hq Z Z Z Z Z Z Z Z Z Z Z
          · rw [if_neg hy] at hq
            rw [eq_false hy] at kY
            have ft := And.intro g2 (And.intro g3 (And.intro g4 (And.intro g6 (And.intro g8 (And.intro g9 (And.intro s3 (And.intro s4 (And.intro s6 (And.intro s8 (And.intro s9 kY))))))))))
            repeat (first | with_reducible refine pv_seq fun K hK => ?_ | ((with_reducible first | refine hK _ _ ?_ | (clear hK; refine hK _ _ ?_) | (clear hK; clear hK; refine hK _ _ ?_)); clear hK; try clear K) | refine W ?_ | exact Z | with_reducible intro b)
            exact C _ _ u ou (by grind) hq Z Z Z Z Z Z Z Z Z Z Z
        clear hC
        by_cases hx : x < 0
        · rw [if_pos hx] at hq
          rw [eq_true hx] at kX
          have ft := And.intro g2 (And.intro g3 (And.intro g4 (And.intro g6 (And.intro g8 (And.intro g9 (And.intro s3 (And.intro s4 (And.intro s6 (And.intro s8 (And.intro s9 kX))))))))))
          repeat (first | with_reducible refine pv_seq fun K hK => ?_ | ((with_reducible first | refine hK _ _ ?_ | (clear hK; refine hK _ _ ?_) | (clear hK; clear hK; refine hK _ _ ?_)); clear hK; try clear K) | refine W ?_ | exact Z | with_reducible intro b)
          exact B _ _ u ou (by grind) hq Z Z Z Z Z Z Z Z Z Z Z
        · rw [if_neg hx] at hq
          rw [eq_false hx] at kX
          have ft := And.intro g2 (And.intro g3 (And.intro g4 (And.intro g6 (And.intro g8 (And.intro g9 (And.intro s3 (And.intro s4 (And.intro s6 (And.intro s8 (And.intro s9 kX))))))))))
          repeat (first | with_reducible refine pv_seq fun K hK => ?_ | ((with_reducible first | refine hK _ _ ?_ | (clear hK; refine hK _ _ ?_) | (clear hK; clear hK; refine hK _ _ ?_)); clear hK; try clear K) | refine W ?_ | exact Z | with_reducible intro b)
          exact B _ _ v ov (by grind) hq Z Z Z Z Z Z Z Z Z Z Z
      clear hB
      have ft := And.intro g2 (And.intro g3 (And.intro g4 (And.intro g6 (And.intro s3 (And.intro s4 (And.intro s6 (And.intro s8 s9)))))))
      repeat (first | with_reducible refine pv_seq fun K hK => ?_ | ((with_reducible first | refine hK _ _ ?_ | (clear hK; refine hK _ _ ?_) | (clear hK; clear hK; refine hK _ _ ?_)); clear hK; try clear K) | refine W0 ?_ | exact Z | with_reducible intro b)
      repeat' (first | (with_reducible first | refine pv_seq fun K hK => ?_ | refine pv_reg ?_) | ((with_reducible first | refine hK _ _ ?_ | (clear hK; refine hK _ _ ?_) | (clear hK; clear hK; refine hK _ _ ?_)); clear hK; try clear K) | simp -implicitDefEqProofs only [ft, go_sem, seval] | with_reducible intro b | (with_reducible refine And.intro ?_ ?_) | refine call_is (by exact trivial) ?_ | (refine ExtC_is ?_; simp -implicitDefEqProofs only [ft, go_sem, seval]; refine ext_is (by exact trivial) ?_) | (refine PFC.coe ?_; simp -implicitDefEqProofs only [ft, go_sem, seval]; refine call_is (by exact trivial) ?_) | assumption | omega | (unfold R64; omega))
      all_goals exact A _ _ _ _ Z Z Z Z Z Z Z Zr Zr Zr Zr
    clear hA
    by_cases hz : u ≤ 0 ∧ 0 ≤ v
    · rw [if_pos hz] at hres
      subst hres
      rw [eq_true hz.1] at kU
      rw [eq_true hz.2] at kV
      have ft := And.intro kU kV
      exact Wk
    · rw [if_neg hz] at hres
      by_cases hn : u < 0
      · rw [if_pos hn] at hres
        have hv : ¬ 0 ≤ v := fun h => hz ⟨by grind, h⟩
        rw [eq_true (show u ≤ 0 by grind)] at kU
        rw [eq_false hv] at kV
        rw [eq_true hn] at kU2
        have ft := And.intro kU (And.intro kV kU2)
        repeat (first | with_reducible refine pv_seq fun K hK => ?_ | ((with_reducible first | refine hK _ _ ?_ | (clear hK; refine hK _ _ ?_) | (clear hK; clear hK; refine hK _ _ ?_)); clear hK; try clear K) | refine W ?_ | exact Z | with_reducible intro b)
        exact J (-y) (-x) (-v) (-u) (neg_ok oy) (neg_ok ox) (neg_ok ov) (neg_ok ou) (by grind) (by grind) hres _ _ Z Z Z Z Z Z Z Z Z
      · rw [if_neg hn] at hres
        rw [eq_false hn] at kU2
        by_cases hu0 : u ≤ 0
        · rw [eq_true hu0] at kU
          have hv : ¬ 0 ≤ v := fun h => hz ⟨hu0, h⟩
          exfalso; grind
        · rw [eq_false hu0] at kU
          have ft := And.intro kU kU2
          repeat (first | with_reducible refine pv_seq fun K hK => ?_ | ((with_reducible first | refine hK _ _ ?_ | (clear hK; refine hK _ _ ?_) | (clear hK; clear hK; refine hK _ _ ?_)); clear hK; try clear K) | refine W ?_ | exact Z | with_reducible intro b)
          exact J x y u v ox oy ou ov (by grind) huv hres _ _ Z Z Z Z Z Z Z Z Z
  · rw [if_neg h]
    rw [Bool.not_eq_true] at h
    rw [h] at pV
    obtain ⟨⟨n1, e1, w1⟩, ⟨n2, e2, w2⟩⟩ := a
    obtain ⟨⟨n3, e3, w3⟩, ⟨n4, e4, w4⟩⟩ := b
    have d1 := @dl 6 qI9_27_6
    have d2 := @dr 7 qI9_27_7
    refine PB (rs := [.cell 6 26, .tmp 7]) Tryz.func27 ?_
    exact Wk
end Go.V
namespace Go.V
open Go Go.RowKit Go.Proofs

end Go.V
namespace Go.V
open Go Go.RowKit Go.Proofs
def qI11_34_3 : PT := (.lin [(0, 0), (1, 2), (2, 0), (3, 2), (4, 0), (5, 2), (8, 0)] (.mix [6, 7, 9, 10] [11] (.lin [(12, 3)] .nil)))
attribute [go_sem] qI11_34_3
/-- Half of a number. -/
def hfD (d : Dyadic) : Dyadic := d * dy false 1 (-1)
theorem hfD_val (x : Nu) : Nu.val ⟨x.neg, x.exp - 1, x.w⟩ = hfD x.val := by
  unfold hfD Nu.val
  rw [dy_mul]
  simp only [Bool.bne_false, Nat.mul_one]
  rfl
theorem Sz.half {k : Nat} {x : Nu} (h : Sz k x) : Sz (k + 1) ⟨x.neg, x.exp - 1, x.w⟩ := ⟨h.b, by have := h.len; simp only; omega, by have := h.lo; simp only; omega, by have := h.hi; simp only; omega⟩
/-- Between both ends, rounded down, but not below the lower one: 1 is ErrForm. -/
def mdI (a : Iv) (p : Int) : Nu × Int := if rightI a && okP p then numR (hiD a.lo.val (rd p.toNat false (hfD (a.lo.val + a.hi.val)))) else (nu0, 1)
theorem p_iMid {k : Nat} {a : Iv} {p : Int} (ha : Wi k a) : PC Tryz.prog 34 [IV a, i64 p] fun d => d = NE (mdI a p) := by
  have pA := p_iRight ha
  have pP := p_Valid (p := p)
  unfold mdI
  by_cases h : rightI a = true
  · by_cases h2 : okP p = true
    · rw [h, h2]
      rw [h] at pA
      rw [h2] at pP
      obtain ⟨m, rfl, h8, h256⟩ := okP_nat h2
      obtain ⟨x, y, ox, oy, hxy, rfl⟩ := rightI_is ha h
      have pS := p_eAdd ox.sz oy.sz (by decide)
      simp only [ivD, val_nuOf, Int.toNat_natCast, Bool.and_self, if_true] at *
      generalize hres : numR (hiD x (rd m false (hfD (x + y)))) = res
      have d1 := @dr 3 qI11_34_3
      refine PB (rs := [.cell 4 24, .tmp 5]) Tryz.func34 ?_
      repeat (first | with_reducible refine pv_seq fun K hK => ?_ | ((with_reducible first | refine hK _ _ ?_ | (clear hK; refine hK _ _ ?_) | (clear hK; clear hK; refine hK _ _ ?_)); clear hK; try clear K) | refine W ?_ | exact Z | with_reducible intro b)
      refine ExtC_is ?_
      simp -implicitDefEqProofs only [ft, go_sem, seval]
      refine PC.mono pS ?_
      rintro d ⟨z, rfl, hz, hv⟩
      have pH := p_eHalf hz (by decide)
      have hs := hz.half
      have hw : (Nu.val ⟨z.neg, z.exp - 1, z.w⟩) = hfD (x + y) := by rw [hfD_val, hv]
      have pV := p_roundE (p := m) (up := false) hs (by decide) (by omega)
      obtain ⟨neg2, exp2, w2⟩ := z
      simp only at pH hs hw pV
      repeat (first | with_reducible refine pv_seq fun K hK => ?_ | ((with_reducible first | refine hK _ _ ?_ | (clear hK; refine hK _ _ ?_) | (clear hK; clear hK; refine hK _ _ ?_)); clear hK; try clear K) | refine W ?_ | exact Z | with_reducible intro b)
      first | refine call_pc pV ?_ | (refine ExtC_is ?_; simp -implicitDefEqProofs only [ft, go_sem, seval]; refine PC.mono pV ?_)
      rintro d ⟨r, rfl, hr, hrv⟩
      rw [hw] at hrv
      have pG := p_greatest (ox.sz.mono (by decide)) hr (by decide)
      have gs := maxN_sz (ox.sz.mono (by decide)) hr
      have gv := maxN_val (nuOf x) r
      rw [val_nuOf, hrv] at gv
      rw [← gv] at hres
      generalize maxN (nuOf x) r = g at *
      have pM := p_nMake (neg := g.neg) gs.b (by have := gs.len; omega) (e := g.exp) (by have := gs.lo; have := gs.hi; unfold R64; omega)
      have gg : dy g.neg (N64 g.w) g.exp = g.val := rfl
      rw [gg] at pM
      generalize numR g.val = q at *
      subst hres
      obtain ⟨⟨s, e, w⟩, er⟩ := q
      obtain ⟨neg3, exp3, w3⟩ := r
      obtain ⟨neg4, exp4, w4⟩ := g
      exact Wk
    · rw [Bool.not_eq_true] at h2
      rw [h, h2]
      rw [h] at pA
      rw [h2] at pP
      simp only [Bool.and_false, Bool.false_eq_true, if_false]
      obtain ⟨⟨n1, e1, w1⟩, ⟨n2, e2, w2⟩⟩ := a
      have d1 := @dr 3 qI11_34_3
      refine PB (rs := [.cell 4 24, .tmp 5]) Tryz.func34 ?_
      exact Wk
  · rw [Bool.not_eq_true] at h
    rw [h]
    rw [h] at pA
    simp only [Bool.false_and, Bool.false_eq_true, if_false]
    obtain ⟨⟨n1, e1, w1⟩, ⟨n2, e2, w2⟩⟩ := a
    have d1 := @dr 3 qI11_34_3
    refine PB (rs := [.cell 4 24, .tmp 5]) Tryz.func34 ?_
    exact Wk
end Go.V
namespace Go.V
open Go Go.RowKit Go.Proofs
end Go.V

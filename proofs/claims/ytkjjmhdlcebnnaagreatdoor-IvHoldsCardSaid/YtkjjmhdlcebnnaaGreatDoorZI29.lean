/- The statement IvHolds of layer 5. -/
import Derived.Test.YtkjjmhdlcebnnaaGreatDoorZI27
set_option linter.unusedSimpArgs false
set_option linter.unusedVariables false
set_option maxRecDepth 100000
namespace Go.V
open Go Go.RowKit Go.Proofs
def qI29_7_5_0 : PT := (.lin [(0, 0), (1, 2), (3, 0)] (.fork4 2 3 (.lin [] (.fork3 4 4 (.lin [] (.fork3 5 3 (.lin [] (.fork 6 4 (.lin [(7, 4), (8, 3)] .nil) 7 4 (.lin [(6, 4), (8, 3)] .nil))) 6 4 (.lin [] (.fork 5 3 (.lin [(7, 4), (8, 3)] .nil) 7 4 (.lin [(5, 3), (8, 3)] .nil))) 7 4 (.lin [] (.fork 5 3 (.lin [(6, 4), (8, 3)] .nil) 6 4 (.lin [(5, 3), (8, 3)] .nil))))) 6 4 (.lin [] (.fork 4 4 (.lin [] (.fork 5 3 (.lin [(7, 4), (8, 3)] .nil) 7 4 (.lin [(5, 3), (8, 3)] .nil))) 7 4 (.lin [(4, 4), (5, 3), (8, 3)] .nil))) 7 4 (.lin [] (.fork 4 4 (.lin [] (.fork 5 3 (.lin [(6, 4), (8, 3)] .nil) 6 4 (.lin [(5, 3), (8, 3)] .nil))) 6 4 (.lin [(4, 4), (5, 3), (8, 3)] .nil))))) 4 4 (.lin [] (.fork3 2 3 (.lin [] (.fork3 5 3 (.lin [] (.fork 6 4 (.lin [(7, 4), (8, 3)] .nil) 7 4 (.lin [(6, 4), (8, 3)] .nil))) 6 4 (.lin [] (.fork 5 3 (.lin [(7, 4), (8, 3)] .nil) 7 4 (.lin [(5, 3), (8, 3)] .nil))) 7 4 (.lin [] (.fork 5 3 (.lin [(6, 4), (8, 3)] .nil) 6 4 (.lin [(5, 3), (8, 3)] .nil))))) 6 4 (.lin [] (.fork 2 3 (.lin [] (.fork 5 3 (.lin [(7, 4), (8, 3)] .nil) 7 4 (.lin [(5, 3), (8, 3)] .nil))) 7 4 (.lin [(2, 3), (5, 3), (8, 3)] .nil))) 7 4 (.lin [] (.fork 2 3 (.lin [] (.fork 5 3 (.lin [(6, 4), (8, 3)] .nil) 6 4 (.lin [(5, 3), (8, 3)] .nil))) 6 4 (.lin [(2, 3), (5, 3), (8, 3)] .nil))))) 6 4 (.lin [] (.fork3 2 3 (.lin [] (.fork 4 4 (.lin [] (.fork 5 3 (.lin [(7, 4), (8, 3)] .nil) 7 4 (.lin [(5, 3), (8, 3)] .nil))) 7 4 (.lin [(4, 4), (5, 3), (8, 3)] .nil))) 4 4 (.lin [] (.fork 2 3 (.lin [] (.fork 5 3 (.lin [(7, 4), (8, 3)] .nil) 7 4 (.lin [(5, 3), (8, 3)] .nil))) 7 4 (.lin [(2, 3), (5, 3), (8, 3)] .nil))) 7 4 (.lin [] (.fork 2 3 (.lin [(4, 4), (5, 3), (8, 3)] .nil) 4 4 (.lin [(2, 3), (5, 3), (8, 3)] .nil))))) 7 4 (.lin [] (.fork3 2 3 (.lin [] (.fork 4 4 (.lin [] (.fork 5 3 (.lin [(6, 4), (8, 3)] .nil) 6 4 (.lin [(5, 3), (8, 3)] .nil))) 6 4 (.lin [(4, 4), (5, 3), (8, 3)] .nil))) 4 4 (.lin [] (.fork 2 3 (.lin [] (.fork 5 3 (.lin [(6, 4), (8, 3)] .nil) 6 4 (.lin [(5, 3), (8, 3)] .nil))) 6 4 (.lin [(2, 3), (5, 3), (8, 3)] .nil))) 6 4 (.lin [] (.fork 2 3 (.lin [(4, 4), (5, 3), (8, 3)] .nil) 4 4 (.lin [(2, 3), (5, 3), (8, 3)] .nil)))))))
def qI29_7_5_1 : PT := (.lin [(9, 3)] .nil)
def qI29_7_21 : PT := (.lin [(0, 2), (1, 2), (3, 0)] (.fork 2 4 (.lin [] (.fork 4 3 (.lin [(5, 0), (6, 0), (7, 0), (8, 4), (9, 3), (10, 0)] .nil) 8 4 (.lin [(4, 3), (5, 0), (6, 0), (7, 0), (9, 3), (10, 0)] .nil))) 8 4 (.lin [(2, 4), (4, 3), (5, 0), (6, 0), (7, 0), (9, 3), (10, 0)] .nil)))
attribute [go_sem] qI29_7_5_0 qI29_7_5_1 qI29_7_21
/-- A quotient by the divisor brings the number back. -/
theorem dv_back {p k q : Nat} {x y u v t s : Dyadic} (hx : Sm k q x) (hy : Sm k q y) (hu : Sm k q u) (hv : Sm k q v) (hk : k ≤ 64) (hq : q ≤ 500) (h8 : 8 ≤ p) (h256 : p ≤ 256) (h1 : x ≤ t) (h2 : t ≤ y) (h3 : u ≤ s) (h4 : s ≤ v) (h0 : ¬ (u ≤ 0 ∧ 0 ≤ v)) :
    ∃ l h, OkD l ∧ OkD h ∧ Bx p 8000 l ∧ Bx p 8000 h ∧ l ≤ h ∧ dvI (ivD x y) (ivD u v) p = (ivD l h, 0) ∧ minP l h s s ≤ t ∧ t ≤ maxP l h s s := by
  have ok : ∀ {d : Dyadic}, Sm k q d → OkD d := fun h => h.ok hk (by omega)
  have hxy : x ≤ y := Dyadic.le_trans h1 h2
  have huv : u ≤ v := Dyadic.le_trans h3 h4
  rw [dvI_D (ok hx) (ok hy) (ok hu) (ok hv) hxy huv h8 h256, if_neg h0]
  by_cases hn : u < 0
  · have hp : 0 < -v := by
      by_cases hv0 : 0 ≤ v
      · exact absurd ⟨by grind, hv0⟩ h0
      · clear h0; grind
    clear h0
    rw [if_pos hn]
    have a := qlo_okS hy.neg hv.neg hu.neg (by omega) hq h8 h256
    have b := qhi_okS hx.neg hv.neg hu.neg (by omega) hq h8 h256
    have c1 := qlo_le (p := p) (a := -t) (b := -s) (x := -y) (u := -v) (v := -u) (by omega) hp (by grind) (by grind) (by grind)
    have c2 := qhi_ge (p := p) (a := -t) (b := -s) (y := -x) (u := -v) (v := -u) (by omega) hp (by grind) (by grind) (by grind)
    refine ⟨_, _, a.1, b.1, a.2, b.2, qlo_qhi (by omega) hp (by grind) (by grind), qoI_ok a.1 b.1, ?_, ?_⟩
    · have m := (minP_spec (qlo p (-y) (-v) (-u)) (qhi p (-x) (-v) (-u)) s s).1.2.2.1
      generalize qhi p (-x) (-v) (-u) = g at *
      grind
    · have m := (maxP_spec (qlo p (-y) (-v) (-u)) (qhi p (-x) (-v) (-u)) s s).1.1
      generalize qlo p (-y) (-v) (-u) = g at *
      grind
  · have hp : 0 < u := by
      by_cases hv0 : 0 ≤ v
      · by_cases hu0 : u ≤ 0
        · exact absurd ⟨hu0, hv0⟩ h0
        · clear h0; grind
      · clear h0; grind
    clear h0
    rw [if_neg hn]
    have a := qlo_okS hx hu hv (by omega) hq h8 h256
    have b := qhi_okS hy hu hv (by omega) hq h8 h256
    have c1 := qlo_le (p := p) (a := t) (b := s) (x := x) (u := u) (v := v) (by omega) hp h1 h3 h4
    have c2 := qhi_ge (p := p) (a := t) (b := s) (y := y) (u := u) (v := v) (by omega) hp h2 h3 h4
    refine ⟨_, _, a.1, b.1, a.2, b.2, qlo_qhi (by omega) hp hxy huv, qoI_ok a.1 b.1, ?_, ?_⟩
    · have m := (minP_spec (qlo p x u v) (qhi p y u v) s s).1.1
      exact Dyadic.le_trans m c1
    · have m := (maxP_spec (qlo p x u v) (qhi p y u v) s s).1.2.2.1
      exact Dyadic.le_trans c2 m
theorem bx_min {m l m' l' : Nat} {x y u v : Dyadic} (hx : Bx m l x) (hy : Bx m l y) (hu : Bx m' l' u) (hv : Bx m' l' v) : Bx (m + m') (l + l') (minP x y u v) := by
  rcases (minP_spec x y u v).2 with e | e | e | e <;> rw [e]
  · exact hx.mul hu
  · exact hx.mul hv
  · exact hy.mul hu
  · exact hy.mul hv
theorem bx_max {m l m' l' : Nat} {x y u v : Dyadic} (hx : Bx m l x) (hy : Bx m l y) (hu : Bx m' l' u) (hv : Bx m' l' v) : Bx (m + m') (l + l') (maxP x y u v) := by
  rcases (maxP_spec x y u v).2 with e | e | e | e <;> rw [e]
  · exact hx.mul hu
  · exact hx.mul hv
  · exact hy.mul hu
  · exact hy.mul hv
/-- An operation of intervals of small numbers, that holds a number. -/
theorem op_has {p k q : Nat} {x y u v l h z : Dyadic} (ox : OkD x) (oy : OkD y) (ou : OkD u) (ov : OkD v) (h8 : 8 ≤ p) (h256 : p ≤ 256) (hxy : x ≤ y) (huv : u ≤ v) (sl : Sm k q l) (sh : Sm k q h) (hk : k ≤ 2000) (hq : q ≤ 2000) (oz : OkD z) (c1 : l ≤ z) (c2 : z ≤ h) :
    ∃ L H, opI (ivD x y) (ivD u v) p l h = (ivD L H, 0) ∧ (PC Tryz.prog 32 [IV (ivD L H), NU (nuOf z)] fun d => d = bl true) := by
  have a := sl.rdOk (up := false) hk hq h8 h256
  have b := sh.rdOk (up := true) hk hq h8 h256
  refine ⟨_, _, opI_ok ox oy ou ov hxy huv h8 h256 a b, ?_⟩
  have pI := p_HasI (wi_D a b) (oz.sz).b
  rw [hasR_D a b oz (Dyadic.le_trans (dn_le p l) c1) (Dyadic.le_trans c2 (le_up p h))] at pI
  exact pI
set_option maxHeartbeats 4000000 in
theorem p_IvHolds {w : List Nat} (hb : B64 w) : PC Tryz.prog 7 [W64 w] fun d => d = bl true := by
  have pK := p_known5
  have d1 := @dj Tryz.prog 5 [qI29_7_5_0, qI29_7_5_1]
  have d2 := @dr 21 qI29_7_21
  refine PB (rs := [.tmp 2]) Tryz.func7 ?_
  repeat (first | with_reducible refine pv_seq fun K hK => ?_ | ((with_reducible first | refine hK _ _ ?_ | (clear hK; refine hK _ _ ?_) | (clear hK; clear hK; refine hK _ _ ?_)); clear hK; try clear K) | refine W ?_ | exact Z | with_reducible intro b)
  refine p_Of (fun b0 => ?_)
  repeat (first | with_reducible refine pv_seq fun K hK => ?_ | ((with_reducible first | refine hK _ _ ?_ | (clear hK; refine hK _ _ ?_) | (clear hK; clear hK; refine hK _ _ ?_)); clear hK; try clear K) | refine W0 ?_ | exact Z | with_reducible intro b)
  refine p_dSmallIv (i := 0) (by simp -implicitDefEqProofs only [updS, upS, if_true]; rfl) hb (by omega) (fun x y j1 sx sy hxy l1 => ?_)
  repeat (first | with_reducible refine pv_seq fun K hK => ?_ | ((with_reducible first | refine hK _ _ ?_ | (clear hK; refine hK _ _ ?_) | (clear hK; clear hK; refine hK _ _ ?_)); clear hK; try clear K) | refine W0 ?_ | exact Z | with_reducible intro b)
  refine p_dSmallIv (i := j1) (by simp -implicitDefEqProofs only [updS, upS, if_true]; rfl) hb (by omega) (fun u v j2 su sv huv l2 => ?_)
  repeat (first | with_reducible refine pv_seq fun K hK => ?_ | ((with_reducible first | refine hK _ _ ?_ | (clear hK; refine hK _ _ ?_) | (clear hK; clear hK; refine hK _ _ ?_)); clear hK; try clear K) | refine W0 ?_ | exact Z | with_reducible intro b)
  refine p_dPrec (i := j2) (by simp -implicitDefEqProofs only [updS, upS, if_true]; rfl) hb (by omega) (fun p j3 p1 p2 l3 => ?_)
  have ox := sx.ok (by decide) (by decide)
  have oy := sy.ok (by decide) (by decide)
  have ou := su.ok (by decide) (by decide)
  have ov := sv.ok (by decide) (by decide)
  repeat (first | with_reducible refine pv_seq fun K hK => ?_ | ((with_reducible first | refine hK _ _ ?_ | (clear hK; refine hK _ _ ?_) | (clear hK; clear hK; refine hK _ _ ?_)); clear hK; try clear K) | refine W0 ?_ | exact Z | with_reducible intro b)
  have J : ∀ (e : DEnv) (S : Store) (b4 b5 b7 b8 : Nat) (t s : Dyadic), InS x y t → InS u v s → e 6 = i64 p → e 4 = .ptr (.l 4) b4 0 0 6 → e 5 = .ptr (.l 5) b5 0 0 6 → e 7 = .ptr (.l 7) b7 0 0 3 → e 8 = .ptr (.l 8) b8 0 0 3 →
      S (.l 4) = some ⟨b4, 6, 0, [[bl (nuOf x).neg, i64 (nuOf x).exp, W64 (nuOf x).w, bl (nuOf y).neg, i64 (nuOf y).exp, W64 (nuOf y).w]]⟩ → S (.l 5) = some ⟨b5, 6, 0, [[bl (nuOf u).neg, i64 (nuOf u).exp, W64 (nuOf u).w, bl (nuOf v).neg, i64 (nuOf v).exp, W64 (nuOf v).w]]⟩ →
      S (.l 7) = some ⟨b7, 3, 0, [[bl (nuOf t).neg, i64 (nuOf t).exp, W64 (nuOf t).w]]⟩ → S (.l 8) = some ⟨b8, 3, 0, [[bl (nuOf s).neg, i64 (nuOf s).exp, W64 (nuOf s).w]]⟩ → K e S := by
    as_aux_lemma =>
    intro e S b4 b5 b7 b8 t s it is g6 g4 g5 g7 g8 s4 s5 s7 s8
    have st := it.sm sx sy
    have ss := is.sm su sv
    obtain ⟨t1, t2⟩ := it.in hxy
    obtain ⟨q1, q2⟩ := is.in huv
    have ot := st.ok (by decide) (by decide)
    have os := ss.ok (by decide) (by decide)
    have oa := (st.add ss).ok (by decide) (by decide)
    have ob := (st.sub ss).ok (by decide) (by decide)
    have oc := (st.mul ss).ok (by decide) (by decide)
    have od := (st.mul st).ok (by decide) (by decide)
    obtain ⟨L1, H1, e1, i1⟩ := op_has ox oy ou ov p1 p2 hxy huv (sx.add su) (sy.add sv) (by decide) (by decide) oa (by grind) (by grind)
    obtain ⟨L2, H2, e2, i2⟩ := op_has ox oy ou ov p1 p2 hxy huv (sx.sub sv) (sy.sub su) (by decide) (by decide) ob (by grind) (by grind)
    have mm := prod_in t1 t2 q1 q2
    obtain ⟨L3, H3, e3, i3⟩ := op_has ox oy ou ov p1 p2 hxy huv (minP_sm sx sy su sv) (maxP_sm sx sy su sv) (by decide) (by decide) oc mm.1 mm.2
    have pm := pow_in (k := 2) t1 t2
    have tt : powD t 2 = t * t := by show (1 * t) * t = t * t; grind
    rw [tt] at pm
    have a1 := (loP_sm (j := 2) sx sy).rdOk (up := false) (p := p) (by decide) (by decide) p1 p2
    have a2 := (hiP_sm (j := 2) sx sy).rdOk (up := true) (p := p) (by decide) (by decide) p1 p2
    have e4 := pwI_ok (p := p) ox oy hxy p1 p2 (by decide) a1 a2
    have i4 := p_HasI (wi_D a1 a2) (od.sz).b
    rw [hasR_D a1 a2 od (Dyadic.le_trans (dn_le p _) pm.1) (Dyadic.le_trans pm.2 (le_up p _))] at i4
    have wa := wi_D ox oy; have wb := wi_D ou ov
    have c1 := p_iAdd (p := p) wa wb; rw [ivD_l, ivD_h, ivD_l, ivD_h, e1] at c1
    have c2 := p_iSub (p := p) wa wb; rw [ivD_l, ivD_h, ivD_l, ivD_h, e2] at c2
    have c3 := p_iMul (p := p) wa wb; rw [ivD_l, ivD_h, ivD_l, ivD_h, e3] at c3
    have c4 := p_iPow (k := ((2 : Nat) : Int)) (p := p) wa; rw [e4] at c4
    have m1 := p_nAddD ot os; rw [numR_ok oa] at m1
    have m2 := p_nSubD ot os; rw [numR_ok ob] at m2
    have m3 := p_nMulD ot os; rw [numR_ok oc] at m3
    have m4 := p_nMulD ot ot; rw [numR_ok od] at m4
    have v1 := p_iDiv (p := p) wa wb
    have po := p_OfI (x := nuOf s) (by have := os.len; omega)
    clear e1 e2 e3 e4 mm pm tt a1 a2 oa ob oc od
    generalize rd p false (loP x y 2) = L4 at *
    generalize rd p true (hiP x y 2) = H4 at *
    by_cases h0 : u ≤ 0 ∧ 0 ≤ v
    · rw [dvI_D ox oy ou ov hxy huv p1 p2, if_pos h0] at v1
      have hz := p_HasI (x := nu0) wb (by intro x hx; cases hx)
      have hzt := hasR_D ou ov OkD.zero h0.1 h0.2
      rw [nuOf_zero] at hzt
      rw [hzt] at hz
      generalize t + s = r1 at *
      generalize t - s = r2 at *
      generalize t * s = r3 at *
      generalize t * t = r4 at *
      unfold iv0 nu0 at *
      unfold ivD at *
      have ft := And.intro g6 (And.intro g4 (And.intro g5 (And.intro g7 (And.intro g8 (And.intro s4 (And.intro s5 (And.intro s7 s8)))))))
      exact Wk
    · obtain ⟨l, h, ol, oh, bl1, bh1, hlh, y1, n1, n2⟩ := dv_back sx sy su sv (by decide) (by decide) p1 p2 t1 t2 q1 q2 h0
      rw [y1] at v1
      have bs := ss.bx
      have b1 := (bx_min bl1 bh1 bs bs).rd (up := false) (p := p) (by omega)
      have b2 := (bx_max bl1 bh1 bs bs).rd (up := true) (p := p) (by omega)
      have z1 := b1.ok (by omega) (by omega)
      have z2 := b2.ok (by omega) (by omega)
      have c5 := p_iMul (p := p) (wi_D ol oh) (wi_D os os); rw [ivD_l, ivD_h, ivD_l, ivD_h, opI_ok ol oh os os hlh (by grind) p1 p2 z1 z2] at c5
      have i5 := p_HasI (wi_D z1 z2) (ot.sz).b
      rw [hasR_D z1 z2 ot (Dyadic.le_trans (dn_le p _) n1) (Dyadic.le_trans n2 (le_up p _))] at i5
      clear b1 b2 z1 z2 n1 n2 y1 bl1 bh1 bs
      generalize rd p false (minP l h s s) = L5 at *
      generalize rd p true (maxP l h s s) = H5 at *
      generalize t + s = r1 at *
      generalize t - s = r2 at *
      generalize t * s = r3 at *
      generalize t * t = r4 at *
      unfold ivD at *
      have ft := And.intro g6 (And.intro g4 (And.intro g5 (And.intro g7 (And.intro g8 (And.intro s4 (And.intro s5 (And.intro s7 s8)))))))
      exact Wk
  clear hK
  repeat' (first | with_reducible refine pv_seq fun K hK => ?_ | ((with_reducible first | refine hK _ _ ?_ | (clear hK; refine hK _ _ ?_) | (clear hK; clear hK; refine hK _ _ ?_)); clear hK; try clear K) | refine W ?_ | exact Z | with_reducible intro b | with_reducible refine And.intro ?_ ?_ | (refine cj fun K hK => ?_) | (refine p_dIn (i := j3) (x := x) (y := y) (by simp -implicitDefEqProofs only [updS, upS, if_true]; rfl) hb (by omega) ox oy (fun t ot it => ?_)) | (refine p_dIn (i := j3 + 1) (x := u) (y := v) (by simp -implicitDefEqProofs only [updS, upS, if_true]; rfl) hb (by omega) ou ov (fun s os is => ?_)) | exact J _ _ _ _ _ _ t s it is Zr Zr Zr Zr Zr Zr Zr Zr Zr)
end Go.V

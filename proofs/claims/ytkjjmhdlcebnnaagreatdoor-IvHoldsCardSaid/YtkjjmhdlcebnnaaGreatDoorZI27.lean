/- Intervals of small numbers: what is reckoned of them fits; parts of the operands. -/
import Derived.Test.YtkjjmhdlcebnnaaGreatDoorZIH
set_option linter.unusedSimpArgs false
set_option linter.unusedVariables false
set_option maxRecDepth 100000
namespace Go.V
open Go Go.RowKit Go.Proofs

theorem Sm.zero {k p : Nat} : Sm k p 0 := ⟨0, by rw [show Dyadic.ofIntWithPrec 0 p = Go.V.dy false 0 (-(p : Int)) by unfold Go.V.dy; rw [Int.neg_neg]; rfl, dy0], Nat.two_pow_pos k⟩
theorem Sm.one : Sm 1 0 1 := ⟨1, by decide, by decide⟩
theorem powD_sm {k q : Nat} {x : Dyadic} (h : Sm k q x) : ∀ j, Sm (1 + k * j) (q * j) (powD x j)
  | 0 => Sm.one
  | j + 1 => by
    have := (powD_sm h j).mul h
    rw [show 1 + k * (j + 1) = 1 + k * j + k by rw [Nat.mul_add]; omega, show q * (j + 1) = q * j + q by rw [Nat.mul_add]; omega]
    exact this
theorem minP_sm {k q m r : Nat} {x y u v : Dyadic} (hx : Sm k q x) (hy : Sm k q y) (hu : Sm m r u) (hv : Sm m r v) : Sm (k + m) (q + r) (minP x y u v) := by
  rcases (minP_spec x y u v).2 with e | e | e | e <;> rw [e]
  · exact hx.mul hu
  · exact hx.mul hv
  · exact hy.mul hu
  · exact hy.mul hv
theorem maxP_sm {k q m r : Nat} {x y u v : Dyadic} (hx : Sm k q x) (hy : Sm k q y) (hu : Sm m r u) (hv : Sm m r v) : Sm (k + m) (q + r) (maxP x y u v) := by
  rcases (maxP_spec x y u v).2 with e | e | e | e <;> rw [e]
  · exact hx.mul hu
  · exact hx.mul hv
  · exact hy.mul hu
  · exact hy.mul hv
theorem loD_sm {k q : Nat} {x y : Dyadic} (hx : Sm k q x) (hy : Sm k q y) : Sm k q (loD x y) := by unfold loD; split <;> assumption
theorem hiD_sm {k q : Nat} {x y : Dyadic} (hx : Sm k q x) (hy : Sm k q y) : Sm k q (hiD x y) := by unfold hiD; split <;> assumption
theorem loP_sm {k q j : Nat} {x y : Dyadic} (hx : Sm k q x) (hy : Sm k q y) : Sm (1 + k * j) (q * j) (loP x y j) := by
  unfold loP; split
  · exact Sm.zero
  · exact loD_sm (powD_sm hx j) (powD_sm hy j)
theorem hiP_sm {k q j : Nat} {x y : Dyadic} (hx : Sm k q x) (hy : Sm k q y) : Sm (1 + k * j) (q * j) (hiP x y j) := hiD_sm (powD_sm hx j) (powD_sm hy j)
theorem Sm.rdOk {k q p : Nat} {up : Bool} {v : Dyadic} (h : Sm k q v) (hk : k ≤ 2000) (hq : q ≤ 2000) (h8 : 8 ≤ p) (h256 : p ≤ 256) : OkD (Go.V.rd p up v) := ((h.bx).rd (by omega)).ok (by omega) (by omega)
theorem outR_ok {p : Nat} {l h : Dyadic} (ol : OkD (rd p false l)) (oh : OkD (rd p true h)) : outR p l h = (ivD (rd p false l) (rd p true h), 0) := by
  unfold outR
  rw [numR_ok ol, numR_ok oh]; rfl
theorem rightI_yes {x y : Dyadic} (hx : OkD x) (hy : OkD y) (h : x ≤ y) : rightI (ivD x y) = true := by rw [rightI_D hx hy]; exact decide_eq_true h
theorem ivD_l {x y : Dyadic} : (ivD x y).lo.val = x := val_nuOf x
theorem ivD_h {x y : Dyadic} : (ivD x y).hi.val = y := val_nuOf y
theorem opI_ok {p : Nat} {x y u v l h : Dyadic} (ox : OkD x) (oy : OkD y) (ou : OkD u) (ov : OkD v) (hxy : x ≤ y) (huv : u ≤ v) (h8 : 8 ≤ p) (h256 : p ≤ 256) (ol : OkD (rd p false l)) (oh : OkD (rd p true h)) : opI (ivD x y) (ivD u v) p l h = (ivD (rd p false l) (rd p true h), 0) := by
  unfold opI
  rw [rightI_yes ox oy hxy, rightI_yes ou ov huv, okP_of h8 h256]
  exact outR_ok ol oh
theorem pwI_ok {p j : Nat} {x y : Dyadic} (ox : OkD x) (oy : OkD y) (hxy : x ≤ y) (h8 : 8 ≤ p) (h256 : p ≤ 256) (hj : j ≤ 8) (ol : OkD (rd p false (loP x y j))) (oh : OkD (rd p true (hiP x y j))) : pwI (ivD x y) (j : Int) p = (ivD (rd p false (loP x y j)) (rd p true (hiP x y j)), 0) := by
  unfold pwI
  rw [rightI_yes ox oy hxy, okP_of h8 h256, decide_eq_true (by omega), decide_eq_true (by omega), ivD_l, ivD_h]
  exact outR_ok ol oh
theorem dvI_D {p : Nat} {x y u v : Dyadic} (ox : OkD x) (oy : OkD y) (ou : OkD u) (ov : OkD v) (hxy : x ≤ y) (huv : u ≤ v) (h8 : 8 ≤ p) (h256 : p ≤ 256) : dvI (ivD x y) (ivD u v) p = if u ≤ 0 ∧ 0 ≤ v then (iv0, 3) else if u < 0 then qoI p (-y) (-x) (-v) (-u) else qoI p x y u v := by
  unfold dvI
  rw [rightI_yes ox oy hxy, rightI_yes ou ov huv, okP_of h8 h256, ivD_l, ivD_h, ivD_l, ivD_h]; rfl
theorem qoI_ok {p : Nat} {x y u v : Dyadic} (ol : OkD (qlo p x u v)) (oh : OkD (qhi p y u v)) : qoI p x y u v = (ivD (qlo p x u v) (qhi p y u v), 0) := by
  unfold qoI endR
  rw [numR_ok ol, numR_ok oh]; rfl
theorem Sm.neg {k q : Nat} {x : Dyadic} (h : Sm k q x) : Sm k q (-x) := by
  obtain ⟨z, rfl, hz⟩ := h
  refine ⟨-z, ?_, by omega⟩
  have h2 := owp_add z (-z) q
  rw [Int.add_right_neg, show Dyadic.ofIntWithPrec 0 q = 0 by
    rw [show Dyadic.ofIntWithPrec 0 q = Go.V.dy false 0 (-(q : Int)) by unfold Go.V.dy; rw [Int.neg_neg]; rfl, dy0]] at h2
  grind
theorem qlo_okS {k q p : Nat} {x u v : Dyadic} (hx : Sm k q x) (hu : Sm k q u) (hv : Sm k q v) (hk : k ≤ 500) (hq : q ≤ 500) (h8 : 8 ≤ p) (h256 : p ≤ 256) : OkD (qlo p x u v) ∧ Bx p 8000 (qlo p x u v) := by
  unfold qlo
  have h : Sm k q (if x < 0 then u else v) := by split <;> assumption
  have b := ((hx.bx).quo h.bx (p := p)).rd (up := false) (p := p) (by omega)
  exact ⟨b.ok (by omega) (by omega), b.mono (Nat.le_refl _) (by omega)⟩
theorem qhi_okS {k q p : Nat} {x u v : Dyadic} (hx : Sm k q x) (hu : Sm k q u) (hv : Sm k q v) (hk : k ≤ 500) (hq : q ≤ 500) (h8 : 8 ≤ p) (h256 : p ≤ 256) : OkD (qhi p x u v) ∧ Bx p 8000 (qhi p x u v) := by
  unfold qhi
  have h : Sm k q (if x < 0 then v else u) := by split <;> assumption
  have b := ((hx.bx).quo h.bx (p := p)).rd (up := true) (p := p) (by omega)
  exact ⟨b.ok (by omega) (by omega), b.mono (Nat.le_refl _) (by omega)⟩
theorem endsR_in {l h l' h' : Dyadic} (o1 : OkD l) (o2 : OkD h) (o3 : OkD l') (o4 : OkD h') (h1 : l ≤ l') (h2 : l' ≤ h') (h3 : h' ≤ h) : endsR (ivD l' h') (ivD l h) 0 = true := by
  unfold endsR
  rw [rightI_yes o3 o4 h2, rightI_yes o1 o2 (by grind), ivD_l, ivD_h, ivD_l, ivD_h]
  have e1 : (0 : Int) ≤ cmpD l' l := by rw [cmpD_0le]; exact h1
  have e2 : (0 : Int) ≤ cmpD h h' := by rw [cmpD_0le]; exact h3
  rw [decide_eq_true e1, decide_eq_true e2]; rfl
theorem qlo_qhi {p : Nat} {x y u v : Dyadic} (hp : 1 ≤ p) (hu : 0 < u) (hxy : x ≤ y) (huv : u ≤ v) : qlo p x u v ≤ qhi p y u v := by
  have h1 := qlo_le (a := x) (b := u) (v := v) (x := x) hp hu (by grind) (by grind) huv
  have h2 := qhi_ge (a := x) (b := u) (v := v) (y := y) hp hu hxy (by grind) huv
  exact (mul_le_r hu).1 (by grind)
/-- Quotients of intervals of small numbers, and of parts of them. -/
theorem dv_sub {p k q : Nat} {x y u v x' y' u' v' : Dyadic} (hx : Sm k q x) (hy : Sm k q y) (hu : Sm k q u) (hv : Sm k q v) (hx' : Sm k q x') (hy' : Sm k q y') (hu' : Sm k q u') (hv' : Sm k q v') (hk : k ≤ 64) (hq : q ≤ 500) (h8 : 8 ≤ p) (h256 : p ≤ 256)
    (h1 : x ≤ x') (h2 : x' ≤ y') (h3 : y' ≤ y) (h4 : u ≤ u') (h5 : u' ≤ v') (h6 : v' ≤ v) (h0 : ¬ (u ≤ 0 ∧ 0 ≤ v)) :
    ∃ l h l' h', OkD l ∧ OkD h ∧ OkD l' ∧ OkD h' ∧ l ≤ l' ∧ l' ≤ h' ∧ h' ≤ h ∧ dvI (ivD x y) (ivD u v) p = (ivD l h, 0) ∧ dvI (ivD x' y') (ivD u' v') p = (ivD l' h', 0) := by
  have ok : ∀ {d : Dyadic}, Sm k q d → OkD d := fun h => h.ok hk (by omega)
  rw [dvI_D (ok hx) (ok hy) (ok hu) (ok hv) (by grind) (by grind) h8 h256, dvI_D (ok hx') (ok hy') (ok hu') (ok hv') h2 h5 h8 h256, if_neg h0, if_neg (show ¬ (u' ≤ 0 ∧ 0 ≤ v') from fun h => h0 ⟨Dyadic.le_trans h4 h.1, Dyadic.le_trans h.2 h6⟩)]
  by_cases hn : u < 0
  · have hp : 0 < -v := by
      by_cases hv0 : 0 ≤ v
      · exact absurd ⟨by grind, hv0⟩ h0
      · clear h0; grind
    clear h0
    rw [if_pos hn, if_pos (by grind)]
    have a := (qlo_okS hy.neg hv.neg hu.neg (by omega) hq h8 h256).1
    have b := (qhi_okS hx.neg hv.neg hu.neg (by omega) hq h8 h256).1
    have a' := (qlo_okS hy'.neg hv'.neg hu'.neg (by omega) hq h8 h256).1
    have b' := (qhi_okS hx'.neg hv'.neg hu'.neg (by omega) hq h8 h256).1
    exact ⟨_, _, _, _, a, b, a', b', qlo_mono (by omega) hp (by grind) (by grind) (by grind) (by grind), qlo_qhi (by omega) (by grind) (by grind) (by grind), qhi_mono (by omega) hp (by grind) (by grind) (by grind) (by grind), qoI_ok a b, qoI_ok a' b'⟩
  · have hp : 0 < u := by
      by_cases hv0 : 0 ≤ v
      · by_cases hu0 : u ≤ 0
        · exact absurd ⟨hu0, hv0⟩ h0
        · clear h0; grind
      · clear h0; grind
    clear h0
    rw [if_neg hn, if_neg (by grind)]
    have a := (qlo_okS hx hu hv (by omega) hq h8 h256).1
    have b := (qhi_okS hy hu hv (by omega) hq h8 h256).1
    have a' := (qlo_okS hx' hu' hv' (by omega) hq h8 h256).1
    have b' := (qhi_okS hy' hu' hv' (by omega) hq h8 h256).1
    exact ⟨_, _, _, _, a, b, a', b', qlo_mono (by omega) hp h1 h4 h5 h6, qlo_qhi (by omega) (by grind) h2 h5, qhi_mono (by omega) hp h3 h4 h5 h6, qoI_ok a b, qoI_ok a' b'⟩
end Go.V

/- The statement IvLess of layer 5. -/
import Derived.Test.YtkjjmhdlcebnnaaGreatDoorZI27
set_option linter.unusedSimpArgs false
set_option linter.unusedVariables false
set_option maxRecDepth 100000
namespace Go.V
open Go Go.RowKit Go.Proofs
def qI28_6_5_0 : PT := (.lin [(0, 0), (1, 2), (3, 0)] (.fork4 2 3 (.lin [] (.fork3 4 4 (.lin [] (.fork3 5 3 (.lin [] (.fork 6 4 (.lin [(7, 4), (8, 3)] .nil) 7 4 (.lin [(6, 4), (8, 3)] .nil))) 6 4 (.lin [] (.fork 5 3 (.lin [(7, 4), (8, 3)] .nil) 7 4 (.lin [(5, 3), (8, 3)] .nil))) 7 4 (.lin [] (.fork 5 3 (.lin [(6, 4), (8, 3)] .nil) 6 4 (.lin [(5, 3), (8, 3)] .nil))))) 6 4 (.lin [] (.fork 4 4 (.lin [] (.fork 5 3 (.lin [(7, 4), (8, 3)] .nil) 7 4 (.lin [(5, 3), (8, 3)] .nil))) 7 4 (.lin [(4, 4), (5, 3), (8, 3)] .nil))) 7 4 (.lin [] (.fork 4 4 (.lin [] (.fork 5 3 (.lin [(6, 4), (8, 3)] .nil) 6 4 (.lin [(5, 3), (8, 3)] .nil))) 6 4 (.lin [(4, 4), (5, 3), (8, 3)] .nil))))) 4 4 (.lin [] (.fork3 2 3 (.lin [] (.fork3 5 3 (.lin [] (.fork 6 4 (.lin [(7, 4), (8, 3)] .nil) 7 4 (.lin [(6, 4), (8, 3)] .nil))) 6 4 (.lin [] (.fork 5 3 (.lin [(7, 4), (8, 3)] .nil) 7 4 (.lin [(5, 3), (8, 3)] .nil))) 7 4 (.lin [] (.fork 5 3 (.lin [(6, 4), (8, 3)] .nil) 6 4 (.lin [(5, 3), (8, 3)] .nil))))) 6 4 (.lin [] (.fork 2 3 (.lin [] (.fork 5 3 (.lin [(7, 4), (8, 3)] .nil) 7 4 (.lin [(5, 3), (8, 3)] .nil))) 7 4 (.lin [(2, 3), (5, 3), (8, 3)] .nil))) 7 4 (.lin [] (.fork 2 3 (.lin [] (.fork 5 3 (.lin [(6, 4), (8, 3)] .nil) 6 4 (.lin [(5, 3), (8, 3)] .nil))) 6 4 (.lin [(2, 3), (5, 3), (8, 3)] .nil))))) 6 4 (.lin [] (.fork3 2 3 (.lin [] (.fork 4 4 (.lin [] (.fork 5 3 (.lin [(7, 4), (8, 3)] .nil) 7 4 (.lin [(5, 3), (8, 3)] .nil))) 7 4 (.lin [(4, 4), (5, 3), (8, 3)] .nil))) 4 4 (.lin [] (.fork 2 3 (.lin [] (.fork 5 3 (.lin [(7, 4), (8, 3)] .nil) 7 4 (.lin [(5, 3), (8, 3)] .nil))) 7 4 (.lin [(2, 3), (5, 3), (8, 3)] .nil))) 7 4 (.lin [] (.fork 2 3 (.lin [(4, 4), (5, 3), (8, 3)] .nil) 4 4 (.lin [(2, 3), (5, 3), (8, 3)] .nil))))) 7 4 (.lin [] (.fork3 2 3 (.lin [] (.fork 4 4 (.lin [] (.fork 5 3 (.lin [(6, 4), (8, 3)] .nil) 6 4 (.lin [(5, 3), (8, 3)] .nil))) 6 4 (.lin [(4, 4), (5, 3), (8, 3)] .nil))) 4 4 (.lin [] (.fork 2 3 (.lin [] (.fork 5 3 (.lin [(6, 4), (8, 3)] .nil) 6 4 (.lin [(5, 3), (8, 3)] .nil))) 6 4 (.lin [(2, 3), (5, 3), (8, 3)] .nil))) 6 4 (.lin [] (.fork 2 3 (.lin [(4, 4), (5, 3), (8, 3)] .nil) 4 4 (.lin [(2, 3), (5, 3), (8, 3)] .nil)))))))
def qI28_6_5_1 : PT := (.lin [(9, 3)] .nil)
attribute [go_sem] qI28_6_5_0 qI28_6_5_1
theorem ge_lo {a b c : Dyadic} (h1 : c ≤ a) (h2 : c ≤ b) : c ≤ loD a b := by unfold loD; split <;> assumption
theorem le_hi {a b c : Dyadic} (h1 : a ≤ c) (h2 : b ≤ c) : hiD a b ≤ c := by unfold hiD; split <;> assumption
theorem tmod9 {k : Nat} : ((k : Int).tmod 9) = ((k % 9 : Nat) : Int) := by rw [Int.tmod_eq_emod_of_nonneg (by omega)]; omega
/-- An operation of intervals of small numbers, and of parts of them: what comes of it, and that it lies within. -/
theorem op_sub {p k q : Nat} {x y u v x' y' u' v' l h l' h' : Dyadic} (ox : OkD x) (oy : OkD y) (ou : OkD u) (ov : OkD v) (ox' : OkD x') (oy' : OkD y') (ou' : OkD u') (ov' : OkD v') (h8 : 8 ≤ p) (h256 : p ≤ 256)
    (h1 : x ≤ x') (h2 : x' ≤ y') (h3 : y' ≤ y) (h4 : u ≤ u') (h5 : u' ≤ v') (h6 : v' ≤ v) (sl : Sm k q l) (sh : Sm k q h) (sl' : Sm k q l') (sh' : Sm k q h') (hk : k ≤ 2000) (hq : q ≤ 2000) (c1 : l ≤ l') (c2 : l' ≤ h') (c3 : h' ≤ h) :
    ∃ L H L' H', opI (ivD x y) (ivD u v) p l h = (ivD L H, 0) ∧ opI (ivD x' y') (ivD u' v') p l' h' = (ivD L' H', 0) ∧ (PC Tryz.prog 26 [IV (ivD L' H'), IV (ivD L H)] fun d => d = bl true) := by
  have a := sl.rdOk (up := false) hk hq h8 h256
  have b := sh.rdOk (up := true) hk hq h8 h256
  have a' := sl'.rdOk (up := false) hk hq h8 h256
  have b' := sh'.rdOk (up := true) hk hq h8 h256
  refine ⟨_, _, _, _, opI_ok ox oy ou ov (by grind) (by grind) h8 h256 a b, opI_ok ox' oy' ou' ov' h2 h5 h8 h256 a' b', ?_⟩
  have pI := p_InI (wi_D a' b') (wi_D a b)
  have d1 := dn_le p l'
  have d2 := le_up p h'
  rw [endsR_in a b a' b' (rd_mono (by omega) c1) (by grind) (rd_mono (by omega) c3)] at pI
  exact pI
set_option maxHeartbeats 4000000 in
theorem p_IvLess {w : List Nat} {k0 : Int} (hb : B64 w) (hk0 : (Lit.int .u8 k0).wf = true) : PC Tryz.prog 6 [W64 w, .g (.lit (.int .u8 k0))] fun d => d = bl true := by
  have pK := p_known5
  obtain ⟨k, rfl, hk⟩ : ∃ k : Nat, k0 = k ∧ k < 256 := ⟨k0.toNat, by simp [Lit.wf, IntKind.min, IntKind.max, IntKind.signed, IntKind.bits] at hk0; omega, by simp [Lit.wf, IntKind.min, IntKind.max, IntKind.signed, IntKind.bits] at hk0; omega⟩
  clear hk0
  have d1 := @dj Tryz.prog 5 [qI28_6_5_0, qI28_6_5_1]
  refine PB (rs := [.tmp 4]) Tryz.func6 ?_
  repeat (first | with_reducible refine pv_seq fun K hK => ?_ | ((with_reducible first | refine hK _ _ ?_ | (clear hK; refine hK _ _ ?_) | (clear hK; clear hK; refine hK _ _ ?_)); clear hK; try clear K) | refine W ?_ | exact Z | with_reducible intro b)
  refine p_Of (fun b0 => ?_)
  repeat (first | with_reducible refine pv_seq fun K hK => ?_ | ((with_reducible first | refine hK _ _ ?_ | (clear hK; refine hK _ _ ?_) | (clear hK; clear hK; refine hK _ _ ?_)); clear hK; try clear K) | refine W0 ?_ | exact Z | with_reducible intro b)
  refine p_dSmallIv (i := 0) (by simp -implicitDefEqProofs only [updS, upS, if_true]; rfl) hb (by omega) (fun x y j1 sx sy hxy l1 => ?_)
  repeat (first | with_reducible refine pv_seq fun K hK => ?_ | ((with_reducible first | refine hK _ _ ?_ | (clear hK; refine hK _ _ ?_) | (clear hK; clear hK; refine hK _ _ ?_)); clear hK; try clear K) | refine W0 ?_ | exact Z | with_reducible intro b)
  refine p_dSmallIv (i := j1) (by simp -implicitDefEqProofs only [updS, upS, if_true]; rfl) hb (by omega) (fun u v j2 su sv huv l2 => ?_)
  repeat (first | with_reducible refine pv_seq fun K hK => ?_ | ((with_reducible first | refine hK _ _ ?_ | (clear hK; refine hK _ _ ?_) | (clear hK; clear hK; refine hK _ _ ?_)); clear hK; try clear K) | refine W0 ?_ | exact Z | with_reducible intro b)
  refine p_dPrec (i := j2) (by simp -implicitDefEqProofs only [updS, upS, if_true]; rfl) hb (by omega) (fun p j3 p1 p2 l3 => ?_)
  have ox := sx.ok (by decide) (by decide)
  have oy := sy.ok (by decide) (by decide)
  have ou := su.ok (by decide) (by decide)
  have ov := sv.ok (by decide) (by decide)
  repeat (first | with_reducible refine pv_seq fun K hK => ?_ | ((with_reducible first | refine hK _ _ ?_ | (clear hK; refine hK _ _ ?_) | (clear hK; clear hK; refine hK _ _ ?_)); clear hK; try clear K) | refine W0 ?_ | exact Z | with_reducible intro b)
  have J : ∀ (e : DEnv) (S : Store) (b6 b7 b9 b10 : Nat) (x' y' u' v' : Dyadic), Sm 18 9 x' → Sm 18 9 y' → Sm 18 9 u' → Sm 18 9 v' → x ≤ x' → x' ≤ y' → y' ≤ y → u ≤ u' → u' ≤ v' → v' ≤ v → e 8 = i64 p → e 1 = .g (.lit (.int .u8 (k : Int))) →
      e 6 = .ptr (.l 6) b6 0 0 6 → e 7 = .ptr (.l 7) b7 0 0 6 → e 9 = .ptr (.l 9) b9 0 0 6 → e 10 = .ptr (.l 10) b10 0 0 6 → S (.l 6) = some ⟨b6, 6, 0, [[bl (nuOf x).neg, i64 (nuOf x).exp, W64 (nuOf x).w, bl (nuOf y).neg, i64 (nuOf y).exp, W64 (nuOf y).w]]⟩ →
      S (.l 7) = some ⟨b7, 6, 0, [[bl (nuOf u).neg, i64 (nuOf u).exp, W64 (nuOf u).w, bl (nuOf v).neg, i64 (nuOf v).exp, W64 (nuOf v).w]]⟩ → S (.l 9) = some ⟨b9, 6, 0, [[bl (nuOf x').neg, i64 (nuOf x').exp, W64 (nuOf x').w, bl (nuOf y').neg, i64 (nuOf y').exp, W64 (nuOf y').w]]⟩ →
      S (.l 10) = some ⟨b10, 6, 0, [[bl (nuOf u').neg, i64 (nuOf u').exp, W64 (nuOf u').w, bl (nuOf v').neg, i64 (nuOf v').exp, W64 (nuOf v').w]]⟩ → K e S := by
    as_aux_lemma =>
    intro e S b6 b7 b9 b10 x' y' u' v' sx' sy' su' sv' h1 h2 h3 h4 h5 h6 g8 g1 g6 g7 g9 g10 s6 s7 s9 s10
    have ox' := sx'.ok (by decide) (by decide)
    have oy' := sy'.ok (by decide) (by decide)
    have ou' := su'.ok (by decide) (by decide)
    have ov' := sv'.ok (by decide) (by decide)
    have up : ∀ {d : Dyadic}, Sm 14 6 d → Sm 18 9 d := fun h => InS.sm (x := _) (y := _) (.inl rfl) h h
    have sx := up sx; have sy := up sy; have su := up su; have sv := up sv
    obtain ⟨L1, H1, L2, H2, e1, e2, i1⟩ := op_sub ox oy ou ov ox' oy' ou' ov' p1 p2 h1 h2 h3 h4 h5 h6 (sx.add su) (sy.add sv) (sx'.add su') (sy'.add sv') (by decide) (by decide) (by grind) (by grind) (by grind)
    obtain ⟨L3, H3, L4, H4, e3, e4, i2⟩ := op_sub ox oy ou ov ox' oy' ou' ov' p1 p2 h1 h2 h3 h4 h5 h6 (sx.sub sv) (sy.sub su) (sx'.sub sv') (sy'.sub su') (by decide) (by decide) (by grind) (by grind) (by grind)
    have mm := minP_mono h1 h2 h3 h4 h5 h6
    have mn := (prod_in (x := x') (y := y') (u := u') (v := v') (a := x') (b := u') (by grind) h2 (by grind) h5)
    obtain ⟨L5, H5, L6, H6, e5, e6, i3⟩ := op_sub ox oy ou ov ox' oy' ou' ov' p1 p2 h1 h2 h3 h4 h5 h6 (minP_sm sx sy su sv) (maxP_sm sx sy su sv) (minP_sm sx' sy' su' sv') (maxP_sm sx' sy' su' sv') (by decide) (by decide) mm.1 (by grind) mm.2
    have hj : k % 9 ≤ 8 := by omega
    have pm := pow_mono (k := k % 9) h1 h2 h3
    have pn := pow_in (k := k % 9) (x := x') (y := y') (t := x') (by grind) h2
    have hb1 : 1 + 18 * (k % 9) ≤ 2000 := by omega
    have hb2 : 9 * (k % 9) ≤ 2000 := by omega
    have a1 := (loP_sm (j := k % 9) sx sy).rdOk (up := false) hb1 hb2 p1 p2
    have a2 := (hiP_sm (j := k % 9) sx sy).rdOk (up := true) hb1 hb2 p1 p2
    have a3 := (loP_sm (j := k % 9) sx' sy').rdOk (up := false) hb1 hb2 p1 p2
    have a4 := (hiP_sm (j := k % 9) sx' sy').rdOk (up := true) hb1 hb2 p1 p2
    have e7 := pwI_ok ox oy (by grind) p1 p2 hj a1 a2
    have e8 := pwI_ok ox' oy' h2 p1 p2 hj a3 a4
    have i4 := p_InI (wi_D a3 a4) (wi_D a1 a2)
    have n1 := dn_le p (loP x' y' (k % 9))
    have n2 := le_up p (hiP x' y' (k % 9))
    rw [endsR_in a1 a2 a3 a4 (rd_mono (by omega) pm.1) (by grind) (rd_mono (by omega) pm.2)] at i4
    have wa := wi_D ox oy; have wb := wi_D ou ov; have wc := wi_D ox' oy'; have wd := wi_D ou' ov'
    have c1 := p_iAdd (p := p) wa wb; rw [ivD_l, ivD_h, ivD_l, ivD_h, e1] at c1
    have c2 := p_iAdd (p := p) wc wd; rw [ivD_l, ivD_h, ivD_l, ivD_h, e2] at c2
    have c3 := p_iSub (p := p) wa wb; rw [ivD_l, ivD_h, ivD_l, ivD_h, e3] at c3
    have c4 := p_iSub (p := p) wc wd; rw [ivD_l, ivD_h, ivD_l, ivD_h, e4] at c4
    have c5 := p_iMul (p := p) wa wb; rw [ivD_l, ivD_h, ivD_l, ivD_h, e5] at c5
    have c6 := p_iMul (p := p) wc wd; rw [ivD_l, ivD_h, ivD_l, ivD_h, e6] at c6
    have c7 := p_iPow (k := ((k % 9 : Nat) : Int)) (p := p) wa; rw [e7] at c7
    have c8 := p_iPow (k := ((k % 9 : Nat) : Int)) (p := p) wc; rw [e8] at c8
    have v1 := p_iDiv (p := p) wa wb
    have v2 := p_iDiv (p := p) wc wd
    have f1 := i64w (n := k) (by omega)
    have f2 := tmod9 (k := k)
    by_cases h0 : u ≤ 0 ∧ 0 ≤ v
    · rw [dvI_D ox oy ou ov (by grind) (by grind) p1 p2, if_pos h0] at v1
      clear e1 e2 e3 e4 e5 e6 e7 e8 mm mn pm pn n1 n2 a1 a2 a3 a4 h1 h2 h3 h4 h5 h6 hb1 hb2
      generalize k % 9 = j at *
      generalize rd p false (loP x y j) = L7 at *
      generalize rd p true (hiP x y j) = H7 at *
      generalize rd p false (loP x' y' j) = L8 at *
      generalize rd p true (hiP x' y' j) = H8 at *
      unfold iv0 nu0 at *
      unfold ivD at *
      have ft := And.intro g8 (And.intro g1 (And.intro g6 (And.intro g7 (And.intro g9 (And.intro g10 (And.intro s6 (And.intro s7 (And.intro s9 (And.intro s10 (And.intro f1 f2))))))))))
      exact Wk
    · obtain ⟨l, h, l', h', ol, oh, ol', oh', q1, q2, q3, y1, y2⟩ := dv_sub sx sy su sv sx' sy' su' sv' (by decide) (by decide) p1 p2 h1 h2 h3 h4 h5 h6 h0
      rw [y1] at v1
      rw [y2] at v2
      have i5 := p_InI (wi_D ol' oh') (wi_D ol oh)
      rw [endsR_in ol oh ol' oh' q1 q2 q3] at i5
      clear e1 e2 e3 e4 e5 e6 e7 e8 mm mn pm pn n1 n2 a1 a2 a3 a4 h1 h2 h3 h4 h5 h6 hb1 hb2 y1 y2 q1 q2 q3
      generalize k % 9 = j at *
      generalize rd p false (loP x y j) = L7 at *
      generalize rd p true (hiP x y j) = H7 at *
      generalize rd p false (loP x' y' j) = L8 at *
      generalize rd p true (hiP x' y' j) = H8 at *
      unfold ivD at *
      have ft := And.intro g8 (And.intro g1 (And.intro g6 (And.intro g7 (And.intro g9 (And.intro g10 (And.intro s6 (And.intro s7 (And.intro s9 (And.intro s10 (And.intro f1 f2))))))))))
      exact Wk
  clear hK
  repeat' (first | with_reducible refine pv_seq fun K hK => ?_ | ((with_reducible first | refine hK _ _ ?_ | (clear hK; refine hK _ _ ?_) | (clear hK; clear hK; refine hK _ _ ?_)); clear hK; try clear K) | refine W ?_ | exact Z | with_reducible intro b | with_reducible refine And.intro ?_ ?_ | (refine cj fun K hK => ?_) | (refine p_dPart (i := j3) (x := x) (y := y) (by simp -implicitDefEqProofs only [updS, upS, if_true]; rfl) hb (by omega) ox oy (fun t1 t2 o1 o2 i1 i2 => ?_)) | (refine p_dPart (i := j3 + 2) (x := u) (y := v) (by simp -implicitDefEqProofs only [updS, upS, if_true]; rfl) hb (by omega) ou ov (fun t3 t4 o3 o4 i3 i4 => ?_)) | exact J _ _ _ _ _ _ (loD t1 t2) (hiD t1 t2) (loD t3 t4) (hiD t3 t4) (loD_sm (i1.sm sx sy) (i2.sm sx sy)) (hiD_sm (i1.sm sx sy) (i2.sm sx sy)) (loD_sm (i3.sm su sv) (i4.sm su sv)) (hiD_sm (i3.sm su sv) (i4.sm su sv)) (ge_lo (i1.in hxy).1 (i2.in hxy).1) (lo_le_hi _ _) (le_hi (i1.in hxy).2 (i2.in hxy).2) (ge_lo (i3.in huv).1 (i4.in huv).1) (lo_le_hi _ _) (le_hi (i3.in huv).2 (i4.in huv).2) Zr Zr Zr Zr Zr Zr Zr Zr Zr Zr)
end Go.V

/- The statements' own small functions of layer 5: parts, four. -/
import Derived.Test.YtkjjmhdlcebnnaaGreatDoorZIF
set_option linter.unusedSimpArgs false
set_option linter.unusedVariables false
set_option maxRecDepth 100000
namespace Go.V
open Go Go.RowKit Go.Proofs
def qI21_43_9 : List (Nat × Nat) := [(0, 0), (1, 0), (2, 0), (3, 0), (4, 0), (5, 0), (6, 0), (7, 0), (8, 0), (9, 0), (10, 0), (11, 0), (12, 0), (13, 0), (14, 1), (15, 1), (16, 3), (17, 0), (18, 0), (19, 1), (20, 1), (21, 3), (22, 0), (23, 0), (24, 1), (25, 1), (26, 3), (27, 0), (28, 0), (29, 1), (31, 2), (30, 4), (32, 3), (33, 0), (34, 0), (35, 0), (36, 1), (37, 1), (39, 2), (40, 2), (38, 4), (41, 3), (42, 0), (43, 0), (44, 0), (45, 1), (46, 1), (48, 2), (49, 2), (47, 4), (50, 3), (51, 0), (52, 0), (53, 0), (54, 1), (55, 1), (57, 2), (58, 2), (56, 4), (59, 3), (60, 0), (61, 0), (62, 0), (63, 1), (64, 1), (66, 2), (67, 2), (65, 4), (68, 3), (69, 0), (70, 0), (71, 0), (72, 1), (74, 2), (73, 4), (75, 3), (76, 3), (77, 0), (78, 0), (79, 1), (81, 2), (80, 4), (82, 3), (83, 3), (84, 0), (85, 0), (86, 1), (88, 2), (87, 4), (89, 3), (90, 3), (91, 0), (92, 0)]
attribute [go_sem] qI21_43_9
structure Ln (a : Iv) : Prop where
  lo : a.lo.w.length ≤ 1099511627776
  hi : a.hi.w.length ≤ 1099511627776
theorem Ln.zero : Ln iv0 := ⟨by decide, by decide⟩
theorem endR_len {l h : Dyadic} : Ln (endR l h).1 := by
  unfold endR
  repeat' split
  all_goals first | exact Ln.zero | exact ⟨numR_len, numR_len⟩
theorem outR_len {p : Nat} {l h : Dyadic} : Ln (outR p l h).1 := by rw [outR_end]; exact endR_len
theorem opI_len {a b : Iv} {p : Int} {l h : Dyadic} : Ln (opI a b p l h).1 := by
  unfold opI; split
  · exact outR_len
  · exact Ln.zero
theorem dvI_len {a b : Iv} {p : Int} : Ln (dvI a b p).1 := by
  unfold dvI qoI
  repeat' split
  all_goals first | exact Ln.zero | exact endR_len
theorem pwI_len {a : Iv} {k p : Int} : Ln (pwI a k p).1 := by
  unfold pwI; split
  · exact outR_len
  · exact Ln.zero
theorem nuOf_len {d : Dyadic} (h : OkD d) : (nuOf d).w.length ≤ 1099511627776 := by have := h.len; omega
theorem ivD_len {x y : Dyadic} (hx : OkD x) (hy : OkD y) : Ln (ivD x y) := ⟨nuOf_len hx, nuOf_len hy⟩
theorem same_ln {a : Iv} (h : Ln a) : PC Tryz.prog 20 [IV a, IV a] fun d => d = bl true := same_iv h.lo h.hi
set_option maxHeartbeats 2000000 in
theorem p_four5 {k : Nat} {a b : Iv} {p : Int} (ha : Wi k a) (hb : Wi k b) : PC Tryz.prog 14 [IV a, IV b, i64 p] fun d => d = bl true := by
  have pA := p_iAdd (p := p) ha hb
  have pS := p_iSub (p := p) ha hb
  have pM := p_iMul (p := p) ha hb
  have pD := p_iDiv (p := p) ha hb
  have qA := p_rOpS (p := p) ha hb
  have qS := p_rOpD (p := p) ha hb
  have qM := p_rOpP (p := p) ha hb
  have qD := p_rOpQ (p := p) ha hb
  have eA := same_ln (opI_len (a := a) (b := b) (p := p) (l := a.lo.val + b.lo.val) (h := a.hi.val + b.hi.val))
  have eS := same_ln (opI_len (a := a) (b := b) (p := p) (l := a.lo.val - b.hi.val) (h := a.hi.val - b.lo.val))
  have eM := same_ln (opI_len (a := a) (b := b) (p := p) (l := minP a.lo.val a.hi.val b.lo.val b.hi.val) (h := maxP a.lo.val a.hi.val b.lo.val b.hi.val))
  have eD := same_ln (dvI_len (a := a) (b := b) (p := p))
  generalize opI a b p (a.lo.val + b.lo.val) (a.hi.val + b.hi.val) = x at *
  generalize opI a b p (a.lo.val - b.hi.val) (a.hi.val - b.lo.val) = y at *
  generalize opI a b p (minP a.lo.val a.hi.val b.lo.val b.hi.val) (maxP a.lo.val a.hi.val b.lo.val b.hi.val) = z at *
  generalize dvI a b p = t at *
  obtain ⟨⟨⟨n1, e1, w1⟩, ⟨n2, e2, w2⟩⟩, r1⟩ := x
  obtain ⟨⟨⟨n3, e3, w3⟩, ⟨n4, e4, w4⟩⟩, r2⟩ := y
  obtain ⟨⟨⟨n5, e5, w5⟩, ⟨n6, e6, w6⟩⟩, r3⟩ := z
  obtain ⟨⟨⟨n7, e7, w7⟩, ⟨n8, e8, w8⟩⟩, r4⟩ := t
  obtain ⟨⟨m1, f1, v1⟩, ⟨m2, f2, v2⟩⟩ := a
  obtain ⟨⟨m3, f3, v3⟩, ⟨m4, f4, v4⟩⟩ := b
  have k1 : (r1 = r1) = True := eq_true rfl
  have k2 : (r2 = r2) = True := eq_true rfl
  have k3 : (r3 = r3) = True := eq_true rfl
  have k4 : (r4 = r4) = True := eq_true rfl
  refine PB (rs := [.tmp 6]) Tryz.func14 ?_
  have ft := And.intro k1 (And.intro k2 (And.intro k3 k4))
  exact Wk
theorem hullR_len {k : Nat} {a b : Iv} (ha : Wi k a) (hb : Wi k b) : Ln (hullR a b).1 := by
  unfold hullR
  split
  · rename_i h
    rw [Bool.and_eq_true] at h
    obtain ⟨x, y, ox, oy, hxy, rfl⟩ := rightI_is ha h.1
    obtain ⟨u, v, ou, ov, huv, rfl⟩ := rightI_is hb h.2
    unfold ivD
    simp only [val_nuOf]
    exact ivD_len (loD_ok ox ou) (hiD_ok oy ov)
  · exact Ln.zero
theorem meetR_len {k : Nat} {a b : Iv} (ha : Wi k a) (hb : Wi k b) : Ln (meetR a b).1 := by
  unfold meetR
  split
  · rename_i h
    rw [Bool.and_eq_true] at h
    obtain ⟨x, y, ox, oy, hxy, rfl⟩ := rightI_is ha h.1
    obtain ⟨u, v, ou, ov, huv, rfl⟩ := rightI_is hb h.2
    unfold ivD
    simp only [val_nuOf]
    split
    · exact Ln.zero
    · exact ivD_len (hiD_ok ox ou) (loD_ok oy ov)
  · exact Ln.zero
theorem negI_len {k : Nat} {a : Iv} (ha : Wi k a) : Ln (negI a) := by
  unfold negI
  split
  · rename_i h
    obtain ⟨x, y, ox, oy, hxy, rfl⟩ := rightI_is ha h
    unfold ivD
    simp only [val_nuOf]
    exact ivD_len (neg_ok oy) (neg_ok ox)
  · exact Ln.zero
theorem magI_len {k : Nat} {a : Iv} (ha : Wi k a) : (magI a).w.length ≤ 1099511627776 := by
  unfold magI
  split
  · rename_i h
    obtain ⟨x, y, ox, oy, hxy, rfl⟩ := rightI_is ha h
    unfold ivD
    simp only [val_nuOf]
    exact nuOf_len (hiD_ok (abs_ok ox) (abs_ok oy))
  · decide
set_option maxHeartbeats 4000000 in
theorem p_parts {k : Nat} {a b : Iv} {x : Nu} (ha : Wi k a) (hb : Wi k b) (hx : Wl k x) (hk : k ≤ 1099511627776) : PC Tryz.prog 43 [IV a, IV b, NU x] fun d => d = bl true := by
  have la : Ln a := ⟨Nat.le_trans ha.lo.len hk, Nat.le_trans ha.hi.len hk⟩
  have lx : x.w.length ≤ 1099511627776 := Nat.le_trans hx.len hk
  have wm : Wi k ⟨x, a.hi⟩ := ⟨hx, ha.hi⟩
  have c1 := p_HullI ha hb
  have c2 := p_MeetI ha hb
  have c3 := p_MakeI (x := x) (y := a.hi) wm hk
  have c4 := p_rHull ha hb
  have c5 := p_rMeet ha hb
  have c6 := p_rRightIv wm
  have s1 := same_ln (hullR_len ha hb)
  have s2 := same_ln (meetR_len ha hb)
  have s3 := same_ln (a := (makeR x a.hi).1) (by unfold makeR; split; exact ⟨lx, la.hi⟩; exact Ln.zero)
  have c7 := p_iRight ha
  have c8 := p_rRightIv ha
  have c9 := p_HasI ha hx.b
  have d1 := p_rHas ha hx.b
  have d2 := p_InI ha hb
  have d3 := p_rIn ha hb
  have d4 := p_InsideI ha hb
  have d5 := p_rInside ha hb
  have d6 := p_SameI (a := a) (b := b) la.lo la.hi
  have d7 := p_rSameIv (a := a) (b := b) la.lo la.hi
  have d8 := p_NegI ha
  have d9 := p_rNegI ha
  have s4 := same_ln (negI_len ha)
  have g1 := p_MagI ha
  have g2 := p_rMag ha
  have s5 := same_rfl (magI_len ha)
  have g3 := p_OfI lx
  have g4 := p_rPoint (x := x)
  have s6 := same_ln (a := ⟨x, x⟩) ⟨lx, lx⟩
  clear la lx wm ha hb hx
  unfold makeR at c3 s3
  generalize hullR a b = q1 at *
  generalize meetR a b = q2 at *
  generalize rightI ⟨x, a.hi⟩ = q3 at *
  generalize rightI a = q4 at *
  generalize hasR a x = q5 at *
  generalize endsR a b 0 = q6 at *
  generalize endsR a b 1 = q7 at *
  generalize (decide (a.lo = b.lo) && decide (a.hi = b.hi)) = q8 at *
  generalize negI a = q9 at *
  generalize magI a = q10 at *
  obtain ⟨⟨⟨n1, e1, w1⟩, ⟨n2, e2, w2⟩⟩, r1⟩ := q1
  obtain ⟨⟨⟨n3, e3, w3⟩, ⟨n4, e4, w4⟩⟩, r2⟩ := q2
  obtain ⟨⟨n5, e5, w5⟩, ⟨n6, e6, w6⟩⟩ := q9
  obtain ⟨n7, e7, w7⟩ := q10
  obtain ⟨⟨m1, f1, v1⟩, ⟨m2, f2, v2⟩⟩ := a
  obtain ⟨⟨m3, f3, v3⟩, ⟨m4, f4, v4⟩⟩ := b
  obtain ⟨m5, f5, v5⟩ := x
  have k1 : (r1 = r1) = True := eq_true rfl
  have k2 : (r2 = r2) = True := eq_true rfl
  have k4 : (q4 == q4) = true := beq_self_eq_true q4
  have k5 : (q5 == q5) = true := beq_self_eq_true q5
  have k6 : (q6 == q6) = true := beq_self_eq_true q6
  have k7 : (q7 == q7) = true := beq_self_eq_true q7
  have k8 : (q8 == q8) = true := beq_self_eq_true q8
  cases q3
  · simp only [Bool.false_eq_true, if_false] at c3 s3
    unfold iv0 nu0 at c3 s3
    have d1 := @df Tryz.prog 9 qI21_43_9
    refine PB (rs := [.tmp 6]) Tryz.func43 ?_
    have ft := And.intro k1 (And.intro k2 (And.intro k4 (And.intro k5 (And.intro k6 (And.intro k7 k8)))))
    exact Wk
  · simp only [if_true] at c3 s3
    have d1 := @df Tryz.prog 9 qI21_43_9
    refine PB (rs := [.tmp 6]) Tryz.func43 ?_
    have ft := And.intro k1 (And.intro k2 (And.intro k4 (And.intro k5 (And.intro k6 (And.intro k7 k8)))))
    exact Wk
end Go.V

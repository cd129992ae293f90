/- Package ortho over values as data: a column scaled; upright. -/
import Derived.Test.YtolccagkfobbmaaGreatDoorJ2
import Derived.Test.YtolccagkfobbmaaGreatDoorJQ
set_option linter.unusedSimpArgs false
set_option linter.unusedVariables false
set_option maxRecDepth 100000
namespace Go.V
open Go Go.RowKit Go.Proofs
def qJ3_29_5 : List (Nat × Nat) := [(0, 1), (2, 2), (1, 4), (3, 3), (4, 0)]
def qJ3_29_14 : PT := (.lin [(0, 2), (1, 0), (2, 2), (3, 0), (4, 0), (5, 2)] (.fork 6 4 (.lin [(7, 0)] (.fork 8 3 (.lin [(9, 0), (10, 0), (11, 0), (12, 4), (13, 3), (14, 0)] .nil) 12 4 (.lin [(8, 3), (9, 0), (10, 0), (11, 0), (13, 3), (14, 0)] .nil))) 12 4 (.lin [(6, 4), (7, 0), (8, 3), (9, 0), (10, 0), (11, 0), (13, 3), (14, 0)] .nil)))
attribute [go_sem] qJ3_29_5 qJ3_29_14

theorem bitsN {a : Dyadic} (ha : OkD a) : PC Tryz.prog 49 [W64 (nuOf a).w] fun d => d = i64 (bitLen (fN a) : Nat) := by
  have h := p_Bits (xs := (nuOf a).w) (ha.sz).b (by have := (ha.sz).len; omega)
  rw [nuOf_f] at h ⊢
  simp only at h ⊢
  rw [show N64 (digs 18446744073709551616 (fN a)) = fN a from N64_D64 _] at h
  exact h
theorem rvO {d : Dyadic} (h : OkD d) : rv (nuOf d) = d := by unfold rv; rw [rightB_nuOf, decide_eq_true h, if_pos rfl, val_nuOf]
theorem p_nSignO {a : Dyadic} (ha : OkD a) : PC Tryz.prog 47 [NU (nuOf a)] fun d => d = i64 (sgnD a) := by
  have := p_nSign (ha.sz).wl (by decide)
  rwa [rvO ha] at this
theorem p_nAbsO {a : Dyadic} (ha : OkD a) : PC Tryz.prog 46 [NU (nuOf a)] fun d => d = NU (nuOf (abD a)) := by
  have := p_nAbs (ha.sz).wl (by decide)
  rwa [rvO ha] at this
theorem scR_O {x : Dyadic} {j : Int} (hx : OkD x) (hj : -131072 ≤ j) (hj2 : j ≤ 131072) : scR (nuOf x) j = okN (scO x j) := by
  unfold scR scO
  rw [rightB_nuOf, decide_eq_true hx, if_pos rfl, okN_okO]
  by_cases h : x = 0
  · subst h; rw [if_pos (show (nuOf 0).w.length = 0 from rfl), fN_zero, dy0]; rfl
  · rw [if_neg, if_neg (by omega)]
    · rfl
    · intro e
      have h2 : fN x = 0 := by
        unfold fN
        rw [List.eq_nil_of_length_eq_zero e]; rfl
      exact h (fN_eq_zero.1 h2)
theorem bitLen64 {n k : Nat} (h : n < 18446744073709551616 ^ k) : bitLen n ≤ 64 * k := by
  rw [show (18446744073709551616 : Nat) = 2 ^ 64 by decide, ← Nat.pow_mul] at h
  exact bitLen_le h
theorem szD_ok {d : Dyadic} (h : OkD d) : -65536 ≤ fE d ∧ fE d ≤ 65536 ∧ bitLen (fN d) ≤ 4096 := by
  have h1 := h.lo; have h2 := h.hi
  refine ⟨h1, h2, ?_⟩
  have h3 := bitLen64 (nval_lt (B := 18446744073709551616) (by decide) (nuOf d).w (h.sz).b)
  have h4 := h.len
  unfold fN
  omega
theorem scO_ok {x y : Dyadic} {j : Int} (h : scO x j = .ok y) : OkD y := by have := okO_cases h; rw [this.1]; exact this.2
theorem scO_c {x : Dyadic} {j : Int} {c : Int} (h : scO x j = .error c) : c = 2 := by
  unfold scO okO at h; split at h
  · cases h
  · injection h with h; exact h.symm
set_option maxHeartbeats 2000000 in
theorem p_oScaled {vs : DL} (hv : OkL vs) (hn : vs.length ≤ 1000) : PC Tryz.prog 29 [ND vs] fun d => d = NLE (okL (scaledR vs)) := by
  unfold ND
  generalize hr : scaledR vs = r
  unfold scaledR at hr
  have d1 := @dl 5 qJ3_29_5
  have d2 := @dr 14 qJ3_29_14
  refine PB (rs := [.tmp 2, .tmp 3]) Tryz.func29 ?_
  refine pv_seq fun K1 q1 => ?_
  repeat (first | with_reducible refine pv_seq fun K hK => ?_ | ((with_reducible first | refine hK _ _ ?_ | (clear hK; refine hK _ _ ?_) | (clear hK; clear hK; refine hK _ _ ?_)); clear hK; try clear K) | refine W0 ?_ | exact Z | with_reducible intro b)
  refine q1 _ _ ?_
  clear q1
  refine pv_seqR fun K2 q2 hC => ?_
  repeat (first | with_reducible refine pv_seq fun K hK => ?_ | ((with_reducible first | refine hK _ _ ?_ | (clear hK; refine hK _ _ ?_) | (clear hK; clear hK; refine hK _ _ ?_)); clear hK; try clear K) | refine W0 ?_ | exact Z | with_reducible intro b)
  refine hC _ _ (Recast.z3 (k := .l 4) Zr ?_)
  refine q2 _ _ ?_
  clear q2 hC
  repeat (first | with_reducible refine pv_seq fun K hK => ?_ | ((with_reducible first | refine hK _ _ ?_ | (clear hK; refine hK _ _ ?_) | (clear hK; clear hK; refine hK _ _ ?_)); clear hK; try clear K) | refine W0 ?_ | exact Z | with_reducible intro b)
  have J : ∀ (e : DEnv) (S : Store) (b4 : Nat), e 0 = .g (eS eU (nus vs)) → e 4 = .ptr (.l 4) b4 0 0 3 → S (.l 4) = some ⟨b4, 3, 0, [bU (nuOf (topD vs))]⟩ → K e S := by
    intro e S b4 g0 g4 s4
    have oT : OkD (topD vs) := topA_ok hv _
    have pS := p_nSignO oT
    obtain ⟨hT1, hT2, hT3⟩ := szD_ok oT
    have pB := bitsN oT
    have hz : (sgnD (topD vs) = 0) = (topD vs = 0) := propext sgnD_zero
    by_cases hT : topD vs = 0
    · rw [if_pos hT] at hr
      rw [eq_true hT] at hz
      subst hr
      generalize nuOf (topD vs) = X at *
      have ft := And.intro g0 (And.intro g4 (And.intro s4 hz))
      exact Wk
    · rw [if_neg hT] at hr
      rw [eq_false hT] at hz
      have hX : (nuOf (topD vs)).exp = fE (topD vs) := rfl
      have hsz : -szD (topD vs) = 0 - fE (topD vs) - (bitLen (fN (topD vs)) : Int) := by unfold szD; omega
      rw [hsz] at hr
      generalize sgnD (topD vs) = sg at *
      generalize fE (topD vs) = te at *
      generalize bitLen (fN (topD vs)) = tb at *
      generalize nuOf (topD vs) = X at *
      obtain ⟨xn, xe, xw⟩ := X
      simp only at hX pB
      subst hX
      have ft := And.intro g0 (And.intro g4 (And.intro s4 hz))
      repeat (first | with_reducible refine pv_seq fun K hK => ?_ | ((with_reducible first | refine hK _ _ ?_ | (clear hK; refine hK _ _ ?_) | (clear hK; clear hK; refine hK _ _ ?_)); clear hK; try clear K) | refine W ?_ | exact Z | with_reducible intro b)
      have J2 : ∀ (e : DEnv) (S : Store) (l : DL), r = .ok l → RowD S (.l 53) 3 (e 7) (rS eU (nus l)) → K e S := by
        intro e S l hs hw
        subst hs
        repeat (first | with_reducible refine pv_seq fun K hK => ?_ | ((with_reducible first | refine hK _ _ ?_ | (clear hK; refine hK _ _ ?_) | (clear hK; clear hK; refine hK _ _ ?_)); clear hK; try clear K) | refine W0 ?_ | exact Z | with_reducible intro b)
        exact hw.coeD fun S' _ _ => rfl
      clear hK pS
      refine pv_loop (fun e S => ∃ (i b4 : Nat) (l : DL), i ≤ vs.length ∧ bldE (fun i => scO (gD vs i) (0 - xe - (tb : Int))) i = .ok l ∧ e 29 = .g (eS eU (nus vs)) ∧ e 30 = i64 vs.length ∧ e 31 = i64 i ∧ e 4 = .ptr (.l 4) b4 0 0 3 ∧ S (.l 4) = some ⟨b4, 3, 0, [[bl xn, i64 xe, W64 xw]]⟩ ∧ RowD S (.l 53) 3 (e 7) (rS eU (nus l))) (fun e _ => vs.length - (intD (e 31)).toNat) ?_ ?_
      · exact ⟨0, b4, [], Nat.zero_le _, rfl, Zr, Zr, Zr, Zr, Zr, .nil⟩
      · rintro e S ⟨i, b4, l, hi, hA, g29, g30, g31, g4, s4, hw⟩
        have hlen := (bldE_spec hA).1
        have ft := And.intro g29 (And.intro g30 (And.intro g31 (And.intro g4 s4)))
        repeat (first | with_reducible refine pv_seq fun K hK => ?_ | ((with_reducible first | refine hK _ _ ?_ | (clear hK; refine hK _ _ ?_) | (clear hK; clear hK; refine hK _ _ ?_)); clear hK; try clear K) | refine W0 ?_ | exact Z | with_reducible intro b)
        refine pv_cdD (fun ht => ?_) (fun ht => ?_)
        · have e1 := nus_get (l := vs) (i := i) (by omega)
          have pSc := p_nScale (x := nuOf (gD vs i)) (j := 0 - xe - (tb : Int)) ((hv.at i).sz).wl (by decide) (by unfold R64; omega)
          rw [scR_O (hv.at i) (by omega) (by omega)] at pSc
          cases hs : scO (gD vs i) (0 - xe - (tb : Int)) with
          | ok y =>
            have st := bldE_step hA hs
            rw [hs, okN_ok] at pSc
            generalize nuOf (gD vs i) = Y at *
            have ft := And.intro g29 (And.intro g30 (And.intro g31 (And.intro g4 (And.intro s4 e1))))
            repeat' (first | with_reducible refine pv_seq fun K hK => ?_ | ((with_reducible first | refine hK _ _ ?_ | (clear hK; refine hK _ _ ?_) | (clear hK; clear hK; refine hK _ _ ?_)); clear hK; try clear K) | refine W ?_ | exact Z | with_reducible intro b | with_reducible refine And.intro ?_ ?_ | (refine RowD.appL (hw.up (by rfl)) (by decide) rfl (by simp [D.one, W64]) ?_ ?_ fun d' S' hr' hS' => ?_))
            all_goals first | (rw [rS_len, nus_len]; omega) | (simp only [intD]; omega) | exact ⟨i + 1, b4, l ++ [y], by omega, st, Zr, Zr, by rw [hS' _ (by decide)]; exact Zr, by rw [← rS_u]; exact hr'⟩
          | error c =>
            obtain rfl := scO_c hs
            have er : r = .error 2 := by rw [← hr]; exact bldE_no hA hs ht
            subst er
            rw [hs, okN_no] at pSc
            generalize nuOf (gD vs i) = Y at *
            have ft := And.intro g29 (And.intro g30 (And.intro g31 (And.intro g4 (And.intro s4 e1))))
            exact Wk
        · obtain rfl : i = vs.length := by omega
          repeat (first | with_reducible refine pv_seq fun K hK => ?_ | ((with_reducible first | refine hK _ _ ?_ | (clear hK; refine hK _ _ ?_) | (clear hK; clear hK; refine hK _ _ ?_)); clear hK; try clear K) | refine W0 ?_ | exact Z | with_reducible intro b)
          exact J2 _ _ l (by rw [← hr]; exact hA) hw
  clear hK
  refine pv_loop (fun e S => ∃ (i b4 : Nat), i ≤ vs.length ∧ e 0 = .g (eS eU (nus vs)) ∧ e 12 = .g (eS eU (nus vs)) ∧ e 13 = i64 vs.length ∧ e 14 = i64 i ∧ e 4 = .ptr (.l 4) b4 0 0 3 ∧ S (.l 4) = some ⟨b4, 3, 0, [bU (nuOf (topA vs i))]⟩) (fun e _ => vs.length - (intD (e 14)).toNat) ?_ ?_
  · exact ⟨0, _, Nat.zero_le _, Zr, Zr, Zr, Zr, Zr, Zr⟩
  · rintro e S ⟨i, b4, hi, g0, g12, g13, g14, g4, s4⟩
    have ft := And.intro g0 (And.intro g12 (And.intro g13 (And.intro g14 (And.intro g4 s4))))
    repeat (first | with_reducible refine pv_seq fun K hK => ?_ | ((with_reducible first | refine hK _ _ ?_ | (clear hK; refine hK _ _ ?_) | (clear hK; clear hK; refine hK _ _ ?_)); clear hK; try clear K) | refine W0 ?_ | exact Z | with_reducible intro b)
    refine pv_cdD (fun ht => ?_) (fun ht => ?_)
    · have e1 := nus_get (l := vs) (i := i) ht
      have pA := p_nAbsO (hv.at i)
      have pC := p_nCmpD (abD_ok (hv.at i)) (topA_ok hv i)
      have hc : (0 < cmpD (abD (gD vs i)) (topA vs i)) = (topA vs i < abD (gD vs i)) := propext cmpD_gt0
      by_cases h : topA vs i < abD (gD vs i)
      · have hT : topA vs (i + 1) = abD (gD vs i) := if_pos h
        rw [eq_true h] at hc
        rw [← hT] at pA pC hc
        generalize nuOf (gD vs i) = Y at *
        have ft := And.intro g0 (And.intro g12 (And.intro g13 (And.intro g14 (And.intro g4 (And.intro s4 (And.intro e1 hc))))))
        repeat' (first | with_reducible refine pv_seq fun K hK => ?_ | ((with_reducible first | refine hK _ _ ?_ | (clear hK; refine hK _ _ ?_) | (clear hK; clear hK; refine hK _ _ ?_)); clear hK; try clear K) | refine W ?_ | exact Z | with_reducible intro b | with_reducible refine And.intro ?_ ?_ )
        all_goals first | (simp only [intD]; omega) | exact ⟨i + 1, b4, by omega, Zr, Zr, Zr⟩
      · have hT : topA vs (i + 1) = topA vs i := if_neg h
        rw [eq_false h] at hc
        generalize nuOf (gD vs i) = Y at *
        generalize nuOf (abD (gD vs i)) = Z at *
        have ft := And.intro g0 (And.intro g12 (And.intro g13 (And.intro g14 (And.intro g4 (And.intro s4 (And.intro e1 hc))))))
        repeat' (first | with_reducible refine pv_seq fun K hK => ?_ | ((with_reducible first | refine hK _ _ ?_ | (clear hK; refine hK _ _ ?_) | (clear hK; clear hK; refine hK _ _ ?_)); clear hK; try clear K) | refine W ?_ | exact Z | with_reducible intro b | with_reducible refine And.intro ?_ ?_ )
        all_goals first | (simp only [intD]; omega) | exact ⟨i + 1, b4, by omega, Zr, Zr, by rw [hT]⟩
    · obtain rfl : i = vs.length := by omega
      repeat (first | with_reducible refine pv_seq fun K hK => ?_ | ((with_reducible first | refine hK _ _ ?_ | (clear hK; refine hK _ _ ?_) | (clear hK; clear hK; refine hK _ _ ?_)); clear hK; try clear K) | refine W0 ?_ | exact Z | with_reducible intro b)
      exact J _ _ b4 Zr Zr Zr

end Go.V

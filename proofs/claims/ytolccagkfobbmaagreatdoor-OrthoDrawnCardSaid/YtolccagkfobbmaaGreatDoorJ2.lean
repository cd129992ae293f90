/- Package ortho over values as data: a column less what of it lies along another one. -/
import Derived.Test.YtolccagkfobbmaaGreatDoorJ1
set_option linter.unusedSimpArgs false
set_option linter.unusedVariables false
set_option maxRecDepth 100000
namespace Go.V
open Go Go.RowKit Go.Proofs
def qJ2_28_14 : PT := (.lin [(0, 2), (1, 0), (2, 0), (3, 0), (4, 2), (5, 0)] (.fork 6 3 (.lin [(7, 0), (8, 0), (9, 0), (10, 4), (11, 3), (12, 0)] .nil) 10 4 (.lin [(6, 3), (7, 0), (8, 0), (9, 0), (11, 3), (12, 0)] .nil)))
def qJ2_28_17 : List (Nat × Nat) := [(0, 0), (1, 0), (2, 0), (3, 1), (4, 1), (5, 0), (6, 3), (7, 0), (8, 0), (9, 0), (10, 3), (11, 0)]
attribute [go_sem] qJ2_28_14 qJ2_28_17

def okL : Except Int DL → DL × Int
  | .ok l => (l, 0)
  | .error c => ([], c)
/-- A list of numbers and an error's number. -/
def NLE (q : DL × Int) : D := .tup [ND q.1, i64 q.2]
theorem okL_ok {l : DL} : okL (.ok l) = (l, 0) := rfl
theorem okL_no {c : Int} : okL (.error c) = ([], c) := rfl
attribute [go_sem] NLE okL_ok okL_no okN_ok okN_no
theorem rS_u {l : DL} {y : Dyadic} : rS eU (nus l) ++ [bU (nuOf y)] = rS eU (nus (l ++ [y])) := by
  unfold nus; rw [List.map_append, ← rS_app]; rfl
theorem divO_c {p : Nat} {a b : Dyadic} {c : Int} (h : divO p a b = .error c) : c = 3 ∨ c = 2 := by
  unfold divO at h
  split at h
  · injection h with h; exact .inl h.symm
  · unfold okO at h; split at h
    · cases h
    · injection h with h; exact .inr h.symm
theorem divO_ok {p : Nat} {a b c : Dyadic} (h : divO p a b = .ok c) : OkD c := by
  unfold divO at h
  split at h
  · cases h
  · have := okO_cases h; rw [this.1]; exact this.2
set_option maxHeartbeats 2000000 in
theorem p_oLess {p : Nat} {vs us : DL} (hv : OkL vs) (hu : OkL us) (hl : vs.length = us.length) (h0 : 0 < us.length) (hn : us.length ≤ 1000) (h8 : 8 ≤ p) (h256 : p ≤ 256) : PC Tryz.prog 28 [ND vs, ND us, i64 p] fun d => d = NLE (okL (lessR p vs us)) := by
  have pA := p_oDot hu hv hl h0 hn h8 h256
  have pB := p_oDot hu hu rfl h0 hn h8 h256
  unfold ND at pA pB ⊢
  generalize hr : lessR p vs us = r
  unfold lessR at hr
  have d1 := @dr 14 qJ2_28_14
  have d2 := @dl 17 qJ2_28_17
  refine PB (rs := [.tmp 6, .tmp 7]) Tryz.func28 ?_
  cases ha : dotR p us vs with
  | error c =>
    obtain rfl := dotA_c ha
    rw [ha, okN_no] at pA
    rw [ha, bnd_no] at hr
    subst hr
    exact Wk
  | ok a =>
    have oa := dotA_ok ha
    rw [ha, okN_ok] at pA
    rw [ha, bnd_ok] at hr
    cases hb : dotR p us us with
    | error c =>
      obtain rfl := dotA_c hb
      rw [hb, okN_no] at pB
      rw [hb, bnd_no] at hr
      subst hr
      exact Wk
    | ok b =>
      have ob := dotA_ok hb
      have pC := p_rdDivO oa ob h8 h256
      rw [hb, okN_ok] at pB
      rw [hb, bnd_ok] at hr
      cases hc : divO p a b with
      | error c =>
        rw [hc, okN_no] at pC
        rw [hc, bnd_no] at hr
        subst hr
        rcases divO_c hc with rfl | rfl
        · exact Wk
        · exact Wk
      | ok c =>
        have oc := divO_ok hc
        rw [hc, okN_ok] at pC
        rw [hc, bnd_ok] at hr
        repeat (first | with_reducible refine pv_seq fun K hK => ?_ | ((with_reducible first | refine hK _ _ ?_ | (clear hK; refine hK _ _ ?_) | (clear hK; clear hK; refine hK _ _ ?_)); clear hK; try clear K) | refine W ?_ | exact Z | with_reducible intro b)
        have J : ∀ (e : DEnv) (S : Store) (l : DL), r = .ok l → RowD S (.l 80) 3 (e 12) (rS eU (nus l)) → K e S := by
          intro e S l hs hw
          subst hs
          repeat (first | with_reducible refine pv_seq fun K hK => ?_ | ((with_reducible first | refine hK _ _ ?_ | (clear hK; refine hK _ _ ?_) | (clear hK; clear hK; refine hK _ _ ?_)); clear hK; try clear K) | refine W0 ?_ | exact Z | with_reducible intro b)
          exact hw.coeD fun S' _ _ => rfl
        clear hK pA pB pC
        refine pv_loop (fun e S => ∃ (i b11 : Nat) (l : DL), i ≤ vs.length ∧ bldE (fun i => awayO p (gD vs i) c (gD us i)) i = .ok l ∧ e 0 = .g (eS eU (nus vs)) ∧ e 1 = .g (eS eU (nus us)) ∧ e 2 = i64 p ∧ e 47 = i64 vs.length ∧ e 48 = i64 i ∧ e 11 = .ptr (.l 11) b11 0 0 3 ∧ S (.l 11) = some ⟨b11, 3, 0, [bU (nuOf c)]⟩ ∧ RowD S (.l 80) 3 (e 12) (rS eU (nus l))) (fun e _ => vs.length - (intD (e 48)).toNat) ?_ ?_
        · exact ⟨0, _, [], Nat.zero_le _, rfl, Zr, Zr, Zr, Zr, Zr, Zr, Zr, .nil⟩
        · rintro e S ⟨i, b11, l, hi, hA, g0, g1, g2, g47, g48, g11, s11, hw⟩
          have hlen := (bldE_spec hA).1
          have ft := And.intro g0 (And.intro g1 (And.intro g2 (And.intro g47 (And.intro g48 (And.intro g11 s11)))))
          repeat (first | with_reducible refine pv_seq fun K hK => ?_ | ((with_reducible first | refine hK _ _ ?_ | (clear hK; refine hK _ _ ?_) | (clear hK; clear hK; refine hK _ _ ?_)); clear hK; try clear K) | refine W0 ?_ | exact Z | with_reducible intro b)
          refine pv_cdD (fun ht => ?_) (fun ht => ?_)
          · have e1 := nus_get (l := us) (i := i) (by omega)
            have e2 := nus_get (l := vs) (i := i) (by omega)
            have pM := p_rdMulD (up := false) oc (hu.at i) h8 h256
            have er : ∀ c', awayO p (gD vs i) c (gD us i) = .error c' → r = .error c' := fun c' h => by rw [← hr]; exact bldE_no hA h ht
            have st : ∀ y, awayO p (gD vs i) c (gD us i) = .ok y → bldE (fun i => awayO p (gD vs i) c (gD us i)) (i + 1) = .ok (l ++ [y]) := fun y h => bldE_step hA h
            unfold awayO mulO at er st
            by_cases hm : OkD (rd p false (c * gD us i))
            · rw [numR_ok hm] at pM
              rw [okO_ok hm, bnd_ok] at er st
              have pS := p_rdSubD (up := false) (hv.at i) hm h8 h256
              by_cases ho : OkD (rd p false (gD vs i - rd p false (c * gD us i)))
              · rw [numR_ok ho] at pS
                rw [okO_ok ho] at st
                have st := st _ rfl
                generalize rd p false (gD vs i - rd p false (c * gD us i)) = y at *
                have ft := And.intro g0 (And.intro g1 (And.intro g2 (And.intro g47 (And.intro g48 (And.intro g11 (And.intro s11 (And.intro e1 e2)))))))
                repeat' (first | with_reducible refine pv_seq fun K hK => ?_ | ((with_reducible first | refine hK _ _ ?_ | (clear hK; refine hK _ _ ?_) | (clear hK; clear hK; refine hK _ _ ?_)); clear hK; try clear K) | refine W ?_ | exact Z | with_reducible intro b | with_reducible refine And.intro ?_ ?_ | (refine RowD.appL (hw.up (by rfl)) (by decide) rfl (by simp [D.one, W64]) ?_ ?_ fun d' S' hr' hS' => ?_))
                all_goals first | (rw [rS_len, nus_len]; omega) | (rw [rS_len, nus_len]; simp; omega) | (simp only [intD]; omega) | exact ⟨i + 1, b11, l ++ [y], by omega, st, Zr, Zr, by rw [hS' _ (by decide)]; exact Zr, by rw [← rS_u]; exact hr'⟩
              · rw [numR_over ho] at pS
                rw [okO_no ho] at er
                have er := er _ rfl
                subst er
                have ft := And.intro g0 (And.intro g1 (And.intro g2 (And.intro g47 (And.intro g48 (And.intro g11 (And.intro s11 (And.intro e1 e2)))))))
                exact Wk
            · rw [numR_over hm] at pM
              rw [okO_no hm, bnd_no] at er
              have er := er _ rfl
              subst er
              have ft := And.intro g0 (And.intro g1 (And.intro g2 (And.intro g47 (And.intro g48 (And.intro g11 (And.intro s11 (And.intro e1 e2)))))))
              exact Wk
          · obtain rfl : i = vs.length := by omega
            repeat (first | with_reducible refine pv_seq fun K hK => ?_ | ((with_reducible first | refine hK _ _ ?_ | (clear hK; refine hK _ _ ?_) | (clear hK; clear hK; refine hK _ _ ?_)); clear hK; try clear K) | refine W0 ?_ | exact Z | with_reducible intro b)
            exact J _ _ l (by rw [← hr]; exact hA) hw

end Go.V

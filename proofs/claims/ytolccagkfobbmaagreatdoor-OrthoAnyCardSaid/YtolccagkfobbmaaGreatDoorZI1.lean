/- The document's matrices over values as data: sums of products, a column less another one, its greatest amount. The document's matrices over values as data: columns at right angles, about. The statement OrthoDrawn of layer 9. The statement OrthoAny of layer 9: rows that are no square of right numbers; light. -/
import Derived.Test.YtolccagkfobbmaaGreatDoorZI0
set_option linter.unusedSimpArgs false
set_option linter.unusedVariables false
set_option maxRecDepth 100000
namespace Go.V
open Go Go.RowKit Go.Proofs
def qJ12_31_5 : PT := (.lin [(0, 0), (1, 0), (2, 0), (3, 2), (4, 0), (5, 0), (6, 0), (7, 2), (8, 0)] (.fork 9 3 (.lin [(10, 0), (11, 0), (12, 0), (13, 4), (14, 3), (15, 0)] .nil) 13 4 (.lin [(9, 3), (10, 0), (11, 0), (12, 0), (14, 3), (15, 0)] .nil)))
def qJ12_20_12 : PT := (.lin [(0, 0), (1, 0), (2, 0), (3, 2), (4, 2), (5, 0), (6, 0), (7, 0), (8, 2), (9, 0)] (.fork 10 3 (.lin [(11, 0), (12, 0), (13, 0), (14, 4), (15, 3), (16, 0)] .nil) 14 4 (.lin [(10, 3), (11, 0), (12, 0), (13, 0), (15, 3), (16, 0)] .nil)))
def qJ12_21_6 : List (Nat × Nat) := [(0, 0), (1, 0), (2, 0), (3, 0), (4, 2), (5, 0), (6, 0), (7, 0), (8, 0), (9, 1), (10, 4), (11, 4), (12, 0), (13, 0)]
attribute [go_sem] qJ12_31_5 qJ12_20_12 qJ12_21_6
set_option maxHeartbeats 1000000 in
theorem p_rDots {p : Nat} {us vs : DL} (hu : OkL us) (hv : OkL vs) (hl : vs.length = us.length) (h0 : 0 < us.length) (hn : us.length ≤ 1000) (h8 : 8 ≤ p) (h256 : p ≤ 256) : PC Tryz.prog 31 [ND us, ND vs, i64 p] fun d => d = NE (okN (dotR p us vs)) := by
  unfold ND
  generalize hr : dotR p us vs = r
  have d1 := @dr 5 qJ12_31_5
  refine PB (rs := [.cell 6 38, .tmp 7]) Tryz.func31 ?_
  refine pv_seq fun K1 q1 => ?_
  repeat (first | with_reducible refine pv_seq fun K hK => ?_ | ((with_reducible first | refine hK _ _ ?_ | (clear hK; refine hK _ _ ?_) | (clear hK; clear hK; refine hK _ _ ?_)); clear hK; try clear K) | refine W0 ?_ | exact Z | with_reducible intro b)
  refine q1 _ _ ?_
  clear q1
  refine pv_seqR fun K2 q2 hC => ?_
  repeat (first | with_reducible refine pv_seq fun K hK => ?_ | ((with_reducible first | refine hK _ _ ?_ | (clear hK; refine hK _ _ ?_) | (clear hK; clear hK; refine hK _ _ ?_)); clear hK; try clear K) | refine W0 ?_ | exact Z | with_reducible intro b)
  refine hC _ _ (Recast.z3 (k := .l 8) Zr ?_)
  refine q2 _ _ ?_
  clear q2 hC
  repeat (first | with_reducible refine pv_seq fun K hK => ?_ | ((with_reducible first | refine hK _ _ ?_ | (clear hK; refine hK _ _ ?_) | (clear hK; clear hK; refine hK _ _ ?_)); clear hK; try clear K) | refine W0 ?_ | exact Z | with_reducible intro b)
  have J : ∀ (e : DEnv) (S : Store) (b6 b8 : Nat) (s : Dyadic), r = .ok s → e 6 = .ptr (.l 6) b6 0 0 3 → e 8 = .ptr (.l 8) b8 0 0 3 → S (.l 6) = some ⟨b6, 3, 0, [[bl false, i64 0, .nil]]⟩ → S (.l 8) = some ⟨b8, 3, 0, [bU (nuOf s)]⟩ → K e S := by
    intro e S b6 b8 s hs g6 g8 s6 s8
    subst hs
    have ft := And.intro g6 (And.intro g8 (And.intro s6 s8))
    exact Wk
  clear hK
  refine pv_loop (fun e S => ∃ (i b6 b8 : Nat) (s : Dyadic), i ≤ us.length ∧ dotA p us vs i = .ok s ∧ e 0 = .g (eS eU (nus us)) ∧ e 1 = .g (eS eU (nus vs)) ∧ e 2 = i64 p ∧ e 9 = i64 i ∧ e 6 = .ptr (.l 6) b6 0 0 3 ∧ e 8 = .ptr (.l 8) b8 0 0 3 ∧ S (.l 6) = some ⟨b6, 3, 0, [[bl false, i64 0, .nil]]⟩ ∧ S (.l 8) = some ⟨b8, 3, 0, [bU (nuOf s)]⟩) (fun e _ => us.length - (intD (e 9)).toNat) ?_ ?_
  · exact ⟨0, _, _, 0, Nat.zero_le _, rfl, Zr, Zr, Zr, Zr, Zr, Zr, Zr, Zr⟩
  · rintro e S ⟨i, b6, b8, s, hi, hA, g0, g1, g2, g9, g6, g8, s6, s8⟩
    have ft := And.intro g0 (And.intro g1 (And.intro g2 (And.intro g9 (And.intro g6 (And.intro g8 (And.intro s6 s8))))))
    repeat (first | with_reducible refine pv_seq fun K hK => ?_ | ((with_reducible first | refine hK _ _ ?_ | (clear hK; refine hK _ _ ?_) | (clear hK; clear hK; refine hK _ _ ?_)); clear hK; try clear K) | refine W0 ?_ | exact Z | with_reducible intro b)
    refine pv_cdD (fun ht => ?_) (fun ht => ?_)
    · have e1 := nus_get (l := us) ht
      have e2 := nus_get (l := vs) (i := i) (by omega)
      have pM := p_rkMul (hu.at i) (hv.at i) h8 h256
      have st := runE_step hA
      have os := dotA_ok hA
      unfold dotS mulO at st
      have er : ∀ c, dotA p us vs (i + 1) = .error c → r = .error c := fun c h => by rw [← hr]; exact runE_err h (by omega)
      unfold dotA at er
      by_cases hm : OkD (rd p false (gD us i * gD vs i))
      · rw [numR_ok hm] at pM
        rw [okO_ok hm, bnd_ok] at st
        generalize nuOf (gD us i) = X at *
        generalize nuOf (gD vs i) = Y at *
        generalize rd p false (gD us i * gD vs i) = x at *
        by_cases hi0 : i = 0
        · subst hi0
          rw [if_pos rfl] at st
          have ft := And.intro g0 (And.intro g1 (And.intro g2 (And.intro g9 (And.intro g6 (And.intro g8 (And.intro s6 (And.intro s8 (And.intro e1 e2))))))))
          repeat' (first | with_reducible refine pv_seq fun K hK => ?_ | ((with_reducible first | refine hK _ _ ?_ | (clear hK; refine hK _ _ ?_) | (clear hK; clear hK; refine hK _ _ ?_)); clear hK; try clear K) | refine W ?_ | exact Z | with_reducible intro b | with_reducible refine And.intro ?_ ?_ )
          all_goals first | (simp only [intD]; omega) | exact ⟨1, b6, b8, x, by omega, st, Zr, Zr, Zr, Zr, Zr⟩
        · rw [if_neg hi0] at st
          have k1 : (0 < i) = True := eq_true (by omega)
          have pA := p_rkAdd os hm h8 h256
          by_cases ho : OkD (rd p false (s + x))
          · rw [numR_ok ho] at pA
            rw [okO_ok ho] at st
            generalize rd p false (s + x) = y at *
            generalize nuOf s = Z at *
            have ft := And.intro g0 (And.intro g1 (And.intro g2 (And.intro g9 (And.intro g6 (And.intro g8 (And.intro s6 (And.intro s8 (And.intro e1 (And.intro e2 k1)))))))))
            repeat' (first | with_reducible refine pv_seq fun K hK => ?_ | ((with_reducible first | refine hK _ _ ?_ | (clear hK; refine hK _ _ ?_) | (clear hK; clear hK; refine hK _ _ ?_)); clear hK; try clear K) | refine W ?_ | exact Z | with_reducible intro b | with_reducible refine And.intro ?_ ?_ )
            all_goals first | (simp only [intD]; omega) | exact ⟨i + 1, b6, b8, y, by omega, st, Zr, Zr, Zr, Zr, Zr⟩
          · rw [numR_over ho] at pA
            rw [okO_no ho] at st
            have er := er _ st
            subst er
            generalize nuOf s = Z at *
            have ft := And.intro g0 (And.intro g1 (And.intro g2 (And.intro g9 (And.intro g6 (And.intro g8 (And.intro s6 (And.intro s8 (And.intro e1 (And.intro e2 k1)))))))))
            repeat' (first | with_reducible refine pv_seq fun K hK => ?_ | ((with_reducible first | refine hK _ _ ?_ | (clear hK; refine hK _ _ ?_) | (clear hK; clear hK; refine hK _ _ ?_)); clear hK; try clear K) | refine W ?_ | exact Z | with_reducible intro b | with_reducible refine And.intro ?_ ?_ )
            all_goals rfl
      · rw [numR_over hm] at pM
        rw [okO_no hm, bnd_no] at st
        have er := er _ st
        subst er
        generalize nuOf (gD us i) = X at *
        generalize nuOf (gD vs i) = Y at *
        have ft := And.intro g0 (And.intro g1 (And.intro g2 (And.intro g9 (And.intro g6 (And.intro g8 (And.intro s6 (And.intro s8 (And.intro e1 e2))))))))
        repeat' (first | with_reducible refine pv_seq fun K hK => ?_ | ((with_reducible first | refine hK _ _ ?_ | (clear hK; refine hK _ _ ?_) | (clear hK; clear hK; refine hK _ _ ?_)); clear hK; try clear K) | refine W ?_ | exact Z | with_reducible intro b | with_reducible refine And.intro ?_ ?_ )
        all_goals rfl
    · obtain rfl : i = us.length := by omega
      repeat (first | with_reducible refine pv_seq fun K hK => ?_ | ((with_reducible first | refine hK _ _ ?_ | (clear hK; refine hK _ _ ?_) | (clear hK; clear hK; refine hK _ _ ?_)); clear hK; try clear K) | refine W0 ?_ | exact Z | with_reducible intro b)
      exact J _ _ b6 b8 s (by rw [← hr]; exact hA) Zr Zr Zr Zr
set_option maxHeartbeats 4000000 in
theorem p_rWithout {S : Store} {Q : D → Store → Prop} {p : Nat} {vs us : DL} (hv : OkL vs) (hu : OkL us) (hl : vs.length = us.length) (h0 : 0 < us.length) (hn : us.length ≤ 1000) (h8 : 8 ≤ p) (h256 : p ≤ 256)
    (hok : ∀ (l : DL) (b cap : Nat) (S' : Store), lessR p vs us = .ok l → S' (.r 0 1) = some ⟨b, 3, 0, rS eU (nus l)⟩ → (∀ k, k ≠ .r 0 1 → S' k = S k) → Q (.tup [.own (.r 0 1) b 0 l.length cap 3, i64 0]) S')
    (hno : ∀ (c : Int) (S' : Store), lessR p vs us = .error c → (∀ k, k ≠ .r 0 1 → S' k = S k) → Q (.tup [.nil, i64 c]) S') : PFC Tryz.prog 20 [ND vs, ND us, i64 p] S Q := by
  have pA := p_rDots hu hv hl h0 hn h8 h256
  have pB := p_rDots hu hu rfl h0 hn h8 h256
  unfold ND at pA pB ⊢
  have hkeep : ∀ {T : Store}, (∀ k, T (.up k) = S k) → ∀ k, k ≠ .r 0 1 → T (keepN (.r 0 1) 73 k) = S k := fun hT k hk => by rw [keepN_ne hk]; exact hT k
  generalize hr : lessR p vs us = r at *
  unfold lessR at hr
  have d1 := @dr 12 qJ12_20_12
  refine PRB (keepN (.r 0 1) 73) (tellN (.r 0 1) 73) (keepN_inj _ _) (rs := [.tmp 6, .tmp 7]) Tryz.func20 ?_
  cases ha : dotR p us vs with
  | error c =>
    obtain rfl := dotA_c ha
    rw [ha, okN_no] at pA
    rw [ha, bnd_no] at hr
    subst hr
    generalize okN (dotR p us us) = q at pB
    obtain ⟨q1, q2⟩ := q
    repeat (first | with_reducible refine pv_seq fun K hK => ?_ | ((with_reducible first | refine hK _ _ ?_ | (clear hK; refine hK _ _ ?_) | (clear hK; clear hK; refine hK _ _ ?_)); clear hK; try clear K) | refine W ?_ | exact Z | with_reducible intro b)
    exact hno 2 _ rfl (fun k hk => by simp only [keepN_ne hk, reduceCtorEq, if_false, upS_up])
  | ok a =>
    have oa := dotA_ok ha
    rw [ha, okN_ok] at pA
    rw [ha, bnd_ok] at hr
    cases hb : dotR p us us with
    | error c =>
      obtain rfl := dotA_c hb
      rw [hb, okN_no] at pB
      rw [hb, bnd_no] at hr
      subst hr
      repeat (first | with_reducible refine pv_seq fun K hK => ?_ | ((with_reducible first | refine hK _ _ ?_ | (clear hK; refine hK _ _ ?_) | (clear hK; clear hK; refine hK _ _ ?_)); clear hK; try clear K) | refine W ?_ | exact Z | with_reducible intro b)
      exact hno 2 _ rfl (fun k hk => by simp only [keepN_ne hk, reduceCtorEq, if_false, upS_up])
    | ok b =>
      have ob := dotA_ok hb
      have pC := p_rkDiv oa ob h8 h256
      rw [hb, okN_ok] at pB
      rw [hb, bnd_ok] at hr
      cases hc : divO p a b with
      | error c =>
        rw [hc, okN_no] at pC
        rw [hc, bnd_no] at hr
        subst hr
        rcases divO_c hc with rfl | rfl
        · repeat (first | with_reducible refine pv_seq fun K hK => ?_ | ((with_reducible first | refine hK _ _ ?_ | (clear hK; refine hK _ _ ?_) | (clear hK; clear hK; refine hK _ _ ?_)); clear hK; try clear K) | refine W ?_ | exact Z | with_reducible intro b)
          exact hno 3 _ rfl (fun k hk => by simp only [keepN_ne hk, reduceCtorEq, if_false, upS_up])
        · repeat (first | with_reducible refine pv_seq fun K hK => ?_ | ((with_reducible first | refine hK _ _ ?_ | (clear hK; refine hK _ _ ?_) | (clear hK; clear hK; refine hK _ _ ?_)); clear hK; try clear K) | refine W ?_ | exact Z | with_reducible intro b)
          exact hno 2 _ rfl (fun k hk => by simp only [keepN_ne hk, reduceCtorEq, if_false, upS_up])
      | ok c =>
        have oc := divO_ok hc
        rw [hc, okN_ok] at pC
        rw [hc, bnd_ok] at hr
        repeat (first | with_reducible refine pv_seq fun K hK => ?_ | ((with_reducible first | refine hK _ _ ?_ | (clear hK; refine hK _ _ ?_) | (clear hK; clear hK; refine hK _ _ ?_)); clear hK; try clear K) | refine W ?_ | exact Z | with_reducible intro b)
        have J : ∀ (e : DEnv) (T : Store) (l : DL), r = .ok l → l.length = vs.length → RowZ T (.l 73) 3 (e 13) (rS eU (nus l)) → (∀ k, T (.up k) = S k) → K e T := by
          intro e T l hs hll hw hT
          rcases hw with ⟨_, h9⟩ | ⟨b9, cap, g13, s73⟩
          · have := congrArg List.length h9; rw [rS_len, nus_len, hll, List.length_nil] at this; omega
          · rw [rS_len, nus_len] at g13
            have ft := g13
            repeat (first | with_reducible refine pv_seq fun K hK => ?_ | ((with_reducible first | refine hK _ _ ?_ | (clear hK; refine hK _ _ ?_) | (clear hK; clear hK; refine hK _ _ ?_)); clear hK; try clear K) | refine W0 ?_ | exact Z | with_reducible intro b)
            exact hok l b9 cap _ hs (by show T (keepN _ _ _) = _; rw [keepN_self]; exact s73) (hkeep hT)
        clear hK pA pB pC
        refine pv_loop (fun e T => ∃ (i b12 : Nat) (l : DL), i ≤ vs.length ∧ bldE (fun i => awayO p (gD vs i) c (gD us i)) i = .ok l ∧ e 0 = .g (eS eU (nus vs)) ∧ e 1 = .g (eS eU (nus us)) ∧ e 2 = i64 p ∧ e 14 = i64 i ∧ e 12 = .ptr (.l 12) b12 0 0 3 ∧ T (.l 12) = some ⟨b12, 3, 0, [bU (nuOf c)]⟩ ∧ RowZ T (.l 73) 3 (e 13) (rS eU (nus l)) ∧ ∀ k, T (.up k) = S k) (fun e _ => vs.length - (intD (e 14)).toNat) ?_ ?_
        · exact ⟨0, _, [], Nat.zero_le _, rfl, Zr, Zr, Zr, Zr, Zr, Zr, .inl ⟨Zr, rfl⟩, fun k => by first | (simp [updS, upS]; done) | (simp [updS, upS]; rfl)⟩
        · rintro e T ⟨i, b12, l, hi, hA, g0, g1, g2, g14, g12, s12, hw, hT⟩
          have hlen := (bldE_spec hA).1
          have ft := And.intro g0 (And.intro g1 (And.intro g2 (And.intro g14 (And.intro g12 s12))))
          repeat (first | with_reducible refine pv_seq fun K hK => ?_ | ((with_reducible first | refine hK _ _ ?_ | (clear hK; refine hK _ _ ?_) | (clear hK; clear hK; refine hK _ _ ?_)); clear hK; try clear K) | refine W0 ?_ | exact Z | with_reducible intro b)
          refine pv_cdD (fun ht => ?_) (fun ht => ?_)
          · have e1 := nus_get (l := us) (i := i) (by omega)
            have e2 := nus_get (l := vs) (i := i) (by omega)
            have pW := p_rAway (hv.at i) oc (hu.at i) h8 h256
            cases hy : awayO p (gD vs i) c (gD us i) with
            | ok y =>
              have st := bldE_step hA hy
              rw [hy, okN_ok] at pW
              generalize nuOf (gD vs i) = X at *
              generalize nuOf (gD us i) = U at *
              have ft := And.intro g0 (And.intro g1 (And.intro g2 (And.intro g14 (And.intro g12 (And.intro s12 (And.intro e1 e2))))))
              repeat' (first | with_reducible refine pv_seq fun K hK => ?_ | ((with_reducible first | refine hK _ _ ?_ | (clear hK; refine hK _ _ ?_) | (clear hK; clear hK; refine hK _ _ ?_)); clear hK; try clear K) | refine W ?_ | exact Z | with_reducible intro b | with_reducible refine And.intro ?_ ?_ | (refine RowZ.appL (hw.up (by rfl)) (by decide) rfl (by simp [D.one, W64]) ?_ ?_ fun d' S' hr' hS' => ?_))
              all_goals first | (rw [rS_len, nus_len]; omega) | (simp only [intD]; omega) | exact ⟨i + 1, b12, l ++ [y], by omega, st, Zr, Zr, by rw [hS' _ (by decide)]; exact Zr, by rw [← rS_u]; exact hr', fun k => by rw [hS' _ (by simp)]; simp [updS]; exact hT k⟩
            | error k =>
              obtain rfl := awayO_c hy
              have er : r = .error 2 := by rw [← hr]; exact bldE_no hA hy ht
              subst er
              rw [hy, okN_no] at pW
              generalize nuOf (gD vs i) = X at *
              generalize nuOf (gD us i) = U at *
              have ft := And.intro g0 (And.intro g1 (And.intro g2 (And.intro g14 (And.intro g12 (And.intro s12 (And.intro e1 e2))))))
              repeat' (first | with_reducible refine pv_seq fun K hK => ?_ | ((with_reducible first | refine hK _ _ ?_ | (clear hK; refine hK _ _ ?_) | (clear hK; clear hK; refine hK _ _ ?_)); clear hK; try clear K) | refine W ?_ | exact Z | with_reducible intro b | with_reducible refine And.intro ?_ ?_ )
              all_goals exact hno 2 _ rfl (fun k hk => by simp only [keepN_ne hk, reduceCtorEq, if_false]; exact hT k)
          · obtain rfl : i = vs.length := by omega
            repeat (first | with_reducible refine pv_seq fun K hK => ?_ | ((with_reducible first | refine hK _ _ ?_ | (clear hK; refine hK _ _ ?_) | (clear hK; clear hK; refine hK _ _ ?_)); clear hK; try clear K) | refine W0 ?_ | exact Z | with_reducible intro b)
            exact J _ _ l (by rw [← hr]; exact hA) hlen hw hT
theorem stop_zero {vs : DL} {i : Nat} (h : gD vs i = 0) : stopA vs (i + 1) = stopA vs i := if_pos h
theorem nu_len0 {d : Dyadic} : (nuOf d).w.length = 0 ↔ d = 0 := by
  constructor
  · intro e
    refine fN_eq_zero.1 ?_
    unfold fN
    rw [List.eq_nil_of_length_eq_zero e]; rfl
  · rintro rfl; rfl
set_option maxHeartbeats 2000000 in
theorem p_rTop {k : Nm} {S : Store} {Q : D → Store → Prop} {b cap : Nat} {vs : DL} (hS : S k = some ⟨b, 3, 0, rS eU (nus vs)⟩) (hv : OkL vs) (hn : vs.length ≤ 1000) (hQ : Q (.tup [i64 (stopA vs vs.length).1, bl (stopA vs vs.length).2]) S) :
    PFC Tryz.prog 21 [.own k b 0 vs.length cap 3] S Q := by
  have d1 := @dl 6 qJ12_21_6
  refine PFB (rs := [.tmp 2, .tmp 3]) Tryz.func21 ?_
  repeat (first | with_reducible refine pv_seq fun K hK => ?_ | ((with_reducible first | refine hK _ _ ?_ | (clear hK; refine hK _ _ ?_) | (clear hK; clear hK; refine hK _ _ ?_)); clear hK; try clear K) | refine W0 ?_ | exact Z | with_reducible intro b)
  have J : ∀ (e : DEnv), e 4 = i64 (stopA vs vs.length).1 → e 5 = bl (stopA vs vs.length).2 → K e (upS S) := by
    intro e g4 g5
    have ft := And.intro g4 g5
    repeat (first | with_reducible refine pv_seq fun K hK => ?_ | ((with_reducible first | refine hK _ _ ?_ | (clear hK; refine hK _ _ ?_) | (clear hK; clear hK; refine hK _ _ ?_)); clear hK; try clear K) | refine W0 ?_ | exact Z | with_reducible intro b)
    exact hQ
  clear hK
  refine pv_loop (fun e T => ∃ (i : Nat), i ≤ vs.length ∧ e 0 = .own (.up k) b 0 vs.length cap 3 ∧ e 4 = i64 (stopA vs i).1 ∧ e 5 = bl (stopA vs i).2 ∧ e 6 = i64 i ∧ T = upS S) (fun e _ => vs.length - (intD (e 6)).toNat) ?_ ?_
  · exact ⟨0, Nat.zero_le _, Zr, Zr, Zr, Zr, rfl⟩
  · rintro e T ⟨i, hi, g0, g4, g5, g6, rfl⟩
    have ft := And.intro g0 (And.intro g4 (And.intro g5 g6))
    repeat (first | with_reducible refine pv_seq fun K hK => ?_ | ((with_reducible first | refine hK _ _ ?_ | (clear hK; refine hK _ _ ?_) | (clear hK; clear hK; refine hK _ _ ?_)); clear hK; try clear K) | refine W0 ?_ | exact Z | with_reducible intro b)
    refine pv_cdD (fun ht => ?_) (fun ht => ?_)
    · have hE : (rS eU (nus vs))[i]? = some (bU (nuOf (gD vs i))) := by rw [rS_get, nus_get ht]; rfl
      have hup : upS S (.up k) = some ⟨b, 3, 0, rS eU (nus vs)⟩ := hS
      have h3 := szD_ok (hv.at i)
      generalize rS eU (nus vs) = E at *
      by_cases hz : gD vs i = 0
      · have hw := nu_len0.2 hz
        have st := stop_zero hz
        generalize nuOf (gD vs i) = X at *
        have k1 : ((X.w.length : Int) = 0) = True := eq_true (by omega)
        have k2 : (X.w.length = 0) = True := eq_true (by omega)
        unfold bU at hE
        have ft := And.intro g0 (And.intro g4 (And.intro g5 (And.intro g6 (And.intro hE (And.intro hup (And.intro k1 k2))))))
        repeat (first | with_reducible refine pv_seq fun K hK => ?_ | ((with_reducible first | refine hK _ _ ?_ | (clear hK; refine hK _ _ ?_) | (clear hK; clear hK; refine hK _ _ ?_)); clear hK; try clear K) | refine W0 ?_ | exact Z | with_reducible intro b)
        refine ⟨⟨i + 1, by omega, ?_, ?_, Zr⟩, by simp only [intD]; omega⟩
        · rw [st]
        · rw [st]
      · have hw := fun e => hz (nu_len0.1 e)
        have pP : PC Tryz.prog 35 [W64 (nuOf (gD vs i)).w] fun d => d = W32 (D32 (fN (gD vs i))) := p_Part (xs := (nuOf (gD vs i)).w) ((hv.at i).sz).b (by have := ((hv.at i).sz).len; omega)
        have pB := p_rBits (n := fN (gD vs i)) (by
          have := digs32_le (bit_hi (fN (gD vs i)))
          show (digs 4294967296 _).length ≤ _
          omega)
        have st : stopA vs (i + 1) = if (stopA vs i).2 = false ∨ (stopA vs i).1 < szD (gD vs i) then (szD (gD vs i), true) else stopA vs i := if_neg hz
        have hsz : szD (gD vs i) = fE (gD vs i) + (bitLen (fN (gD vs i)) : Int) := rfl
        have hX : (nuOf (gD vs i)).exp = fE (gD vs i) := rfl
        rw [hsz] at st
        generalize nuOf (gD vs i) = X at *
        generalize fE (gD vs i) = te at *
        generalize D32 (fN (gD vs i)) = dn at *
        generalize bitLen (fN (gD vs i)) = tb at *
        have k2 : (X.w.length = 0) = False := eq_false hw
        unfold bU at hE
        rw [hX] at hE
        generalize stopA vs i = q at *
        obtain ⟨m, t⟩ := q
        cases t with
        | false =>
          rw [if_pos (.inl rfl)] at st
          have ft := And.intro g0 (And.intro g4 (And.intro g5 (And.intro g6 (And.intro hE (And.intro hup k2)))))
          repeat' (first | with_reducible refine pv_seq fun K hK => ?_ | ((with_reducible first | refine hK _ _ ?_ | (clear hK; refine hK _ _ ?_) | (clear hK; clear hK; refine hK _ _ ?_)); clear hK; try clear K) | refine W ?_ | exact Z | with_reducible intro b | with_reducible refine And.intro ?_ ?_ )
          all_goals first | (simp only [intD]; omega) | exact ⟨i + 1, by omega, by rw [st], by rw [st], Zr⟩
        | true =>
          by_cases hlt : m < te + (tb : Int)
          · have k3 := eq_true hlt
            rw [if_pos (.inr hlt)] at st
            have ft := And.intro g0 (And.intro g4 (And.intro g5 (And.intro g6 (And.intro hE (And.intro hup (And.intro k2 k3))))))
            repeat' (first | with_reducible refine pv_seq fun K hK => ?_ | ((with_reducible first | refine hK _ _ ?_ | (clear hK; refine hK _ _ ?_) | (clear hK; clear hK; refine hK _ _ ?_)); clear hK; try clear K) | refine W ?_ | exact Z | with_reducible intro b | with_reducible refine And.intro ?_ ?_ )
            all_goals first | (simp only [intD]; omega) | exact ⟨i + 1, by omega, by rw [st], by rw [st], Zr⟩
          · have k3 := eq_false hlt
            rw [if_neg (by intro h; rcases h with h | h; cases h; exact hlt h)] at st
            have ft := And.intro g0 (And.intro g4 (And.intro g5 (And.intro g6 (And.intro hE (And.intro hup (And.intro k2 k3))))))
            repeat' (first | with_reducible refine pv_seq fun K hK => ?_ | ((with_reducible first | refine hK _ _ ?_ | (clear hK; refine hK _ _ ?_) | (clear hK; clear hK; refine hK _ _ ?_)); clear hK; try clear K) | refine W ?_ | exact Z | with_reducible intro b | with_reducible refine And.intro ?_ ?_ )
            all_goals first | (simp only [intD]; omega) | exact ⟨i + 1, by omega, by rw [st], by rw [st], Zr⟩
    · obtain rfl : i = vs.length := by omega
      repeat (first | with_reducible refine pv_seq fun K hK => ?_ | ((with_reducible first | refine hK _ _ ?_ | (clear hK; refine hK _ _ ?_) | (clear hK; clear hK; refine hK _ _ ?_)); clear hK; try clear K) | refine W0 ?_ | exact Z | with_reducible intro b)
      exact J _ Zr Zr
end Go.V
namespace Go.V
open Go Go.RowKit Go.Proofs

theorem take_next {l : DL} {i : Nat} (h : i < l.length) : rS eU (nus (l.take i)) ++ [bU (nuOf (gD l i))] = rS eU (nus (l.take (i + 1))) := by
  rw [rS_u, List.take_add_one, List.getElem?_eq_getElem h, gD_get h]; rfl
theorem put_next {ys w : DL} {i : Nat} {y : Dyadic} (hy : ys.length = i) (hi : i < w.length) : (rS eU (nus (ys ++ w.drop i))).set i (bU (nuOf y)) = rS eU (nus ((ys ++ [y]) ++ w.drop (i + 1))) := by
  have h1 : rS eU (nus (ys ++ w.drop i)) = rS eU (nus ys) ++ rS eU (nus (w.drop i)) := by unfold nus; rw [List.map_append, ← rS_app]
  have h2 : rS eU (nus ((ys ++ [y]) ++ w.drop (i + 1))) = rS eU (nus ys) ++ ([bU (nuOf y)] ++ rS eU (nus (w.drop (i + 1)))) := by
    unfold nus; rw [List.map_append, List.map_append, ← rS_app, ← rS_app, List.append_assoc]; rfl
  have h3 : (rS eU (nus ys)).length = i := by rw [rS_len, nus_len, hy]
  rw [h1, h2, List.set_append_right _ _ (by omega), h3, Nat.sub_self, List.drop_eq_getElem_cons hi]
  rfl
theorem get_next {ys w : DL} {i : Nat} (hy : ys.length = i) (hi : i < w.length) : (rS eU (nus (ys ++ w.drop i)))[i]? = some (bU (nuOf (gD w i))) := by
  have : (ys ++ w.drop i)[i]? = some (gD w i) := by
    rw [List.getElem?_append_right (by omega), hy, Nat.sub_self, List.getElem?_drop, Nat.add_zero, gD_get hi, List.getElem?_eq_getElem hi]
  rw [rS_get]; unfold nus; rw [List.getElem?_map, this]; rfl
set_option maxHeartbeats 8000000 in
theorem p_rCols {p : Nat} {a : List DL} (ha : ∀ r ∈ a, OkL r) (hs : ∀ r ∈ a, r.length = a.length) (h1 : 1 ≤ a.length) (h4 : a.length ≤ 4) (h8 : 8 ≤ p) (h256 : p ≤ 256) : PC Tryz.prog 8 [NR a, i64 p] fun d => d = NRE (okR (colsR p a)) := by
  have hmn : ∀ r ∈ a.map nus, ∃ l ∈ a, r = nus l := fun r hr => by obtain ⟨l, h, rfl⟩ := List.mem_map.1 hr; exact ⟨l, h, rfl⟩
  have pQ := p_rPoints (a := a.map nus) (fun r hr x hx => by
      obtain ⟨l, hl, rfl⟩ := hmn r hr
      obtain ⟨d, hd, rfl⟩ := List.mem_map.1 hx
      exact (((ha l hl) d hd).sz).b) (by rw [List.length_map]; omega) (fun r hr => by
      obtain ⟨l, hl, rfl⟩ := hmn r hr
      rw [nus_len, hs l hl]; omega)
  rw [show sqB (a.map nus) = true by
    unfold sqB
    rw [decide_eq_true (show SqR (a.map nus) from fun r hr => by
      obtain ⟨l, hl, rfl⟩ := hmn r hr
      refine ⟨by rw [nus_len, List.length_map, hs l hl], fun x hx => ?_⟩
      obtain ⟨d, hd, rfl⟩ := List.mem_map.1 hx
      rw [rightB_nuOf]; exact decide_eq_true (ha l hl d hd)), List.length_map, decide_eq_true h1, decide_eq_true h4]; rfl] at pQ
  have pV := p_precs6 (p := (p : Int))
  rw [okP_of h8 h256] at pV
  unfold NR
  generalize hr : colsR p a = r
  unfold colsR at hr
  refine PB (rs := [.tmp 4, .tmp 5]) Tryz.func8 ?_
  repeat (first | with_reducible refine pv_seq fun K hK => ?_ | ((with_reducible first | refine hK _ _ ?_ | (clear hK; refine hK _ _ ?_) | (clear hK; clear hK; refine hK _ _ ?_)); clear hK; try clear K) | refine W ?_ | exact Z | with_reducible intro b)
  have Jout : ∀ (e : DEnv) (S : Store) (cols : List DL), colA p a a.length = .ok cols → e 6 = i64 a.length → RowD S (.l 105) 1 (e 7) (rS eR (cols.map nus)) → K e S := by
    intro e S cols hA g6 hmd
    have hcl := colA_ok ha hA
    have hcn := hcl.1
    have er : r = .ok (turned a.length cols) := by rw [← hr, hA]; rfl
    subst er
    rcases hmd with ⟨_, h0⟩ | ⟨b7, c7, p7, g7, s7⟩
    · have := congrArg List.length h0; rw [rS_len, nr_len, hcn, List.length_nil] at this; omega
    · rw [rS_len, nr_len, hcn] at g7
      have hE : ∀ q, q < a.length → (rS eR (cols.map nus))[q]? = some [.g (eS eU (nus (cols.getD q [])))] := fun q hq => by rw [rS_get, nr_get (by omega)]; rfl
      generalize rS eR (cols.map nus) = E at *
      have ft := And.intro g6 (And.intro g7 s7)
      repeat (first | with_reducible refine pv_seq fun K hK => ?_ | ((with_reducible first | refine hK _ _ ?_ | (clear hK; refine hK _ _ ?_) | (clear hK; clear hK; refine hK _ _ ?_)); clear hK; try clear K) | refine W0 ?_ | exact Z | with_reducible intro b)
      have J9 : ∀ (e : DEnv) (S : Store), RowD S (.l 129) 1 (e 19) (rS eR ((turned a.length cols).map nus)) → K e S := by
        intro e S hw
        have ft := true_and
        repeat (first | with_reducible refine pv_seq fun K hK => ?_ | ((with_reducible first | refine hK _ _ ?_ | (clear hK; refine hK _ _ ?_) | (clear hK; clear hK; refine hK _ _ ?_)); clear hK; try clear K) | refine W0 ?_ | exact Z | with_reducible intro b)
        exact hw.coeD fun S' _ _ => rfl
      clear hK
      refine pv_loop (fun e S => ∃ (i : Nat), i ≤ a.length ∧ e 6 = i64 a.length ∧ e 7 = .own (.l 105) b7 0 a.length c7 1 ∧ e 20 = i64 i ∧ S (.l 105) = some ⟨b7, 1, p7, E⟩ ∧ RowD S (.l 129) 1 (e 19) (rS eR (((List.range i).map (rowOf cols)).map nus))) (fun e _ => a.length - (intD (e 20)).toNat) ?_ ?_
      · exact ⟨0, Nat.zero_le _, Zr, Zr, Zr, Zr, .inl ⟨Zr, rfl⟩⟩
      · rintro e S ⟨i, hi, g6, g7, g20, s7, hw⟩
        have hmz : (intD (e 20)).toNat = i := by rw [g20]; rfl
        have ft := And.intro g6 (And.intro g7 (And.intro g20 s7))
        repeat (first | with_reducible refine pv_seq fun K hK => ?_ | ((with_reducible first | refine hK _ _ ?_ | (clear hK; refine hK _ _ ?_) | (clear hK; clear hK; refine hK _ _ ?_)); clear hK; try clear K) | refine W0 ?_ | exact Z | with_reducible intro b)
        refine pv_cdD (fun ht => ?_) (fun ht => ?_)
        · repeat (first | with_reducible refine pv_stopQ 36 ?_ | with_reducible refine pv_seq fun K hK => ?_ | ((with_reducible first | refine hK _ _ ?_ | (clear hK; refine hK _ _ ?_) | (clear hK; clear hK; refine hK _ _ ?_)); clear hK; try clear K) | refine W ?_ | exact Z | with_reducible intro b)
          refine ⟨fun K2 q2 hC => ?_⟩
          repeat (first | with_reducible refine pv_seq fun K hK => ?_ | ((with_reducible first | refine hK _ _ ?_ | (clear hK; refine hK _ _ ?_) | (clear hK; clear hK; refine hK _ _ ?_)); clear hK; try clear K) | refine W0 ?_ | exact Z | with_reducible intro b)
          have J2 : ∀ (e : DEnv) (S : Store), e 6 = i64 a.length → e 7 = .own (.l 105) b7 0 a.length c7 1 → e 20 = i64 i → S (.l 105) = some ⟨b7, 1, p7, E⟩ → RowD S (.l 129) 1 (e 19) (rS eR (((List.range i).map (rowOf cols)).map nus)) → RowD S (.l 125) 3 (e 21) (rS eU (nus (rowOf cols i))) → K2 e S := by
            intro e S g6 g7 g20 s7 hw hl
            refine hC _ _ (Recast.rowSlot 21 hl fun S2 hS2 => ?_)
            refine q2 _ _ ?_
            have s7a : S2 (.l 105) = some ⟨b7, 1, p7, E⟩ := (hS2 _ (by decide)).trans s7
            have ft := And.intro g6 (And.intro g7 (And.intro g20 s7a))
            repeat (first | with_reducible refine pv_seq fun K hK => ?_ | ((with_reducible first | refine hK _ _ ?_ | (clear hK; refine hK _ _ ?_) | (clear hK; clear hK; refine hK _ _ ?_)); clear hK; try clear K) | refine W0 ?_ | exact Z | with_reducible intro b)
            refine RowD.appL (hw.up (hS2 _ (by decide))) (by decide) rfl (by simp [D.one]) ?_ ?_ fun d' S3 hr3 hS3 => ?_
            · rw [rS_len, nr_len]; simp; omega
            · rw [rS_len, nr_len]; simp; omega
            have s7b : S3 (.l 105) = some ⟨b7, 1, p7, E⟩ := by rw [hS3 _ (by decide), updS_ne (by decide)]; exact s7a
            repeat (first | with_reducible refine pv_seq fun K hK => ?_ | ((with_reducible first | refine hK _ _ ?_ | (clear hK; refine hK _ _ ?_) | (clear hK; clear hK; refine hK _ _ ?_)); clear hK; try clear K) | refine W0 ?_ | exact Z | with_reducible intro b)
            rw [rS_r] at hr3
            refine ⟨⟨i + 1, by omega, Zr, s7b, ?_⟩, by rw [hmz]; simp only [intD]; omega⟩
            rw [List.range_succ, List.map_append]; exact hr3
          clear hC q2
          refine pv_loop (fun e S => ∃ (q : Nat), q ≤ a.length ∧ e 6 = i64 a.length ∧ e 7 = .own (.l 105) b7 0 a.length c7 1 ∧ e 20 = i64 i ∧ e 22 = i64 q ∧ S (.l 105) = some ⟨b7, 1, p7, E⟩ ∧ RowD S (.l 129) 1 (e 19) (rS eR (((List.range i).map (rowOf cols)).map nus)) ∧ RowD S (.l 125) 3 (e 21) (rS eU (nus ((rowOf cols i).take q)))) (fun e _ => a.length - (intD (e 22)).toNat) ?_ ?_
          · exact ⟨0, Nat.zero_le _, Zr, Zr, Zr, Zr, Zr, hw, .inl ⟨Zr, rfl⟩⟩
          · rintro e S ⟨q, hq, g6, g7, g20, g22, s7, hw, hl⟩
            have ft := And.intro g6 (And.intro g7 (And.intro g20 (And.intro g22 s7)))
            repeat (first | with_reducible refine pv_seq fun K hK => ?_ | ((with_reducible first | refine hK _ _ ?_ | (clear hK; refine hK _ _ ?_) | (clear hK; clear hK; refine hK _ _ ?_)); clear hK; try clear K) | refine W0 ?_ | exact Z | with_reducible intro b)
            refine pv_cdD (fun hu => ?_) (fun hu => ?_)
            · have eE := hE q hu
              have lc := (hcl.2 _ (gR_mem (a := cols) (i := q) (by omega))).2
              have e2 := nus_get (l := cols.getD q []) (i := i) (by omega)
              have hnx := take_next (l := rowOf cols i) (i := q) (by unfold rowOf; rw [List.length_map]; omega)
              rw [show gD (rowOf cols i) q = gD (cols.getD q []) i by
                unfold rowOf gD
                simp only [List.getD, List.getElem?_map, List.getElem?_eq_getElem (show q < cols.length by omega), Option.map_some, Option.getD_some]] at hnx
              generalize nuOf (gD (cols.getD q []) i) = X at *
              generalize cols.getD q [] = c at *
              have ft := And.intro g6 (And.intro g7 (And.intro g20 (And.intro g22 (And.intro s7 (And.intro eE (And.intro e2 lc))))))
              repeat (first | with_reducible refine pv_seq fun K hK => ?_ | ((with_reducible first | refine hK _ _ ?_ | (clear hK; refine hK _ _ ?_) | (clear hK; clear hK; refine hK _ _ ?_)); clear hK; try clear K) | refine W0 ?_ | exact Z | with_reducible intro b)
              refine RowD.appL hl (by decide) rfl (by simp [D.one, W64]) ?_ ?_ fun d' S3 hr3 hS3 => ?_
              · rw [rS_len, nus_len, List.length_take]; simp; omega
              · rw [rS_len, nus_len, List.length_take]; simp; omega
              have s7b : S3 (.l 105) = some ⟨b7, 1, p7, E⟩ := by rw [hS3 _ (by decide), updS_ne (by decide)]; exact s7
              repeat (first | with_reducible refine pv_seq fun K hK => ?_ | ((with_reducible first | refine hK _ _ ?_ | (clear hK; refine hK _ _ ?_) | (clear hK; clear hK; refine hK _ _ ?_)); clear hK; try clear K) | refine W0 ?_ | exact Z | with_reducible intro b)
              exact ⟨⟨q + 1, by omega, Zr, s7b, hw.up (by rw [hS3 _ (by decide), updS_ne (by decide)]), by rw [← hnx]; exact hr3⟩, by simp only [intD]; omega⟩
            · obtain rfl : q = a.length := by omega
              rw [List.take_of_length_le (by unfold rowOf; rw [List.length_map]; omega)] at hl
              repeat (first | with_reducible refine pv_seq fun K hK => ?_ | ((with_reducible first | refine hK _ _ ?_ | (clear hK; refine hK _ _ ?_) | (clear hK; clear hK; refine hK _ _ ?_)); clear hK; try clear K) | refine W0 ?_ | exact Z | with_reducible intro b)
              exact J2 _ _ Zr Zr Zr s7 hw hl
        · obtain rfl : i = a.length := by omega
          repeat (first | with_reducible refine pv_seq fun K hK => ?_ | ((with_reducible first | refine hK _ _ ?_ | (clear hK; refine hK _ _ ?_) | (clear hK; clear hK; refine hK _ _ ?_)); clear hK; try clear K) | refine W0 ?_ | exact Z | with_reducible intro b)
          exact J9 _ _ hw
  clear hK
  refine pv_loop (fun e S => ∃ (j : Nat) (cols : List DL), j ≤ a.length ∧ colA p a j = .ok cols ∧ e 0 = .g (eS eR (a.map nus)) ∧ e 1 = i64 p ∧ e 6 = i64 a.length ∧ e 8 = i64 j ∧ RowD S (.l 105) 1 (e 7) (rS eR (cols.map nus))) (fun e _ => a.length - (intD (e 8)).toNat) ?_ ?_
  · exact ⟨0, [], Nat.zero_le _, rfl, Zr, Zr, Zr, Zr, .inl ⟨Zr, rfl⟩⟩
  · rintro e S ⟨j, cols, hj, hA, g0, g1, g6, g8, hmd⟩
    have hcol := colA_ok ha hA
    have hmz : (intD (e 8)).toNat = j := by rw [g8]; rfl
    have ft := And.intro g0 (And.intro g1 (And.intro g6 g8))
    repeat (first | with_reducible refine pv_seq fun K hK => ?_ | ((with_reducible first | refine hK _ _ ?_ | (clear hK; refine hK _ _ ?_) | (clear hK; clear hK; refine hK _ _ ?_)); clear hK; try clear K) | refine W0 ?_ | exact Z | with_reducible intro b)
    refine pv_cdD (fun ht => ?_) (fun ht => ?_)
    · have hvl := colOf_len a j
      have okv := colOf_ok ha j
      have st : colA p a (j + 1) = bnd (upR p (colOf a j) cols) fun v => .ok (cols ++ [v]) := runE_step hA
      unfold upR at st
      repeat (first | with_reducible refine pv_seq fun K hK => ?_ | ((with_reducible first | refine hK _ _ ?_ | (clear hK; refine hK _ _ ?_) | (clear hK; clear hK; refine hK _ _ ?_)); clear hK; try clear K) | refine W0 ?_ | exact Z | with_reducible intro b)
      -- a column is whole: what lies along those made ahead is taken off, then it is scaled
      have Jv : ∀ (e : DEnv) (S : Store), e 0 = .g (eS eR (a.map nus)) → e 1 = i64 p → e 6 = i64 a.length → e 8 = i64 j → RowD S (.l 105) 1 (e 7) (rS eR (cols.map nus)) → RowZ S (.l 52) 3 (e 9) (rS eU (nus (colOf a j))) → K e S := by
        intro e S g0 g1 g6 g8 hmd hv
        refine hK _ _ ?_
        clear hK
        refine pv_seq fun K3 q3 => ?_
        have J20 : ∀ (e : DEnv) (S : Store) (kv : Nm) (b9 c9 : Nat) (w : DL), (kv = .l 52 ∨ kv = .r 0 1) → upA p (colOf a j) cols cols.length = .ok w → e 0 = .g (eS eR (a.map nus)) → e 1 = i64 p → e 6 = i64 a.length → e 8 = i64 j → e 9 = .own kv b9 0 a.length c9 3 → S kv = some ⟨b9, 3, 0, rS eU (nus w)⟩ → RowD S (.l 105) 1 (e 7) (rS eR (cols.map nus)) → K3 e S := by
          intro e S kv b9 c9 w hkv hw g0 g1 g6 g8 g9 s9 hmd
          have hw2 := upA_ok okv hw
          have hwl : w.length = a.length := hw2.2.trans hvl
          have g9w : e 9 = .own kv b9 0 w.length c9 3 := by rw [hwl]; exact g9
          have st := st
          rw [hw, bnd_ok] at st
          have m17 : (kv = .l 17) = False := by rcases hkv with rfl | rfl <;> simp
          have n17 : (Nm.l 17 = kv) = False := by rcases hkv with rfl | rfl <;> simp
          have m105 : Nm.l 105 ≠ kv := by rcases hkv with rfl | rfl <;> simp
          refine q3 _ _ ?_
          clear q3
          have ft := And.intro g0 (And.intro g1 (And.intro g6 (And.intro g8 g9w)))
          repeat (first | with_reducible refine pv_seq fun K hK => ?_ | ((with_reducible first | refine hK _ _ ?_ | (clear hK; refine hK _ _ ?_) | (clear hK; clear hK; refine hK _ _ ?_)); clear hK; try clear K) | refine W0 ?_ | exact Z | with_reducible intro b)
          refine p_rTop (vs := w) s9 hw2.1 (by omega) ?_
          rw [stopA_eq]
          by_cases hT : topA w w.length = 0
          · rw [if_pos hT]
            have hz : scaledR w = .error 3 := if_pos hT
            rw [hz, bnd_no] at st
            have er : r = .error 3 := by rw [← hr, show colA p a a.length = .error 3 from runE_err st (by omega)]; rfl
            subst er
            exact Wk
          · rw [if_neg hT]
            have hsc : scaledR w = bldE (fun i => scO (gD w i) (-szD (topD w))) w.length := if_neg hT
            have oT := szD_ok (topA_ok hw2.1 w.length)
            have hzb : -70000 ≤ szD (topA w w.length) ∧ szD (topA w w.length) ≤ 70000 := by unfold szD; omega
            rw [hsc] at st
            unfold topD at st
            generalize szD (topA w w.length) = tz at *
            have hzz : ∀ x, scO x (0 - tz) = scO x (-tz) := fun x => by rw [Int.zero_sub]
            repeat (first | with_reducible refine pv_stopQ 23 ?_ | with_reducible refine pv_seq fun K hK => ?_ | ((with_reducible first | refine hK _ _ ?_ | (clear hK; refine hK _ _ ?_) | (clear hK; clear hK; refine hK _ _ ?_)); clear hK; try clear K) | refine W ?_ | exact Z | with_reducible intro b)
            refine ⟨fun K2 q2 hC => ?_⟩
            have J30 : ∀ (e : DEnv) (S : Store) (ys : DL), bldE (fun i => scO (gD w i) (-tz)) w.length = .ok ys → e 0 = .g (eS eR (a.map nus)) → e 1 = i64 p → e 6 = i64 a.length → e 8 = i64 j → e 9 = .own kv b9 0 a.length c9 3 → S kv = some ⟨b9, 3, 0, rS eU (nus ys)⟩ → RowD S (.l 105) 1 (e 7) (rS eR (cols.map nus)) → K2 e S := by
              intro e S ys hy g0 g1 g6 g8 g9 s9 hmd
              have hyl : ys.length = a.length := (bldE_spec hy).1.trans hwl
              rw [hy, bnd_ok] at st
              refine hC _ _ (Recast.rowSlot 9 (k := kv) (s := 3) (f := eU) (xs := nus ys) (.inr ⟨b9, c9, 0, by rw [rS_len, nus_len, hyl]; exact g9, s9⟩) fun S2 hS2 => ?_)
              refine q2 _ _ ?_
              have ft := And.intro g8 (And.intro g0 (And.intro g1 g6))
              repeat (first | with_reducible refine pv_seq fun K hK => ?_ | ((with_reducible first | refine hK _ _ ?_ | (clear hK; refine hK _ _ ?_) | (clear hK; clear hK; refine hK _ _ ?_)); clear hK; try clear K) | refine W0 ?_ | exact Z | with_reducible intro b)
              refine RowD.appL (hmd.up (hS2 _ m105)) (by decide) rfl (by simp [D.one]) ?_ ?_ fun d' S3 hr3 hS3 => ?_
              · rw [rS_len, nr_len, hcol.1]; simp; omega
              · rw [rS_len, nr_len, hcol.1]; simp; omega
              repeat (first | with_reducible refine pv_seq fun K hK => ?_ | ((with_reducible first | refine hK _ _ ?_ | (clear hK; refine hK _ _ ?_) | (clear hK; clear hK; refine hK _ _ ?_)); clear hK; try clear K) | refine W0 ?_ | exact Z | with_reducible intro b)
              rw [rS_r] at hr3
              exact ⟨⟨j + 1, cols ++ [ys], by omega, st, Zr, hr3⟩, by rw [hmz]; simp only [intD]; omega⟩
            have ft := And.intro g0 (And.intro g1 (And.intro g6 (And.intro g8 g9)))
            repeat (first | with_reducible refine pv_seq fun K hK => ?_ | ((with_reducible first | refine hK _ _ ?_ | (clear hK; refine hK _ _ ?_) | (clear hK; clear hK; refine hK _ _ ?_)); clear hK; try clear K) | refine W0 ?_ | exact Z | with_reducible intro b)
            refine pv_loop (fun e S => ∃ (i : Nat) (ys : DL), i ≤ a.length ∧ bldE (fun i => scO (gD w i) (-tz)) i = .ok ys ∧ e 0 = .g (eS eR (a.map nus)) ∧ e 1 = i64 p ∧ e 6 = i64 a.length ∧ e 8 = i64 j ∧ e 9 = .own kv b9 0 a.length c9 3 ∧ e 14 = i64 tz ∧ e 16 = i64 i ∧ S kv = some ⟨b9, 3, 0, rS eU (nus (ys ++ w.drop i))⟩ ∧ RowD S (.l 105) 1 (e 7) (rS eR (cols.map nus))) (fun e _ => a.length - (intD (e 16)).toNat) ?_ ?_
            · exact ⟨0, [], Nat.zero_le _, rfl, Zr, Zr, Zr, Zr, Zr, Zr, Zr, s9, hmd⟩
            · rintro e S ⟨i, ys, hi, hy, g0, g1, g6, g8, g9, g14, g16, s9, hmd⟩
              have ft := And.intro g0 (And.intro g1 (And.intro g6 (And.intro g8 (And.intro g9 (And.intro g14 (And.intro g16 (And.intro s9 (And.intro m17 n17))))))))
              repeat (first | with_reducible refine pv_seq fun K hK => ?_ | ((with_reducible first | refine hK _ _ ?_ | (clear hK; refine hK _ _ ?_) | (clear hK; clear hK; refine hK _ _ ?_)); clear hK; try clear K) | refine W0 ?_ | exact Z | with_reducible intro b)
              refine pv_cdD (fun hu => ?_) (fun hu => ?_)
              · have hyl := (bldE_spec hy).1
                have eE := get_next hyl (show i < w.length by omega)
                have pSc := p_rScale (x := nuOf (gD w i)) (j := 0 - tz) ((hw2.1.at i).sz).b (by unfold R64; omega)
                rw [scR_O (hw2.1.at i) (by omega) (by omega), hzz] at pSc
                cases hx : scO (gD w i) (-tz) with
                | ok y =>
                  have hst := bldE_step hy hx
                  have hput := put_next (y := y) hyl (show i < w.length by omega)
                  rw [hx, okN_ok] at pSc
                  generalize rS eU (nus (ys ++ w.drop i)) = E at *
                  generalize nuOf (gD w i) = X at *
                  unfold bU at eE
                  have ft := And.intro g0 (And.intro g1 (And.intro g6 (And.intro g8 (And.intro g9 (And.intro g14 (And.intro g16 (And.intro s9 (And.intro m17 (And.intro n17 eE)))))))))
                  repeat' (first | with_reducible refine pv_seq fun K hK => ?_ | ((with_reducible first | refine hK _ _ ?_ | (clear hK; refine hK _ _ ?_) | (clear hK; clear hK; refine hK _ _ ?_)); clear hK; try clear K) | refine W ?_ | exact Z | with_reducible intro b | with_reducible refine And.intro ?_ ?_ )
                  all_goals first | (simp only [intD]; omega) | exact ⟨i + 1, ys ++ [y], by omega, hst, Zr, by rw [← hput]; exact Zr, hmd.up (by rw [updS_ne m105]; simp only [updS]; rfl)⟩
                | error c =>
                  obtain rfl := scO_c hx
                  have er : r = .error 2 := by
                    rw [bldE_no hy hx (show i < w.length by omega), bnd_no] at st
                    rw [← hr, show colA p a a.length = .error 2 from runE_err st (by omega)]; rfl
                  subst er
                  rw [hx, okN_no] at pSc
                  generalize rS eU (nus (ys ++ w.drop i)) = E at *
                  generalize nuOf (gD w i) = X at *
                  unfold bU at eE
                  have ft := And.intro g0 (And.intro g1 (And.intro g6 (And.intro g8 (And.intro g9 (And.intro g14 (And.intro g16 (And.intro s9 (And.intro m17 (And.intro n17 eE)))))))))
                  repeat' (first | with_reducible refine pv_seq fun K hK => ?_ | ((with_reducible first | refine hK _ _ ?_ | (clear hK; refine hK _ _ ?_) | (clear hK; clear hK; refine hK _ _ ?_)); clear hK; try clear K) | refine W ?_ | exact Z | with_reducible intro b | with_reducible refine And.intro ?_ ?_ )
                  all_goals rfl
              · obtain rfl : i = a.length := by omega
                rw [← hwl, List.drop_length, List.append_nil] at s9
                rw [← hwl] at hy
                have ft := And.intro g0 (And.intro g1 (And.intro g6 (And.intro g8 (And.intro g9 (And.intro g14 g16)))))
                repeat (first | with_reducible refine pv_seq fun K hK => ?_ | ((with_reducible first | refine hK _ _ ?_ | (clear hK; refine hK _ _ ?_) | (clear hK; clear hK; refine hK _ _ ?_)); clear hK; try clear K) | refine W0 ?_ | exact Z | with_reducible intro b)
                exact J30 _ _ ys hy Zr Zr Zr Zr Zr s9 hmd
        clear q3
        rcases hv with ⟨_, h0⟩ | ⟨b9, c9, g9, s9⟩
        · have := congrArg List.length h0; rw [rS_len, nus_len, hvl, List.length_nil] at this; omega
        rw [rS_len, nus_len, hvl] at g9
        rcases hmd with ⟨g7, h0⟩ | ⟨b7, c7, p7, g7, s7⟩
        · have hc0 : cols.length = 0 := by have := congrArg List.length h0; rw [rS_len, nr_len, List.length_nil] at this; exact this
          have ft := And.intro g0 (And.intro g1 (And.intro g6 (And.intro g8 (And.intro g9 g7))))
          repeat (first | with_reducible refine pv_seq fun K hK => ?_ | ((with_reducible first | refine hK _ _ ?_ | (clear hK; refine hK _ _ ?_) | (clear hK; clear hK; refine hK _ _ ?_)); clear hK; try clear K) | refine W0 ?_ | exact Z | with_reducible intro b)
          refine pv_loop (fun e S => e 0 = .g (eS eR (a.map nus)) ∧ e 1 = i64 p ∧ e 6 = i64 a.length ∧ e 8 = i64 j ∧ e 7 = .nil ∧ e 9 = .own (.l 52) b9 0 a.length c9 3 ∧ e 11 = i64 0 ∧ S (.l 52) = some ⟨b9, 3, 0, rS eU (nus (colOf a j))⟩) (fun _ _ => 0) ?_ ?_
          · exact ⟨Zr, Zr, Zr, Zr, Zr, Zr, Zr, s9⟩
          · rintro e S ⟨g0, g1, g6, g8, g7, g9, g11, s9⟩
            have ft := And.intro g0 (And.intro g1 (And.intro g6 (And.intro g8 (And.intro g9 (And.intro g7 g11)))))
            repeat (first | with_reducible refine pv_seq fun K hK => ?_ | ((with_reducible first | refine hK _ _ ?_ | (clear hK; refine hK _ _ ?_) | (clear hK; clear hK; refine hK _ _ ?_)); clear hK; try clear K) | refine W0 ?_ | exact Z | with_reducible intro b)
            exact J20 _ _ (.l 52) b9 c9 (colOf a j) (.inl rfl) (by rw [hc0]; rfl) Zr Zr Zr Zr Zr s9 (.inl ⟨Zr, h0⟩)
        · rw [rS_len, nr_len] at g7
          have hEl : (rS eR (cols.map nus)).length = cols.length := by rw [rS_len, nr_len]
          have hE : ∀ q, q < cols.length → (rS eR (cols.map nus))[q]? = some [.g (eS eU (nus (cols.getD q [])))] := fun q hq => by rw [rS_get, nr_get (by omega)]; rfl
          generalize rS eR (cols.map nus) = E at *
          have ft := And.intro g0 (And.intro g1 (And.intro g6 (And.intro g8 (And.intro g9 (And.intro g7 s7)))))
          repeat (first | with_reducible refine pv_seq fun K hK => ?_ | ((with_reducible first | refine hK _ _ ?_ | (clear hK; refine hK _ _ ?_) | (clear hK; clear hK; refine hK _ _ ?_)); clear hK; try clear K) | refine W0 ?_ | exact Z | with_reducible intro b)
          refine pv_loop (fun e S => ∃ (k : Nat) (kv : Nm) (b9 c9 : Nat) (w : DL), k ≤ cols.length ∧ (kv = .l 52 ∨ kv = .r 0 1) ∧ upA p (colOf a j) cols k = .ok w ∧ e 0 = .g (eS eR (a.map nus)) ∧ e 1 = i64 p ∧ e 6 = i64 a.length ∧ e 8 = i64 j ∧ e 7 = .own (.l 105) b7 0 cols.length c7 1 ∧ e 9 = .own kv b9 0 a.length c9 3 ∧ e 11 = i64 k ∧ S (.l 105) = some ⟨b7, 1, p7, E⟩ ∧ S kv = some ⟨b9, 3, 0, rS eU (nus w)⟩) (fun e _ => cols.length - (intD (e 11)).toNat) ?_ ?_
          · exact ⟨0, .l 52, b9, c9, colOf a j, Nat.zero_le _, .inl rfl, rfl, Zr, Zr, Zr, Zr, Zr, Zr, Zr, s7, s9⟩
          · rintro e S ⟨k, kv, b9, c9, w, hk, hkv, hw, g0, g1, g6, g8, g7, g9, g11, s7, s9⟩
            have m105 : Nm.l 105 ≠ kv := by rcases hkv with rfl | rfl <;> simp
            have hw2 := upA_ok okv hw
            have hwl : w.length = a.length := hw2.2.trans hvl
            have ft := And.intro g0 (And.intro g1 (And.intro g6 (And.intro g8 (And.intro g7 (And.intro g9 (And.intro g11 (And.intro s7 s9)))))))
            repeat (first | with_reducible refine pv_seq fun K hK => ?_ | ((with_reducible first | refine hK _ _ ?_ | (clear hK; refine hK _ _ ?_) | (clear hK; clear hK; refine hK _ _ ?_)); clear hK; try clear K) | refine W0 ?_ | exact Z | with_reducible intro b)
            refine pv_cdD (fun hu => ?_) (fun hu => ?_)
            · have hku : k < cols.length := by omega
              have eE := hE k hku
              have hc := hcol.2 _ (gR_mem (a := cols) (i := k) hku)
              have hL : (rS eU (nus w)).length = a.length := by rw [rS_len, nus_len, hwl]
              have hT := List.take_of_length_le (Nat.le_of_eq hL)
              have hP := pureLL_rS (f := eU) (xs := nus w)
              have st2 : upA p (colOf a j) cols (k + 1) = lessR p w (cols.getD k []) := runE_step hw
              generalize rS eU (nus w) = E9 at *
              generalize cols.getD k [] = c at *
              have ft := And.intro g0 (And.intro g1 (And.intro g6 (And.intro g8 (And.intro g7 (And.intro g9 (And.intro g11 (And.intro s7 (And.intro s9 (And.intro eE (And.intro hL (And.intro hT hP)))))))))))
              repeat (first | with_reducible refine pv_seq fun K hK => ?_ | ((with_reducible first | refine hK _ _ ?_ | (clear hK; refine hK _ _ ?_) | (clear hK; clear hK; refine hK _ _ ?_)); clear hK; try clear K) | refine W0 ?_ | exact Z | with_reducible intro b)
              refine PFC.coe ?_
              try simp -implicitDefEqProofs only [ft, go_sem, seval]
              refine p_rWithout (vs := w) (us := c) hw2.1 hc.1 (by omega) (by omega) (by omega) h8 h256 (fun l b' cap S' hl h9 hk9 => ?_) (fun x S' hl hk9 => ?_)
              · rw [hl] at st2
                have hln : l.length = a.length := (lessR_ok hl).2.trans hwl
                have s7a : S' (.l 105) = some ⟨b7, 1, p7, E⟩ := by rw [hk9 _ (by simp), updS_ne m105]; exact s7
                have ft := And.intro g0 (And.intro g1 (And.intro g6 (And.intro g8 (And.intro g7 (And.intro g11 hln)))))
                repeat (first | with_reducible refine pv_seq fun K hK => ?_ | ((with_reducible first | refine hK _ _ ?_ | (clear hK; refine hK _ _ ?_) | (clear hK; clear hK; refine hK _ _ ?_)); clear hK; try clear K) | refine W0 ?_ | exact Z | with_reducible intro b)
                exact ⟨⟨k + 1, .r 0 1, b', cap, l, by omega, .inr rfl, st2, Zr, Zr, s7a, h9⟩, by simp only [intD]; omega⟩
              · rw [hl] at st2
                have er : r = .error x := by
                  rw [show upA p (colOf a j) cols cols.length = .error x from runE_err st2 (by omega), bnd_no, bnd_no] at st
                  rw [← hr, show colA p a a.length = .error x from runE_err st (by omega)]; rfl
                subst er
                rcases lessR_c hl with rfl | rfl
                · have ft := And.intro g0 (And.intro g1 (And.intro g6 (And.intro g8 (And.intro g7 g11))))
                  exact Wk
                · have ft := And.intro g0 (And.intro g1 (And.intro g6 (And.intro g8 (And.intro g7 g11))))
                  exact Wk
            · obtain rfl : k = cols.length := by omega
              have ft := And.intro g0 (And.intro g1 (And.intro g6 (And.intro g8 (And.intro g7 (And.intro g9 g11)))))
              repeat (first | with_reducible refine pv_seq fun K hK => ?_ | ((with_reducible first | refine hK _ _ ?_ | (clear hK; refine hK _ _ ?_) | (clear hK; clear hK; refine hK _ _ ?_)); clear hK; try clear K) | refine W0 ?_ | exact Z | with_reducible intro b)
              exact J20 _ _ kv b9 c9 w hkv hw Zr Zr Zr Zr Zr s9 (.inr ⟨b7, c7, p7, by rw [hEl]; exact Zr, s7⟩)
      clear hK
      refine pv_loop (fun e S => ∃ (i : Nat), i ≤ a.length ∧ e 0 = .g (eS eR (a.map nus)) ∧ e 1 = i64 p ∧ e 6 = i64 a.length ∧ e 8 = i64 j ∧ e 10 = i64 i ∧ RowD S (.l 105) 1 (e 7) (rS eR (cols.map nus)) ∧ RowZ S (.l 52) 3 (e 9) (rS eU (nus ((colOf a j).take i)))) (fun e _ => a.length - (intD (e 10)).toNat) ?_ ?_
      · exact ⟨0, Nat.zero_le _, Zr, Zr, Zr, Zr, Zr, hmd, .inl ⟨Zr, rfl⟩⟩
      · rintro e S ⟨i, hi, g0, g1, g6, g8, g10, hmd, hv⟩
        have ft := And.intro g0 (And.intro g1 (And.intro g6 (And.intro g8 g10)))
        repeat (first | with_reducible refine pv_seq fun K hK => ?_ | ((with_reducible first | refine hK _ _ ?_ | (clear hK; refine hK _ _ ?_) | (clear hK; clear hK; refine hK _ _ ?_)); clear hK; try clear K) | refine W0 ?_ | exact Z | with_reducible intro b)
        refine pv_cdD (fun hu => ?_) (fun hu => ?_)
        · have e1 := nr_get (a := a) hu
          have hrl := hs _ (gR_mem hu)
          have e2 := nus_get (l := a.getD i []) (i := j) (by rw [hrl]; exact ht)
          have hnx := take_next (l := colOf a j) (i := i) (by omega)
          rw [gD_colOf hu] at hnx
          generalize nuOf (gD (a.getD i []) j) = X at *
          generalize a.getD i [] = row at *
          have ft := And.intro g0 (And.intro g1 (And.intro g6 (And.intro g8 (And.intro g10 (And.intro e1 (And.intro e2 hrl))))))
          repeat (first | with_reducible refine pv_seq fun K hK => ?_ | ((with_reducible first | refine hK _ _ ?_ | (clear hK; refine hK _ _ ?_) | (clear hK; clear hK; refine hK _ _ ?_)); clear hK; try clear K) | refine W0 ?_ | exact Z | with_reducible intro b)
          refine RowZ.appL hv (by decide) rfl (by simp [D.one, W64]) ?_ ?_ fun d' S3 hr3 hS3 => ?_
          · rw [rS_len, nus_len, List.length_take]; simp; omega
          · rw [rS_len, nus_len, List.length_take]; simp; omega
          repeat (first | with_reducible refine pv_seq fun K hK => ?_ | ((with_reducible first | refine hK _ _ ?_ | (clear hK; refine hK _ _ ?_) | (clear hK; clear hK; refine hK _ _ ?_)); clear hK; try clear K) | refine W0 ?_ | exact Z | with_reducible intro b)
          exact ⟨⟨i + 1, by omega, Zr, hmd.up (by rw [hS3 _ (by decide), updS_ne (by decide)]), by rw [← hnx]; exact hr3⟩, by simp only [intD]; omega⟩
        · obtain rfl : i = a.length := by omega
          rw [List.take_of_length_le (by omega)] at hv
          repeat (first | with_reducible refine pv_seq fun K hK => ?_ | ((with_reducible first | refine hK _ _ ?_ | (clear hK; refine hK _ _ ?_) | (clear hK; clear hK; refine hK _ _ ?_)); clear hK; try clear K) | refine W0 ?_ | exact Z | with_reducible intro b)
          exact Jv _ _ Zr Zr Zr Zr hmd hv
    · obtain rfl : j = a.length := by omega
      repeat (first | with_reducible refine pv_seq fun K hK => ?_ | ((with_reducible first | refine hK _ _ ?_ | (clear hK; refine hK _ _ ?_) | (clear hK; clear hK; refine hK _ _ ?_)); clear hK; try clear K) | refine W0 ?_ | exact Z | with_reducible intro b)
      exact Jout _ _ cols hA Zr hmd
end Go.V
namespace Go.V
open Go Go.RowKit Go.Proofs
def qJ14_23_6 : List (Nat × Nat) := [(0, 0), (1, 0), (2, 0), (3, 1), (4, 0), (5, 0), (6, 0), (7, 1), (8, 3), (9, 0)]
def qJ14_9_6 : List (Nat × Nat) := [(0, 0), (1, 0), (2, 0), (3, 1), (4, 0), (5, 0), (6, 0), (7, 1), (8, 3), (9, 0)]
attribute [go_sem] qJ14_23_6 qJ14_9_6
theorem p_hNums {l : DL} (hl : OkL l) (hn : l.length ≤ 1000000) : PC Tryz.prog 23 [ND l, ND l] fun d => d = bl true := by
  unfold ND
  have d1 := @dl 6 qJ14_23_6
  refine PB (rs := [.tmp 4]) Tryz.func23 ?_
  repeat (first | with_reducible refine pv_seq fun K hK => ?_ | ((with_reducible first | refine hK _ _ ?_ | (clear hK; refine hK _ _ ?_) | (clear hK; clear hK; refine hK _ _ ?_)); clear hK; try clear K) | refine W0 ?_ | exact Z | with_reducible intro b)
  have J : ∀ (e : DEnv) (S : Store), K e S := by
    intro e S
    exact Wk
  clear hK
  refine pv_loop (fun e S => ∃ (i : Nat), i ≤ l.length ∧ e 0 = .g (eS eU (nus l)) ∧ e 1 = .g (eS eU (nus l)) ∧ e 5 = i64 i) (fun e _ => l.length - (intD (e 5)).toNat) ?_ ?_
  · exact ⟨0, Nat.zero_le _, Zr, Zr, Zr⟩
  · rintro e S ⟨i, hi, g0, g1, g5⟩
    have ft := And.intro g0 (And.intro g1 g5)
    repeat (first | with_reducible refine pv_seq fun K hK => ?_ | ((with_reducible first | refine hK _ _ ?_ | (clear hK; refine hK _ _ ?_) | (clear hK; clear hK; refine hK _ _ ?_)); clear hK; try clear K) | refine W0 ?_ | exact Z | with_reducible intro b)
    refine pv_cdD (fun ht => ?_) (fun ht => ?_)
    · have e1 := nus_get (l := l) (i := i) (by omega)
      have pS := p_rSame (x := nuOf (gD l i)) (y := nuOf (gD l i)) (by have := (hl.at i).len; omega)
      rw [decide_eq_true rfl] at pS
      generalize nuOf (gD l i) = X at *
      have ft := And.intro g0 (And.intro g1 (And.intro g5 e1))
      repeat (first | with_reducible refine pv_seq fun K hK => ?_ | ((with_reducible first | refine hK _ _ ?_ | (clear hK; refine hK _ _ ?_) | (clear hK; clear hK; refine hK _ _ ?_)); clear hK; try clear K) | refine W ?_ | exact Z | with_reducible intro b)
      exact ⟨⟨i + 1, by omega, Zr⟩, by simp only [intD]; omega⟩
    · repeat (first | with_reducible refine pv_seq fun K hK => ?_ | ((with_reducible first | refine hK _ _ ?_ | (clear hK; refine hK _ _ ?_) | (clear hK; clear hK; refine hK _ _ ?_)); clear hK; try clear K) | refine W0 ?_ | exact Z | with_reducible intro b)
      exact J _ _
theorem p_hRows {a : List DL} (hl : ∀ r ∈ a, OkL r) (hn : a.length ≤ 1000000) (hr : ∀ r ∈ a, r.length ≤ 1000000) : PC Tryz.prog 9 [NR a, NR a] fun d => d = bl true := by
  unfold NR
  have d1 := @dl 6 qJ14_9_6
  refine PB (rs := [.tmp 4]) Tryz.func9 ?_
  repeat (first | with_reducible refine pv_seq fun K hK => ?_ | ((with_reducible first | refine hK _ _ ?_ | (clear hK; refine hK _ _ ?_) | (clear hK; clear hK; refine hK _ _ ?_)); clear hK; try clear K) | refine W0 ?_ | exact Z | with_reducible intro b)
  have J : ∀ (e : DEnv) (S : Store), K e S := by
    intro e S
    exact Wk
  clear hK
  refine pv_loop (fun e S => ∃ (i : Nat), i ≤ a.length ∧ e 0 = .g (eS eR (a.map nus)) ∧ e 1 = .g (eS eR (a.map nus)) ∧ e 5 = i64 i) (fun e _ => a.length - (intD (e 5)).toNat) ?_ ?_
  · exact ⟨0, Nat.zero_le _, Zr, Zr, Zr⟩
  · rintro e S ⟨i, hi, g0, g1, g5⟩
    have ft := And.intro g0 (And.intro g1 g5)
    repeat (first | with_reducible refine pv_seq fun K hK => ?_ | ((with_reducible first | refine hK _ _ ?_ | (clear hK; refine hK _ _ ?_) | (clear hK; clear hK; refine hK _ _ ?_)); clear hK; try clear K) | refine W0 ?_ | exact Z | with_reducible intro b)
    refine pv_cdD (fun ht => ?_) (fun ht => ?_)
    · have e1 := nr_get (a := a) (i := i) (by omega)
      have hm := gR_mem (a := a) (i := i) (by omega)
      have pS := p_hNums (hl _ hm) (hr _ hm)
      unfold ND at pS
      generalize a.getD i [] = r at *
      have ft := And.intro g0 (And.intro g1 (And.intro g5 e1))
      repeat (first | with_reducible refine pv_seq fun K hK => ?_ | ((with_reducible first | refine hK _ _ ?_ | (clear hK; refine hK _ _ ?_) | (clear hK; clear hK; refine hK _ _ ?_)); clear hK; try clear K) | refine W ?_ | exact Z | with_reducible intro b)
      exact ⟨⟨i + 1, by omega, Zr⟩, by simp only [intD]; omega⟩
    · repeat (first | with_reducible refine pv_seq fun K hK => ?_ | ((with_reducible first | refine hK _ _ ?_ | (clear hK; refine hK _ _ ?_) | (clear hK; clear hK; refine hK _ _ ?_)); clear hK; try clear K) | refine W0 ?_ | exact Z | with_reducible intro b)
      exact J _ _
theorem turned_ok {n m : Nat} {cols : List DL} (h : ∀ c ∈ cols, OkL c) (hm : cols.length ≤ m) : ∀ r ∈ turned n cols, OkL r ∧ r.length ≤ m := by
  intro r hr
  obtain ⟨i, hi, rfl⟩ := List.mem_map.1 hr
  refine ⟨fun x hx => ?_, by rw [List.length_map]; exact hm⟩
  obtain ⟨c, hc, rfl⟩ := List.mem_map.1 hx
  exact (h c hc).at i
/-- What comes of columns holds few right numbers. -/
theorem colsR_few {p : Nat} {a : List DL} (ha : ∀ r ∈ a, OkL r) (hn : a.length ≤ 4) : (∀ r ∈ (okR (colsR p a)).1, OkL r) ∧ (okR (colsR p a)).1.length ≤ 1000000 ∧ ∀ r ∈ (okR (colsR p a)).1, r.length ≤ 1000000 := by
  cases h : colsR p a with
  | error c => exact ⟨fun r hr => (by cases hr), by simp [okR], fun r hr => (by cases hr)⟩
  | ok x =>
    obtain ⟨cols, h1, h2⟩ := bnd_cases h
    injection h2 with h2
    have hc := colA_ok ha h1
    have ht := turned_ok (n := a.length) (m := 4) (fun c hx => (hc.2 c hx).1) (by omega)
    rw [okR_ok, ← h2]
    exact ⟨fun r hr => (ht r hr).1, by unfold turned; simp; omega, fun r hr => by have := (ht r hr).2; omega⟩
end Go.V
namespace Go.V
open Go Go.RowKit Go.Proofs
def qJ15_7_21 : List (Nat × Nat) := [(0, 0), (1, 0), (2, 0), (3, 0), (4, 0), (5, 2), (6, 1), (7, 4), (8, 3), (9, 0), (10, 3)]
attribute [go_sem] qJ15_7_21
theorem p_oColsBad {p : Int} {a : List (List Nu)} (hb : ∀ r ∈ a, ∀ x ∈ r, B64 x.w) (hl : a.length ≤ 1000000) (hl2 : ∀ r ∈ a, r.length ≤ 1000000) (h : (sqB a && okP p) = false) : PC Tryz.prog 7 [.g (eS eR a), i64 p] fun d => d = .tup [.g (eS eR []), i64 1] := by
  have pQ := p_oSquare hb hl hl2
  have pV := p_Valid (p := p)
  generalize sqB a = s at *
  generalize okP p = t at *
  cases s
  · have d1 := @dl 21 qJ15_7_21
    refine PB (rs := [.tmp 4, .tmp 5]) Tryz.func7 ?_
    exact Wk
  · cases t
    · have d1 := @dl 21 qJ15_7_21
      refine PB (rs := [.tmp 4, .tmp 5]) Tryz.func7 ?_
      exact Wk
    · cases h
theorem p_rColsBad {p : Int} {a : List (List Nu)} (hb : ∀ r ∈ a, ∀ x ∈ r, B64 x.w) (hl : a.length ≤ 1000000) (hl2 : ∀ r ∈ a, r.length ≤ 1000000) (h : (sqB a && okP p) = false) : PC Tryz.prog 8 [.g (eS eR a), i64 p] fun d => d = .tup [.g (eS eR []), i64 1] := by
  have pQ := p_rPoints hb hl hl2
  have pV := p_precs6 (p := p)
  generalize sqB a = s at *
  generalize okP p = t at *
  cases s
  · refine PB (rs := [.tmp 4, .tmp 5]) Tryz.func8 ?_
    exact Wk
  · cases t
    · refine PB (rs := [.tmp 4, .tmp 5]) Tryz.func8 ?_
      exact Wk
    · cases h
/-- Rows of right numbers. -/
theorem sq_nus {a : List (List Nu)} (hb : ∀ r ∈ a, ∀ x ∈ r, B64 x.w) (h : ∀ r ∈ a, ∀ x ∈ r, rightB x = true) : ∃ l : List DL, a = l.map nus ∧ ∀ r ∈ l, OkL r := by
  have h1 : ∀ r : List Nu, (∀ x ∈ r, B64 x.w) → (∀ x ∈ r, rightB x = true) → ∃ l : DL, r = nus l ∧ OkL l := by
    intro r
    induction r with
    | nil => exact fun _ _ => ⟨[], rfl, fun x hx => by cases hx⟩
    | cons x r ih =>
      intro hw hr
      obtain ⟨l, e, hl⟩ := ih (fun y hy => hw y (List.mem_cons_of_mem _ hy)) (fun y hy => hr y (List.mem_cons_of_mem _ hy))
      obtain ⟨d, ho, hd⟩ := right_is (hw x List.mem_cons_self) (hr x List.mem_cons_self)
      refine ⟨d :: l, ?_, fun y hy => ?_⟩
      · rw [hd, e]; rfl
      · rcases List.mem_cons.1 hy with rfl | hy
        · exact ho
        · exact hl y hy
  induction a with
  | nil => exact ⟨[], rfl, fun r hr => by cases hr⟩
  | cons r a ih =>
    obtain ⟨l, e, hl⟩ := ih (fun y hy => hb y (List.mem_cons_of_mem _ hy)) (fun y hy => h y (List.mem_cons_of_mem _ hy))
    obtain ⟨m, e2, hm⟩ := h1 r (hb r List.mem_cons_self) (h r List.mem_cons_self)
    refine ⟨m :: l, by rw [e, e2]; rfl, fun y hy => ?_⟩
    rcases List.mem_cons.1 hy with rfl | hy
    · exact hm
    · exact hl y hy
def lightW (x : Nu) : Prop := x.w.length ≤ 20
instance (x : Nu) : Decidable (lightW x) := inferInstanceAs (Decidable (_ ≤ _))
def lightR (r : List Nu) : Prop := r.length ≤ 6 ∧ ∀ x ∈ r, lightW x
instance (r : List Nu) : Decidable (lightR r) := inferInstanceAs (Decidable (_ ∧ _))
def lightO (a : List (List Nu)) : Prop := a.length ≤ 6 ∧ ∀ r ∈ a, lightR r
instance (a : List (List Nu)) : Decidable (lightO a) := inferInstanceAs (Decidable (_ ∧ _))
theorem hideO (I0 : DEnv → Store → Prop) : ∃ I : DEnv → Store → Prop, (∀ e S, I0 e S → I e S) ∧ ∀ e S, I e S → I0 e S := ⟨I0, fun _ _ h => h, fun _ _ h => h⟩
theorem rowN_at {xs : List (List Nu)} {i : Nat} (h : i < xs.length) : xs[i]? = some (xs.getD i []) := by simp [List.getD, List.getElem?_eq_getElem h]
theorem numN_at {l : List Nu} {i : Nat} (h : i < l.length) : l[i]? = some (l.getD i nu0) := by simp [List.getD, List.getElem?_eq_getElem h]
set_option maxHeartbeats 2000000 in
theorem p_light9 {ls : List (List Nu)} : PC Tryz.prog 6 [.g (eS eR ls)] fun d => d = bl (decide (lightO ls)) := by
  by_cases h6 : 6 < (ls.length : Int)
  · rw [decide_eq_false fun h : lightO ls => by have := h.1; omega]
    refine PB (rs := [.tmp 2]) Tryz.func6 ?_
    have k6 := eq_true h6
    have ft := k6
    repeat (first | with_reducible refine pv_seq fun K hK => ?_ | ((with_reducible first | refine hK _ _ ?_ | (clear hK; refine hK _ _ ?_) | (clear hK; clear hK; refine hK _ _ ?_)); clear hK; try clear K) | refine W0 ?_ | exact Z | with_reducible intro b)
    done
  have k6 := eq_false h6
  have hln : ls.length ≤ 6 := by omega
  refine PB (rs := [.tmp 2]) Tryz.func6 ?_
  have ft := k6
  repeat (first | with_reducible refine pv_seq fun K hK => ?_ | ((with_reducible first | refine hK _ _ ?_ | (clear hK; refine hK _ _ ?_) | (clear hK; clear hK; refine hK _ _ ?_)); clear hK; try clear K) | refine W0 ?_ | exact Z | with_reducible intro b)
  have J : ∀ (e : DEnv) (S : Store), lightO ls → K e S := by
    intro e S h
    repeat (first | with_reducible refine pv_seq fun K hK => ?_ | ((with_reducible first | refine hK _ _ ?_ | (clear hK; refine hK _ _ ?_) | (clear hK; clear hK; refine hK _ _ ?_)); clear hK; try clear K) | refine W0 ?_ | exact Z | with_reducible intro b)
    rw [decide_eq_true h]
  clear hK
  obtain ⟨I, mk, el⟩ := hideO fun e S => ∃ (i : Nat), i ≤ ls.length ∧ e 0 = .g (eS eR ls) ∧ e 3 = i64 i ∧ ∀ j, j < i → lightR (ls.getD j [])
  refine pv_loop I (fun e _ => ls.length - (intD (e 3)).toNat) ?_ ?_
  · exact mk _ _ ⟨0, Nat.zero_le _, Zr, Zr, fun j hj => by omega⟩
  · intro e S hI
    obtain ⟨i, hi, g0, g3, hz⟩ := el e S hI
    clear el hI
    have ft := And.intro g0 g3
    repeat (first | with_reducible refine pv_seq fun K hK => ?_ | ((with_reducible first | refine hK _ _ ?_ | (clear hK; refine hK _ _ ?_) | (clear hK; clear hK; refine hK _ _ ?_)); clear hK; try clear K) | refine W0 ?_ | exact Z | with_reducible intro b)
    refine pv_cdD (fun ht => ?_) (fun ht => ?_)
    · have hil : i < ls.length := by omega
      have hm0 : (intD (e 3)).toNat = i := by rw [g3]; exact Int.toNat_natCast i
      have q1 := rowN_at hil
      have hbad : ¬ lightR (ls.getD i []) → decide (lightO ls) = false := fun h => decide_eq_false fun h2 => h (h2.2 _ (List.mem_of_getElem? q1))
      have mk3 : ∀ (e : DEnv) (S : Store), lightR (ls.getD i []) → e 0 = .g (eS eR ls) → e 3 = i64 ((i + 1 : Nat) : Int) → I e S := fun e S h a1 a2 => mk e S ⟨i + 1, by omega, a1, a2, fun j hj => by
        rcases Nat.lt_or_ge j i with h3 | h3
        · exact hz j h3
        · obtain rfl : j = i := by omega
          exact h⟩
      clear mk J hz
      generalize ls.getD i [] = l at *
      have ft := And.intro g0 (And.intro g3 q1)
      repeat (first | with_reducible refine pv_seq fun K hK => ?_ | ((with_reducible first | refine hK _ _ ?_ | (clear hK; refine hK _ _ ?_) | (clear hK; clear hK; refine hK _ _ ?_)); clear hK; try clear K) | refine W0 ?_ | exact Z | with_reducible intro b)
      refine pv_cdD (fun h14 => ?_) (fun h14 => ?_)
      · repeat (first | with_reducible refine pv_seq fun K hK => ?_ | ((with_reducible first | refine hK _ _ ?_ | (clear hK; refine hK _ _ ?_) | (clear hK; clear hK; refine hK _ _ ?_)); clear hK; try clear K) | refine W0 ?_ | exact Z | with_reducible intro b)
        rw [hbad (fun h => by have := h.1; omega)]
      · repeat (first | with_reducible refine pv_seq fun K hK => ?_ | ((with_reducible first | refine hK _ _ ?_ | (clear hK; refine hK _ _ ?_) | (clear hK; clear hK; refine hK _ _ ?_)); clear hK; try clear K) | refine W0 ?_ | exact Z | with_reducible intro b)
        obtain ⟨I2, mk2, el2⟩ := hideO fun e S => ∃ (j : Nat), j ≤ l.length ∧ e 0 = .g (eS eR ls) ∧ e 3 = i64 i ∧ e 4 = i64 j ∧ ∀ t, t < j → lightW (l.getD t nu0)
        refine pv_loop I2 (fun e _ => l.length - (intD (e 4)).toNat) ?_ ?_
        · exact mk2 _ _ ⟨0, Nat.zero_le _, Zr, Zr, Zr, fun j hj => by omega⟩
        · intro e S hI
          obtain ⟨j, hj, g0, g3, g4, hz2⟩ := el2 e S hI
          clear el2 hI
          have ft := And.intro g0 (And.intro g3 (And.intro g4 q1))
          repeat (first | with_reducible refine pv_seq fun K hK => ?_ | ((with_reducible first | refine hK _ _ ?_ | (clear hK; refine hK _ _ ?_) | (clear hK; clear hK; refine hK _ _ ?_)); clear hK; try clear K) | refine W0 ?_ | exact Z | with_reducible intro b)
          refine pv_cdD (fun ht2 => ?_) (fun ht2 => ?_)
          · have hjl : j < l.length := by omega
            have q2 := numN_at hjl
            have hbad2 : ¬ lightW (l.getD j nu0) → decide (lightO ls) = false := fun h => hbad fun h2 => h (h2.2 _ (List.mem_of_getElem? q2))
            have mk4 : ∀ (e : DEnv) (S : Store), lightW (l.getD j nu0) → e 0 = .g (eS eR ls) → e 3 = i64 i → e 4 = i64 ((j + 1 : Nat) : Int) → I2 e S := fun e S h a1 a2 a3 => mk2 e S ⟨j + 1, by omega, a1, a2, a3, fun t ht => by
              rcases Nat.lt_or_ge t j with h3 | h3
              · exact hz2 t h3
              · obtain rfl : t = j := by omega
                exact h⟩
            clear mk2 mk3 hz2 hbad
            generalize l.getD j nu0 = x at *
            obtain ⟨n1, e1, w1⟩ := x
            by_cases h1 : w1.length ≤ 20
            · have k1 : ((20 : Int) < (w1.length : Int)) = False := eq_false (by omega)
              have ft := And.intro g0 (And.intro g3 (And.intro g4 (And.intro q1 (And.intro q2 k1))))
              repeat (first | with_reducible refine pv_seq fun K hK => ?_ | ((with_reducible first | refine hK _ _ ?_ | (clear hK; refine hK _ _ ?_) | (clear hK; clear hK; refine hK _ _ ?_)); clear hK; try clear K) | refine W0 ?_ | exact Z | with_reducible intro b)
              refine ⟨mk4 _ _ h1 Zr Zr Zr, by simp only [intD]; omega⟩
            · have k1 : ((20 : Int) < (w1.length : Int)) = True := eq_true (by omega)
              have ft := And.intro g0 (And.intro g3 (And.intro g4 (And.intro q1 (And.intro q2 k1))))
              repeat (first | with_reducible refine pv_seq fun K hK => ?_ | ((with_reducible first | refine hK _ _ ?_ | (clear hK; refine hK _ _ ?_) | (clear hK; clear hK; refine hK _ _ ?_)); clear hK; try clear K) | refine W0 ?_ | exact Z | with_reducible intro b)
              rw [hbad2 fun h => h1 h]
          · obtain rfl : j = l.length := by omega
            have ft := And.intro g0 (And.intro g4 (And.intro g3 q1))
            repeat (first | with_reducible refine pv_seq fun K hK => ?_ | ((with_reducible first | refine hK _ _ ?_ | (clear hK; refine hK _ _ ?_) | (clear hK; clear hK; refine hK _ _ ?_)); clear hK; try clear K) | refine W0 ?_ | exact Z | with_reducible intro b)
            refine ⟨mk3 _ _ ⟨by omega, fun x hx => ?_⟩ Zr Zr, by rw [hm0]; simp only [intD]; omega⟩
            obtain ⟨t, ht2⟩ := List.getElem?_of_mem hx
            have htl : t < l.length := (List.getElem?_eq_some_iff.1 ht2).1
            have := hz2 t htl
            simpa [List.getD, ht2] using this
    · obtain rfl : i = ls.length := by omega
      have ft := And.intro g3 g0
      repeat (first | with_reducible refine pv_seq fun K hK => ?_ | ((with_reducible first | refine hK _ _ ?_ | (clear hK; refine hK _ _ ?_) | (clear hK; clear hK; refine hK _ _ ?_)); clear hK; try clear K) | refine W0 ?_ | exact Z | with_reducible intro b)
      refine J _ _ ⟨by omega, fun l hx => ?_⟩
      obtain ⟨t, ht2⟩ := List.getElem?_of_mem hx
      have htl : t < ls.length := (List.getElem?_eq_some_iff.1 ht2).1
      have := hz t htl
      simpa [List.getD, ht2] using this
/-- What both documents answer. -/
def anyR (p : Int) (a : List (List Nu)) (q : List DL × Int) : Prop :=
  PC Tryz.prog 7 [.g (eS eR a), i64 p] (fun d => d = NRE q) ∧ PC Tryz.prog 8 [.g (eS eR a), i64 p] (fun d => d = NRE q) ∧ PC Tryz.prog 9 [NR q.1, NR q.1] fun d => d = bl true
theorem anyR_is {p : Int} {a : List (List Nu)} (hb : ∀ r ∈ a, ∀ x ∈ r, B64 x.w) (hl : lightO a) : ∃ q, anyR p a q := by
  have l1 : a.length ≤ 1000000 := by have := hl.1; omega
  have l2 : ∀ r ∈ a, r.length ≤ 1000000 := fun r hr => by have := (hl.2 r hr).1; omega
  cases h : (sqB a && okP p) with
  | false =>
    refine ⟨([], 1), p_oColsBad hb l1 l2 h, p_rColsBad hb l1 l2 h, ?_⟩
    exact p_hRows (a := []) (fun r hr => by cases hr) (by simp) (fun r hr => by cases hr)
  | true =>
    rw [Bool.and_eq_true] at h
    obtain ⟨hs, hp⟩ := h
    unfold sqB at hs
    simp only [Bool.and_eq_true, decide_eq_true_eq] at hs
    obtain ⟨⟨hsq, h1⟩, h4⟩ := hs
    unfold okP at hp
    simp only [Bool.and_eq_true, decide_eq_true_eq] at hp
    obtain ⟨p, rfl⟩ : ∃ n : Nat, p = n := ⟨p.toNat, by omega⟩
    obtain ⟨l, rfl, hok⟩ := sq_nus hb fun r hr x hx => (hsq r hr).2 x hx
    have hlen : ∀ r ∈ l, r.length = l.length := fun r hr => by
      have := (hsq (nus r) (List.mem_map_of_mem hr)).1
      rwa [nus_len, List.length_map] at this
    rw [List.length_map] at h1 h4
    obtain ⟨f1, f2, f3⟩ := colsR_few (p := p) hok (by omega)
    exact ⟨okR (colsR p l), p_oCols hok hlen (by omega) (by omega) (by omega) (by omega), p_rCols hok hlen (by omega) (by omega) (by omega) (by omega), p_hRows f1 f2 f3⟩
set_option maxHeartbeats 1000000 in
theorem p_OrthoAny {p : Int} {a : List (List Nu)} (hb : ∀ r ∈ a, ∀ x ∈ r, B64 x.w) : PC Tryz.prog 3 [.g (eS eR a), i64 p] fun d => d = bl true := by
  have pK := p_known9
  have pL := p_light9 (ls := a)
  by_cases hl : lightO a
  · rw [decide_eq_true hl] at pL
    obtain ⟨q, pC, pD, pR⟩ := anyR_is (p := p) hb hl
    obtain ⟨q1, q2⟩ := q
    simp only at pR
    unfold NRE NR at pC pD
    unfold NR at pR
    refine PB (rs := [.tmp 4]) Tryz.func3 ?_
    exact Wk
  · rw [decide_eq_false hl] at pL
    refine PB (rs := [.tmp 4]) Tryz.func3 ?_
    exact Wk
end Go.V

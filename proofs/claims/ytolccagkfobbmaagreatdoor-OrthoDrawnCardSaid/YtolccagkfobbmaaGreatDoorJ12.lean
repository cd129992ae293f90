/- The document's matrices over values as data: sums of products, a column less another one, its greatest amount. -/
import Derived.Test.YtolccagkfobbmaaGreatDoorJ11
set_option linter.unusedSimpArgs false
set_option linter.unusedVariables false
set_option maxRecDepth 100000
namespace Go.V
open Go Go.RowKit Go.Proofs
def qJ12_31_5 : PT := (.lin [(0, 0), (1, 0), (2, 0), (3, 2), (4, 0), (5, 0), (6, 0), (7, 2), (8, 0)] (.fork 9 3 (.lin [(10, 0), (11, 0), (12, 0), (13, 4), (14, 3), (15, 0)] .nil) 13 4 (.lin [(9, 3), (10, 0), (11, 0), (12, 0), (14, 3), (15, 0)] .nil)))
def qJ12_20_12 : PT := (.lin [(0, 0), (1, 0), (2, 0), (3, 2), (4, 2), (5, 0), (6, 0), (7, 0), (8, 2), (9, 0)] (.fork 10 3 (.lin [(11, 0), (12, 0), (13, 0), (14, 4), (15, 3), (16, 0)] .nil) 14 4 (.lin [(10, 3), (11, 0), (12, 0), (13, 0), (15, 3), (16, 0)] .nil)))
def qJ12_21_6 : List (Nat × Nat) := [(0, 0), (1, 0), (2, 0), (3, 0), (4, 2), (5, 0), (6, 0), (7, 0), (8, 0), (9, 1), (10, 4), (11, 4), (12, 0), (13, 0)]
attribute [go_sem] qJ12_31_5 qJ12_20_12 qJ12_21_6

set_option maxHeartbeats 1000000 in
theorem p_rDots {p : Nat} {us vs : DL} (hu : OkL us) (hv : OkL vs) (hl : vs.length = us.length) (h0 : 0 < us.length) (hn : us.length ≤ 1000) (h8 : 8 ≤ p) (h256 : p ≤ 256) : PC Tryz.prog 31 [ND us, ND vs, i64 p] fun d => d = NE (okN (dotR p us vs)) := by
  unfold ND
  generalize hr : dotR p us vs = r
  have d1 := @dr 5 qJ12_31_5
  refine PB (rs := [.cell 6 38, .tmp 7]) Tryz.func31 ?_
  refine pv_seq fun K1 q1 => ?_
  repeat (first | with_reducible refine pv_seq fun K hK => ?_ | ((with_reducible first | refine hK _ _ ?_ | (clear hK; refine hK _ _ ?_) | (clear hK; clear hK; refine hK _ _ ?_)); clear hK; try clear K) | refine W0 ?_ | exact Z | with_reducible intro b)
  refine q1 _ _ ?_
  clear q1
  refine pv_seqR fun K2 q2 hC => ?_
  repeat (first | with_reducible refine pv_seq fun K hK => ?_ | ((with_reducible first | refine hK _ _ ?_ | (clear hK; refine hK _ _ ?_) | (clear hK; clear hK; refine hK _ _ ?_)); clear hK; try clear K) | refine W0 ?_ | exact Z | with_reducible intro b)
  refine hC _ _ (Recast.z3 (k := .l 8) Zr ?_)
  refine q2 _ _ ?_
  clear q2 hC
  repeat (first | with_reducible refine pv_seq fun K hK => ?_ | ((with_reducible first | refine hK _ _ ?_ | (clear hK; refine hK _ _ ?_) | (clear hK; clear hK; refine hK _ _ ?_)); clear hK; try clear K) | refine W0 ?_ | exact Z | with_reducible intro b)
  have J : ∀ (e : DEnv) (S : Store) (b6 b8 : Nat) (s : Dyadic), r = .ok s → e 6 = .ptr (.l 6) b6 0 0 3 → e 8 = .ptr (.l 8) b8 0 0 3 → S (.l 6) = some ⟨b6, 3, 0, [[bl false, i64 0, .nil]]⟩ → S (.l 8) = some ⟨b8, 3, 0, [bU (nuOf s)]⟩ → K e S := by
    intro e S b6 b8 s hs g6 g8 s6 s8
    subst hs
    have ft := And.intro g6 (And.intro g8 (And.intro s6 s8))
    exact Wk
  clear hK
  refine pv_loop (fun e S => ∃ (i b6 b8 : Nat) (s : Dyadic), i ≤ us.length ∧ dotA p us vs i = .ok s ∧ e 0 = .g (eS eU (nus us)) ∧ e 1 = .g (eS eU (nus vs)) ∧ e 2 = i64 p ∧ e 9 = i64 i ∧ e 6 = .ptr (.l 6) b6 0 0 3 ∧ e 8 = .ptr (.l 8) b8 0 0 3 ∧ S (.l 6) = some ⟨b6, 3, 0, [[bl false, i64 0, .nil]]⟩ ∧ S (.l 8) = some ⟨b8, 3, 0, [bU (nuOf s)]⟩) (fun e _ => us.length - (intD (e 9)).toNat) ?_ ?_
  · exact ⟨0, _, _, 0, Nat.zero_le _, rfl, Zr, Zr, Zr, Zr, Zr, Zr, Zr, Zr⟩
  · rintro e S ⟨i, b6, b8, s, hi, hA, g0, g1, g2, g9, g6, g8, s6, s8⟩
    have ft := And.intro g0 (And.intro g1 (And.intro g2 (And.intro g9 (And.intro g6 (And.intro g8 (And.intro s6 s8))))))
    repeat (first | with_reducible refine pv_seq fun K hK => ?_ | ((with_reducible first | refine hK _ _ ?_ | (clear hK; refine hK _ _ ?_) | (clear hK; clear hK; refine hK _ _ ?_)); clear hK; try clear K) | refine W0 ?_ | exact Z | with_reducible intro b)
    refine pv_cdD (fun ht => ?_) (fun ht => ?_)
    · have e1 := nus_get (l := us) ht
      have e2 := nus_get (l := vs) (i := i) (by omega)
      have pM := p_rkMul (hu.at i) (hv.at i) h8 h256
      have st := runE_step hA
      have os := dotA_ok hA
      unfold dotS mulO at st
      have er : ∀ c, dotA p us vs (i + 1) = .error c → r = .error c := fun c h => by rw [← hr]; exact runE_err h (by omega)
      unfold dotA at er
      by_cases hm : OkD (rd p false (gD us i * gD vs i))
      · rw [numR_ok hm] at pM
        rw [okO_ok hm, bnd_ok] at st
        generalize nuOf (gD us i) = X at *
        generalize nuOf (gD vs i) = Y at *
        generalize rd p false (gD us i * gD vs i) = x at *
        by_cases hi0 : i = 0
        · subst hi0
          rw [if_pos rfl] at st
          have ft := And.intro g0 (And.intro g1 (And.intro g2 (And.intro g9 (And.intro g6 (And.intro g8 (And.intro s6 (And.intro s8 (And.intro e1 e2))))))))
          repeat' (first | with_reducible refine pv_seq fun K hK => ?_ | ((with_reducible first | refine hK _ _ ?_ | (clear hK; refine hK _ _ ?_) | (clear hK; clear hK; refine hK _ _ ?_)); clear hK; try clear K) | refine W ?_ | exact Z | with_reducible intro b | with_reducible refine And.intro ?_ ?_ )
          all_goals first | (simp only [intD]; omega) | exact ⟨1, b6, b8, x, by omega, st, Zr, Zr, Zr, Zr, Zr⟩
        · rw [if_neg hi0] at st
          have k1 : (0 < i) = True := eq_true (by omega)
          have pA := p_rkAdd os hm h8 h256
          by_cases ho : OkD (rd p false (s + x))
          · rw [numR_ok ho] at pA
            rw [okO_ok ho] at st
            generalize rd p false (s + x) = y at *
            generalize nuOf s = Z at *
            have ft := And.intro g0 (And.intro g1 (And.intro g2 (And.intro g9 (And.intro g6 (And.intro g8 (And.intro s6 (And.intro s8 (And.intro e1 (And.intro e2 k1)))))))))
            repeat' (first | with_reducible refine pv_seq fun K hK => ?_ | ((with_reducible first | refine hK _ _ ?_ | (clear hK; refine hK _ _ ?_) | (clear hK; clear hK; refine hK _ _ ?_)); clear hK; try clear K) | refine W ?_ | exact Z | with_reducible intro b | with_reducible refine And.intro ?_ ?_ )
            all_goals first | (simp only [intD]; omega) | exact ⟨i + 1, b6, b8, y, by omega, st, Zr, Zr, Zr, Zr, Zr⟩
          · rw [numR_over ho] at pA
            rw [okO_no ho] at st
            have er := er _ st
            subst er
            generalize nuOf s = Z at *
            have ft := And.intro g0 (And.intro g1 (And.intro g2 (And.intro g9 (And.intro g6 (And.intro g8 (And.intro s6 (And.intro s8 (And.intro e1 (And.intro e2 k1)))))))))
            repeat' (first | with_reducible refine pv_seq fun K hK => ?_ | ((with_reducible first | refine hK _ _ ?_ | (clear hK; refine hK _ _ ?_) | (clear hK; clear hK; refine hK _ _ ?_)); clear hK; try clear K) | refine W ?_ | exact Z | with_reducible intro b | with_reducible refine And.intro ?_ ?_ )
            all_goals rfl
      · rw [numR_over hm] at pM
        rw [okO_no hm, bnd_no] at st
        have er := er _ st
        subst er
        generalize nuOf (gD us i) = X at *
        generalize nuOf (gD vs i) = Y at *
        have ft := And.intro g0 (And.intro g1 (And.intro g2 (And.intro g9 (And.intro g6 (And.intro g8 (And.intro s6 (And.intro s8 (And.intro e1 e2))))))))
        repeat' (first | with_reducible refine pv_seq fun K hK => ?_ | ((with_reducible first | refine hK _ _ ?_ | (clear hK; refine hK _ _ ?_) | (clear hK; clear hK; refine hK _ _ ?_)); clear hK; try clear K) | refine W ?_ | exact Z | with_reducible intro b | with_reducible refine And.intro ?_ ?_ )
        all_goals rfl
    · obtain rfl : i = us.length := by omega
      repeat (first | with_reducible refine pv_seq fun K hK => ?_ | ((with_reducible first | refine hK _ _ ?_ | (clear hK; refine hK _ _ ?_) | (clear hK; clear hK; refine hK _ _ ?_)); clear hK; try clear K) | refine W0 ?_ | exact Z | with_reducible intro b)
      exact J _ _ b6 b8 s (by rw [← hr]; exact hA) Zr Zr Zr Zr
set_option maxHeartbeats 4000000 in
theorem p_rWithout {S : Store} {Q : D → Store → Prop} {p : Nat} {vs us : DL} (hv : OkL vs) (hu : OkL us) (hl : vs.length = us.length) (h0 : 0 < us.length) (hn : us.length ≤ 1000) (h8 : 8 ≤ p) (h256 : p ≤ 256)
    (hok : ∀ (l : DL) (b cap : Nat) (S' : Store), lessR p vs us = .ok l → S' (.r 0 1) = some ⟨b, 3, 0, rS eU (nus l)⟩ → (∀ k, k ≠ .r 0 1 → S' k = S k) → Q (.tup [.own (.r 0 1) b 0 l.length cap 3, i64 0]) S')
    (hno : ∀ (c : Int) (S' : Store), lessR p vs us = .error c → (∀ k, k ≠ .r 0 1 → S' k = S k) → Q (.tup [.nil, i64 c]) S') : PFC Tryz.prog 20 [ND vs, ND us, i64 p] S Q := by
  have pA := p_rDots hu hv hl h0 hn h8 h256
  have pB := p_rDots hu hu rfl h0 hn h8 h256
  unfold ND at pA pB ⊢
  have hkeep : ∀ {T : Store}, (∀ k, T (.up k) = S k) → ∀ k, k ≠ .r 0 1 → T (keepN (.r 0 1) 73 k) = S k := fun hT k hk => by rw [keepN_ne hk]; exact hT k
  generalize hr : lessR p vs us = r at *
  unfold lessR at hr
  have d1 := @dr 12 qJ12_20_12
  refine PRB (keepN (.r 0 1) 73) (tellN (.r 0 1) 73) (keepN_inj _ _) (rs := [.tmp 6, .tmp 7]) Tryz.func20 ?_
  cases ha : dotR p us vs with
  | error c =>
    obtain rfl := dotA_c ha
    rw [ha, okN_no] at pA
    rw [ha, bnd_no] at hr
    subst hr
    generalize okN (dotR p us us) = q at pB
    obtain ⟨q1, q2⟩ := q
    repeat (first | with_reducible refine pv_seq fun K hK => ?_ | ((with_reducible first | refine hK _ _ ?_ | (clear hK; refine hK _ _ ?_) | (clear hK; clear hK; refine hK _ _ ?_)); clear hK; try clear K) | refine W ?_ | exact Z | with_reducible intro b)
    exact hno 2 _ rfl (fun k hk => by simp only [keepN_ne hk, reduceCtorEq, if_false, upS_up])
  | ok a =>
    have oa := dotA_ok ha
    rw [ha, okN_ok] at pA
    rw [ha, bnd_ok] at hr
    cases hb : dotR p us us with
    | error c =>
      obtain rfl := dotA_c hb
      rw [hb, okN_no] at pB
      rw [hb, bnd_no] at hr
      subst hr
      repeat (first | with_reducible refine pv_seq fun K hK => ?_ | ((with_reducible first | refine hK _ _ ?_ | (clear hK; refine hK _ _ ?_) | (clear hK; clear hK; refine hK _ _ ?_)); clear hK; try clear K) | refine W ?_ | exact Z | with_reducible intro b)
      exact hno 2 _ rfl (fun k hk => by simp only [keepN_ne hk, reduceCtorEq, if_false, upS_up])
    | ok b =>
      have ob := dotA_ok hb
      have pC := p_rkDiv oa ob h8 h256
      rw [hb, okN_ok] at pB
      rw [hb, bnd_ok] at hr
      cases hc : divO p a b with
      | error c =>
        rw [hc, okN_no] at pC
        rw [hc, bnd_no] at hr
        subst hr
        rcases divO_c hc with rfl | rfl
        · repeat (first | with_reducible refine pv_seq fun K hK => ?_ | ((with_reducible first | refine hK _ _ ?_ | (clear hK; refine hK _ _ ?_) | (clear hK; clear hK; refine hK _ _ ?_)); clear hK; try clear K) | refine W ?_ | exact Z | with_reducible intro b)
          exact hno 3 _ rfl (fun k hk => by simp only [keepN_ne hk, reduceCtorEq, if_false, upS_up])
        · repeat (first | with_reducible refine pv_seq fun K hK => ?_ | ((with_reducible first | refine hK _ _ ?_ | (clear hK; refine hK _ _ ?_) | (clear hK; clear hK; refine hK _ _ ?_)); clear hK; try clear K) | refine W ?_ | exact Z | with_reducible intro b)
          exact hno 2 _ rfl (fun k hk => by simp only [keepN_ne hk, reduceCtorEq, if_false, upS_up])
      | ok c =>
        have oc := divO_ok hc
        rw [hc, okN_ok] at pC
        rw [hc, bnd_ok] at hr
        repeat (first | with_reducible refine pv_seq fun K hK => ?_ | ((with_reducible first | refine hK _ _ ?_ | (clear hK; refine hK _ _ ?_) | (clear hK; clear hK; refine hK _ _ ?_)); clear hK; try clear K) | refine W ?_ | exact Z | with_reducible intro b)
        have J : ∀ (e : DEnv) (T : Store) (l : DL), r = .ok l → l.length = vs.length → RowZ T (.l 73) 3 (e 13) (rS eU (nus l)) → (∀ k, T (.up k) = S k) → K e T := by
          intro e T l hs hll hw hT
          rcases hw with ⟨_, h9⟩ | ⟨b9, cap, g13, s73⟩
          · have := congrArg List.length h9; rw [rS_len, nus_len, hll, List.length_nil] at this; omega
          · rw [rS_len, nus_len] at g13
            have ft := g13
            repeat (first | with_reducible refine pv_seq fun K hK => ?_ | ((with_reducible first | refine hK _ _ ?_ | (clear hK; refine hK _ _ ?_) | (clear hK; clear hK; refine hK _ _ ?_)); clear hK; try clear K) | refine W0 ?_ | exact Z | with_reducible intro b)
            exact hok l b9 cap _ hs (by show T (keepN _ _ _) = _; rw [keepN_self]; exact s73) (hkeep hT)
        clear hK pA pB pC
        refine pv_loop (fun e T => ∃ (i b12 : Nat) (l : DL), i ≤ vs.length ∧ bldE (fun i => awayO p (gD vs i) c (gD us i)) i = .ok l ∧ e 0 = .g (eS eU (nus vs)) ∧ e 1 = .g (eS eU (nus us)) ∧ e 2 = i64 p ∧ e 14 = i64 i ∧ e 12 = .ptr (.l 12) b12 0 0 3 ∧ T (.l 12) = some ⟨b12, 3, 0, [bU (nuOf c)]⟩ ∧ RowZ T (.l 73) 3 (e 13) (rS eU (nus l)) ∧ ∀ k, T (.up k) = S k) (fun e _ => vs.length - (intD (e 14)).toNat) ?_ ?_
        · exact ⟨0, _, [], Nat.zero_le _, rfl, Zr, Zr, Zr, Zr, Zr, Zr, .inl ⟨Zr, rfl⟩, fun k => by simp [updS, upS]⟩
        · rintro e T ⟨i, b12, l, hi, hA, g0, g1, g2, g14, g12, s12, hw, hT⟩
          have hlen := (bldE_spec hA).1
          have ft := And.intro g0 (And.intro g1 (And.intro g2 (And.intro g14 (And.intro g12 s12))))
          repeat (first | with_reducible refine pv_seq fun K hK => ?_ | ((with_reducible first | refine hK _ _ ?_ | (clear hK; refine hK _ _ ?_) | (clear hK; clear hK; refine hK _ _ ?_)); clear hK; try clear K) | refine W0 ?_ | exact Z | with_reducible intro b)
          refine pv_cdD (fun ht => ?_) (fun ht => ?_)
          · have e1 := nus_get (l := us) (i := i) (by omega)
            have e2 := nus_get (l := vs) (i := i) (by omega)
            have pW := p_rAway (hv.at i) oc (hu.at i) h8 h256
            cases hy : awayO p (gD vs i) c (gD us i) with
            | ok y =>
              have st := bldE_step hA hy
              rw [hy, okN_ok] at pW
              generalize nuOf (gD vs i) = X at *
              generalize nuOf (gD us i) = U at *
              have ft := And.intro g0 (And.intro g1 (And.intro g2 (And.intro g14 (And.intro g12 (And.intro s12 (And.intro e1 e2))))))
              repeat' (first | with_reducible refine pv_seq fun K hK => ?_ | ((with_reducible first | refine hK _ _ ?_ | (clear hK; refine hK _ _ ?_) | (clear hK; clear hK; refine hK _ _ ?_)); clear hK; try clear K) | refine W ?_ | exact Z | with_reducible intro b | with_reducible refine And.intro ?_ ?_ | (refine RowZ.appL (hw.up (by rfl)) (by decide) rfl (by simp [D.one, W64]) ?_ ?_ fun d' S' hr' hS' => ?_))
              all_goals first | (rw [rS_len, nus_len]; omega) | (simp only [intD]; omega) | exact ⟨i + 1, b12, l ++ [y], by omega, st, Zr, Zr, by rw [hS' _ (by decide)]; exact Zr, by rw [← rS_u]; exact hr', fun k => by rw [hS' _ (by simp)]; simp [updS]; exact hT k⟩
            | error k =>
              obtain rfl := awayO_c hy
              have er : r = .error 2 := by rw [← hr]; exact bldE_no hA hy ht
              subst er
              rw [hy, okN_no] at pW
              generalize nuOf (gD vs i) = X at *
              generalize nuOf (gD us i) = U at *
              have ft := And.intro g0 (And.intro g1 (And.intro g2 (And.intro g14 (And.intro g12 (And.intro s12 (And.intro e1 e2))))))
              repeat' (first | with_reducible refine pv_seq fun K hK => ?_ | ((with_reducible first | refine hK _ _ ?_ | (clear hK; refine hK _ _ ?_) | (clear hK; clear hK; refine hK _ _ ?_)); clear hK; try clear K) | refine W ?_ | exact Z | with_reducible intro b | with_reducible refine And.intro ?_ ?_ )
              all_goals exact hno 2 _ rfl (fun k hk => by simp only [keepN_ne hk, reduceCtorEq, if_false]; exact hT k)
          · obtain rfl : i = vs.length := by omega
            repeat (first | with_reducible refine pv_seq fun K hK => ?_ | ((with_reducible first | refine hK _ _ ?_ | (clear hK; refine hK _ _ ?_) | (clear hK; clear hK; refine hK _ _ ?_)); clear hK; try clear K) | refine W0 ?_ | exact Z | with_reducible intro b)
            exact J _ _ l (by rw [← hr]; exact hA) hlen hw hT
theorem stop_zero {vs : DL} {i : Nat} (h : gD vs i = 0) : stopA vs (i + 1) = stopA vs i := if_pos h
theorem nu_len0 {d : Dyadic} : (nuOf d).w.length = 0 ↔ d = 0 := by
  constructor
  · intro e
    refine fN_eq_zero.1 ?_
    unfold fN
    rw [List.eq_nil_of_length_eq_zero e]; rfl
  · rintro rfl; rfl
set_option maxHeartbeats 2000000 in
theorem p_rTop {k : Nm} {S : Store} {Q : D → Store → Prop} {b cap : Nat} {vs : DL} (hS : S k = some ⟨b, 3, 0, rS eU (nus vs)⟩) (hv : OkL vs) (hn : vs.length ≤ 1000) (hQ : Q (.tup [i64 (stopA vs vs.length).1, bl (stopA vs vs.length).2]) S) :
    PFC Tryz.prog 21 [.own k b 0 vs.length cap 3] S Q := by
  have d1 := @dl 6 qJ12_21_6
  refine PFB (rs := [.tmp 2, .tmp 3]) Tryz.func21 ?_
  repeat (first | with_reducible refine pv_seq fun K hK => ?_ | ((with_reducible first | refine hK _ _ ?_ | (clear hK; refine hK _ _ ?_) | (clear hK; clear hK; refine hK _ _ ?_)); clear hK; try clear K) | refine W0 ?_ | exact Z | with_reducible intro b)
  have J : ∀ (e : DEnv), e 4 = i64 (stopA vs vs.length).1 → e 5 = bl (stopA vs vs.length).2 → K e (upS S) := by
    intro e g4 g5
    have ft := And.intro g4 g5
    repeat (first | with_reducible refine pv_seq fun K hK => ?_ | ((with_reducible first | refine hK _ _ ?_ | (clear hK; refine hK _ _ ?_) | (clear hK; clear hK; refine hK _ _ ?_)); clear hK; try clear K) | refine W0 ?_ | exact Z | with_reducible intro b)
    exact hQ
  clear hK
  refine pv_loop (fun e T => ∃ (i : Nat), i ≤ vs.length ∧ e 0 = .own (.up k) b 0 vs.length cap 3 ∧ e 4 = i64 (stopA vs i).1 ∧ e 5 = bl (stopA vs i).2 ∧ e 6 = i64 i ∧ T = upS S) (fun e _ => vs.length - (intD (e 6)).toNat) ?_ ?_
  · exact ⟨0, Nat.zero_le _, Zr, Zr, Zr, Zr, rfl⟩
  · rintro e T ⟨i, hi, g0, g4, g5, g6, rfl⟩
    have ft := And.intro g0 (And.intro g4 (And.intro g5 g6))
    repeat (first | with_reducible refine pv_seq fun K hK => ?_ | ((with_reducible first | refine hK _ _ ?_ | (clear hK; refine hK _ _ ?_) | (clear hK; clear hK; refine hK _ _ ?_)); clear hK; try clear K) | refine W0 ?_ | exact Z | with_reducible intro b)
    refine pv_cdD (fun ht => ?_) (fun ht => ?_)
    · have hE : (rS eU (nus vs))[i]? = some (bU (nuOf (gD vs i))) := by rw [rS_get, nus_get ht]; rfl
      have hup : upS S (.up k) = some ⟨b, 3, 0, rS eU (nus vs)⟩ := hS
      have h3 := szD_ok (hv.at i)
      generalize rS eU (nus vs) = E at *
      by_cases hz : gD vs i = 0
      · have hw := nu_len0.2 hz
        have st := stop_zero hz
        generalize nuOf (gD vs i) = X at *
        have k1 : ((X.w.length : Int) = 0) = True := eq_true (by omega)
        have k2 : (X.w.length = 0) = True := eq_true (by omega)
        unfold bU at hE
        have ft := And.intro g0 (And.intro g4 (And.intro g5 (And.intro g6 (And.intro hE (And.intro hup (And.intro k1 k2))))))
        repeat (first | with_reducible refine pv_seq fun K hK => ?_ | ((with_reducible first | refine hK _ _ ?_ | (clear hK; refine hK _ _ ?_) | (clear hK; clear hK; refine hK _ _ ?_)); clear hK; try clear K) | refine W0 ?_ | exact Z | with_reducible intro b)
        refine ⟨⟨i + 1, by omega, ?_, ?_, Zr⟩, by simp only [intD]; omega⟩
        · rw [st]
        · rw [st]
      · have hw := fun e => hz (nu_len0.1 e)
        have pP : PC Tryz.prog 35 [W64 (nuOf (gD vs i)).w] fun d => d = W32 (D32 (fN (gD vs i))) := p_Part (xs := (nuOf (gD vs i)).w) ((hv.at i).sz).b (by have := ((hv.at i).sz).len; omega)
        have pB := p_rBits (n := fN (gD vs i)) (by
          have := digs32_le (bit_hi (fN (gD vs i)))
          show (digs 4294967296 _).length ≤ _
          omega)
        have st : stopA vs (i + 1) = if (stopA vs i).2 = false ∨ (stopA vs i).1 < szD (gD vs i) then (szD (gD vs i), true) else stopA vs i := if_neg hz
        have hsz : szD (gD vs i) = fE (gD vs i) + (bitLen (fN (gD vs i)) : Int) := rfl
        have hX : (nuOf (gD vs i)).exp = fE (gD vs i) := rfl
        rw [hsz] at st
        generalize nuOf (gD vs i) = X at *
        generalize fE (gD vs i) = te at *
        generalize D32 (fN (gD vs i)) = dn at *
        generalize bitLen (fN (gD vs i)) = tb at *
        have k2 : (X.w.length = 0) = False := eq_false hw
        unfold bU at hE
        rw [hX] at hE
        generalize stopA vs i = q at *
        obtain ⟨m, t⟩ := q
        cases t with
        | false =>
          rw [if_pos (.inl rfl)] at st
          have ft := And.intro g0 (And.intro g4 (And.intro g5 (And.intro g6 (And.intro hE (And.intro hup k2)))))
          repeat' (first | with_reducible refine pv_seq fun K hK => ?_ | ((with_reducible first | refine hK _ _ ?_ | (clear hK; refine hK _ _ ?_) | (clear hK; clear hK; refine hK _ _ ?_)); clear hK; try clear K) | refine W ?_ | exact Z | with_reducible intro b | with_reducible refine And.intro ?_ ?_ )
          all_goals first | (simp only [intD]; omega) | exact ⟨i + 1, by omega, by rw [st], by rw [st], Zr⟩
        | true =>
          by_cases hlt : m < te + (tb : Int)
          · have k3 := eq_true hlt
            rw [if_pos (.inr hlt)] at st
            have ft := And.intro g0 (And.intro g4 (And.intro g5 (And.intro g6 (And.intro hE (And.intro hup (And.intro k2 k3))))))
            repeat' (first | with_reducible refine pv_seq fun K hK => ?_ | ((with_reducible first | refine hK _ _ ?_ | (clear hK; refine hK _ _ ?_) | (clear hK; clear hK; refine hK _ _ ?_)); clear hK; try clear K) | refine W ?_ | exact Z | with_reducible intro b | with_reducible refine And.intro ?_ ?_ )
            all_goals first | (simp only [intD]; omega) | exact ⟨i + 1, by omega, by rw [st], by rw [st], Zr⟩
          · have k3 := eq_false hlt
            rw [if_neg (by intro h; rcases h with h | h; cases h; exact hlt h)] at st
            have ft := And.intro g0 (And.intro g4 (And.intro g5 (And.intro g6 (And.intro hE (And.intro hup (And.intro k2 k3))))))
            repeat' (first | with_reducible refine pv_seq fun K hK => ?_ | ((with_reducible first | refine hK _ _ ?_ | (clear hK; refine hK _ _ ?_) | (clear hK; clear hK; refine hK _ _ ?_)); clear hK; try clear K) | refine W ?_ | exact Z | with_reducible intro b | with_reducible refine And.intro ?_ ?_ )
            all_goals first | (simp only [intD]; omega) | exact ⟨i + 1, by omega, by rw [st], by rw [st], Zr⟩
    · obtain rfl : i = vs.length := by omega
      repeat (first | with_reducible refine pv_seq fun K hK => ?_ | ((with_reducible first | refine hK _ _ ?_ | (clear hK; refine hK _ _ ?_) | (clear hK; clear hK; refine hK _ _ ?_)); clear hK; try clear K) | refine W0 ?_ | exact Z | with_reducible intro b)
      exact J _ Zr Zr
end Go.V

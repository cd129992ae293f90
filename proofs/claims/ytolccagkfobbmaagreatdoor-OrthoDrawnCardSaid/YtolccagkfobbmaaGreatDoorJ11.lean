/- The document's matrices over values as data: right rows, sums of products, what is left of a number. -/
import Derived.Test.YtolccagkfobbmaaGreatDoorJ6
import Derived.Test.YtolccagkfobbmaaGreatDoorPR
set_option linter.unusedSimpArgs false
set_option linter.unusedVariables false
set_option maxRecDepth 100000
namespace Go.V
open Go Go.RowKit Go.Proofs

theorem p_precs6 {p : Int} : PC Tryz.prog 19 [i64 p] fun d => d = bl (okP p) := by
  refine PB (rs := [.tmp 2]) Tryz.func19 ?_
  by_cases h1 : (8 : Int) ≤ p
  · have k1 : ((8 : Int) ≤ p) = True := eq_true (by omega)
    by_cases h2 : p ≤ (256 : Int)
    · have k2 : (p ≤ (256 : Int)) = True := eq_true (by omega)
      have k3 : okP p = true := by rw [okP, decide_eq_true h1, decide_eq_true h2]; rfl
      have ft := And.intro k1 (And.intro k2 k3)
      exact Wk
    · have k2 : (p ≤ (256 : Int)) = False := eq_false (by omega)
      have k3 : okP p = false := by rw [okP, decide_eq_true h1, decide_eq_false h2]; rfl
      have ft := And.intro k1 (And.intro k2 k3)
      exact Wk
  · have k1 : ((8 : Int) ≤ p) = False := eq_false (by omega)
    have k3 : okP p = false := by rw [okP, decide_eq_false h1]; rfl
    have ft := And.intro k1 k3
    exact Wk
set_option maxHeartbeats 1000000 in
theorem p_rPoints {a : List (List Nu)} (hb : ∀ r ∈ a, ∀ x ∈ r, B64 x.w) (hl : a.length ≤ 1000000) (hl2 : ∀ r ∈ a, r.length ≤ 1000000) : PC Tryz.prog 18 [.g (eS eR a)] fun d => d = bl (sqB a) := by
  refine PB (rs := [.tmp 2]) Tryz.func18 ?_
  repeat (first | with_reducible refine pv_seq fun K hK => ?_ | ((with_reducible first | refine hK _ _ ?_ | (clear hK; refine hK _ _ ?_) | (clear hK; clear hK; refine hK _ _ ?_)); clear hK; try clear K) | refine W0 ?_ | exact Z | with_reducible intro b)
  have J : ∀ (e : DEnv) (S : Store), (∀ j, j < a.length → j < 4 → (a.getD j []).length = a.length ∧ ∀ x ∈ a.getD j [], rightB x = true) → e 0 = .g (eS eR a) → K e S := by
    intro e S h g0
    by_cases h1 : 0 < a.length
    · have k1 : ((0 : Int) < a.length) = True := eq_true (by omega)
      by_cases h2 : a.length ≤ 4
      · have k2 : ((a.length : Int) ≤ 4) = True := eq_true (by omega)
        have hd : sqB a = true := by
          unfold sqB
          rw [decide_eq_true (show SqR a from fun r hr => by
            obtain ⟨k, hk, rfl⟩ := List.mem_iff_getElem.1 hr
            have := h k hk (by omega)
            simp only [List.getD, List.getElem?_eq_getElem hk, Option.getD_some] at this
            exact this), decide_eq_true (show 1 ≤ a.length by omega), decide_eq_true h2]; rfl
        have ft := And.intro g0 (And.intro k1 (And.intro k2 hd))
        exact Wk
      · have k2 : ((a.length : Int) ≤ 4) = False := eq_false (by omega)
        have hd : sqB a = false := by unfold sqB; rw [decide_eq_false h2, Bool.and_false]
        have ft := And.intro g0 (And.intro k1 (And.intro k2 hd))
        exact Wk
    · have k1 : ((0 : Int) < a.length) = False := eq_false (by omega)
      have hd : sqB a = false := by unfold sqB; rw [decide_eq_false (show ¬ 1 ≤ a.length by omega), Bool.and_false]; rfl
      have ft := And.intro g0 (And.intro k1 hd)
      exact Wk
  clear hK
  refine pv_loop (fun e S => ∃ (i : Nat), i ≤ a.length ∧ e 0 = .g (eS eR a) ∧ e 3 = i64 i ∧ ∀ j, j < i → (a.getD j []).length = a.length ∧ ∀ x ∈ a.getD j [], rightB x = true) (fun e _ => a.length - (intD (e 3)).toNat) ?_ ?_
  · exact ⟨0, Nat.zero_le _, Zr, Zr, fun j hj => by omega⟩
  · rintro e S ⟨i, hi, g0, g3, hz⟩
    have hmz : (intD (e 3)).toNat = i := by rw [g3]; rfl
    by_cases ht : i < a.length
    · have k1 : ((i : Int) < a.length) = True := eq_true (by omega)
      by_cases ht4 : i < 4
      · have k2 : ((i : Int) < 4) = True := eq_true (by omega)
        have e1 := gR_get (a := a) ht
        have hm := gR_mem (a := a) ht
        generalize hrr : a.getD i [] = r at *
        by_cases hrl : r.length = a.length
        · have k3 := eq_true hrl
          have ft := And.intro g0 (And.intro g3 (And.intro e1 (And.intro k1 (And.intro k2 k3))))
          repeat (first | with_reducible refine pv_seq fun K hK => ?_ | ((with_reducible first | refine hK _ _ ?_ | (clear hK; refine hK _ _ ?_) | (clear hK; clear hK; refine hK _ _ ?_)); clear hK; try clear K) | refine W0 ?_ | exact Z | with_reducible intro b)
          have J2 : ∀ (e : DEnv) (S : Store), (∀ x ∈ r, rightB x = true) → e 0 = .g (eS eR a) → e 3 = i64 i → K e S := by
            intro e S h g0 g3
            have ft := And.intro g3 g0
            repeat (first | with_reducible refine pv_seq fun K hK => ?_ | ((with_reducible first | refine hK _ _ ?_ | (clear hK; refine hK _ _ ?_) | (clear hK; clear hK; refine hK _ _ ?_)); clear hK; try clear K) | refine W0 ?_ | exact Z | with_reducible intro b)
            refine ⟨⟨i + 1, by omega, Zr, fun j hj => ?_⟩, by rw [hmz]; simp only [intD]; omega⟩
            by_cases hji : j = i
            · subst hji; rw [hrr]; exact ⟨hrl, h⟩
            · exact hz j (by omega)
          clear hK
          refine pv_loop (fun e S => ∃ (j : Nat), j ≤ r.length ∧ e 0 = .g (eS eR a) ∧ e 3 = i64 i ∧ e 4 = i64 j ∧ ∀ k, k < j → ∀ x, r[k]? = some x → rightB x = true) (fun e _ => r.length - (intD (e 4)).toNat) ?_ ?_
          · have ft := And.intro g0 g3
            exact ⟨0, Nat.zero_le _, Zr, Zr, Zr, fun j hj => by omega⟩
          · rintro e S ⟨j, hj, g0, g3, g4, hy⟩
            have ft := And.intro g0 (And.intro g3 (And.intro g4 e1))
            repeat (first | with_reducible refine pv_seq fun K hK => ?_ | ((with_reducible first | refine hK _ _ ?_ | (clear hK; refine hK _ _ ?_) | (clear hK; clear hK; refine hK _ _ ?_)); clear hK; try clear K) | refine W0 ?_ | exact Z | with_reducible intro b)
            refine pv_cdD (fun hu => ?_) (fun hu => ?_)
            · have hu' : j < r.length := by omega
              have e2 := List.getElem?_eq_getElem hu'
              have hmx := List.getElem_mem hu'
              generalize r[j] = x at *
              have pR := p_rRight (hb r hm x hmx)
              cases hx : rightB x with
              | true =>
                rw [hx] at pR
                have ft := And.intro g0 (And.intro g3 (And.intro g4 (And.intro e1 e2)))
                repeat' (first | with_reducible refine pv_seq fun K hK => ?_ | ((with_reducible first | refine hK _ _ ?_ | (clear hK; refine hK _ _ ?_) | (clear hK; clear hK; refine hK _ _ ?_)); clear hK; try clear K) | refine W ?_ | exact Z | with_reducible intro b | with_reducible refine And.intro ?_ ?_ )
                all_goals first | (simp only [intD]; omega) | skip
                refine ⟨j + 1, by omega, Zr, fun k hk y hky => ?_⟩
                by_cases hkj : k = j
                · subst hkj; rw [e2] at hky; injection hky with hky; subst hky; exact hx
                · exact hy k (by omega) y hky
              | false =>
                rw [hx] at pR
                have hd := sqB_no hm fun h => by have := h.2 x hmx; rw [hx] at this; cases this
                have ft := And.intro g0 (And.intro g3 (And.intro g4 (And.intro e1 (And.intro e2 hd))))
                exact Wk
            · have hjl : j = r.length := by omega
              subst hjl
              repeat (first | with_reducible refine pv_seq fun K hK => ?_ | ((with_reducible first | refine hK _ _ ?_ | (clear hK; refine hK _ _ ?_) | (clear hK; clear hK; refine hK _ _ ?_)); clear hK; try clear K) | refine W0 ?_ | exact Z | with_reducible intro b)
              exact J2 _ _ (fun x hx => by obtain ⟨k, hk, rfl⟩ := List.mem_iff_getElem.1 hx; exact hy k hk _ (List.getElem?_eq_getElem hk)) Zr Zr
        · have k3 := eq_false hrl
          have hd := sqB_no hm fun h => hrl h.1
          have ft := And.intro g0 (And.intro g3 (And.intro e1 (And.intro k1 (And.intro k2 (And.intro k3 hd)))))
          exact Wk
      · have k2 : ((i : Int) < 4) = False := eq_false (by omega)
        have ft := And.intro g0 (And.intro g3 (And.intro k1 k2))
        repeat (first | with_reducible refine pv_seq fun K hK => ?_ | ((with_reducible first | refine hK _ _ ?_ | (clear hK; refine hK _ _ ?_) | (clear hK; clear hK; refine hK _ _ ?_)); clear hK; try clear K) | refine W0 ?_ | exact Z | with_reducible intro b)
        exact J _ _ (fun j hj hj4 => hz j (by omega)) Zr
    · have k1 : ((i : Int) < a.length) = False := eq_false (by omega)
      have ft := And.intro g0 (And.intro g3 k1)
      repeat (first | with_reducible refine pv_seq fun K hK => ?_ | ((with_reducible first | refine hK _ _ ?_ | (clear hK; refine hK _ _ ?_) | (clear hK; clear hK; refine hK _ _ ?_)); clear hK; try clear K) | refine W0 ?_ | exact Z | with_reducible intro b)
      exact J _ _ (fun j hj hj4 => hz j (by omega)) Zr
theorem rkR_D {n : Int} {a b : Dyadic} {p : Nat} {up : Bool} (ha : OkD a) (hb : OkD b) (h8 : 8 ≤ p) (h256 : p ≤ 256) (hn : n ≠ 3) : rkR n (nuOf a) (nuOf b) p up = numR (rd p up (exD n a b)) := by
  unfold rkR; rw [rightB_nuOf, rightB_nuOf, decide_eq_true ha, decide_eq_true hb, okP_of h8 h256]; simp only [Bool.and_self, if_true, Int.toNat_natCast, val_nuOf]; rw [if_neg hn]
theorem p_rkAdd {a b : Dyadic} {p : Nat} (ha : OkD a) (hb : OkD b) (h8 : 8 ≤ p) (h256 : p ≤ 256) : PC Tryz.prog 32 [i64 0, NU (nuOf a), NU (nuOf b), i64 p, bl false] fun d => d = NE (numR (rd p false (a + b))) := by
  have := p_rReckon (n := 0) (p := p) (up := false) (ha.sz).b (hb.sz).b
  rwa [rkR_D ha hb h8 h256 (by decide), show exD 0 a b = a + b from rfl] at this
theorem p_rkSub {a b : Dyadic} {p : Nat} (ha : OkD a) (hb : OkD b) (h8 : 8 ≤ p) (h256 : p ≤ 256) : PC Tryz.prog 32 [i64 1, NU (nuOf a), NU (nuOf b), i64 p, bl false] fun d => d = NE (numR (rd p false (a - b))) := by
  have := p_rReckon (n := 1) (p := p) (up := false) (ha.sz).b (hb.sz).b
  rwa [rkR_D ha hb h8 h256 (by decide), show exD 1 a b = a - b from rfl] at this
theorem p_rkMul {a b : Dyadic} {p : Nat} (ha : OkD a) (hb : OkD b) (h8 : 8 ≤ p) (h256 : p ≤ 256) : PC Tryz.prog 32 [i64 2, NU (nuOf a), NU (nuOf b), i64 p, bl false] fun d => d = NE (numR (rd p false (a * b))) := by
  have := p_rReckon (n := 2) (p := p) (up := false) (ha.sz).b (hb.sz).b
  rwa [rkR_D ha hb h8 h256 (by decide), show exD 2 a b = a * b from rfl] at this
theorem p_rkDiv {a b : Dyadic} {p : Nat} (ha : OkD a) (hb : OkD b) (h8 : 8 ≤ p) (h256 : p ≤ 256) : PC Tryz.prog 32 [i64 3, NU (nuOf a), NU (nuOf b), i64 p, bl false] fun d => d = NE (okN (divO p a b)) := by
  have := p_rReckon (n := 3) (p := p) (up := false) (ha.sz).b (hb.sz).b
  rw [okN_div]
  unfold rkR at this
  rw [rightB_nuOf, rightB_nuOf, decide_eq_true ha, decide_eq_true hb, okP_of h8 h256] at this
  simp only [Bool.and_self, if_true, Int.toNat_natCast, val_nuOf] at this
  exact this
set_option maxHeartbeats 1000000 in
theorem p_rAway {p : Nat} {x c u : Dyadic} (hx : OkD x) (hc : OkD c) (hu : OkD u) (h8 : 8 ≤ p) (h256 : p ≤ 256) : PC Tryz.prog 33 [NU (nuOf x), NU (nuOf c), NU (nuOf u), i64 p] fun d => d = NE (okN (awayO p x c u)) := by
  have pM := p_rkMul hc hu h8 h256
  unfold awayO mulO
  by_cases hm : OkD (rd p false (c * u))
  · rw [numR_ok hm] at pM
    rw [okO_ok hm, bnd_ok, okN_okO]
    have pS := p_rkSub hx hm h8 h256
    generalize numR (rd p false (x - rd p false (c * u))) = q at *
    obtain ⟨Q, q2⟩ := q
    generalize nuOf (rd p false (c * u)) = Y at *
    generalize nuOf x = X at *
    generalize nuOf c = C at *
    generalize nuOf u = U at *
    refine PB (rs := [.cell 8 38, .tmp 9]) Tryz.func33 ?_
    exact Wk
  · rw [numR_over hm] at pM
    rw [okO_no hm, bnd_no, okN_no]
    generalize nuOf x = X at *
    generalize nuOf c = C at *
    generalize nuOf u = U at *
    refine PB (rs := [.cell 8 38, .tmp 9]) Tryz.func33 ?_
    exact Wk
end Go.V

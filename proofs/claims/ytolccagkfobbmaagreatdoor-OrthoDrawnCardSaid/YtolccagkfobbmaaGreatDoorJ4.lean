/- Package ortho over values as data: upright; square. -/
import Derived.Test.YtolccagkfobbmaaGreatDoorJ3
set_option linter.unusedSimpArgs false
set_option linter.unusedVariables false
set_option maxRecDepth 100000
namespace Go.V
open Go Go.RowKit Go.Proofs

theorem nr_len {a : List DL} : (a.map nus).length = a.length := List.length_map _
attribute [go_sem] nr_len
theorem gR_get {α : Type} {a : List (List α)} {i : Nat} (h : i < a.length) : a[i]? = some (a.getD i []) := by simp only [List.getD, List.getElem?_eq_getElem h, Option.getD_some]
theorem gR_mem {α : Type} {a : List (List α)} {i : Nat} (h : i < a.length) : a.getD i [] ∈ a := by simp only [List.getD, List.getElem?_eq_getElem h, Option.getD_some]; exact List.getElem_mem h
theorem nr_get {a : List DL} {i : Nat} (h : i < a.length) : (a.map nus)[i]? = some (nus (a.getD i [])) := by rw [List.getElem?_map, gR_get h]; rfl
theorem okO_c {d : Dyadic} {c : Int} (h : okO d = .error c) : c = 2 := by
  unfold okO at h; split at h
  · cases h
  · injection h with h; exact h.symm
theorem bnd_err {α β : Type} {x : Except Int α} {f : α → Except Int β} {c : Int} (h : bnd x f = .error c) : x = .error c ∨ ∃ a, x = .ok a ∧ f a = .error c := by
  cases x with | ok a => exact .inr ⟨a, rfl, h⟩ | error c' => injection h with h; subst h; exact .inl rfl
theorem bldE_c {α : Type} {f : Nat → Except Int α} {n : Nat} {c : Int} (Q : Int → Prop) (hq : ∀ i c, f i = .error c → Q c) : ∀ {n : Nat}, bldE f n = .error c → Q c
  | 0, h => by cases h
  | n + 1, h => by
    rcases bnd_err h with h1 | ⟨l, h1, h2⟩
    · exact bldE_c (n := n) Q hq h1
    · rcases bnd_err h2 with h3 | ⟨y, h3, h4⟩
      · exact hq n c h3
      · cases h4
theorem awayO_c {p : Nat} {x c u : Dyadic} {k : Int} (h : awayO p x c u = .error k) : k = 2 := by
  rcases bnd_err h with h1 | ⟨y, h1, h2⟩
  · exact okO_c h1
  · exact okO_c h2
theorem lessR_c {p : Nat} {vs us : DL} {c : Int} (h : lessR p vs us = .error c) : c = 3 ∨ c = 2 := by
  rcases bnd_err h with h1 | ⟨a, h1, h2⟩
  · exact .inr (dotA_c h1)
  · rcases bnd_err h2 with h3 | ⟨b, h3, h4⟩
    · exact .inr (dotA_c h3)
    · rcases bnd_err h4 with h5 | ⟨d, h5, h6⟩
      · exact divO_c h5
      · exact .inr (bldE_c (n := 0) (fun c => c = 2) (fun i c h => awayO_c h) h6)
theorem scaledR_c {vs : DL} {c : Int} (h : scaledR vs = .error c) : c = 3 ∨ c = 2 := by
  unfold scaledR at h
  split at h
  · injection h with h; exact .inl h.symm
  · exact .inr (bldE_c (n := 0) (fun c => c = 2) (fun i c h => okO_c h) h)
theorem upA_c {p : Nat} {v : DL} {made : List DL} {c : Int} : ∀ {n : Nat}, upA p v made n = .error c → c = 3 ∨ c = 2
  | 0, h => by cases h
  | n + 1, h => by
    rcases bnd_err h with h1 | ⟨l, h1, h2⟩
    · exact upA_c (n := n) h1
    · exact lessR_c h2
theorem upR_c {p : Nat} {v : DL} {made : List DL} {c : Int} (h : upR p v made = .error c) : c = 3 ∨ c = 2 := by
  rcases bnd_err h with h1 | ⟨l, h1, h2⟩
  · exact upA_c h1
  · exact scaledR_c h2
set_option maxHeartbeats 1000000 in
theorem p_oUp {p : Nat} {v : DL} {made : List DL} (hv : OkL v) (hm : ∀ c ∈ made, OkL c ∧ c.length = v.length) (h0 : 0 < v.length) (hn : v.length ≤ 1000) (hk : made.length ≤ 1000) (h8 : 8 ≤ p) (h256 : p ≤ 256) : PC Tryz.prog 17 [ND v, NR made, i64 p] fun d => d = NLE (okL (upR p v made)) := by
  unfold ND NR
  generalize hr : upR p v made = r
  unfold upR at hr
  refine PB (rs := [.tmp 6, .tmp 7]) Tryz.func17 ?_
  repeat (first | with_reducible refine pv_seq fun K hK => ?_ | ((with_reducible first | refine hK _ _ ?_ | (clear hK; refine hK _ _ ?_) | (clear hK; clear hK; refine hK _ _ ?_)); clear hK; try clear K) | refine W0 ?_ | exact Z | with_reducible intro b)
  have J : ∀ (e : DEnv) (S : Store) (w : DL), upA p v made made.length = .ok w → e 0 = .g (eS eU (nus w)) → K e S := by
    intro e S w hA g0
    rw [hA, bnd_ok] at hr
    have hw := upA_ok hv hA
    have pS := p_oScaled hw.1 (by omega)
    unfold ND at pS
    rw [hr] at pS
    have ft := g0
    exact Wk
  clear hK
  refine pv_loop (fun e S => ∃ (i : Nat) (w : DL), i ≤ made.length ∧ upA p v made i = .ok w ∧ e 0 = .g (eS eU (nus w)) ∧ e 2 = i64 p ∧ e 12 = .g (eS eR (made.map nus)) ∧ e 13 = i64 made.length ∧ e 14 = i64 i) (fun e _ => made.length - (intD (e 14)).toNat) ?_ ?_
  · exact ⟨0, v, Nat.zero_le _, rfl, Zr, Zr, Zr, Zr, Zr⟩
  · rintro e S ⟨i, w, hi, hA, g0, g2, g12, g13, g14⟩
    have hw := upA_ok hv hA
    have ft := And.intro g0 (And.intro g2 (And.intro g12 (And.intro g13 g14)))
    repeat (first | with_reducible refine pv_seq fun K hK => ?_ | ((with_reducible first | refine hK _ _ ?_ | (clear hK; refine hK _ _ ?_) | (clear hK; clear hK; refine hK _ _ ?_)); clear hK; try clear K) | refine W0 ?_ | exact Z | with_reducible intro b)
    refine pv_cdD (fun ht => ?_) (fun ht => ?_)
    · have e1 := nr_get (a := made) ht
      have hc := hm _ (gR_mem ht)
      have pL := p_oLess (vs := w) (us := made.getD i []) hw.1 hc.1 (by omega) (by omega) (by omega) h8 h256
      have st : upA p v made (i + 1) = lessR p w (made.getD i []) := runE_step hA
      unfold ND at pL
      generalize made.getD i [] = c at *
      cases hl : lessR p w c with
      | ok w' =>
        rw [hl, okL_ok] at pL
        rw [hl] at st
        have ft := And.intro g0 (And.intro g2 (And.intro g12 (And.intro g13 (And.intro g14 e1))))
        repeat' (first | with_reducible refine pv_seq fun K hK => ?_ | ((with_reducible first | refine hK _ _ ?_ | (clear hK; refine hK _ _ ?_) | (clear hK; clear hK; refine hK _ _ ?_)); clear hK; try clear K) | refine W ?_ | exact Z | with_reducible intro b | with_reducible refine And.intro ?_ ?_ )
        all_goals first | (simp only [intD]; omega) | exact ⟨i + 1, w', by omega, st, Zr, Zr⟩
      | error x =>
        rw [hl, okL_no] at pL
        rw [hl] at st
        have er : r = .error x := by rw [← hr, show upA p v made made.length = .error x from runE_err st (by omega)]; rfl
        subst er
        rcases lessR_c hl with rfl | rfl
        · have ft := And.intro g0 (And.intro g2 (And.intro g12 (And.intro g13 (And.intro g14 e1))))
          exact Wk
        · have ft := And.intro g0 (And.intro g2 (And.intro g12 (And.intro g13 (And.intro g14 e1))))
          exact Wk
    · obtain rfl : i = made.length := by omega
      repeat (first | with_reducible refine pv_seq fun K hK => ?_ | ((with_reducible first | refine hK _ _ ?_ | (clear hK; refine hK _ _ ?_) | (clear hK; clear hK; refine hK _ _ ?_)); clear hK; try clear K) | refine W0 ?_ | exact Z | with_reducible intro b)
      exact J _ _ w hA Zr
/-- Square rows of right numbers, as many as may be. -/
abbrev SqR (a : List (List Nu)) : Prop := ∀ r ∈ a, r.length = a.length ∧ ∀ x ∈ r, rightB x = true
def sqB (a : List (List Nu)) : Bool := decide (SqR a) && decide (1 ≤ a.length) && decide (a.length ≤ 4)
theorem sqB_no {a : List (List Nu)} {r : List Nu} (hr : r ∈ a) (h : ¬ (r.length = a.length ∧ ∀ x ∈ r, rightB x = true)) : sqB a = false := by
  unfold sqB; rw [decide_eq_false (fun e => h (e r hr))]; rfl
set_option maxHeartbeats 1000000 in
theorem p_oSquare {a : List (List Nu)} (hb : ∀ r ∈ a, ∀ x ∈ r, B64 x.w) (hl : a.length ≤ 1000000) (hl2 : ∀ r ∈ a, r.length ≤ 1000000) : PC Tryz.prog 15 [.g (eS eR a)] fun d => d = bl (sqB a) := by
  refine PB (rs := [.tmp 2]) Tryz.func15 ?_
  repeat (first | with_reducible refine pv_seq fun K hK => ?_ | ((with_reducible first | refine hK _ _ ?_ | (clear hK; refine hK _ _ ?_) | (clear hK; clear hK; refine hK _ _ ?_)); clear hK; try clear K) | refine W0 ?_ | exact Z | with_reducible intro b)
  have J : ∀ (e : DEnv) (S : Store), SqR a → e 0 = .g (eS eR a) → K e S := by
    intro e S h g0
    have hd : sqB a = (decide (1 ≤ a.length) && decide (a.length ≤ 4)) := by unfold sqB; rw [decide_eq_true h]; rfl
    by_cases h1 : 1 ≤ a.length
    · have k1 : ((1 : Int) ≤ a.length) = True := eq_true (by omega)
      by_cases h2 : a.length ≤ 4
      · have k2 : ((a.length : Int) ≤ 4) = True := eq_true (by omega)
        rw [decide_eq_true h1, decide_eq_true h2] at hd
        have ft := And.intro g0 (And.intro k1 (And.intro k2 hd))
        exact Wk
      · have k2 : ((a.length : Int) ≤ 4) = False := eq_false (by omega)
        rw [decide_eq_true h1, decide_eq_false h2] at hd
        have ft := And.intro g0 (And.intro k1 (And.intro k2 hd))
        exact Wk
    · have k1 : ((1 : Int) ≤ a.length) = False := eq_false (by omega)
      rw [decide_eq_false h1] at hd
      have ft := And.intro g0 (And.intro k1 hd)
      exact Wk
  clear hK
  refine pv_loop (fun e S => ∃ (i : Nat), i ≤ a.length ∧ e 0 = .g (eS eR a) ∧ e 7 = .g (eS eR a) ∧ e 8 = i64 a.length ∧ e 9 = i64 i ∧ ∀ j, j < i → (a.getD j []).length = a.length ∧ ∀ x ∈ a.getD j [], rightB x = true) (fun e _ => a.length - (intD (e 9)).toNat) ?_ ?_
  · exact ⟨0, Nat.zero_le _, Zr, Zr, Zr, Zr, fun j hj => by omega⟩
  · rintro e S ⟨i, hi, g0, g7, g8, g9, hz⟩
    have ft := And.intro g0 (And.intro g7 (And.intro g8 g9))
    repeat (first | with_reducible refine pv_seq fun K hK => ?_ | ((with_reducible first | refine hK _ _ ?_ | (clear hK; refine hK _ _ ?_) | (clear hK; clear hK; refine hK _ _ ?_)); clear hK; try clear K) | refine W0 ?_ | exact Z | with_reducible intro b)
    refine pv_cdD (fun ht => ?_) (fun ht => ?_)
    · have e1 := gR_get (a := a) ht
      have hm := gR_mem (a := a) ht
      generalize hrr : a.getD i [] = r at *
      by_cases hrl : r.length = a.length
      · have k1 := eq_true hrl
        have hmz : (intD (e 9)).toNat = i := by rw [g9]; rfl
        have ft := And.intro g0 (And.intro g7 (And.intro g8 (And.intro g9 (And.intro e1 k1))))
        repeat (first | with_reducible refine pv_seq fun K hK => ?_ | ((with_reducible first | refine hK _ _ ?_ | (clear hK; refine hK _ _ ?_) | (clear hK; clear hK; refine hK _ _ ?_)); clear hK; try clear K) | refine W0 ?_ | exact Z | with_reducible intro b)
        have J2 : ∀ (e : DEnv) (S : Store), (∀ x ∈ r, rightB x = true) → e 0 = .g (eS eR a) → e 7 = .g (eS eR a) → e 8 = i64 a.length → e 9 = i64 i → K e S := by
          intro e S h g0 g7 g8 g9
          have ft := And.intro g0 (And.intro g7 (And.intro g8 g9))
          repeat (first | with_reducible refine pv_seq fun K hK => ?_ | ((with_reducible first | refine hK _ _ ?_ | (clear hK; refine hK _ _ ?_) | (clear hK; clear hK; refine hK _ _ ?_)); clear hK; try clear K) | refine W0 ?_ | exact Z | with_reducible intro b)
          refine ⟨⟨i + 1, by omega, Zr, fun j hj => ?_⟩, by rw [hmz]; simp only [intD]; omega⟩
          by_cases hji : j = i
          · subst hji; rw [hrr]; exact ⟨hrl, h⟩
          · exact hz j (by omega)
        clear hK
        refine pv_loop (fun e S => ∃ (j : Nat), j ≤ r.length ∧ e 0 = .g (eS eR a) ∧ e 7 = .g (eS eR a) ∧ e 8 = i64 a.length ∧ e 9 = i64 i ∧ e 18 = .g (eS eU r) ∧ e 19 = i64 r.length ∧ e 20 = i64 j ∧ ∀ k, k < j → ∀ x, r[k]? = some x → rightB x = true) (fun e _ => r.length - (intD (e 20)).toNat) ?_ ?_
        · have ft := And.intro g0 (And.intro g7 (And.intro g8 g9))
          exact ⟨0, Nat.zero_le _, Zr, Zr, Zr, Zr, Zr, Zr, Zr, fun j hj => by omega⟩
        · rintro e S ⟨j, hj, g0, g7, g8, g9, g18, g19, g20, hy⟩
          have ft := And.intro g0 (And.intro g7 (And.intro g8 (And.intro g9 (And.intro g18 (And.intro g19 g20)))))
          repeat (first | with_reducible refine pv_seq fun K hK => ?_ | ((with_reducible first | refine hK _ _ ?_ | (clear hK; refine hK _ _ ?_) | (clear hK; clear hK; refine hK _ _ ?_)); clear hK; try clear K) | refine W0 ?_ | exact Z | with_reducible intro b)
          refine pv_cdD (fun hu => ?_) (fun hu => ?_)
          · have e2 := List.getElem?_eq_getElem hu
            have hmx := List.getElem_mem hu
            generalize r[j] = x at *
            have pR := p_nRight (hb r hm x hmx)
            cases hx : rightB x with
            | true =>
              rw [hx] at pR
              have ft := And.intro g0 (And.intro g7 (And.intro g8 (And.intro g9 (And.intro g18 (And.intro g19 (And.intro g20 e2))))))
              repeat' (first | with_reducible refine pv_seq fun K hK => ?_ | ((with_reducible first | refine hK _ _ ?_ | (clear hK; refine hK _ _ ?_) | (clear hK; clear hK; refine hK _ _ ?_)); clear hK; try clear K) | refine W ?_ | exact Z | with_reducible intro b | with_reducible refine And.intro ?_ ?_ )
              all_goals first | (simp only [intD]; omega) | skip
              refine ⟨j + 1, by omega, Zr, fun k hk y hky => ?_⟩
              by_cases hkj : k = j
              · subst hkj; rw [e2] at hky; injection hky with hky; subst hky; exact hx
              · exact hy k (by omega) y hky
            | false =>
              rw [hx] at pR
              have hd := sqB_no hm fun h => by have := h.2 x hmx; rw [hx] at this; cases this
              have ft := And.intro g0 (And.intro g7 (And.intro g8 (And.intro g9 (And.intro g18 (And.intro g19 (And.intro g20 (And.intro e2 hd)))))))
              exact Wk
          · obtain rfl : j = r.length := by omega
            repeat (first | with_reducible refine pv_seq fun K hK => ?_ | ((with_reducible first | refine hK _ _ ?_ | (clear hK; refine hK _ _ ?_) | (clear hK; clear hK; refine hK _ _ ?_)); clear hK; try clear K) | refine W0 ?_ | exact Z | with_reducible intro b)
            exact J2 _ _ (fun x hx => by obtain ⟨k, hk, rfl⟩ := List.mem_iff_getElem.1 hx; exact hy k hk _ (List.getElem?_eq_getElem hk)) Zr Zr Zr Zr
      · have k1 : ((r.length : Int) = a.length) = False := eq_false (by omega)
        have hd := sqB_no hm fun h => hrl h.1
        have ft := And.intro g0 (And.intro g7 (And.intro g8 (And.intro g9 (And.intro e1 (And.intro k1 (And.intro hrl hd))))))
        exact Wk
    · obtain rfl : i = a.length := by omega
      repeat (first | with_reducible refine pv_seq fun K hK => ?_ | ((with_reducible first | refine hK _ _ ?_ | (clear hK; refine hK _ _ ?_) | (clear hK; clear hK; refine hK _ _ ?_)); clear hK; try clear K) | refine W0 ?_ | exact Z | with_reducible intro b)
      refine J _ _ (fun r hr => ?_) Zr
      obtain ⟨k, hk, rfl⟩ := List.mem_iff_getElem.1 hr
      have := hz k hk
      simp only [List.getD, List.getElem?_eq_getElem hk, Option.getD_some] at this
      exact this

end Go.V

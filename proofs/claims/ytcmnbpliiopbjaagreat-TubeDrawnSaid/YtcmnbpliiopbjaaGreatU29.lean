/- The statement's own comparison of layer 26: all that package tube says of a tube, as the document says it. -/
import Derived.Test.YtcmnbpliiopbjaaGreatU28
import Derived.Test.YtcmnbpliiopbjaaGreatU14
set_option linter.unusedSimpArgs false
set_option linter.unusedVariables false
set_option maxRecDepth 100000
namespace Go.V
open Go Go.RowKit Go.Proofs
def qU29_10_10 : List (Nat × Nat) := [(0, 1), (1, 1), (2, 0), (3, 0), (4, 0), (5, 0), (6, 1), (7, 1), (8, 0), (9, 1), (10, 0), (11, 0), (12, 0), (13, 1), (14, 1), (15, 0), (16, 0), (17, 1), (18, 3), (19, 0), (20, 0)]
def qU29_10_13 : List (Nat × Nat) := [(0, 1), (1, 1), (2, 0), (3, 0), (4, 0), (5, 1), (7, 2), (6, 4), (8, 3), (9, 0), (10, 0), (11, 0), (12, 1), (13, 0), (15, 2), (16, 0), (14, 4), (17, 3), (18, 0), (19, 0), (20, 0), (21, 1), (23, 2), (22, 4), (24, 3), (25, 0), (26, 0), (27, 0), (28, 1), (30, 2), (29, 4), (31, 3), (32, 3), (33, 0), (34, 0), (35, 1), (36, 0), (38, 2), (39, 0), (37, 4), (40, 3), (41, 0), (42, 0), (43, 3)]
attribute [go_sem] qU29_10_10 qU29_10_13

theorem metL_lt {lo hi : Nu} {l : List Sg} {n i j : Nat} (h : (metL lo hi l n)[i]? = some j) : j < n := by
  have := List.mem_of_getElem? h
  unfold metL at this
  exact List.mem_range.1 (List.mem_filter.1 this).1
theorem fnd_some {t : Nu} {l : List Sg} (hg : ∀ s ∈ l, OkP s) : ∃ s f, fndD (firstS t (ownL l)) = .tup [SEG s, bl f] ∧ LnG s := by
  cases h : firstS t (ownL l) with
  | none => exact ⟨sg0, false, rfl, ⟨by decide, by decide, by decide, fun a ha => by cases ha⟩⟩
  | some s =>
    refine ⟨s, true, rfl, ?_⟩
    unfold firstS at h
    cases hm : (metL t t (ownL l) (ownL l).length).head? with
    | none => rw [hm] at h; cases h
    | some i =>
      rw [hm] at h
      injection h with h
      rw [List.head?_eq_getElem?] at hm
      rw [← h]
      exact (hg _ (ownL_mem (gS_mem (metL_lt hm)))).ln
set_option maxHeartbeats 4000000 in
theorem p_told26 {a z : List Sg} {t u : Nu} (la : a.length ≤ 100000) (lb : z.length ≤ 100000) (ga : ∀ s ∈ a, OkP s) (gb : ∀ s ∈ z, OkP s) (ot : Wl 65536 t) (ou : Wl 65536 u) (rt : rightB t = true) (ru : rightB u = true) :
    PC Tryz.prog 10 [SS a, SS z, NU t, NU u] fun d => d = bl true := by
  have pF := p_FindS la ga ot rt
  have pF2 := p_rFind la ga ot rt
  have pH := p_rEach la ga ot ou rt ru
  have pE := p_EachS la ga ot ou rt ru
  have pI := p_EachI la ga ot ou rt ru
  have pR := p_tRight la ga
  have pR2 := p_rTube la ga
  have pS := p_tSame la lb (fun s hs => (ga s hs).ln) (fun s hs => (gb s hs).ln)
  have pS2 := p_rSameTube la lb (fun s hs => (ga s hs).ln) (fun s hs => (gb s hs).ln)
  have pT := p_Steps la ga
  have pT2 := p_rSteps la ga
  have pU := p_Until la ga
  have pU2 := p_rUntil la ga
  have pW := p_rSame (x := (lastT a).t1) (y := (lastT a).t1) (by have := (lastT_n ga).1.len; omega)
  have pC := p_Covers la lb ga gb
  have pC2 := p_rCovers la lb ga gb
  obtain ⟨s, f, hfd, hs⟩ := fnd_some (t := t) ga
  rw [hfd] at pF pF2
  have pG := p_rSameSeg hs hs
  rw [sameG_refl] at pG
  rw [decide_eq_true rfl] at pW
  have hme : ∀ (i : Nat) (x : List D), (eachL t u (ownL a))[i]? = some x → ∃ j : Nat, (metL t u (ownL a) (ownL a).length)[i]? = some j ∧ j < a.length ∧ x = [i64 j, SEG (gS a j)] := fun i x h => by
    obtain ⟨j, h1, rfl⟩ := eachL_get h
    have h2 := metL_lt h1
    have h3 := ownL_len (l := a)
    refine ⟨j, h1, by omega, ?_⟩
    cases htb : tubeB a with
    | false => rw [ownL_f htb] at h2; cases h2
    | true => rw [ownL_t htb]
  have hel := eachL_len (lo := t) (hi := u) (l := ownL a)
  have hx : ∀ x ∈ eachL t u (ownL a), x.length = 2 := fun x hx => by
    obtain ⟨i, hi⟩ := List.mem_iff_getElem?.1 hx
    obtain ⟨j, _, _, rfl⟩ := hme i x hi
    rfl
  have hSS : ∀ j, j < a.length → PC Tryz.prog 24 [SEG (gS a j), SEG (gS a j)] fun d => d = bl true := fun j hj => by
    have := p_rSameSeg (ga _ (gS_mem hj)).ln (ga _ (gS_mem hj)).ln
    rwa [sameG_refl] at this
  have hml : (metL t u (ownL a) (ownL a).length).length ≤ 100000 := by have := metL_len (lo := t) (hi := u) (l := ownL a) (n := (ownL a).length); have := ownL_len (l := a); omega
  clear hfd hs ga gb ot ou rt ru
  generalize eachL t u (ownL a) = xs at *
  generalize metL t u (ownL a) (ownL a).length = mt at *
  generalize ownL a = a2 at *
  generalize tubeB a = rT at *
  generalize allS a z = rS at *
  generalize (lastT a).to = st at *
  generalize (lastT a).t1 = un at *
  generalize coversB a z = cv at *
  obtain ⟨n0, e0, w0⟩ := t
  obtain ⟨n1, e1, w1⟩ := u
  obtain ⟨n2, e2, w2⟩ := un
  obtain ⟨fr, to, ⟨n3, e3, w3⟩, ⟨n4, e4, w4⟩, bx⟩ := s
  unfold SS at pF pF2 pH pE pR pR2 pS pS2 pT pT2 pU pU2 pC pC2 ⊢
  unfold SEG at pF pF2 pG
  unfold NI at pH
  have f1 : (f != f) = false := by cases f <;> rfl
  have f2 : (rT == rT) = true := by cases rT <;> rfl
  have f3 : (rS == rS) = true := by cases rS <;> rfl
  have f4 : (cv == cv) = true := by cases cv <;> rfl
  have d1 := @dl 10 qU29_10_10
  have d2 := @dl 13 qU29_10_13
  refine PB (rs := [.cell 8 4]) Tryz.func10 ?_
  have ft := f1
  repeat (first | with_reducible refine pv_seq fun K hK => ?_ | ((with_reducible first | refine hK _ _ ?_ | (clear hK; refine hK _ _ ?_) | (clear hK; clear hK; refine hK _ _ ?_)); clear hK; try clear K) | refine W ?_ | exact Z | with_reducible intro b)
  rename_i b4 b6 b7 b8 b9 b11 b13
  refine pv_range (f := 36) _ rfl (by kernel_rfl) (by kernel_rfl) (by kernel_rfl) pI hx
    (fun i S => S (.l 4) = some ⟨b4, 1, 0, [[.g (eS eG a)]]⟩ ∧ S (.l 8) = some ⟨b8, 1, 0, [[bl false]]⟩ ∧ S (.l 13) = some ⟨b13, 1, 0, [[.g (eS (eK .i64) mt)]]⟩ ∧ S (.l 14) = some ⟨b, 1, 0, [[i64 i]]⟩)
    (fun cc S => False) ⟨rfl, rfl, rfl, rfl⟩ ?_ ?_ ?_ ?_
  · rintro i x1 S1 ga gb Kn Kx Kr hxi ⟨s4, s8, s13, s14⟩ hg1 hKn hKx hKr
    obtain ⟨j, hj, hja, rfl⟩ := hme i x1 hxi
    have hq := gS_at hja
    have pX := hSS j hja
    have hil : i < mt.length := (List.getElem?_eq_some_iff.1 hj).1
    have z1 : (mt.length ≤ i) = False := eq_false (by omega)
    have z2 : ((mt.length : Int) ≤ (i : Int)) = False := eq_false (by omega)
    clear hK hme hSS pI pE hx hxi
    generalize gS a j = q at *
    obtain ⟨fr2, to2, ⟨n5, e5, w5⟩, ⟨n6, e6, w6⟩, bx2⟩ := q
    unfold SEG at pX
    simp only [bindD, SEG]
    have ft := And.intro s4 (And.intro s8 (And.intro s13 (And.intro s14 (And.intro hg1 (And.intro hj (And.intro hq (And.intro z1 z2)))))))
    repeat (first | with_reducible refine pv_seq fun K hK => ?_ | ((with_reducible first | refine hK _ _ ?_ | (clear hK; refine hK _ _ ?_) | (clear hK; clear hK; refine hK _ _ ?_)); clear hK; try clear K) | refine W ?_ | exact Z | with_reducible intro b)
    exact hKn _ rfl ⟨s4, s8, s13, rfl⟩
  · rintro S' hg0 ⟨s4, s8, s13, s14⟩
    rw [hel] at s14
    clear hme hSS pI pE hx
    have ft := And.intro s4 (And.intro s8 (And.intro s13 (And.intro s14 (And.intro f2 (And.intro f3 f4)))))
    exact Wk
  · rintro id S' _ ⟨⟩
  · rintro S' _ ⟨⟩
end Go.V

/- The statement OrthoRight of layer 9. -/
import Derived.Test.YtolccagkfobbmaaDoorJ8
set_option linter.unusedSimpArgs false
set_option linter.unusedVariables false
set_option maxRecDepth 100000
namespace Go.V
open Go Go.RowKit Go.Proofs
def qJ10_3_7 : PT := (.lin [(0, 2), (1, 2), (4, 2), (5, 2), (8, 0)] (.fork 2 4 (.lin [] (.fork 3 4 (.lin [(6, 4), (7, 3), (9, 3), (10, 0), (11, 0), (12, 0), (13, 0), (14, 0)] .nil) 6 4 (.lin [(3, 4), (7, 3), (9, 3), (10, 0), (11, 0), (12, 0), (13, 0), (14, 0)] .nil))) 6 4 (.lin [(2, 4), (3, 4), (7, 3), (9, 3), (10, 0), (11, 0), (12, 0), (13, 0), (14, 0)] .nil)))
def qJ10_3_10 : PT := (.lin [(0, 0), (1, 0), (2, 2), (3, 0), (4, 2), (5, 0), (6, 0), (7, 2), (8, 0), (9, 2)] (.fork 10 3 (.lin [(11, 0), (12, 0), (13, 0), (14, 4), (15, 3), (16, 0)] .nil) 14 4 (.lin [(10, 3), (11, 0), (12, 0), (13, 0), (15, 3), (16, 0)] .nil)))
def qJ10_3_11 : PT := (.lin [(0, 0), (1, 0), (2, 2), (3, 0), (4, 2), (5, 0), (6, 0), (7, 2), (8, 0), (9, 2)] (.fork 10 3 (.lin [(11, 0), (12, 0), (13, 0), (14, 4), (15, 3), (16, 0)] .nil) 14 4 (.lin [(10, 3), (11, 0), (12, 0), (13, 0), (15, 3), (16, 0)] .nil)))
attribute [go_sem] qJ10_3_7 qJ10_3_10 qJ10_3_11

theorem okD_neg {d : Dyadic} (h : OkD d) : OkD (-d) := by
  by_cases h0 : d = 0
  · subst h0; exact h
  · obtain ⟨_, h2, h3⟩ := f_neg d h0
    unfold OkD at *
    rw [nuOf_f] at h ⊢
    rw [h2, h3]; exact ⟨h.len, h.lo, h.hi⟩
theorem smol_one : Smol (tw 0) := ⟨⟨64, by decide, by decide⟩, Pb.dy (by decide)⟩
theorem p_nNegO {a : Dyadic} (ha : OkD a) : PC Tryd.prog 11 [NU (nuOf a)] fun d => d = NU (nuOf (-a)) := by
  have := p_nNeg (ha.sz).wl (by decide)
  rwa [rvO ha] at this
set_option maxHeartbeats 4000000 in
theorem p_OrthoRight {w : List Nat} (hb : B64 w) : PC Tryd.prog 3 [W64 w] fun d => d = bl true := by
  have pK := p_known9
  have d1 := @dr 7 qJ10_3_7
  have d2 := @dr 10 qJ10_3_10
  have d3 := @dr 11 qJ10_3_11
  refine PB (rs := [.tmp 2]) Tryd.func3 ?_
  repeat (first | with_reducible refine pv_seq fun K hK => ?_ | ((with_reducible first | refine hK _ _ ?_ | (clear hK; refine hK _ _ ?_) | (clear hK; clear hK; refine hK _ _ ?_)); clear hK; try clear K) | refine W ?_ | exact Z | with_reducible intro b)
  refine p_Of (fun b0 => ?_)
  repeat (first | with_reducible refine pv_seq fun K hK => ?_ | ((with_reducible first | refine hK _ _ ?_ | (clear hK; refine hK _ _ ?_) | (clear hK; clear hK; refine hK _ _ ?_)); clear hK; try clear K) | refine W0 ?_ | exact Z | with_reducible intro b)
  refine p_smallD (i := 0) (by simp -implicitDefEqProofs only [updS, upS, if_true]; rfl) hb (by omega) (fun x sx bx => ?_)
  repeat (first | with_reducible refine pv_seq fun K hK => ?_ | ((with_reducible first | refine hK _ _ ?_ | (clear hK; refine hK _ _ ?_) | (clear hK; clear hK; refine hK _ _ ?_)); clear hK; try clear K) | refine W0 ?_ | exact Z | with_reducible intro b)
  refine p_smallD (i := 1) (by simp -implicitDefEqProofs only [updS, upS, if_true]; rfl) hb (by omega) (fun y sy yx => ?_)
  repeat (first | with_reducible refine pv_seq fun K hK => ?_ | ((with_reducible first | refine hK _ _ ?_ | (clear hK; refine hK _ _ ?_) | (clear hK; clear hK; refine hK _ _ ?_)); clear hK; try clear K) | refine W0 ?_ | exact Z | with_reducible intro b)
  refine p_dPrec (i := 2) (by simp -implicitDefEqProofs only [updS, upS, if_true]; rfl) hb (by omega) (fun p j3 p1 p2 l3 => ?_)
  have mx : Smol x := ⟨sx, bx⟩
  have my : Smol y := ⟨sy, yx⟩
  have hP : (if (p : Int) < 12 then (12 : Int) else p) = ((max p 12 : Nat) : Int) := by split <;> omega
  obtain ⟨P, hPe⟩ : ∃ P, P = max p 12 := ⟨_, rfl⟩
  have hP12 : 12 ≤ P := by omega
  have hP256 : P ≤ 256 := by omega
  rw [← hPe] at hP
  clear hPe
  have s1 := p_nSignO mx.ok
  have s2 := p_nSignO my.ok
  have z1 : (sgnD x = 0) = (x = 0) := propext sgnD_zero
  have z2 : (sgnD y = 0) = (y = 0) := propext sgnD_zero
  have ft := hP
  repeat (first | with_reducible refine pv_stopQ 5 ?_ | with_reducible refine pv_seq fun K hK => ?_ | ((with_reducible first | refine hK _ _ ?_ | (clear hK; refine hK _ _ ?_) | (clear hK; clear hK; refine hK _ _ ?_)); clear hK; try clear K) | refine W ?_ | exact Z | with_reducible intro b)
  refine ⟨fun K2 q2 hC => ?_⟩
  have J : ∀ (e : DEnv) (S : Store) (z : Dyadic) (b4 b5 : Nat), Smol z → ¬ (z = 0 ∧ y = 0) → e 4 = .ptr (.l 4) b4 0 0 3 → e 5 = .ptr (.l 5) b5 0 0 3 → e 6 = i64 P → S (.l 4) = some ⟨b4, 3, 0, [bU (nuOf z)]⟩ → S (.l 5) = some ⟨b5, 3, 0, [bU (nuOf y)]⟩ → K2 e S := by
    intro e S z b4 b5 mz hz g4 g5 g6 s4 s5
    refine q2 _ _ ?_
    clear q2 hC
    obtain ⟨j, hj1, hj2, hcol⟩ := right_cols hP12 hP256 mz.bx my.bx (by decide) hz
    have okz := mz.ok
    have oky := my.ok
    have okn := okD_neg oky
    have pC := p_oCols (p := P) (a := [[z, -y], [y, z]]) (fun r hr t ht => by
      simp only [List.mem_cons, List.not_mem_nil, or_false] at hr
      rcases hr with rfl | rfl <;> simp only [List.mem_cons, List.not_mem_nil, or_false] at ht <;> rcases ht with rfl | rfl <;> assumption) (fun r hr => by
      simp only [List.mem_cons, List.not_mem_nil, or_false] at hr
      rcases hr with rfl | rfl <;> rfl) (by simp) (by simp) (by omega) hP256
    have pN := p_nNegO oky
    rw [hcol, okR_ok] at pC
    have bt : ∀ {u : Dyadic}, Bx 6 20 u → Bx 6 (20 + 200) (u * tw j) := fun h => h.tw (by omega) (by omega)
    have bz := bt mz.bx
    have by_ := bt my.bx
    have bny : Bx 6 (20 + 200) (-y * tw j) := by
      rw [show -y * tw j = -(y * tw j) by grind]
      by_cases e0 : y * tw j = 0
      · rw [e0]; exact Bx.zero
      · obtain ⟨_, h2, h3⟩ := f_neg _ e0
        exact ⟨by rw [h2]; exact by_.n, by rw [h3]; exact by_.lo, by rw [h3]; exact by_.hi⟩
    have o1 := (bz.mul bny).ok (by decide) (by decide)
    have o2 := (by_.mul bz).ok (by decide) (by decide)
    have pM1 := p_nMulD (bz.ok (by decide) (by decide)) (bny.ok (by decide) (by decide))
    have pM2 := p_nMulD (by_.ok (by decide) (by decide)) (bz.ok (by decide) (by decide))
    rw [numR_ok o1] at pM1
    rw [numR_ok o2] at pM2
    have pA := p_nAddD o1 o2
    rw [show z * tw j * (-y * tw j) + y * tw j * (z * tw j) = 0 by grind, numR_zero] at pA
    have pS := p_nSignO OkD.zero
    rw [show nuOf 0 = nu0 from rfl, show sgnD 0 = 0 by decide] at pS
    unfold NR NRE nus at pC
    simp only [List.map_cons, List.map_nil] at pC
    unfold NR nus at pC
    simp only [List.map_cons, List.map_nil] at pC
    generalize nuOf (z * tw j * (-y * tw j)) = U at *
    generalize nuOf (y * tw j * (z * tw j)) = V at *
    generalize nuOf (z * tw j) = A at *
    generalize nuOf (-y * tw j) = B at *
    generalize nuOf (y * tw j) = C at *
    generalize nuOf z = X at *
    generalize nuOf (-y) = M at *
    generalize nuOf y = Y at *
    have ft := And.intro g4 (And.intro g5 (And.intro g6 (And.intro s4 s5)))
    repeat (first | with_reducible refine pv_stop 7 ?_ | with_reducible refine pv_seq fun K hK => ?_ | ((with_reducible first | refine hK _ _ ?_ | (clear hK; refine hK _ _ ?_) | (clear hK; clear hK; refine hK _ _ ?_)); clear hK; try clear K) | refine W ?_ | exact Z | with_reducible intro b)
    refine ⟨fun K3 q3 _ => ?_⟩
    have J3 : ∀ (e : DEnv) (S : Store), e 7 = .g (eS eR [[A, B], [C, A]]) → e 8 = i64 0 → K3 e S := by
      intro e S g7 g8
      refine q3 _ _ ?_
      clear q3
      have ft := And.intro g7 g8
      repeat (first | with_reducible refine pv_stop 10 ?_ | with_reducible refine pv_seq fun K hK => ?_ | ((with_reducible first | refine hK _ _ ?_ | (clear hK; refine hK _ _ ?_) | (clear hK; clear hK; refine hK _ _ ?_)); clear hK; try clear K) | refine W ?_ | exact Z | with_reducible intro b)
      refine ⟨fun K4 q4 _ => ?_⟩
      have J4 : ∀ (e : DEnv) (S : Store) (b9 : Nat), e 7 = .g (eS eR [[A, B], [C, A]]) → e 10 = i64 0 → e 9 = .ptr (.l 9) b9 0 0 3 → S (.l 9) = some ⟨b9, 3, 0, [bU U]⟩ → K4 e S := by
        intro e S b9 g7 g10 g9 s9
        refine q4 _ _ ?_
        clear q4
        have ft := And.intro g7 (And.intro g10 (And.intro g9 s9))
        repeat (first | with_reducible refine pv_stop 11 ?_ | with_reducible refine pv_seq fun K hK => ?_ | ((with_reducible first | refine hK _ _ ?_ | (clear hK; refine hK _ _ ?_) | (clear hK; clear hK; refine hK _ _ ?_)); clear hK; try clear K) | refine W ?_ | exact Z | with_reducible intro b)
        refine ⟨fun K5 q5 _ => ?_⟩
        have J5 : ∀ (e : DEnv) (S : Store) (b9 b11 : Nat), e 10 = i64 0 → e 12 = i64 0 → e 9 = .ptr (.l 9) b9 0 0 3 → e 11 = .ptr (.l 11) b11 0 0 3 → S (.l 9) = some ⟨b9, 3, 0, [bU U]⟩ → S (.l 11) = some ⟨b11, 3, 0, [bU V]⟩ → K5 e S := by
          intro e S b9 b11 g10 g12 g9 g11 s9 s11
          refine q5 _ _ ?_
          clear q5
          have ft := And.intro g10 (And.intro g12 (And.intro g9 (And.intro g11 (And.intro s9 s11))))
          exact Wk
        clear q5
        repeat' (first | with_reducible refine pv_seq fun K hK => ?_ | ((with_reducible first | refine hK _ _ ?_ | (clear hK; refine hK _ _ ?_) | (clear hK; clear hK; refine hK _ _ ?_)); clear hK; try clear K) | refine W ?_ | exact Z | with_reducible intro b | with_reducible refine And.intro ?_ ?_ )
        all_goals exact J5 _ _ _ _ Zr Zr Zr Zr Zr Zr
      clear q4
      repeat' (first | with_reducible refine pv_seq fun K hK => ?_ | ((with_reducible first | refine hK _ _ ?_ | (clear hK; refine hK _ _ ?_) | (clear hK; clear hK; refine hK _ _ ?_)); clear hK; try clear K) | refine W ?_ | exact Z | with_reducible intro b | with_reducible refine And.intro ?_ ?_ )
      all_goals exact J4 _ _ _ Zr Zr Zr Zr
    clear q3
    repeat' (first | with_reducible refine pv_seq fun K hK => ?_ | ((with_reducible first | refine hK _ _ ?_ | (clear hK; refine hK _ _ ?_) | (clear hK; clear hK; refine hK _ _ ?_)); clear hK; try clear K) | refine W ?_ | exact Z | with_reducible intro b | with_reducible refine And.intro ?_ ?_ | (refine PFC.frzCell (k2 := .l 44) (k := .l 40) (by repeat first | exact updS_at | refine (updS_ne (by decide)).trans ?_) 0 0 (by rfl) (by rfl) (by decide) (by repeat first | exact updS_at | refine (updS_ne (by decide)).trans ?_) (gs := [eU X, eU M]) (by rfl) (by simp) ?_) | (refine PFC.frzCell (k2 := .l 44) (k := .l 43) (by repeat first | exact updS_at | refine (updS_ne (by decide)).trans ?_) 1 0 (by rfl) (by rfl) (by decide) (by repeat first | exact updS_at | refine (updS_ne (by decide)).trans ?_) (gs := [eU Y, eU X]) (by rfl) (by simp) ?_))
    all_goals exact J3 _ _ Zr Zr
  by_cases hx0 : x = 0
  · rw [eq_true hx0] at z1
    by_cases hy0 : y = 0
    · rw [eq_true hy0] at z2
      have ft := And.intro z1 z2
      repeat (first | with_reducible refine pv_seq fun K hK => ?_ | ((with_reducible first | refine hK _ _ ?_ | (clear hK; refine hK _ _ ?_) | (clear hK; clear hK; refine hK _ _ ?_)); clear hK; try clear K) | refine W ?_ | exact Z | with_reducible intro b)
      refine hC _ _ (Recast.frzCell (k2 := .l 4) (k := .l 34) (by repeat first | exact updS_at | refine (updS_ne (by decide)).trans ?_) 0 2 (by rfl) (by rfl) (by decide) (by repeat first | exact updS_at | refine (updS_ne (by decide)).trans ?_) (gs := [[.lit (.int .u64 1)]]) (by rfl) (by simp) ?_)
      exact J _ _ (tw 0) _ _ smol_one (fun h => tw_ne 0 h.1) Zr Zr Zr (by rw [nu_tw (by decide) (by decide)]; exact Zr) Zr
    · rw [eq_false hy0] at z2
      have ft := And.intro z1 z2
      repeat (first | with_reducible refine pv_seq fun K hK => ?_ | ((with_reducible first | refine hK _ _ ?_ | (clear hK; refine hK _ _ ?_) | (clear hK; clear hK; refine hK _ _ ?_)); clear hK; try clear K) | refine W ?_ | exact Z | with_reducible intro b)
      exact J _ _ x _ _ mx (fun h => hy0 h.2) Zr Zr Zr Zr Zr
  · rw [eq_false hx0] at z1
    have ft := z1
    repeat (first | with_reducible refine pv_seq fun K hK => ?_ | ((with_reducible first | refine hK _ _ ?_ | (clear hK; refine hK _ _ ?_) | (clear hK; clear hK; refine hK _ _ ?_)); clear hK; try clear K) | refine W ?_ | exact Z | with_reducible intro b)
    exact J _ _ x _ _ mx (fun h => hx0 h.1) Zr Zr Zr Zr Zr
end Go.V

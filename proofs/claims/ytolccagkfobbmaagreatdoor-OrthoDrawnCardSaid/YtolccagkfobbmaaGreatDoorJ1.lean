/- Package ortho over values as data: sums of products; a column less what of it lies along another one. -/
import Derived.Test.YtolccagkfobbmaaGreatDoorJP
set_option linter.unusedSimpArgs false
set_option linter.unusedVariables false
set_option maxRecDepth 100000
namespace Go.V
open Go Go.RowKit Go.Proofs
def qJ1_41_5 : PT := (.lin [(0, 0), (1, 0), (2, 0), (3, 2), (4, 0), (5, 0), (6, 0), (7, 2), (8, 0)] (.fork 9 3 (.lin [(10, 0), (11, 0), (12, 0), (13, 4), (14, 3), (15, 0)] .nil) 13 4 (.lin [(9, 3), (10, 0), (11, 0), (12, 0), (14, 3), (15, 0)] .nil)))
attribute [go_sem] qJ1_41_5

/-- Lists of numbers, rows of these. -/
def nus (l : DL) : List Nu := l.map nuOf
def eR (r : List Nu) : List G := [eS eU r]
def ND (l : DL) : D := .g (eS eU (nus l))
def NR (a : List DL) : D := .g (eS eR (a.map nus))
def bU (x : Nu) : List D := [bl x.neg, i64 x.exp, W64 x.w]
theorem nus_len {l : DL} : (nus l).length = l.length := List.length_map _
theorem nus_get {l : DL} {i : Nat} (h : i < l.length) : (nus l)[i]? = some (nuOf (gD l i)) := by
  unfold nus; rw [List.getElem?_map, gD_get h, List.getElem?_eq_getElem h]; rfl
theorem eU_len {x : Nu} : (eU x).length = 3 := rfl
theorem eU_map {x : Nu} : (eU x).map D.g = bU x := rfl
theorem eR_len {r : List Nu} : (eR r).length = 1 := rfl
theorem eR_map {r : List Nu} : (eR r).map D.g = [.g (eS eU r)] := rfl
theorem bU_eq {x : Nu} : bU x = [.g (.lit (.bool x.neg)), .g (.lit (.int .i64 x.exp)), W64 x.w] := rfl
attribute [go_sem] nus_len eU_0 ND NR bU_eq eR
theorem Recast.z3 {N : DEnv → Store → Prop} {e : DEnv} {S : Store} {k : Nm} {b : Nat} {x y : D} (hk : S k = some ⟨b, 3, 0, [[x, y, .nil]]⟩) (h : N e (updS S k (some ⟨b, 3, 0, [[x, y, W64 []]]⟩))) : Recast N e S :=
  Recast.cell (i := 0) (j := 2) (es := [x, y, .nil]) (d := .nil) (d' := W64 []) hk rfl rfl (fun I H v hv => nil_row hv) h

theorem okN_div {p : Nat} {a b : Dyadic} : okN (divO p a b) = if b = 0 then (nu0, 3) else numR (rd p false (quo p a b)) := by
  unfold divO; split
  · rfl
  · exact okN_okO _
theorem p_rdAddD {p : Nat} {up : Bool} {a b : Dyadic} (ha : OkD a) (hb : OkD b) (h8 : 8 ≤ p) (h256 : p ≤ 256) : PC Tryz.prog 59 [NU (nuOf a), NU (nuOf b), i64 p, bl up] fun d => d = NE (numR (rd p up (a + b))) := by
  have := p_rdAdd (p := p) (up := up) (ha.sz).wl (hb.sz).wl
  rwa [opP_D ha hb h8 h256, val_nuOf, val_nuOf] at this
theorem p_rdSubD {p : Nat} {up : Bool} {a b : Dyadic} (ha : OkD a) (hb : OkD b) (h8 : 8 ≤ p) (h256 : p ≤ 256) : PC Tryz.prog 44 [NU (nuOf a), NU (nuOf b), i64 p, bl up] fun d => d = NE (numR (rd p up (a - b))) := by
  have := p_rdSub (p := p) (up := up) (ha.sz).wl (hb.sz).wl
  rwa [opP_D ha hb h8 h256, val_nuOf, val_nuOf] at this
theorem p_rdMulD {p : Nat} {up : Bool} {a b : Dyadic} (ha : OkD a) (hb : OkD b) (h8 : 8 ≤ p) (h256 : p ≤ 256) : PC Tryz.prog 43 [NU (nuOf a), NU (nuOf b), i64 p, bl up] fun d => d = NE (numR (rd p up (a * b))) := by
  have := p_rdMul (p := p) (up := up) (ha.sz).wl (hb.sz).wl
  rwa [opP_D ha hb h8 h256, val_nuOf, val_nuOf] at this
theorem p_rdDivO {p : Nat} {a b : Dyadic} (ha : OkD a) (hb : OkD b) (h8 : 8 ≤ p) (h256 : p ≤ 256) : PC Tryz.prog 42 [NU (nuOf a), NU (nuOf b), i64 p, bl false] fun d => d = NE (okN (divO p a b)) := by
  have := p_rdDiv (p := p) (up := false) (ha.sz).wl (hb.sz).wl
  rwa [dvR_D ha hb h8 h256, ← okN_div] at this
set_option maxHeartbeats 1000000 in
theorem p_oDot {p : Nat} {us vs : DL} (hu : OkL us) (hv : OkL vs) (hl : vs.length = us.length) (h0 : 0 < us.length) (hn : us.length ≤ 1000) (h8 : 8 ≤ p) (h256 : p ≤ 256) : PC Tryz.prog 41 [ND us, ND vs, i64 p] fun d => d = NE (okN (dotR p us vs)) := by
  unfold ND
  generalize hr : dotR p us vs = r
  have d1 := @dr 5 qJ1_41_5
  refine PB (rs := [.cell 6 38, .tmp 7]) Tryz.func41 ?_
  refine pv_seq fun K1 q1 => ?_
  repeat (first | with_reducible refine pv_seq fun K hK => ?_ | ((with_reducible first | refine hK _ _ ?_ | (clear hK; refine hK _ _ ?_) | (clear hK; clear hK; refine hK _ _ ?_)); clear hK; try clear K) | refine W0 ?_ | exact Z | with_reducible intro b)
  refine q1 _ _ ?_
  clear q1
  refine pv_seqR fun K2 q2 hC => ?_
  repeat (first | with_reducible refine pv_seq fun K hK => ?_ | ((with_reducible first | refine hK _ _ ?_ | (clear hK; refine hK _ _ ?_) | (clear hK; clear hK; refine hK _ _ ?_)); clear hK; try clear K) | refine W0 ?_ | exact Z | with_reducible intro b)
  refine hC _ _ (Recast.z3 (k := .l 8) Zr ?_)
  refine q2 _ _ ?_
  clear q2 hC
  repeat (first | with_reducible refine pv_seq fun K hK => ?_ | ((with_reducible first | refine hK _ _ ?_ | (clear hK; refine hK _ _ ?_) | (clear hK; clear hK; refine hK _ _ ?_)); clear hK; try clear K) | refine W0 ?_ | exact Z | with_reducible intro b)
  have J : ∀ (e : DEnv) (S : Store) (b6 b8 : Nat) (s : Dyadic), r = .ok s → e 6 = .ptr (.l 6) b6 0 0 3 → e 8 = .ptr (.l 8) b8 0 0 3 → S (.l 6) = some ⟨b6, 3, 0, [[bl false, i64 0, .nil]]⟩ → S (.l 8) = some ⟨b8, 3, 0, [bU (nuOf s)]⟩ → K e S := by
    intro e S b6 b8 s hs g6 g8 s6 s8
    subst hs
    have ft := And.intro g6 (And.intro g8 (And.intro s6 s8))
    exact Wk
  clear hK
  refine pv_loop (fun e S => ∃ (i b6 b8 : Nat) (s : Dyadic), i ≤ us.length ∧ dotA p us vs i = .ok s ∧ e 0 = .g (eS eU (nus us)) ∧ e 1 = .g (eS eU (nus vs)) ∧ e 2 = i64 p ∧ e 13 = i64 us.length ∧ e 14 = i64 i ∧ e 6 = .ptr (.l 6) b6 0 0 3 ∧ e 8 = .ptr (.l 8) b8 0 0 3 ∧ S (.l 6) = some ⟨b6, 3, 0, [[bl false, i64 0, .nil]]⟩ ∧ S (.l 8) = some ⟨b8, 3, 0, [bU (nuOf s)]⟩) (fun e _ => us.length - (intD (e 14)).toNat) ?_ ?_
  · exact ⟨0, _, _, 0, Nat.zero_le _, rfl, Zr, Zr, Zr, Zr, Zr, Zr, Zr, Zr, Zr⟩
  · rintro e S ⟨i, b6, b8, s, hi, hA, g0, g1, g2, g13, g14, g6, g8, s6, s8⟩
    have ft := And.intro g0 (And.intro g1 (And.intro g2 (And.intro g13 (And.intro g14 (And.intro g6 (And.intro g8 (And.intro s6 s8)))))))
    repeat (first | with_reducible refine pv_seq fun K hK => ?_ | ((with_reducible first | refine hK _ _ ?_ | (clear hK; refine hK _ _ ?_) | (clear hK; clear hK; refine hK _ _ ?_)); clear hK; try clear K) | refine W0 ?_ | exact Z | with_reducible intro b)
    refine pv_cdD (fun ht => ?_) (fun ht => ?_)
    · have e1 := nus_get (l := us) ht
      have e2 := nus_get (l := vs) (i := i) (by omega)
      have pM := p_rdMulD (up := false) (hu.at i) (hv.at i) h8 h256
      have st := runE_step hA
      have os := dotA_ok hA
      unfold dotS mulO at st
      have er : ∀ c, dotA p us vs (i + 1) = .error c → r = .error c := fun c h => by rw [← hr]; exact runE_err h (by omega)
      unfold dotA at er
      by_cases hm : OkD (rd p false (gD us i * gD vs i))
      · rw [numR_ok hm] at pM
        rw [okO_ok hm, bnd_ok] at st
        generalize nuOf (gD us i) = X at *
        generalize nuOf (gD vs i) = Y at *
        generalize rd p false (gD us i * gD vs i) = x at *
        by_cases hi0 : i = 0
        · subst hi0
          rw [if_pos rfl] at st
          have ft := And.intro g0 (And.intro g1 (And.intro g2 (And.intro g13 (And.intro g14 (And.intro g6 (And.intro g8 (And.intro s6 (And.intro s8 (And.intro e1 e2)))))))))
          repeat' (first | with_reducible refine pv_seq fun K hK => ?_ | ((with_reducible first | refine hK _ _ ?_ | (clear hK; refine hK _ _ ?_) | (clear hK; clear hK; refine hK _ _ ?_)); clear hK; try clear K) | refine W ?_ | exact Z | with_reducible intro b | with_reducible refine And.intro ?_ ?_ )
          all_goals first | (simp only [intD]; omega) | exact ⟨1, b6, b8, x, by omega, st, Zr, Zr, Zr, Zr, Zr⟩
        · rw [if_neg hi0] at st
          have k1 : (0 < i) = True := eq_true (by omega)
          have pA := p_rdAddD (p := p) (up := false) os hm h8 h256
          by_cases ho : OkD (rd p false (s + x))
          · rw [numR_ok ho] at pA
            rw [okO_ok ho] at st
            generalize rd p false (s + x) = y at *
            generalize nuOf s = Z at *
            have ft := And.intro g0 (And.intro g1 (And.intro g2 (And.intro g13 (And.intro g14 (And.intro g6 (And.intro g8 (And.intro s6 (And.intro s8 (And.intro e1 (And.intro e2 k1))))))))))
            repeat' (first | with_reducible refine pv_seq fun K hK => ?_ | ((with_reducible first | refine hK _ _ ?_ | (clear hK; refine hK _ _ ?_) | (clear hK; clear hK; refine hK _ _ ?_)); clear hK; try clear K) | refine W ?_ | exact Z | with_reducible intro b | with_reducible refine And.intro ?_ ?_ )
            all_goals first | (simp only [intD]; omega) | exact ⟨i + 1, b6, b8, y, by omega, st, Zr, Zr, Zr, Zr, Zr⟩
          · rw [numR_over ho] at pA
            rw [okO_no ho] at st
            have er := er _ st
            subst er
            generalize nuOf s = Z at *
            have ft := And.intro g0 (And.intro g1 (And.intro g2 (And.intro g13 (And.intro g14 (And.intro g6 (And.intro g8 (And.intro s6 (And.intro s8 (And.intro e1 (And.intro e2 k1))))))))))
            repeat' (first | with_reducible refine pv_seq fun K hK => ?_ | ((with_reducible first | refine hK _ _ ?_ | (clear hK; refine hK _ _ ?_) | (clear hK; clear hK; refine hK _ _ ?_)); clear hK; try clear K) | refine W ?_ | exact Z | with_reducible intro b | with_reducible refine And.intro ?_ ?_ )
            all_goals rfl
      · rw [numR_over hm] at pM
        rw [okO_no hm, bnd_no] at st
        have er := er _ st
        subst er
        generalize nuOf (gD us i) = X at *
        generalize nuOf (gD vs i) = Y at *
        have ft := And.intro g0 (And.intro g1 (And.intro g2 (And.intro g13 (And.intro g14 (And.intro g6 (And.intro g8 (And.intro s6 (And.intro s8 (And.intro e1 e2)))))))))
        repeat' (first | with_reducible refine pv_seq fun K hK => ?_ | ((with_reducible first | refine hK _ _ ?_ | (clear hK; refine hK _ _ ?_) | (clear hK; clear hK; refine hK _ _ ?_)); clear hK; try clear K) | refine W ?_ | exact Z | with_reducible intro b | with_reducible refine And.intro ?_ ?_ )
        all_goals rfl
    · obtain rfl : i = us.length := by omega
      repeat (first | with_reducible refine pv_seq fun K hK => ?_ | ((with_reducible first | refine hK _ _ ?_ | (clear hK; refine hK _ _ ?_) | (clear hK; clear hK; refine hK _ _ ?_)); clear hK; try clear K) | refine W0 ?_ | exact Z | with_reducible intro b)
      exact J _ _ b6 b8 s (by rw [← hr]; exact hA) Zr Zr Zr Zr

end Go.V

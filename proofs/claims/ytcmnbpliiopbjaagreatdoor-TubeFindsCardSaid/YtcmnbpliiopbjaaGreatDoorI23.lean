/- The seat's deck: numbers in intervals, parts of intervals. -/
import Derived.Test.YtcmnbpliiopbjaaGreatDoorI22
set_option linter.unusedSimpArgs false
set_option linter.unusedVariables false
set_option maxRecDepth 100000
namespace Go.V
open Go Go.RowKit Go.Proofs
def qI23_9_6 : PT := (.lin [(0, 0), (1, 2), (3, 0), (4, 0), (7, 0), (8, 2), (10, 0)] (.mix [2, 5, 6, 9, 11, 12, 13] [14] (.lin [(15, 3)] .nil)))
attribute [go_sem] qI23_9_6

def evD (d : Dyadic) : Dyadic := d * dy false 1 (-3)
theorem evD_f {d : Dyadic} (h : d ≠ 0) : fS (evD d) = fS d ∧ fN (evD d) = fN d ∧ fE (evD d) = fE d - 3 := by
  have h1 : dy false 1 (-3) ≠ 0 := by decide
  obtain ⟨a, b, c⟩ := mul_odd h h1
  obtain ⟨a2, b2, c2⟩ := f_of (neg := false) (n := 1) (e := -3) (by decide)
  rw [tz_odd (by decide)] at b2 c2
  unfold evD
  rw [a, b, c, a2, b2, c2]
  refine ⟨by cases fS d <;> rfl, by simp, by omega⟩
theorem evD_zero : evD 0 = 0 := by decide
theorem evD_bd {k : Nat} {d : Dyadic} (h : Bd k d) : Bd (k + 3) (evD d) := by
  by_cases h0 : d = 0
  · subst h0; rw [evD_zero]; exact Bd.zero _
  · obtain ⟨a, b, c⟩ := evD_f h0
    refine ⟨by rw [b, Nat.pow_add]; have := h.1; omega, ?_, ?_⟩
    · have := h.2.1; omega
    · have := h.2.2; omega
theorem VA_ev {d : Dyadic} (h : d ≠ 0) : VA (evD d) = .agg [bl (fS d), W32 (D32 (fN d)), i64 (fE d - 3)] := by
  obtain ⟨a, b, c⟩ := evD_f h
  unfold VA; rw [a, b, c]
def mixD (x y : Dyadic) (k : Nat) : Dyadic := evD (x * dy false (8 - k) 0 + y * dy false k 0)
theorem mixD8 (x y : Dyadic) {k : Nat} (hk : k ≤ 8) : mixD x y k * 8 = x * (8 - dy false k 0) + y * dy false k 0 := by
  have e1 : dy false (8 - k) 0 = 8 - dy false k 0 := by
    have h := dy_add false (8 - k) k 0
    rw [show 8 - k + k = 8 by omega] at h
    rw [show (8 : Dyadic) = dy false 8 0 by decide, ← h]; grind
  have e2 : dy false 1 (-3) * 8 = 1 := by decide
  unfold mixD evD
  rw [e1]
  generalize dy false 1 (-3) = t at *
  grind
theorem mixD_in {x y : Dyadic} {k : Nat} (hk : k ≤ 8) (h : x ≤ y) : x ≤ mixD x y k ∧ mixD x y k ≤ y := by
  have e := mixD8 x y hk
  have n1 : 0 ≤ dy false k 0 * (y - x) := nn_mul (dy_nn _ _) (by grind)
  have n2 : 0 ≤ (8 - dy false k 0) * (y - x) := nn_mul (by
    have h := dy_add false (8 - k) k 0
    rw [show 8 - k + k = 8 by omega] at h
    have := dy_nn (8 - k) 0
    rw [show (8 : Dyadic) = dy false 8 0 by decide, ← h]; grind) (by grind)
  generalize dy false k 0 = c at *
  generalize mixD x y k = m at *
  constructor <;> grind
/-- In an interval, by some parts of 8. -/
def InS (x y t : Dyadic) : Prop := t = x ∨ t = y ∨ ∃ k, 1 ≤ k ∧ k ≤ 7 ∧ t = mixD x y k
theorem InS.in {x y t : Dyadic} (h : InS x y t) (hxy : x ≤ y) : x ≤ t ∧ t ≤ y := by
  rcases h with rfl | rfl | ⟨k, h1, h2, rfl⟩
  · exact ⟨by grind, hxy⟩
  · exact ⟨hxy, by grind⟩
  · exact mixD_in (by omega) hxy
theorem InS.sm {k p : Nat} {x y t : Dyadic} (h : InS x y t) (hx : Sm k p x) (hy : Sm k p y) : Sm (k + 4) (p + 3) t := by
  have up : ∀ {d : Dyadic}, Sm k p d → Sm (k + 4) (p + 3) d := by
    rintro d ⟨z, rfl, hz⟩
    refine ⟨z * 2 ^ 3, ?_, ?_⟩
    · exact (owp_shl z p 3).symm
    · rw [Int.natAbs_mul, Nat.pow_add, show ((2 : Int) ^ 3).natAbs = 8 from rfl]; omega
  rcases h with rfl | rfl | ⟨j, h1, h2, rfl⟩
  · exact up hx
  · exact up hy
  · have c1 : ∀ n : Nat, n < 8 → Sm 3 0 (dy false n 0) := fun n hn => ⟨sg false n, by unfold dy; rfl, by rw [sg_abs]; exact hn⟩
    have a := (hx.mul (c1 (8 - j) (by omega))).add (hy.mul (c1 j (by omega)))
    obtain ⟨z, hz, hz2⟩ := a
    refine ⟨z, ?_, hz2⟩
    unfold mixD evD
    rw [hz]
    unfold dy
    rw [owp_mul, show sg false 1 = 1 from rfl, Int.mul_one]; rfl
set_option maxHeartbeats 2000000 in
theorem p_dIn {k : Nm} {S : Store} {Q : D → Store → Prop} {bb i : Nat} {w : List Nat} {x y : Dyadic} (hS : S k = some ⟨bb, 2, 0, [[W64 w, i64 i]]⟩) (hb : B64 w) (hi : i ≤ 900000000) (ox : OkD x) (oy : OkD y)
    (hQ : ∀ t : Dyadic, OkD t → InS x y t → Q (NU (nuOf t)) (updS S k (some ⟨bb, 2, 0, [[W64 w, i64 ((i + 1 : Nat) : Int)]]⟩))) : PFC Tryz.prog 9 [.ptr k bb 0 0 2, IV (ivD x y)] S Q := by
  unfold ivD
  have d1 := @dr 6 qI23_9_6
  refine PFB (rs := [.cell 4 30]) Tryz.func9 ?_
  repeat (first | with_reducible refine pv_seq fun K hK => ?_ | ((with_reducible first | refine hK _ _ ?_ | (clear hK; refine hK _ _ ?_) | (clear hK; clear hK; refine hK _ _ ?_)); clear hK; try clear K) | refine W0 ?_ | exact Z | with_reducible intro b)
  refine p_dN (n := 9) (i := i) (by simp -implicitDefEqProofs only [updS, upS]; exact hS) hb (by omega) (by decide) (by decide) (fun r hr => ?_)
  repeat (first | with_reducible refine pv_seq fun K hK => ?_ | ((with_reducible first | refine hK _ _ ?_ | (clear hK; refine hK _ _ ?_) | (clear hK; clear hK; refine hK _ _ ?_)); clear hK; try clear K) | refine W0 ?_ | exact Z | with_reducible intro b)
  by_cases h0 : r = 0
  · have hq := hQ x ox (.inl rfl)
    have ft := (eq_true h0)
    repeat (first | with_reducible refine pv_seq fun K hK => ?_ | ((with_reducible first | refine hK _ _ ?_ | (clear hK; refine hK _ _ ?_) | (clear hK; clear hK; refine hK _ _ ?_)); clear hK; try clear K) | refine W0 ?_ | exact Z | with_reducible intro b)
    exact hq
  · by_cases h8 : r = 8
    · have hq := hQ y oy (.inr (.inl rfl))
      have h8' : ((r : Int) = 8) = True := eq_true (by omega)
      have ft := And.intro (eq_false h0) h8'
      repeat (first | with_reducible refine pv_seq fun K hK => ?_ | ((with_reducible first | refine hK _ _ ?_ | (clear hK; refine hK _ _ ?_) | (clear hK; clear hK; refine hK _ _ ?_)); clear hK; try clear K) | refine W0 ?_ | exact Z | with_reducible intro b)
      exact hq
    · have h8' : ((r : Int) = 8) = False := eq_false (by omega)
      have o1 := p_rOf ox; have o2 := p_rOf oy
      have e1 : (8 : Int) - r = ((8 - r : Nat) : Int) := by omega
      have w1 := p_rWhole (n := ((8 - r : Nat) : Int)) (by unfold R64; omega)
      rw [decide_eq_false (by omega), Int.natAbs_natCast] at w1
      have w2 := p_rWhole (n := (r : Int)) (by unfold R64; omega)
      rw [decide_eq_false (by omega), Int.natAbs_natCast] at w2
      have z1 : Bd 65536 (dy false (8 - r) 0) := (OkD_word (by omega) (by omega) (by omega)).bd
      have z2 : Bd 65536 (dy false r 0) := (OkD_word (by omega) (by omega) (by omega)).bd
      have b1 := p_rBy ox.bd z1 (by decide)
      have b2 := p_rBy oy.bd z2 (by decide)
      have v1 := ox.bd.mul z1
      have v2 := oy.bd.mul z2
      have pl := p_rPlus v1 v2 (by decide)
      have v3 := v1.add v2
      have pN := p_rNum (evD_bd v3) (by decide)
      have hm : mixD x y r = evD (x * dy false (8 - r) 0 + y * dy false r 0) := rfl
      have hin : ∀ t, numR (mixD x y r) = t → (t.2 = 0 → OkD (mixD x y r) ∧ t.1 = nuOf (mixD x y r)) := by
        rintro t rfl h
        unfold numR at *
        split at h
        · rename_i h2; rw [if_pos h2]; exact ⟨h2, rfl⟩
        · simp at h
      have hQ1 := hQ x ox (.inl rfl)
      have hQ2 : ∀ t : Nu × Int, numR (mixD x y r) = t → t.2 = 0 → Q (NU t.1) (updS S k (some ⟨bb, 2, 0, [[W64 w, i64 ((i + 1 : Nat) : Int)]]⟩)) := fun t h1 h2 => by
        obtain ⟨a1, a2⟩ := hin t h1 h2
        rw [a2]; exact hQ _ a1 (.inr (.inr ⟨r, by omega, by omega, rfl⟩))
      rw [← hm] at pN
      clear hin hQ
      have sV := p_rSign (d := x * dy false (8 - r) 0 + y * dy false r 0)
      generalize numR (mixD x y r) = q at *
      have hQ2 := hQ2 q rfl
      have hR : R64 (fE (x * dy false (8 - r) 0 + y * dy false r 0) - 3) := by have := v3.2.1; have := v3.2.2; unfold R64; omega
      obtain ⟨⟨n3, e3, w3⟩, er⟩ := q
      rw [hm] at pN
      generalize dy false (8 - r) 0 = u1 at *
      generalize dy false r 0 = u2 at *
      by_cases hv : x * u1 + y * u2 = 0
      · have kv : (sgnD (x * u1 + y * u2) = 0) = True := eq_true (sgnD_zero.2 hv)
        rw [hv, evD_zero] at pN
        rw [hv] at kv sV pl
        generalize x * u1 = t1 at *
        generalize y * u2 = t2 at *
        generalize sgnD 0 = g at *
        unfold VA at *
        by_cases her : er = 0
        · have hq := hQ2 her
          have her' := eq_true her
          have ft := And.intro (eq_false h0) (And.intro h8' (And.intro kv (And.intro her' e1)))
          repeat (first | with_reducible refine pv_seq fun K hK => ?_ | ((with_reducible first | refine hK _ _ ?_ | (clear hK; refine hK _ _ ?_) | (clear hK; clear hK; refine hK _ _ ?_)); clear hK; try clear K) | refine W ?_ | exact Z | with_reducible intro b)
          exact hq
        · have her' := eq_false her
          have ft := And.intro (eq_false h0) (And.intro h8' (And.intro kv (And.intro her' e1)))
          repeat (first | with_reducible refine pv_seq fun K hK => ?_ | ((with_reducible first | refine hK _ _ ?_ | (clear hK; refine hK _ _ ?_) | (clear hK; clear hK; refine hK _ _ ?_)); clear hK; try clear K) | refine W ?_ | exact Z | with_reducible intro b)
          exact hQ1
      · have kv : (sgnD (x * u1 + y * u2) = 0) = False := eq_false (fun h => hv (sgnD_zero.1 h))
        rw [VA_ev hv] at pN
        generalize x * u1 + y * u2 = v at *
        generalize x * u1 = t1 at *
        generalize y * u2 = t2 at *
        generalize sgnD v = g at *
        unfold VA at *
        by_cases her : er = 0
        · have hq := hQ2 her
          have her' := eq_true her
          have ft := And.intro (eq_false h0) (And.intro h8' (And.intro kv (And.intro her' e1)))
          repeat (first | with_reducible refine pv_seq fun K hK => ?_ | ((with_reducible first | refine hK _ _ ?_ | (clear hK; refine hK _ _ ?_) | (clear hK; clear hK; refine hK _ _ ?_)); clear hK; try clear K) | refine W ?_ | exact Z | with_reducible intro b)
          exact hq
        · have her' := eq_false her
          have ft := And.intro (eq_false h0) (And.intro h8' (And.intro kv (And.intro her' e1)))
          repeat (first | with_reducible refine pv_seq fun K hK => ?_ | ((with_reducible first | refine hK _ _ ?_ | (clear hK; refine hK _ _ ?_) | (clear hK; clear hK; refine hK _ _ ?_)); clear hK; try clear K) | refine W ?_ | exact Z | with_reducible intro b)
          exact hQ1
end Go.V

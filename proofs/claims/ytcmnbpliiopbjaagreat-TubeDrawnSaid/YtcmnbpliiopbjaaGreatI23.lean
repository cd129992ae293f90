/- The seat's deck: numbers in intervals, parts of intervals. -/
import Derived.Test.YtcmnbpliiopbjaaGreatI22
set_option linter.unusedSimpArgs false
set_option linter.unusedVariables false
set_option maxRecDepth 100000
namespace Go.V
open Go Go.RowKit Go.Proofs

def evD (d : Dyadic) : Dyadic := d * dy false 1 (-3)
theorem evD_f {d : Dyadic} (h : d ≠ 0) : fS (evD d) = fS d ∧ fN (evD d) = fN d ∧ fE (evD d) = fE d - 3 := by
  have h1 : dy false 1 (-3) ≠ 0 := by decide
  obtain ⟨a, b, c⟩ := mul_odd h h1
  obtain ⟨a2, b2, c2⟩ := f_of (neg := false) (n := 1) (e := -3) (by decide)
  rw [tz_odd (by decide)] at b2 c2
  unfold evD
  rw [a, b, c, a2, b2, c2]
  refine ⟨by cases fS d <;> rfl, by simp, by omega⟩
theorem evD_zero : evD 0 = 0 := by decide
theorem evD_bd {k : Nat} {d : Dyadic} (h : Bd k d) : Bd (k + 3) (evD d) := by
  by_cases h0 : d = 0
  · subst h0; rw [evD_zero]; exact Bd.zero _
  · obtain ⟨a, b, c⟩ := evD_f h0
    refine ⟨by rw [b, Nat.pow_add]; have := h.1; omega, ?_, ?_⟩
    · have := h.2.1; omega
    · have := h.2.2; omega
theorem VA_ev {d : Dyadic} (h : d ≠ 0) : VA (evD d) = .agg [bl (fS d), W32 (D32 (fN d)), i64 (fE d - 3)] := by
  obtain ⟨a, b, c⟩ := evD_f h
  unfold VA; rw [a, b, c]
def mixD (x y : Dyadic) (k : Nat) : Dyadic := evD (x * dy false (8 - k) 0 + y * dy false k 0)
theorem mixD8 (x y : Dyadic) {k : Nat} (hk : k ≤ 8) : mixD x y k * 8 = x * (8 - dy false k 0) + y * dy false k 0 := by
  have e1 : dy false (8 - k) 0 = 8 - dy false k 0 := by
    have h := dy_add false (8 - k) k 0
    rw [show 8 - k + k = 8 by omega] at h
    rw [show (8 : Dyadic) = dy false 8 0 by decide, ← h]; grind
  have e2 : dy false 1 (-3) * 8 = 1 := by decide
  unfold mixD evD
  rw [e1]
  generalize dy false 1 (-3) = t at *
  grind
theorem mixD_in {x y : Dyadic} {k : Nat} (hk : k ≤ 8) (h : x ≤ y) : x ≤ mixD x y k ∧ mixD x y k ≤ y := by
  have e := mixD8 x y hk
  have n1 : 0 ≤ dy false k 0 * (y - x) := nn_mul (dy_nn _ _) (by grind)
  have n2 : 0 ≤ (8 - dy false k 0) * (y - x) := nn_mul (by
    have h := dy_add false (8 - k) k 0
    rw [show 8 - k + k = 8 by omega] at h
    have := dy_nn (8 - k) 0
    rw [show (8 : Dyadic) = dy false 8 0 by decide, ← h]; grind) (by grind)
  generalize dy false k 0 = c at *
  generalize mixD x y k = m at *
  constructor <;> grind
/-- In an interval, by some parts of 8. -/
def InS (x y t : Dyadic) : Prop := t = x ∨ t = y ∨ ∃ k, 1 ≤ k ∧ k ≤ 7 ∧ t = mixD x y k
theorem InS.in {x y t : Dyadic} (h : InS x y t) (hxy : x ≤ y) : x ≤ t ∧ t ≤ y := by
  rcases h with rfl | rfl | ⟨k, h1, h2, rfl⟩
  · exact ⟨by grind, hxy⟩
  · exact ⟨hxy, by grind⟩
  · exact mixD_in (by omega) hxy
theorem InS.sm {k p : Nat} {x y t : Dyadic} (h : InS x y t) (hx : Sm k p x) (hy : Sm k p y) : Sm (k + 4) (p + 3) t := by
  have up : ∀ {d : Dyadic}, Sm k p d → Sm (k + 4) (p + 3) d := by
    rintro d ⟨z, rfl, hz⟩
    refine ⟨z * 2 ^ 3, ?_, ?_⟩
    · exact (owp_shl z p 3).symm
    · rw [Int.natAbs_mul, Nat.pow_add, show ((2 : Int) ^ 3).natAbs = 8 from rfl]; omega
  rcases h with rfl | rfl | ⟨j, h1, h2, rfl⟩
  · exact up hx
  · exact up hy
  · have c1 : ∀ n : Nat, n < 8 → Sm 3 0 (dy false n 0) := fun n hn => ⟨sg false n, by unfold dy; rfl, by rw [sg_abs]; exact hn⟩
    have a := (hx.mul (c1 (8 - j) (by omega))).add (hy.mul (c1 j (by omega)))
    obtain ⟨z, hz, hz2⟩ := a
    refine ⟨z, ?_, hz2⟩
    unfold mixD evD
    rw [hz]
    unfold dy
    rw [owp_mul, show sg false 1 = 1 from rfl, Int.mul_one]; rfl
end Go.V

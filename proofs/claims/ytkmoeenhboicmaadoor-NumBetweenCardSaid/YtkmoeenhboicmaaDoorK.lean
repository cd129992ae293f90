/- Division of numbers by their digits: the plain laws. No program, no model. -/
import Init
set_option linter.unusedVariables false
namespace Go.V

theorem q_lt_iff {u d y1 y0 q r B : Nat} (hy : 0 < y1 * B + y0) (e : q * y1 + r = u) : (u * B + d) / (y1 * B + y0) < q ↔ B * r + d < q * y0 := by
  rw [Nat.div_lt_iff_lt_mul hy, ← e, Nat.mul_add, Nat.add_mul, ← Nat.mul_assoc, Nat.mul_comm r B]
  omega

theorem q_lt {u d y1 y0 B : Nat} (hu : u < y1 * B + y0) (hd : d < B) : (u * B + d) / (y1 * B + y0) < B := by
  rw [Nat.div_lt_iff_lt_mul (by omega)]
  have : (u + 1) * B ≤ (y1 * B + y0) * B := Nat.mul_le_mul_right B hu
  rw [Nat.add_mul, Nat.mul_comm (y1 * B + y0) B] at this
  omega

theorem q_down {u d y1 y0 q r B : Nat} (hu : u < y1 * B + y0) (hd : d < B) (e : q * y1 + r = u) (c : B ≤ q ∨ B * r + d < q * y0) : (u * B + d) / (y1 * B + y0) < q := by
  rcases c with c | c
  · exact Nat.lt_of_lt_of_le (q_lt hu hd) c
  · exact (q_lt_iff (by omega) e).2 c

theorem q_stop {u d y1 y0 q r B : Nat} (hu : u < y1 * B + y0) (e : q * y1 + r = u) (hQ : (u * B + d) / (y1 * B + y0) ≤ q) (c : ¬ B * r + d < q * y0) : q = (u * B + d) / (y1 * B + y0) := by
  have : ¬ (u * B + d) / (y1 * B + y0) < q := fun h => c ((q_lt_iff (by omega) e).1 h)
  omega

theorem q_high {u d y1 y0 q r B : Nat} (hu : u < y1 * B + y0) (h0 : y0 < B) (e : q * y1 + r = u) (hQ : (u * B + d) / (y1 * B + y0) ≤ q) (hr : B ≤ r) : q = (u * B + d) / (y1 * B + y0) := by
  refine q_stop hu e hQ ?_
  have hq : q < B := by
    rcases Nat.lt_or_ge q B with h | h
    · exact h
    · have := Nat.mul_le_mul_right y1 h
      rw [Nat.mul_comm B y1] at this
      omega
  have h1 : q * y0 ≤ B * y0 := Nat.mul_le_mul_right y0 (Nat.le_of_lt hq)
  have h2 : B * y0 ≤ B * r := Nat.mul_le_mul_left B (by omega)
  omega

/-- The first guess is not below the digit. -/
theorem q_guess {u d y1 y0 B : Nat} (h1 : 0 < y1) (hd : d < B) : (u * B + d) / (y1 * B + y0) ≤ u / y1 := by
  have hB : 0 < B := by omega
  have hyB : 0 < y1 * B := Nat.mul_pos h1 hB
  calc (u * B + d) / (y1 * B + y0) ≤ (u * B + d) / (y1 * B) := Nat.div_le_div_left (by omega) hyB
    _ = (u * B + d) / B / y1 := by rw [Nat.mul_comm y1 B, Nat.div_div_eq_div_mul]
    _ = u / y1 := by
      congr 1
      rw [Nat.add_comm, Nat.add_mul_div_right _ _ hB, Nat.div_eq_of_lt hd, Nat.zero_add]

/-- Two digits, one behind the other, are the quotient of both. -/
theorem two_digits {u d1 d0 y B : Nat} (hy : 0 < y) (hB : 0 < B) : (u * B + d1) / y * B + ((u * B + d1) % y * B + d0) / y = (u * (B * B) + (d1 * B + d0)) / y ∧
    ((u * B + d1) % y * B + d0) % y = (u * (B * B) + (d1 * B + d0)) % y := by
  have e : u * (B * B) + (d1 * B + d0) = y * ((u * B + d1) / y * B) + ((u * B + d1) % y * B + d0) := by
    have h := Nat.div_add_mod (u * B + d1) y
    have h2 : (u * B + d1) * B = (y * ((u * B + d1) / y) + (u * B + d1) % y) * B := by rw [h]
    rw [Nat.add_mul, Nat.add_mul, Nat.mul_assoc u, Nat.mul_assoc y] at h2
    omega
  rw [e]
  exact ⟨by rw [Nat.mul_add_div hy], by rw [Nat.mul_add_mod]⟩

/-- A number of two words, shifted up. -/
theorem shifted {hi lo s W : Nat} (hs : s ≤ 64) (hW : W = 2 ^ 64) : (hi * 2 ^ s + lo / 2 ^ (64 - s)) * W + lo * 2 ^ s % W = (hi * W + lo) * 2 ^ s := by
  have e : W = 2 ^ (64 - s) * 2 ^ s := by rw [hW, ← Nat.pow_add]; congr 1; omega
  have h1 : lo * 2 ^ s / W = lo / 2 ^ (64 - s) := by rw [e, Nat.mul_div_mul_right _ _ (Nat.two_pow_pos s)]
  have h2 := Nat.div_add_mod (lo * 2 ^ s) W
  rw [h1] at h2
  rw [Nat.add_mul, Nat.add_mul, Nat.mul_assoc hi, Nat.mul_comm (2 ^ s) W, ← Nat.mul_assoc hi, Nat.mul_comm (lo / 2 ^ (64 - s)) W]
  omega

end Go.V

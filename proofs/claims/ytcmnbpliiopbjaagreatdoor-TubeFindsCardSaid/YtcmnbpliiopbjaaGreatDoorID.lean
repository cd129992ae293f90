/- Intervals: plain laws. No program, no model. -/
import Derived.Test.YtcmnbpliiopbjaaGreatDoorPX
set_option linter.unusedVariables false
namespace Go.V
open Go

theorem nn_mul {a b : Dyadic} (ha : 0 ≤ a) (hb : 0 ≤ b) : 0 ≤ a * b := by
  apply Dyadic.toRat_le_toRat_iff.1
  rw [Dyadic.toRat_mul]
  exact Rat.mul_nonneg (Dyadic.toRat_le_toRat_iff.2 ha) (Dyadic.toRat_le_toRat_iff.2 hb)
/-- The lesser, the greater one, as the program picks them. -/
def loD (a b : Dyadic) : Dyadic := if b < a then b else a
def hiD (a b : Dyadic) : Dyadic := if a < b then b else a
theorem loD_le (a b : Dyadic) : loD a b ≤ a ∧ loD a b ≤ b ∧ (loD a b = a ∨ loD a b = b) := by
  unfold loD; split
  · exact ⟨by grind, by grind, .inr rfl⟩
  · exact ⟨by grind, by grind, .inl rfl⟩
theorem hiD_ge (a b : Dyadic) : a ≤ hiD a b ∧ b ≤ hiD a b ∧ (hiD a b = a ∨ hiD a b = b) := by
  unfold hiD; split
  · exact ⟨by grind, by grind, .inr rfl⟩
  · exact ⟨by grind, by grind, .inl rfl⟩
def minP (x y u v : Dyadic) : Dyadic := loD (loD (loD (x * u) (x * v)) (y * u)) (y * v)
def maxP (x y u v : Dyadic) : Dyadic := hiD (hiD (hiD (x * u) (x * v)) (y * u)) (y * v)
/-- The least product, as the document has it. -/
def leastR (x y u v : Dyadic) : Dyadic :=
  if 0 ≤ x ∧ 0 ≤ u then x * u else if 0 ≤ x then y * u else if 0 ≤ u then x * v else if y ≤ 0 ∧ v ≤ 0 then y * v else if y * u < x * v then y * u else x * v
theorem minP_spec (x y u v : Dyadic) : (minP x y u v ≤ x * u ∧ minP x y u v ≤ x * v ∧ minP x y u v ≤ y * u ∧ minP x y u v ≤ y * v) ∧ (minP x y u v = x * u ∨ minP x y u v = x * v ∨ minP x y u v = y * u ∨ minP x y u v = y * v) := by
  unfold minP
  have h1 := loD_le (x * u) (x * v)
  generalize loD (x * u) (x * v) = m1 at *
  have h2 := loD_le m1 (y * u)
  generalize loD m1 (y * u) = m2 at *
  have h3 := loD_le m2 (y * v)
  generalize loD m2 (y * v) = m3 at *
  grind
theorem maxP_spec (x y u v : Dyadic) : (x * u ≤ maxP x y u v ∧ x * v ≤ maxP x y u v ∧ y * u ≤ maxP x y u v ∧ y * v ≤ maxP x y u v) ∧ (maxP x y u v = x * u ∨ maxP x y u v = x * v ∨ maxP x y u v = y * u ∨ maxP x y u v = y * v) := by
  unfold maxP
  have h1 := hiD_ge (x * u) (x * v)
  generalize hiD (x * u) (x * v) = m1 at *
  have h2 := hiD_ge m1 (y * u)
  generalize hiD m1 (y * u) = m2 at *
  have h3 := hiD_ge m2 (y * v)
  generalize hiD m2 (y * v) = m3 at *
  grind
theorem leastR_eq {x y u v : Dyadic} (hx : x ≤ y) (hu : u ≤ v) : leastR x y u v = minP x y u v := by
  have s := minP_spec x y u v
  generalize minP x y u v = m at *
  have p1 : 0 ≤ x → 0 ≤ x * (v - u) := fun h => nn_mul h (by grind)
  have p2 : 0 ≤ y → 0 ≤ y * (v - u) := fun h => nn_mul h (by grind)
  have p3 : 0 ≤ u → 0 ≤ (y - x) * u := fun h => nn_mul (by grind) h
  have p4 : 0 ≤ v → 0 ≤ (y - x) * v := fun h => nn_mul (by grind) h
  have n1 : x ≤ 0 → 0 ≤ (-x) * (v - u) := fun h => nn_mul (by grind) (by grind)
  have n2 : y ≤ 0 → 0 ≤ (-y) * (v - u) := fun h => nn_mul (by grind) (by grind)
  have n3 : u ≤ 0 → 0 ≤ (y - x) * (-u) := fun h => nn_mul (by grind) (by grind)
  have n4 : v ≤ 0 → 0 ≤ (y - x) * (-v) := fun h => nn_mul (by grind) (by grind)
  unfold leastR
  by_cases a1 : 0 ≤ x
  · by_cases a2 : 0 ≤ u
    · rw [if_pos ⟨a1, a2⟩]
      have q1 := p1 a1; have q2 := p3 a2; have q3 := p2 (by grind)
      grind
    · rw [if_neg (fun h => a2 h.2), if_pos a1]
      have q1 := n3 (by grind); have q2 := p2 (by grind); have q3 := p1 a1
      grind
  · rw [if_neg (fun h => a1 h.1), if_neg a1]
    by_cases a2 : 0 ≤ u
    · rw [if_pos a2]
      have q1 := n1 (by grind); have q2 := p4 (by grind); have q3 := p3 a2
      grind
    · rw [if_neg a2]
      by_cases a3 : y ≤ 0 ∧ v ≤ 0
      · rw [if_pos a3]
        have q1 := n2 a3.1; have q2 := n4 a3.2; have q3 := n1 (by grind); have q4 := n3 (by grind)
        grind
      · rw [if_neg a3]
        have r1 : 0 ≤ (-x) * (-u) := nn_mul (by grind) (by grind)
        by_cases a4 : y ≤ 0
        · have r2 : 0 ≤ (-x) * v := nn_mul (by grind) (by grind)
          have r3 : 0 ≤ (-y) * (-u) := nn_mul (by grind) (by grind)
          have r4 : 0 ≤ (y - x) * v := nn_mul (by grind) (by grind)
          have r5 := n2 a4
          split <;> grind
        · by_cases a5 : v ≤ 0
          · have r2 : 0 ≤ y * (-u) := nn_mul (by grind) (by grind)
            have r3 : 0 ≤ y * (v - u) := p2 (by grind)
            have r4 : 0 ≤ (-x) * (-v) := nn_mul (by grind) (by grind)
            split <;> grind
          · have r2 : 0 ≤ y * (-u) := nn_mul (by grind) (by grind)
            have r3 : 0 ≤ (-x) * v := nn_mul (by grind) (by grind)
            have r4 : 0 ≤ y * v := nn_mul (by grind) (by grind)
            split <;> grind
theorem greatR_eq {x y u v : Dyadic} (hx : x ≤ y) (hu : u ≤ v) : - leastR (-y) (-x) u v = maxP x y u v := by
  rw [leastR_eq (by grind) hu]
  have s := minP_spec (-y) (-x) u v
  have t := maxP_spec x y u v
  generalize minP (-y) (-x) u v = m at *
  generalize maxP x y u v = n at *
  have e1 : -y * u = -(y * u) := by grind
  have e2 : -y * v = -(y * v) := by grind
  have e3 : -x * u = -(x * u) := by grind
  have e4 : -x * v = -(x * v) := by grind
  rw [e1, e2, e3, e4] at s
  grind
/-- What products of numbers of the intervals lie between. -/
theorem prod_in {x y u v a b : Dyadic} (h1 : x ≤ a) (h2 : a ≤ y) (h3 : u ≤ b) (h4 : b ≤ v) : minP x y u v ≤ a * b ∧ a * b ≤ maxP x y u v := by
  have s := minP_spec x y u v
  have t := maxP_spec x y u v
  generalize minP x y u v = m at *
  generalize maxP x y u v = n at *
  obtain ⟨⟨s1, s2, s3, s4⟩, _⟩ := s
  obtain ⟨⟨t1, t2, t3, t4⟩, _⟩ := t
  -- a * b lies between x * b and y * b, and each of these between its ends
  have key : ∀ c : Dyadic, m ≤ c * u → m ≤ c * v → c * u ≤ n → c * v ≤ n → m ≤ c * b ∧ c * b ≤ n := by
    intro c c1 c2 c3 c4
    by_cases hc : 0 ≤ c
    · have p1 : 0 ≤ c * (b - u) := nn_mul hc (by grind)
      have p2 : 0 ≤ c * (v - b) := nn_mul hc (by grind)
      grind
    · have p1 : 0 ≤ (-c) * (b - u) := nn_mul (by grind) (by grind)
      have p2 : 0 ≤ (-c) * (v - b) := nn_mul (by grind) (by grind)
      grind
  have k1 := key x s1 s2 t1 t2
  have k2 := key y s3 s4 t3 t4
  by_cases hb : 0 ≤ b
  · have p1 : 0 ≤ (a - x) * b := nn_mul (by grind) hb
    have p2 : 0 ≤ (y - a) * b := nn_mul (by grind) hb
    grind
  · have p1 : 0 ≤ (a - x) * (-b) := nn_mul (by grind) (by grind)
    have p2 : 0 ≤ (y - a) * (-b) := nn_mul (by grind) (by grind)
    grind
end Go.V

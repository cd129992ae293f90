/- Intervals: plain laws. No program, no model. Intervals: parts of the operands, powers, quotients; plain laws. No program, no model. Package iv over values as data: which intervals are right, copies, sums and differences, products. Package iv over values as data: what lies in what, hull, meet, opposites, amounts. Package iv over values as data: meet, opposites, amounts; outward, sums, differences, products. Package iv over values as data: sums, differences, products. -/
import Derived.Test.YtkjjmhdlcebnnaaGreatDoorZPX
import Derived.Test.YtkjjmhdlcebnnaaGreatDoorZPZ
set_option linter.unusedVariables false
set_option linter.unusedSimpArgs false
set_option maxRecDepth 100000
namespace Go.V
open Go

theorem nn_mul {a b : Dyadic} (ha : 0 ≤ a) (hb : 0 ≤ b) : 0 ≤ a * b := by
  apply Dyadic.toRat_le_toRat_iff.1
  rw [Dyadic.toRat_mul]
  exact Rat.mul_nonneg (Dyadic.toRat_le_toRat_iff.2 ha) (Dyadic.toRat_le_toRat_iff.2 hb)
/-- The lesser, the greater one, as the program picks them. -/
def loD (a b : Dyadic) : Dyadic := if b < a then b else a
def hiD (a b : Dyadic) : Dyadic := if a < b then b else a
theorem loD_le (a b : Dyadic) : loD a b ≤ a ∧ loD a b ≤ b ∧ (loD a b = a ∨ loD a b = b) := by
  unfold loD; split
  · exact ⟨by grind, by grind, .inr rfl⟩
  · exact ⟨by grind, by grind, .inl rfl⟩
theorem hiD_ge (a b : Dyadic) : a ≤ hiD a b ∧ b ≤ hiD a b ∧ (hiD a b = a ∨ hiD a b = b) := by
  unfold hiD; split
  · exact ⟨by grind, by grind, .inr rfl⟩
  · exact ⟨by grind, by grind, .inl rfl⟩
def minP (x y u v : Dyadic) : Dyadic := loD (loD (loD (x * u) (x * v)) (y * u)) (y * v)
def maxP (x y u v : Dyadic) : Dyadic := hiD (hiD (hiD (x * u) (x * v)) (y * u)) (y * v)
/-- The least product, as the document has it. -/
def leastR (x y u v : Dyadic) : Dyadic :=
  if 0 ≤ x ∧ 0 ≤ u then x * u else if 0 ≤ x then y * u else if 0 ≤ u then x * v else if y ≤ 0 ∧ v ≤ 0 then y * v else if y * u < x * v then y * u else x * v
theorem minP_spec (x y u v : Dyadic) : (minP x y u v ≤ x * u ∧ minP x y u v ≤ x * v ∧ minP x y u v ≤ y * u ∧ minP x y u v ≤ y * v) ∧ (minP x y u v = x * u ∨ minP x y u v = x * v ∨ minP x y u v = y * u ∨ minP x y u v = y * v) := by
  unfold minP
  have h1 := loD_le (x * u) (x * v)
  generalize loD (x * u) (x * v) = m1 at *
  have h2 := loD_le m1 (y * u)
  generalize loD m1 (y * u) = m2 at *
  have h3 := loD_le m2 (y * v)
  generalize loD m2 (y * v) = m3 at *
  grind
theorem maxP_spec (x y u v : Dyadic) : (x * u ≤ maxP x y u v ∧ x * v ≤ maxP x y u v ∧ y * u ≤ maxP x y u v ∧ y * v ≤ maxP x y u v) ∧ (maxP x y u v = x * u ∨ maxP x y u v = x * v ∨ maxP x y u v = y * u ∨ maxP x y u v = y * v) := by
  unfold maxP
  have h1 := hiD_ge (x * u) (x * v)
  generalize hiD (x * u) (x * v) = m1 at *
  have h2 := hiD_ge m1 (y * u)
  generalize hiD m1 (y * u) = m2 at *
  have h3 := hiD_ge m2 (y * v)
  generalize hiD m2 (y * v) = m3 at *
  grind
theorem leastR_eq {x y u v : Dyadic} (hx : x ≤ y) (hu : u ≤ v) : leastR x y u v = minP x y u v := by
  have s := minP_spec x y u v
  generalize minP x y u v = m at *
  have p1 : 0 ≤ x → 0 ≤ x * (v - u) := fun h => nn_mul h (by grind)
  have p2 : 0 ≤ y → 0 ≤ y * (v - u) := fun h => nn_mul h (by grind)
  have p3 : 0 ≤ u → 0 ≤ (y - x) * u := fun h => nn_mul (by grind) h
  have p4 : 0 ≤ v → 0 ≤ (y - x) * v := fun h => nn_mul (by grind) h
  have n1 : x ≤ 0 → 0 ≤ (-x) * (v - u) := fun h => nn_mul (by grind) (by grind)
  have n2 : y ≤ 0 → 0 ≤ (-y) * (v - u) := fun h => nn_mul (by grind) (by grind)
  have n3 : u ≤ 0 → 0 ≤ (y - x) * (-u) := fun h => nn_mul (by grind) (by grind)
  have n4 : v ≤ 0 → 0 ≤ (y - x) * (-v) := fun h => nn_mul (by grind) (by grind)
  unfold leastR
  by_cases a1 : 0 ≤ x
  · by_cases a2 : 0 ≤ u
    · rw [if_pos ⟨a1, a2⟩]
      have q1 := p1 a1; have q2 := p3 a2; have q3 := p2 (by grind)
      grind
    · rw [if_neg (fun h => a2 h.2), if_pos a1]
      have q1 := n3 (by grind); have q2 := p2 (by grind); have q3 := p1 a1
      grind
  · rw [if_neg (fun h => a1 h.1), if_neg a1]
    by_cases a2 : 0 ≤ u
    · rw [if_pos a2]
      have q1 := n1 (by grind); have q2 := p4 (by grind); have q3 := p3 a2
      grind
    · rw [if_neg a2]
      by_cases a3 : y ≤ 0 ∧ v ≤ 0
      · rw [if_pos a3]
        have q1 := n2 a3.1; have q2 := n4 a3.2; have q3 := n1 (by grind); have q4 := n3 (by grind)
        grind
      · rw [if_neg a3]
        have r1 : 0 ≤ (-x) * (-u) := nn_mul (by grind) (by grind)
        by_cases a4 : y ≤ 0
        · have r2 : 0 ≤ (-x) * v := nn_mul (by grind) (by grind)
          have r3 : 0 ≤ (-y) * (-u) := nn_mul (by grind) (by grind)
          have r4 : 0 ≤ (y - x) * v := nn_mul (by grind) (by grind)
          have r5 := n2 a4
          split <;> grind
        · by_cases a5 : v ≤ 0
          · have r2 : 0 ≤ y * (-u) := nn_mul (by grind) (by grind)
            have r3 : 0 ≤ y * (v - u) := p2 (by grind)
            have r4 : 0 ≤ (-x) * (-v) := nn_mul (by grind) (by grind)
            split <;> grind
          · have r2 : 0 ≤ y * (-u) := nn_mul (by grind) (by grind)
            have r3 : 0 ≤ (-x) * v := nn_mul (by grind) (by grind)
            have r4 : 0 ≤ y * v := nn_mul (by grind) (by grind)
            split <;> grind
/-- What products of numbers of the intervals lie between. -/
theorem prod_in {x y u v a b : Dyadic} (h1 : x ≤ a) (h2 : a ≤ y) (h3 : u ≤ b) (h4 : b ≤ v) : minP x y u v ≤ a * b ∧ a * b ≤ maxP x y u v := by
  have s := minP_spec x y u v
  have t := maxP_spec x y u v
  generalize minP x y u v = m at *
  generalize maxP x y u v = n at *
  obtain ⟨⟨s1, s2, s3, s4⟩, _⟩ := s
  obtain ⟨⟨t1, t2, t3, t4⟩, _⟩ := t
  -- a * b lies between x * b and y * b, and each of these between its ends
  have key : ∀ c : Dyadic, m ≤ c * u → m ≤ c * v → c * u ≤ n → c * v ≤ n → m ≤ c * b ∧ c * b ≤ n := by
    intro c c1 c2 c3 c4
    by_cases hc : 0 ≤ c
    · have p1 : 0 ≤ c * (b - u) := nn_mul hc (by grind)
      have p2 : 0 ≤ c * (v - b) := nn_mul hc (by grind)
      grind
    · have p1 : 0 ≤ (-c) * (b - u) := nn_mul (by grind) (by grind)
      have p2 : 0 ≤ (-c) * (v - b) := nn_mul (by grind) (by grind)
      grind
  have k1 := key x s1 s2 t1 t2
  have k2 := key y s3 s4 t3 t4
  by_cases hb : 0 ≤ b
  · have p1 : 0 ≤ (a - x) * b := nn_mul (by grind) hb
    have p2 : 0 ≤ (y - a) * b := nn_mul (by grind) hb
    grind
  · have p1 : 0 ≤ (a - x) * (-b) := nn_mul (by grind) (by grind)
    have p2 : 0 ≤ (y - a) * (-b) := nn_mul (by grind) (by grind)
    grind
end Go.V
namespace Go.V
open Go

theorem minP_mono {x y u v x' y' u' v' : Dyadic} (h1 : x ≤ x') (h2 : x' ≤ y') (h3 : y' ≤ y) (h4 : u ≤ u') (h5 : u' ≤ v') (h6 : v' ≤ v) : minP x y u v ≤ minP x' y' u' v' ∧ maxP x' y' u' v' ≤ maxP x y u v := by
  have c1 := prod_in (x := x) (y := y) (u := u) (v := v) (a := x') (b := u') (by grind) (by grind) (by grind) (by grind)
  have c2 := prod_in (x := x) (y := y) (u := u) (v := v) (a := x') (b := v') (by grind) (by grind) (by grind) (by grind)
  have c3 := prod_in (x := x) (y := y) (u := u) (v := v) (a := y') (b := u') (by grind) (by grind) (by grind) (by grind)
  have c4 := prod_in (x := x) (y := y) (u := u) (v := v) (a := y') (b := v') (by grind) (by grind) (by grind) (by grind)
  have s := (minP_spec x' y' u' v').2
  have t := (maxP_spec x' y' u' v').2
  constructor
  · rcases s with s | s | s | s <;> rw [s] <;> grind
  · rcases t with t | t | t | t <;> rw [t] <;> grind

/-! ### Powers -/
def powD (x : Dyadic) : Nat → Dyadic
  | 0 => 1
  | k + 1 => powD x k * x
theorem powD_nn {x : Dyadic} (h : 0 ≤ x) : ∀ k, 0 ≤ powD x k
  | 0 => by show (0 : Dyadic) ≤ 1; decide
  | k + 1 => nn_mul (powD_nn h k) h
theorem powD_mono {x y : Dyadic} (h0 : 0 ≤ x) (h : x ≤ y) : ∀ k, powD x k ≤ powD y k
  | 0 => by show (1 : Dyadic) ≤ 1; grind
  | k + 1 => by
    have ih := powD_mono h0 h k
    have p1 : 0 ≤ (powD y k - powD x k) * x := nn_mul (by grind) h0
    have p2 : 0 ≤ powD y k * (y - x) := nn_mul (powD_nn (by grind) k) (by grind)
    show powD x k * x ≤ powD y k * y
    grind
theorem powD_neg (x : Dyadic) : ∀ k, powD (-x) k = if k % 2 = 0 then powD x k else - powD x k
  | 0 => rfl
  | k + 1 => by
    show powD (-x) k * -x = if (k + 1) % 2 = 0 then powD x k * x else -(powD x k * x)
    rw [powD_neg x k]
    by_cases h : k % 2 = 0
    · rw [if_pos h, if_neg (by omega)]; grind
    · rw [if_neg h, if_pos (by omega)]; grind
theorem powD_zero {k : Nat} (h : 0 < k) : powD 0 k = 0 := by
  cases k with
  | zero => omega
  | succ k => show powD 0 k * 0 = 0; grind
/-- The least and the greatest power, as both have them. -/
def loP (x y : Dyadic) (k : Nat) : Dyadic := if 0 < k ∧ k % 2 = 0 ∧ x ≤ 0 ∧ 0 ≤ y then 0 else loD (powD x k) (powD y k)
def hiP (x y : Dyadic) (k : Nat) : Dyadic := hiD (powD x k) (powD y k)
theorem pow_in {x y t : Dyadic} {k : Nat} (h1 : x ≤ t) (h2 : t ≤ y) : loP x y k ≤ powD t k ∧ powD t k ≤ hiP x y k := by
  have s1 := loD_le (powD x k) (powD y k)
  have s2 := hiD_ge (powD x k) (powD y k)
  unfold loP hiP
  generalize loD (powD x k) (powD y k) = m at *
  generalize hiD (powD x k) (powD y k) = n at *
  have nt := powD_neg t k
  have nx := powD_neg x k
  have ny := powD_neg y k
  by_cases ht : 0 ≤ t
  · have a1 := powD_mono ht h2 k
    have a2 := powD_nn ht k
    by_cases hx : 0 ≤ x
    · have a3 := powD_mono hx h1 k
      have a4 := powD_nn hx k
      by_cases hc : 0 < k ∧ k % 2 = 0 ∧ x ≤ 0 ∧ 0 ≤ y
      · rw [if_pos hc]; constructor <;> grind
      · rw [if_neg hc]; constructor <;> grind
    · by_cases he : k % 2 = 0
      · by_cases hk : 0 < k
        · rw [if_pos ⟨hk, he, by grind, by grind⟩]; constructor <;> grind
        · obtain rfl : k = 0 := by omega
          rw [if_neg (by simp)]
          have e1 : powD x 0 = 1 := rfl
          have e2 : powD t 0 = 1 := rfl
          have e3 : powD y 0 = 1 := rfl
          constructor <;> grind
      · rw [if_neg (by omega)]
        rw [if_neg he] at nx
        have a5 := powD_nn (x := -x) (by grind) k
        constructor <;> grind
  · have b1 := powD_mono (x := -t) (y := -x) (by grind) (by grind) k
    have b2 := powD_nn (x := -t) (by grind) k
    by_cases he : k % 2 = 0
    · rw [if_pos he] at nt nx ny
      by_cases hy : 0 ≤ y
      · by_cases hk : 0 < k
        · rw [if_pos ⟨hk, he, by grind, by grind⟩]; constructor <;> grind
        · obtain rfl : k = 0 := by omega
          rw [if_neg (by simp)]
          have e1 : powD x 0 = 1 := rfl
          have e2 : powD t 0 = 1 := rfl
          constructor <;> grind
      · have b3 := powD_mono (x := -y) (y := -t) (by grind) (by grind) k
        rw [if_neg (by intro h; exact hy h.2.2.2)]
        constructor <;> grind
    · rw [if_neg he] at nt nx ny
      rw [if_neg (by omega)]
      by_cases hy : 0 ≤ y
      · have b4 := powD_nn hy k
        constructor <;> grind
      · have b3 := powD_mono (x := -y) (y := -t) (by grind) (by grind) k
        constructor <;> grind
theorem loP_mem (x y : Dyadic) (k : Nat) (h : x ≤ y) : ∃ t, x ≤ t ∧ t ≤ y ∧ loP x y k = powD t k := by
  unfold loP
  by_cases hc : 0 < k ∧ k % 2 = 0 ∧ x ≤ 0 ∧ 0 ≤ y
  · rw [if_pos hc]; exact ⟨0, hc.2.2.1, hc.2.2.2, (powD_zero hc.1).symm⟩
  · rw [if_neg hc]
    rcases (loD_le (powD x k) (powD y k)).2.2 with e | e
    · exact ⟨x, by grind, h, e⟩
    · exact ⟨y, h, by grind, e⟩
theorem hiP_mem (x y : Dyadic) (k : Nat) (h : x ≤ y) : ∃ t, x ≤ t ∧ t ≤ y ∧ hiP x y k = powD t k := by
  unfold hiP
  rcases (hiD_ge (powD x k) (powD y k)).2.2 with e | e
  · exact ⟨x, by grind, h, e⟩
  · exact ⟨y, h, by grind, e⟩
theorem pow_mono {x y x' y' : Dyadic} {k : Nat} (h1 : x ≤ x') (h2 : x' ≤ y') (h3 : y' ≤ y) : loP x y k ≤ loP x' y' k ∧ hiP x' y' k ≤ hiP x y k := by
  obtain ⟨s, s1, s2, s3⟩ := loP_mem x' y' k h2
  obtain ⟨t, t1, t2, t3⟩ := hiP_mem x' y' k h2
  rw [s3, t3]
  exact ⟨(pow_in (by grind) (by grind)).1, (pow_in (by grind) (by grind)).2⟩

/-! ### Quotients; the divisor is above 0 -/
def qlo (p : Nat) (x u v : Dyadic) : Dyadic := rd p false (quo p x (if x < 0 then u else v))
def qhi (p : Nat) (y u v : Dyadic) : Dyadic := rd p true (quo p y (if y < 0 then v else u))
theorem mul_le_of {c b v : Dyadic} (hc : 0 ≤ c) (h : b ≤ v) : c * b ≤ c * v := by
  have := nn_mul (a := c) (b := v - b) hc (by grind)
  grind
theorem mul_ge_of {c b u : Dyadic} (hc : c ≤ 0) (h : u ≤ b) : c * b ≤ c * u := by
  have := nn_mul (a := -c) (b := b - u) (by grind) (by grind)
  grind
theorem qlo_le {p : Nat} {x u v a b : Dyadic} (hp : 1 ≤ p) (hu : 0 < u) (h1 : x ≤ a) (h3 : u ≤ b) (h4 : b ≤ v) : qlo p x u v * b ≤ a := by
  unfold qlo
  by_cases hx : x < 0
  · rw [if_pos hx]
    have h := quo_dn (p := p) (a := x) (b := u) hp hu
    generalize rd p false (quo p x u) = c at *
    have hc : c ≤ 0 := by
      by_cases hc : c ≤ 0
      · exact hc
      · have := nn_mul (a := c) (b := u) (by grind) (by grind); grind
    have := mul_ge_of hc h3
    grind
  · rw [if_neg hx]
    have h := quo_dn (p := p) (a := x) (b := v) hp (by grind)
    generalize rd p false (quo p x v) = c at *
    by_cases hc : 0 ≤ c
    · have := mul_le_of hc h4; grind
    · have := nn_mul (a := -c) (b := b) (by grind) (by grind); grind
theorem qhi_ge {p : Nat} {y u v a b : Dyadic} (hp : 1 ≤ p) (hu : 0 < u) (h2 : a ≤ y) (h3 : u ≤ b) (h4 : b ≤ v) : a ≤ qhi p y u v * b := by
  unfold qhi
  by_cases hy : y < 0
  · rw [if_pos hy]
    have h := quo_up (p := p) (a := y) (b := v) hp (by grind)
    generalize rd p true (quo p y v) = c at *
    by_cases hc : 0 ≤ c
    · have := nn_mul (a := c) (b := b) hc (by grind); grind
    · have := mul_ge_of (c := c) (b := v) (u := b) (by grind) h4; grind
  · rw [if_neg hy]
    have h := quo_up (p := p) (a := y) (b := u) hp hu
    generalize rd p true (quo p y u) = c at *
    have hc : 0 ≤ c := by
      by_cases hc : 0 ≤ c
      · exact hc
      · have h5 : 0 < (-c) * u := by
          have := nn_mul (a := -c) (b := u) (by grind) (by grind)
          have h6 := mul_le_r (a := -c) (b := 0) hu
          have e : (0 : Dyadic) * u = 0 := by grind
          rw [e] at h6
          grind
        grind
    have := mul_le_of hc h3
    grind
theorem qlo_mono {p : Nat} {x u v x' u' v' : Dyadic} (hp : 1 ≤ p) (hu : 0 < u) (h1 : x ≤ x') (h4 : u ≤ u') (h5 : u' ≤ v') (h6 : v' ≤ v) : qlo p x u v ≤ qlo p x' u' v' := by
  have hb : ∃ b, (if x' < 0 then u' else v') = b ∧ u ≤ b ∧ b ≤ v := by
    split
    · exact ⟨_, rfl, h4, by grind⟩
    · exact ⟨_, rfl, by grind, h6⟩
  obtain ⟨b, e, b1, b2⟩ := hb
  have h := qlo_le (a := x') (b := b) hp hu h1 b1 b2
  have e2 : qlo p x' u' v' = rd p false (quo p x' b) := by unfold qlo; rw [e]
  rw [e2]
  have hc : Pb p (qlo p x u v) := rd_pb hp
  exact dn_max hp hc ((quo_spec hp (by grind) hc).1.2 h)
theorem qhi_mono {p : Nat} {y u v y' u' v' : Dyadic} (hp : 1 ≤ p) (hu : 0 < u) (h1 : y' ≤ y) (h4 : u ≤ u') (h5 : u' ≤ v') (h6 : v' ≤ v) : qhi p y' u' v' ≤ qhi p y u v := by
  have hb : ∃ b, (if y' < 0 then v' else u') = b ∧ u ≤ b ∧ b ≤ v := by
    split
    · exact ⟨_, rfl, by grind, h6⟩
    · exact ⟨_, rfl, h4, by grind⟩
  obtain ⟨b, e, b1, b2⟩ := hb
  have h := qhi_ge (a := y') (b := b) hp hu h1 b1 b2
  have e2 : qhi p y' u' v' = rd p true (quo p y' b) := by unfold qhi; rw [e]
  rw [e2]
  have hc : Pb p (qhi p y u v) := rd_pb hp
  exact up_min hp hc ((quo_spec hp (by grind) hc).2.2 h)
end Go.V
namespace Go.V
open Go Go.RowKit Go.Proofs
def qI1_89_1 : List (Nat × Nat) := [(0, 1), (2, 2), (1, 4), (3, 3), (4, 0), (5, 3)]
attribute [go_sem] qI1_89_1
/-- An interval as data. -/
structure Iv where
  lo : Nu
  hi : Nu
def IV (a : Iv) : D := .agg [bl a.lo.neg, i64 a.lo.exp, W64 a.lo.w, bl a.hi.neg, i64 a.hi.exp, W64 a.hi.w]
def IE (p : Iv × Int) : D := .tup [IV p.1, i64 p.2]
attribute [go_sem] IV IE
def iv0 : Iv := ⟨nu0, nu0⟩
def rightI (a : Iv) : Bool := rightB a.lo && rightB a.hi && decide (a.lo.val ≤ a.hi.val)
structure Wi (k : Nat) (a : Iv) : Prop where
  lo : Wl k a.lo
  hi : Wl k a.hi
/-- The interval of two values. -/
def ivD (x y : Dyadic) : Iv := ⟨nuOf x, nuOf y⟩
theorem rightI_is {k : Nat} {a : Iv} (h : Wi k a) (hr : rightI a = true) : ∃ x y, OkD x ∧ OkD y ∧ x ≤ y ∧ a = ivD x y := by
  unfold rightI at hr
  rw [Bool.and_eq_true, Bool.and_eq_true, decide_eq_true_eq] at hr
  obtain ⟨lo, hi⟩ := a
  obtain ⟨x, hx, rfl⟩ := right_is h.lo.b hr.1.1
  obtain ⟨y, hy, rfl⟩ := right_is h.hi.b hr.1.2
  refine ⟨x, y, hx, hy, ?_, rfl⟩
  have := hr.2
  simp only [val_nuOf] at this
  exact this
theorem rightI_D {x y : Dyadic} (hx : OkD x) (hy : OkD y) : rightI (ivD x y) = decide (x ≤ y) := by
  unfold rightI ivD
  simp only [rightB_nuOf, val_nuOf, decide_eq_true hx, decide_eq_true hy, Bool.true_and]
theorem wi_D {x y : Dyadic} (hx : OkD x) (hy : OkD y) : Wi 65536 (ivD x y) := ⟨(hx.sz).wl, (hy.sz).wl⟩
theorem cmpD_le0' {a b : Dyadic} : (cmpD a b ≤ 0) = (a ≤ b) := by
  apply propext
  unfold cmpD
  by_cases h1 : a < b
  · rw [if_pos h1]; constructor
    · intro _; grind
    · intro _; decide
  · rw [if_neg h1]
    by_cases h2 : b < a
    · rw [if_pos h2]; constructor
      · intro h; exact absurd h (by decide)
      · intro h; grind
    · rw [if_neg h2]; constructor
      · intro _; grind
      · intro _; decide
theorem p_iRight {k : Nat} {a : Iv} (h : Wi k a) : PC Tryz.prog 48 [IV a] fun d => d = bl (rightI a) := by
  have pX := p_nRight h.lo.b
  have pY := p_nRight h.hi.b
  have pC : rightB a.lo = true → rightB a.hi = true → PC Tryz.prog 88 [NU a.lo, NU a.hi] fun d => d = i64 (cmpD a.lo.val a.hi.val) := fun h1 h2 => p_eCmp (right_sz h.lo.b h1) (right_sz h.hi.b h2) (by decide)
  unfold rightI
  have k3 : decide (cmpD a.lo.val a.hi.val ≤ 0) = decide (a.lo.val ≤ a.hi.val) := decide_eq_decide.2 (Iff.of_eq cmpD_le0')
  rw [← k3]
  clear k3
  generalize cmpD a.lo.val a.hi.val = c at *
  generalize rightB a.lo = r at *
  generalize rightB a.hi = s at *
  obtain ⟨⟨n1, e1, w1⟩, ⟨n2, e2, w2⟩⟩ := a
  cases r
  · refine PB (rs := [.tmp 2]) Tryz.func48 ?_
    exact Wk
  · cases s
    · refine PB (rs := [.tmp 2]) Tryz.func48 ?_
      exact Wk
    · have pC := pC rfl rfl
      refine PB (rs := [.tmp 2]) Tryz.func48 ?_
      exact Wk

theorem p_copied {x : Nu} (hl : x.w.length ≤ 1099511627776) : PC Tryz.prog 96 [NU x] fun d => d = NU x := by
  obtain ⟨neg, exp, w⟩ := x
  simp only at hl
  refine PB (rs := [.cell 2 24]) Tryz.func96 ?_
  repeat (first | with_reducible refine pv_seq fun K hK => ?_ | ((with_reducible first | refine hK _ _ ?_ | (clear hK; refine hK _ _ ?_) | (clear hK; clear hK; refine hK _ _ ?_)); clear hK; try clear K) | refine W0 ?_ | exact Z | with_reducible intro b)
  refine ⟨by rw [rS_len]; omega, by rw [rS_len]; omega, fun h0 => ?_, fun h0 b' cap' => ?_⟩
  · obtain rfl : w = [] := by have := congrArg List.length h0; simpa [rS_len] using this
    exact Wk
  · repeat (first | (with_reducible first | refine pv_seq fun K hK => ?_ | refine pv_reg ?_) | ((with_reducible first | refine hK _ _ ?_ | (clear hK; refine hK _ _ ?_) | (clear hK; clear hK; refine hK _ _ ?_)); clear hK; try clear K) | simp -implicitDefEqProofs only [List.drop_zero, List.take_length, optLL_rS, true_and, go_sem, seval] | with_reducible intro b | (with_reducible refine And.intro ?_ ?_; · first | assumption | omega | (unfold R64; omega)))
    try rfl
theorem p_ofI {x y : Nu} (hx : x.w.length ≤ 1099511627776) (hy : y.w.length ≤ 1099511627776) : PC Tryz.prog 89 [NU x, NU y] fun d => d = IV ⟨x, y⟩ := by
  have pX := p_copied hx
  have pY := p_copied hy
  obtain ⟨n1, e1, w1⟩ := x
  obtain ⟨n2, e2, w2⟩ := y
  have d1 := @dl 1 qI1_89_1
  refine PB (rs := [.cell 4 26]) Tryz.func89 ?_
  exact Wk
theorem p_OfI {x : Nu} (hx : x.w.length ≤ 1099511627776) : PC Tryz.prog 33 [NU x] fun d => d = IV ⟨x, x⟩ := by
  have pO := p_ofI hx hx
  obtain ⟨n1, e1, w1⟩ := x
  refine PB (rs := [.cell 2 26]) Tryz.func33 ?_
  exact Wk

def makeR (x y : Nu) : Iv × Int := if rightI ⟨x, y⟩ then (⟨x, y⟩, 0) else (iv0, 1)
theorem p_MakeI {k : Nat} {x y : Nu} (h : Wi k ⟨x, y⟩) (hk : k ≤ 1099511627776) : PC Tryz.prog 45 [NU x, NU y] fun d => d = IE (makeR x y) := by
  have pR := p_iRight h
  have pO := p_ofI (x := x) (y := y) (Nat.le_trans h.lo.len hk) (Nat.le_trans h.hi.len hk)
  unfold makeR
  generalize rightI ⟨x, y⟩ = r at *
  obtain ⟨n1, e1, w1⟩ := x
  obtain ⟨n2, e2, w2⟩ := y
  cases r
  · refine PB (rs := [.cell 4 26, .tmp 5]) Tryz.func45 ?_
    exact Wk
  · refine PB (rs := [.cell 4 26, .tmp 5]) Tryz.func45 ?_
    exact Wk

theorem p_SameI {a b : Iv} (h1 : a.lo.w.length ≤ 1099511627776) (h2 : a.hi.w.length ≤ 1099511627776) : PC Tryz.prog 50 [IV a, IV b] fun d => d = bl (decide (a.lo = b.lo) && decide (a.hi = b.hi)) := by
  have pX := p_nSame (x := a.lo) (y := b.lo) h1
  have pY := p_nSame (x := a.hi) (y := b.hi) h2
  generalize decide (a.lo = b.lo) = r at *
  generalize decide (a.hi = b.hi) = s at *
  obtain ⟨⟨n1, e1, w1⟩, ⟨n2, e2, w2⟩⟩ := a
  obtain ⟨⟨n3, e3, w3⟩, ⟨n4, e4, w4⟩⟩ := b
  cases r
  · refine PB (rs := [.tmp 4]) Tryz.func50 ?_
    exact Wk
  · refine PB (rs := [.tmp 4]) Tryz.func50 ?_
    exact Wk
end Go.V
namespace Go.V
open Go Go.RowKit Go.Proofs
def hasR (a : Iv) (x : Nu) : Bool := rightI a && rightB x && decide (a.lo.val ≤ x.val) && decide (x.val ≤ a.hi.val)
theorem rightI_lo {a : Iv} (h : rightI a = true) : rightB a.lo = true ∧ rightB a.hi = true ∧ a.lo.val ≤ a.hi.val := by
  unfold rightI at h
  rw [Bool.and_eq_true, Bool.and_eq_true, decide_eq_true_eq] at h
  exact ⟨h.1.1, h.1.2, h.2⟩
theorem p_HasI {k : Nat} {a : Iv} {x : Nu} (h : Wi k a) (hx : B64 x.w) : PC Tryz.prog 32 [IV a, NU x] fun d => d = bl (hasR a x) := by
  have pR := p_iRight h
  have pX := p_nRight hx
  have pC : rightI a = true → rightB x = true → (PC Tryz.prog 88 [NU a.lo, NU x] fun d => d = i64 (cmpD a.lo.val x.val)) ∧ (PC Tryz.prog 88 [NU x, NU a.hi] fun d => d = i64 (cmpD x.val a.hi.val)) := fun h1 h2 => by
    obtain ⟨r1, r2, _⟩ := rightI_lo h1
    exact ⟨p_eCmp (right_sz h.lo.b r1) (right_sz hx h2) (by decide), p_eCmp (right_sz hx h2) (right_sz h.hi.b r2) (by decide)⟩
  unfold hasR
  have k1 : (cmpD a.lo.val x.val ≤ 0) = (a.lo.val ≤ x.val) := cmpD_le0'
  have k2 : (cmpD x.val a.hi.val ≤ 0) = (x.val ≤ a.hi.val) := cmpD_le0'
  generalize cmpD a.lo.val x.val = c1 at *
  generalize cmpD x.val a.hi.val = c2 at *
  have k3 : decide (c1 ≤ 0) = decide (a.lo.val ≤ x.val) := decide_eq_decide.2 (Iff.of_eq k1)
  have k4 : decide (c2 ≤ 0) = decide (x.val ≤ a.hi.val) := decide_eq_decide.2 (Iff.of_eq k2)
  rw [← k3, ← k4]
  clear k1 k2 k3 k4
  generalize rightI a = r at *
  generalize rightB x = s at *
  obtain ⟨⟨n1, e1, w1⟩, ⟨n2, e2, w2⟩⟩ := a
  obtain ⟨n3, e3, w3⟩ := x
  cases r
  · refine PB (rs := [.tmp 4]) Tryz.func32 ?_
    exact Wk
  · cases s
    · refine PB (rs := [.tmp 4]) Tryz.func32 ?_
      exact Wk
    · obtain ⟨q1, q2⟩ := pC rfl rfl
      by_cases h1 : c1 ≤ 0
      · rw [decide_eq_true h1]
        refine PB (rs := [.tmp 4]) Tryz.func32 ?_
        have ft := (eq_true h1)
        exact Wk
      · rw [decide_eq_false h1]
        refine PB (rs := [.tmp 4]) Tryz.func32 ?_
        have ft := (eq_false h1)
        exact Wk

theorem cmpD_0le {a b : Dyadic} : (0 ≤ cmpD a b) = (b ≤ a) := by
  apply propext
  unfold cmpD
  by_cases h1 : a < b
  · rw [if_pos h1]; constructor
    · intro h; exact absurd h (by decide)
    · intro h; grind
  · rw [if_neg h1]; constructor
    · intro _; grind
    · intro _; split <;> decide
theorem cmpD_1le {a b : Dyadic} : (1 ≤ cmpD a b) = (b < a) := by
  apply propext
  unfold cmpD
  by_cases h1 : a < b
  · rw [if_pos h1]; constructor
    · intro h; exact absurd h (by decide)
    · intro h; grind
  · rw [if_neg h1]
    by_cases h2 : b < a
    · rw [if_pos h2]; exact ⟨fun _ => h2, fun _ => by decide⟩
    · rw [if_neg h2]; exact ⟨fun h => absurd h (by decide), fun h => absurd h h2⟩
def endsR (a b : Iv) (n : Int) : Bool := rightI a && rightI b && decide (n ≤ cmpD a.lo.val b.lo.val) && decide (n ≤ cmpD b.hi.val a.hi.val)
theorem p_ends {k : Nat} {a b : Iv} {n : Int} (ha : Wi k a) (hb : Wi k b) : PC Tryz.prog 79 [IV a, IV b, i64 n] fun d => d = bl (endsR a b n) := by
  have pA := p_iRight ha
  have pB := p_iRight hb
  have pC : rightI a = true → rightI b = true → (PC Tryz.prog 88 [NU a.lo, NU b.lo] fun d => d = i64 (cmpD a.lo.val b.lo.val)) ∧ (PC Tryz.prog 88 [NU b.hi, NU a.hi] fun d => d = i64 (cmpD b.hi.val a.hi.val)) := fun h1 h2 => by
    obtain ⟨r1, r2, _⟩ := rightI_lo h1
    obtain ⟨r3, r4, _⟩ := rightI_lo h2
    exact ⟨p_eCmp (right_sz ha.lo.b r1) (right_sz hb.lo.b r3) (by decide), p_eCmp (right_sz hb.hi.b r4) (right_sz ha.hi.b r2) (by decide)⟩
  unfold endsR
  generalize cmpD a.lo.val b.lo.val = c1 at *
  generalize cmpD b.hi.val a.hi.val = c2 at *
  generalize rightI a = r at *
  generalize rightI b = s at *
  obtain ⟨⟨n1, e1, w1⟩, ⟨n2, e2, w2⟩⟩ := a
  obtain ⟨⟨n3, e3, w3⟩, ⟨n4, e4, w4⟩⟩ := b
  cases r
  · refine PB (rs := [.tmp 6]) Tryz.func79 ?_
    exact Wk
  · cases s
    · refine PB (rs := [.tmp 6]) Tryz.func79 ?_
      exact Wk
    · obtain ⟨q1, q2⟩ := pC rfl rfl
      by_cases h1 : n ≤ c1
      · rw [decide_eq_true h1]
        refine PB (rs := [.tmp 6]) Tryz.func79 ?_
        have ft := (eq_true h1)
        exact Wk
      · rw [decide_eq_false h1]
        refine PB (rs := [.tmp 6]) Tryz.func79 ?_
        have ft := (eq_false h1)
        exact Wk
theorem p_InI {k : Nat} {a b : Iv} (ha : Wi k a) (hb : Wi k b) : PC Tryz.prog 26 [IV a, IV b] fun d => d = bl (endsR a b 0) := by
  have pE := p_ends (n := 0) ha hb
  generalize endsR a b 0 = r at *
  obtain ⟨⟨n1, e1, w1⟩, ⟨n2, e2, w2⟩⟩ := a
  obtain ⟨⟨n3, e3, w3⟩, ⟨n4, e4, w4⟩⟩ := b
  refine PB (rs := [.tmp 4]) Tryz.func26 ?_
  exact Wk
theorem p_InsideI {k : Nat} {a b : Iv} (ha : Wi k a) (hb : Wi k b) : PC Tryz.prog 47 [IV a, IV b] fun d => d = bl (endsR a b 1) := by
  have pE := p_ends (n := 1) ha hb
  generalize endsR a b 1 = r at *
  obtain ⟨⟨n1, e1, w1⟩, ⟨n2, e2, w2⟩⟩ := a
  obtain ⟨⟨n3, e3, w3⟩, ⟨n4, e4, w4⟩⟩ := b
  refine PB (rs := [.tmp 4]) Tryz.func47 ?_
  exact Wk

/-- The lesser, the greater one of two numbers. -/
def minN (x y : Nu) : Nu := if y.val < x.val then y else x
def maxN (x y : Nu) : Nu := if x.val < y.val then y else x
theorem minN_val (x y : Nu) : (minN x y).val = loD x.val y.val := by unfold minN loD; split <;> rfl
theorem maxN_val (x y : Nu) : (maxN x y).val = hiD x.val y.val := by unfold maxN hiD; split <;> rfl
theorem maxN_D (a b : Dyadic) : maxN (nuOf a) (nuOf b) = nuOf (hiD a b) := by unfold maxN hiD; rw [val_nuOf, val_nuOf]; split <;> rfl
theorem minN_sz {k : Nat} {x y : Nu} (hx : Sz k x) (hy : Sz k y) : Sz k (minN x y) := by unfold minN; split <;> assumption
theorem maxN_sz {k : Nat} {x y : Nu} (hx : Sz k x) (hy : Sz k y) : Sz k (maxN x y) := by unfold maxN; split <;> assumption
theorem loD_ok {a b : Dyadic} (ha : OkD a) (hb : OkD b) : OkD (loD a b) := by unfold loD; split <;> assumption
theorem hiD_ok {a b : Dyadic} (ha : OkD a) (hb : OkD b) : OkD (hiD a b) := by unfold hiD; split <;> assumption
theorem cmpD_lt0 {a b : Dyadic} : (cmpD a b < 0) = (a < b) := by
  have := cmpD_0le (a := a) (b := b)
  apply propext
  rw [← Int.not_le, this]
  constructor
  · intro h; grind
  · intro h; grind
theorem cmpD_0lt {a b : Dyadic} : (0 < cmpD a b) = (b < a) := by rw [← cmpD_1le]; rfl
theorem p_least {k : Nat} {x y : Nu} (hx : Sz k x) (hy : Sz k y) (hk : k ≤ 67108864) : PC Tryz.prog 62 [NU x, NU y] fun d => d = NU (minN x y) := by
  have pC := p_eCmp hy hx hk
  have k1 : (cmpD y.val x.val < 0) = (y.val < x.val) := cmpD_lt0
  unfold minN
  by_cases h : y.val < x.val
  · rw [if_pos h]
    rw [eq_true h] at k1
    generalize cmpD y.val x.val = c at *
    obtain ⟨n1, e1, w1⟩ := x
    obtain ⟨n2, e2, w2⟩ := y
    refine PB (rs := [.cell 4 24]) Tryz.func62 ?_
    have ft := k1
    exact Wk
  · rw [if_neg h]
    rw [eq_false h] at k1
    generalize cmpD y.val x.val = c at *
    obtain ⟨n1, e1, w1⟩ := x
    obtain ⟨n2, e2, w2⟩ := y
    refine PB (rs := [.cell 4 24]) Tryz.func62 ?_
    have ft := k1
    exact Wk
theorem p_greatest {k : Nat} {x y : Nu} (hx : Sz k x) (hy : Sz k y) (hk : k ≤ 67108864) : PC Tryz.prog 63 [NU x, NU y] fun d => d = NU (maxN x y) := by
  have pC := p_eCmp hy hx hk
  have k1 : (0 < cmpD y.val x.val) = (x.val < y.val) := cmpD_0lt
  unfold maxN
  by_cases h : x.val < y.val
  · rw [if_pos h]
    rw [eq_true h] at k1
    generalize cmpD y.val x.val = c at *
    obtain ⟨n1, e1, w1⟩ := x
    obtain ⟨n2, e2, w2⟩ := y
    refine PB (rs := [.cell 4 24]) Tryz.func63 ?_
    have ft := k1
    exact Wk
  · rw [if_neg h]
    rw [eq_false h] at k1
    generalize cmpD y.val x.val = c at *
    obtain ⟨n1, e1, w1⟩ := x
    obtain ⟨n2, e2, w2⟩ := y
    refine PB (rs := [.cell 4 24]) Tryz.func63 ?_
    have ft := k1
    exact Wk

theorem ok_len {a : Dyadic} (h : OkD a) : (nuOf a).w.length ≤ 1099511627776 := by have := (h.sz).len; omega
end Go.V
namespace Go.V
open Go Go.RowKit Go.Proofs
def qI3_51_3 : List (Nat × Nat) := [(0, 0), (1, 1), (3, 0), (4, 2), (2, 4), (5, 3), (6, 0), (7, 3)]
def qI3_41_3 : List (Nat × Nat) := [(0, 0), (1, 1), (3, 0), (4, 2), (2, 4), (5, 3), (6, 3), (7, 3), (8, 3)]
attribute [go_sem] qI3_51_3 qI3_41_3
def negI (a : Iv) : Iv := if rightI a then ivD (-a.hi.val) (-a.lo.val) else iv0
theorem rv_D {d : Dyadic} (h : OkD d) : rv (nuOf d) = d := by unfold rv; rw [rightB_nuOf, decide_eq_true h, if_pos rfl, val_nuOf]
theorem p_NegI {k : Nat} {a : Iv} (ha : Wi k a) : PC Tryz.prog 51 [IV a] fun d => d = IV (negI a) := by
  have pA := p_iRight ha
  unfold negI
  by_cases h : rightI a = true
  · rw [if_pos h]
    rw [h] at pA
    obtain ⟨x, y, ox, oy, hxy, rfl⟩ := rightI_is ha h
    have pX := p_nNeg (ox.sz).wl (by decide); rw [rv_D ox] at pX
    have pY := p_nNeg (oy.sz).wl (by decide); rw [rv_D oy] at pY
    simp only [ivD, val_nuOf] at *
    generalize nuOf (-x) = m at *
    generalize nuOf (-y) = n at *
    generalize nuOf x = X at *
    generalize nuOf y = Y at *
    obtain ⟨n1, e1, w1⟩ := X
    obtain ⟨n2, e2, w2⟩ := Y
    obtain ⟨n5, e5, w5⟩ := m
    obtain ⟨n6, e6, w6⟩ := n
    have d1 := @dl 3 qI3_51_3
    refine PB (rs := [.cell 2 26]) Tryz.func51 ?_
    exact Wk
  · rw [if_neg h]
    rw [Bool.not_eq_true] at h
    rw [h] at pA
    obtain ⟨⟨n1, e1, w1⟩, ⟨n2, e2, w2⟩⟩ := a
    have d1 := @dl 3 qI3_51_3
    refine PB (rs := [.cell 2 26]) Tryz.func51 ?_
    exact Wk

def absD (d : Dyadic) : Dyadic := dy false (fN d) (fE d)
theorem nuOf_abs (a : Dyadic) : nuOf (absD a) = ⟨false, (nuOf a).exp, (nuOf a).w⟩ := by
  unfold absD
  by_cases h0 : a = 0
  · subst h0; rfl
  · rw [nuOf_odd (fN_mod h0), nuOf_f a]
theorem abs_ok {a : Dyadic} (h : OkD a) : OkD (absD a) := by
  unfold OkD at h ⊢
  rw [nuOf_abs]; exact ⟨h.len, h.lo, h.hi⟩
def magI (a : Iv) : Nu := if rightI a then nuOf (hiD (absD a.lo.val) (absD a.hi.val)) else nu0
theorem p_MagI {k : Nat} {a : Iv} (ha : Wi k a) : PC Tryz.prog 41 [IV a] fun d => d = NU (magI a) := by
  have pA := p_iRight ha
  unfold magI
  by_cases h : rightI a = true
  · rw [if_pos h]
    rw [h] at pA
    obtain ⟨x, y, ox, oy, hxy, rfl⟩ := rightI_is ha h
    have pX := p_eAbs (x := nuOf x); rw [← nuOf_abs] at pX
    have pY := p_eAbs (x := nuOf y); rw [← nuOf_abs] at pY
    have pG := p_greatest (abs_ok ox).sz (abs_ok oy).sz (by decide); rw [maxN_D] at pG
    have pO := p_copied (ok_len (hiD_ok (abs_ok ox) (abs_ok oy)))
    simp only [ivD, val_nuOf] at *
    generalize nuOf (hiD (absD x) (absD y)) = g at *
    generalize nuOf (absD x) = m at *
    generalize nuOf (absD y) = n at *
    generalize nuOf x = X at *
    generalize nuOf y = Y at *
    obtain ⟨n1, e1, w1⟩ := X
    obtain ⟨n2, e2, w2⟩ := Y
    obtain ⟨n5, e5, w5⟩ := m
    obtain ⟨n6, e6, w6⟩ := n
    obtain ⟨n7, e7, w7⟩ := g
    have d1 := @dl 3 qI3_41_3
    refine PB (rs := [.cell 2 24]) Tryz.func41 ?_
    exact Wk
  · rw [if_neg h]
    rw [Bool.not_eq_true] at h
    rw [h] at pA
    obtain ⟨⟨n1, e1, w1⟩, ⟨n2, e2, w2⟩⟩ := a
    have d1 := @dl 3 qI3_41_3
    refine PB (rs := [.cell 2 24]) Tryz.func41 ?_
    exact Wk

/-- An interval of two values, rounded outward, or that there is none. -/
def outR (p : Nat) (l h : Dyadic) : Iv × Int := if (numR (rd p false l)).2 = 0 then (if (numR (rd p true h)).2 = 0 then (⟨(numR (rd p false l)).1, (numR (rd p true h)).1⟩, 0) else (iv0, 2)) else (iv0, 2)
theorem numR_err {d : Dyadic} : (numR d).2 ≠ 0 → (numR d).2 = 2 := by
  unfold numR; split
  · intro h; exact absurd rfl h
  · intro _; rfl
theorem p_outward {k p : Nat} {x y : Nu} (hx : Sz k x) (hy : Sz k y) (hk : k ≤ 16000000) (hp : p ≤ 1024) : PC Tryz.prog 65 [NU x, NU y, i64 p] fun d => d = IE (outR p x.val y.val) := by
  have pL := p_roundV (p := p) (up := false) hx hk hp
  have pH := p_roundV (p := p) (up := true) hy hk hp
  unfold outR
  have e1 := numR_err (d := rd p false x.val)
  have e2 := numR_err (d := rd p true y.val)
  generalize numR (rd p false x.val) = q at *
  generalize numR (rd p true y.val) = r at *
  obtain ⟨⟨n1, x1, w1⟩, r1⟩ := q
  obtain ⟨⟨n2, x2, w2⟩, r2⟩ := r
  simp only at e1 e2
  obtain ⟨n3, x3, w3⟩ := x
  obtain ⟨n4, x4, w4⟩ := y
  by_cases h1 : r1 = 0
  · rw [if_pos h1]
    by_cases h2 : r2 = 0
    · rw [if_pos h2]
      refine PB (rs := [.cell 6 26, .tmp 7]) Tryz.func65 ?_
      have ft := And.intro (eq_true h1) (eq_true h2)
      exact Wk
    · rw [if_neg h2]
      have h3 := e2 h2
      refine PB (rs := [.cell 6 26, .tmp 7]) Tryz.func65 ?_
      have ft := And.intro (eq_true h1) (eq_false h2)
      repeat (first | with_reducible refine pv_seq fun K hK => ?_ | ((with_reducible first | refine hK _ _ ?_ | (clear hK; refine hK _ _ ?_) | (clear hK; clear hK; refine hK _ _ ?_)); clear hK; try clear K) | refine W ?_ | exact Z | with_reducible intro b)
      rw [h3]; rfl
  · rw [if_neg h1]
    have h3 := e1 h1
    refine PB (rs := [.cell 6 26, .tmp 7]) Tryz.func65 ?_
    have ft := (eq_false h1)
    repeat (first | with_reducible refine pv_seq fun K hK => ?_ | ((with_reducible first | refine hK _ _ ?_ | (clear hK; refine hK _ _ ?_) | (clear hK; clear hK; refine hK _ _ ?_)); clear hK; try clear K) | refine W ?_ | exact Z | with_reducible intro b)
    rw [h3]; rfl
end Go.V
namespace Go.V
open Go Go.RowKit Go.Proofs
def qI4_78_1 : List (Nat × Nat) := [(0, 1), (1, 1), (3, 2), (4, 2), (2, 4), (5, 3), (6, 3), (7, 3)]
def qI4_23_3 : List (Nat × Nat) := [(0, 0), (1, 1), (2, 0), (3, 1), (5, 0), (6, 2), (7, 0), (8, 2), (10, 0), (4, 4), (9, 3), (11, 3), (12, 0), (13, 0), (14, 3), (15, 0)]
def qI4_24_3 : List (Nat × Nat) := [(0, 0), (1, 1), (2, 0), (3, 1), (5, 0), (6, 2), (7, 0), (8, 2), (10, 0), (4, 4), (9, 3), (11, 3), (12, 0), (13, 0), (14, 3), (15, 0)]
attribute [go_sem] qI4_78_1 qI4_23_3 qI4_24_3
theorem p_validI {k : Nat} {a b : Iv} {p : Int} (ha : Wi k a) (hb : Wi k b) : PC Tryz.prog 60 [IV a, IV b, i64 p] fun d => d = bl (rightI a && rightI b && okP p) := by
  have pA := p_iRight ha
  have pB := p_iRight hb
  have pP := p_Valid (p := p)
  generalize rightI a = r at *
  generalize rightI b = s at *
  generalize okP p = t at *
  obtain ⟨⟨n1, e1, w1⟩, ⟨n2, e2, w2⟩⟩ := a
  obtain ⟨⟨n3, e3, w3⟩, ⟨n4, e4, w4⟩⟩ := b
  cases r
  · refine PB (rs := [.tmp 6]) Tryz.func60 ?_
    exact Wk
  · cases s
    · refine PB (rs := [.tmp 6]) Tryz.func60 ?_
      exact Wk
    · refine PB (rs := [.tmp 6]) Tryz.func60 ?_
      exact Wk
/-- What an operation of two intervals comes to: 1 is ErrForm. -/
def opI (a b : Iv) (p : Int) (l h : Dyadic) : Iv × Int := if rightI a && rightI b && okP p then outR p.toNat l h else (iv0, 1)

theorem p_iAdd {k : Nat} {a b : Iv} {p : Int} (ha : Wi k a) (hb : Wi k b) : PC Tryz.prog 23 [IV a, IV b, i64 p] fun d => d = IE (opI a b p (a.lo.val + b.lo.val) (a.hi.val + b.hi.val)) := by
  have pV := p_validI (p := p) ha hb
  unfold opI
  by_cases h : (rightI a && rightI b && okP p) = true
  · rw [if_pos h]
    rw [h] at pV
    rw [Bool.and_eq_true, Bool.and_eq_true] at h
    obtain ⟨m, rfl, h8, h256⟩ := okP_nat h.2
    obtain ⟨x, y, ox, oy, hxy, rfl⟩ := rightI_is ha h.1.1
    obtain ⟨u, v, ou, ov, huv, rfl⟩ := rightI_is hb h.1.2
    have pL := p_eAdd ox.sz ou.sz (by decide)
    have pH := p_eAdd oy.sz ov.sz (by decide)
    have pO := fun (z1 z2 : Nu) (h1 : Sz (4 * 65536 + 1) z1) (h2 : Sz (4 * 65536 + 1) z2) (v1 : z1.val = x + u) (v2 : z2.val = y + v) => show PC Tryz.prog 65 [NU z1, NU z2, i64 (m : Nat)] fun d => d = IE (outR m (x + u) (y + v)) from v1 ▸ v2 ▸ p_outward h1 h2 (by decide) (by omega)
    simp only [ivD, val_nuOf, Int.toNat_natCast] at *
    generalize outR m (x + u) (y + v) = q at *
    obtain ⟨⟨⟨n5, e5, w5⟩, ⟨n6, e6, w6⟩⟩, r⟩ := q
    generalize nuOf x = X at *
    generalize nuOf y = Y at *
    generalize nuOf u = U at *
    generalize nuOf v = V at *
    obtain ⟨n1, e1, w1⟩ := X
    obtain ⟨n2, e2, w2⟩ := Y
    obtain ⟨n3, e3, w3⟩ := U
    obtain ⟨n4, e4, w4⟩ := V
    have d1 := @dl 3 qI4_23_3
    refine PB (rs := [.cell 6 26, .tmp 7]) Tryz.func23 ?_
    repeat (first | with_reducible refine pv_seq fun K hK => ?_ | ((with_reducible first | refine hK _ _ ?_ | (clear hK; refine hK _ _ ?_) | (clear hK; clear hK; refine hK _ _ ?_)); clear hK; try clear K) | refine W ?_ | exact Z | with_reducible intro b)
    refine ExtC_is ?_
    try simp -implicitDefEqProofs only [ft, go_sem, seval]
    refine pL.mono ?_
    rintro d ⟨⟨s1, f1, z1⟩, rfl, hs1, hv1⟩
    repeat (first | with_reducible refine pv_seq fun K hK => ?_ | ((with_reducible first | refine hK _ _ ?_ | (clear hK; refine hK _ _ ?_) | (clear hK; clear hK; refine hK _ _ ?_)); clear hK; try clear K) | refine W0 ?_ | exact Z | with_reducible intro b)
    refine call_pc pH ?_
    rintro d ⟨⟨s2, f2, z2⟩, rfl, hs2, hv2⟩
    have pO := pO _ _ hs1 hs2 hv1 hv2
    exact Wk
  · rw [if_neg h]
    rw [Bool.not_eq_true] at h
    rw [h] at pV
    obtain ⟨⟨n1, e1, w1⟩, ⟨n2, e2, w2⟩⟩ := a
    obtain ⟨⟨n3, e3, w3⟩, ⟨n4, e4, w4⟩⟩ := b
    have d1 := @dl 3 qI4_23_3
    refine PB (rs := [.cell 6 26, .tmp 7]) Tryz.func23 ?_
    exact Wk

theorem p_iSub {k : Nat} {a b : Iv} {p : Int} (ha : Wi k a) (hb : Wi k b) : PC Tryz.prog 24 [IV a, IV b, i64 p] fun d => d = IE (opI a b p (a.lo.val - b.hi.val) (a.hi.val - b.lo.val)) := by
  have pV := p_validI (p := p) ha hb
  unfold opI
  by_cases h : (rightI a && rightI b && okP p) = true
  · rw [if_pos h]
    rw [h] at pV
    rw [Bool.and_eq_true, Bool.and_eq_true] at h
    obtain ⟨m, rfl, h8, h256⟩ := okP_nat h.2
    obtain ⟨x, y, ox, oy, hxy, rfl⟩ := rightI_is ha h.1.1
    obtain ⟨u, v, ou, ov, huv, rfl⟩ := rightI_is hb h.1.2
    have pL := p_eSub ox.sz ov.sz (by decide)
    have pH := p_eSub oy.sz ou.sz (by decide)
    have pO := fun (z1 z2 : Nu) (h1 : Sz (4 * 65536 + 1) z1) (h2 : Sz (4 * 65536 + 1) z2) (v1 : z1.val = x - v) (v2 : z2.val = y - u) => show PC Tryz.prog 65 [NU z1, NU z2, i64 (m : Nat)] fun d => d = IE (outR m (x - v) (y - u)) from v1 ▸ v2 ▸ p_outward h1 h2 (by decide) (by omega)
    simp only [ivD, val_nuOf, Int.toNat_natCast] at *
    generalize outR m (x - v) (y - u) = q at *
    obtain ⟨⟨⟨n5, e5, w5⟩, ⟨n6, e6, w6⟩⟩, r⟩ := q
    generalize nuOf x = X at *
    generalize nuOf y = Y at *
    generalize nuOf u = U at *
    generalize nuOf v = V at *
    obtain ⟨n1, e1, w1⟩ := X
    obtain ⟨n2, e2, w2⟩ := Y
    obtain ⟨n3, e3, w3⟩ := U
    obtain ⟨n4, e4, w4⟩ := V
    have d1 := @dl 3 qI4_24_3
    refine PB (rs := [.cell 6 26, .tmp 7]) Tryz.func24 ?_
    repeat (first | with_reducible refine pv_seq fun K hK => ?_ | ((with_reducible first | refine hK _ _ ?_ | (clear hK; refine hK _ _ ?_) | (clear hK; clear hK; refine hK _ _ ?_)); clear hK; try clear K) | refine W ?_ | exact Z | with_reducible intro b)
    refine ExtC_is ?_
    try simp -implicitDefEqProofs only [ft, go_sem, seval]
    refine pL.mono ?_
    rintro d ⟨⟨s1, f1, z1⟩, rfl, hs1, hv1⟩
    repeat (first | with_reducible refine pv_seq fun K hK => ?_ | ((with_reducible first | refine hK _ _ ?_ | (clear hK; refine hK _ _ ?_) | (clear hK; clear hK; refine hK _ _ ?_)); clear hK; try clear K) | refine W0 ?_ | exact Z | with_reducible intro b)
    refine call_pc pH ?_
    rintro d ⟨⟨s2, f2, z2⟩, rfl, hs2, hv2⟩
    have pO := pO _ _ hs1 hs2 hv1 hv2
    exact Wk
  · rw [if_neg h]
    rw [Bool.not_eq_true] at h
    rw [h] at pV
    obtain ⟨⟨n1, e1, w1⟩, ⟨n2, e2, w2⟩⟩ := a
    obtain ⟨⟨n3, e3, w3⟩, ⟨n4, e4, w4⟩⟩ := b
    have d1 := @dl 3 qI4_24_3
    refine PB (rs := [.cell 6 26, .tmp 7]) Tryz.func24 ?_
    exact Wk

theorem p_Mul1 {k : Nat} {S : Store} {Q : D → Store → Prop} {k1 k2 : Nm} {b1 b2 : Nat} {l h x : Nu} (h1 : S k1 = some ⟨b1, 3, 0, [[bl l.neg, i64 l.exp, W64 l.w]]⟩) (h2 : S k2 = some ⟨b2, 3, 0, [[bl h.neg, i64 h.exp, W64 h.w]]⟩) (hne : (k1 = k2) = False)
    (sl : Sz k l) (sh : Sz k h) (sx : Sz k x) (hk : k ≤ 67108864) (hQ : Q (.tup []) (updS (updS S k1 (some ⟨b1, 3, 0, [[bl (minN l x).neg, i64 (minN l x).exp, W64 (minN l x).w]]⟩)) k2 (some ⟨b2, 3, 0, [[bl (maxN h x).neg, i64 (maxN h x).exp, W64 (maxN h x).w]]⟩))) :
    PFC Tryz.prog 78 [NU x, .ptr k1 b1 0 0 3, .ptr k2 b2 0 0 3] S Q := by
  have pL := p_least sl sx hk
  have pG := p_greatest sh sx hk
  have hne2 : (k2 = k1) = False := eq_false fun h => by rw [h] at hne; simp at hne
  generalize minN l x = a at *
  generalize maxN h x = b at *
  obtain ⟨n1, e1, w1⟩ := l
  obtain ⟨n2, e2, w2⟩ := h
  obtain ⟨n3, e3, w3⟩ := x
  obtain ⟨n4, e4, w4⟩ := a
  obtain ⟨n5, e5, w5⟩ := b
  simp only at h1 h2
  have d1 := @dl 1 qI4_78_1
  refine PFB (rs := []) Tryz.func78 ?_
  repeat (first | (with_reducible first | refine pv_seq fun K hK => ?_ | refine pv_reg ?_ | refine pv_draw (id := 1) qI4_78_1 (by kernel_rfl) ?_) | ((with_reducible first | refine hK _ _ ?_ | (clear hK; refine hK _ _ ?_) | (clear hK; clear hK; refine hK _ _ ?_)); clear hK; try clear K) | simp -implicitDefEqProofs only [h1, h2, hne, hne2, Nm.up.injEq, true_and, go_sem, seval] | with_reducible intro b | (with_reducible refine And.intro ?_ ?_; · first | assumption | omega | (unfold R64; omega)) | refine call_is (by first | exact pL | exact pG) ?_ | (refine ExtC_is ?_; simp -implicitDefEqProofs only [h1, h2, hne, hne2, Nm.up.injEq, true_and, go_sem, seval]; refine ext_is (by first | exact pL | exact pG) ?_) | (refine PFC.coe ?_; simp -implicitDefEqProofs only [h1, h2, hne, hne2, Nm.up.injEq, true_and, go_sem, seval]; refine call_is (by first | exact pL | exact pG) ?_))
  exact hQ
end Go.V

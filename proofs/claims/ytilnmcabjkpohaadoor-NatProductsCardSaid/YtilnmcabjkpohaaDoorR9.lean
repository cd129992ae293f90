/- The document's numbers: quotient and rest, bit by bit: the plain laws. -/
import Derived.Test.YtilnmcabjkpohaaDoorR8
import Derived.Test.YtilnmcabjkpohaaDoorR6
set_option linter.unusedSimpArgs false
set_option linter.unusedVariables false
set_option maxRecDepth 100000
namespace Go.V
open Go Go.RowKit Go.Proofs

theorem div_bit {X Y b : Nat} (hY : 0 < Y) (hb : b < 2) :
    if Y ≤ 2 * (X % Y) + b then (2 * X + b) / Y = 2 * (X / Y) + 1 ∧ (2 * X + b) % Y = 2 * (X % Y) + b - Y else (2 * X + b) / Y = 2 * (X / Y) ∧ (2 * X + b) % Y = 2 * (X % Y) + b := by
  have h1 := Nat.div_add_mod X Y
  have h2 := Nat.mod_lt X hY
  split
  · refine (Nat.div_mod_unique hY).2 ⟨?_, by omega⟩
    rw [Nat.mul_add, Nat.mul_left_comm, Nat.mul_one]
    omega
  · refine (Nat.div_mod_unique hY).2 ⟨?_, by omega⟩
    rw [Nat.mul_left_comm]
    omega
theorem bit_of {A : List Nat} (hbA : B32 A) (i : Nat) : nval 4294967296 A / 2 ^ i % 2 = A.getD (i / 32) 0 / 2 ^ (i % 32) % 2 := by
  rw [← down_all hbA i, drop_step A (i := i / 32)]
  have hr : i % 32 < 32 := Nat.mod_lt _ (by decide)
  generalize i % 32 = r at *
  have hp : (4294967296 : Nat) = 2 ^ r * (2 * 2 ^ (31 - r)) := by rw [← Nat.pow_succ', ← Nat.pow_add]; rw [show r + (31 - r).succ = 32 by omega]
  generalize nval 4294967296 (A.drop (i / 32 + 1)) = u
  have hu : 4294967296 * u = 2 ^ r * (2 * (2 ^ (31 - r) * u)) := by
    rw [show 4294967296 * u = 2 ^ r * (2 * 2 ^ (31 - r)) * u from congrArg (· * u) hp, Nat.mul_assoc, Nat.mul_assoc]
  rw [hu]
  rw [Nat.add_mul_div_left _ _ (Nat.two_pow_pos _), Nat.add_mul_mod_self_left]
theorem half_bit (X i : Nat) : X / 2 ^ i = 2 * (X / 2 ^ (i + 1)) + X / 2 ^ i % 2 := by
  rw [Nat.pow_succ, ← Nat.div_div_eq_div_mul]; omega
theorem or_bit {x r : Nat} (h : x / 2 ^ r % 2 = 0) : x ||| 2 ^ r = x + 2 ^ r := by
  have h1 := Nat.div_add_mod x (2 ^ r)
  have h2 := Nat.mod_lt x (Nat.two_pow_pos r)
  obtain ⟨y, hy⟩ : ∃ y, x / 2 ^ r = 2 * y := ⟨x / 2 ^ r / 2, by omega⟩
  rw [hy] at h1
  generalize x % 2 ^ r = l at *
  have e1 : x = 2 ^ r * (2 * y) ||| l := by rw [← Nat.two_pow_add_eq_or_of_lt h2]; exact h1.symm
  have e2 : 2 ^ r * (2 * y) ||| 2 ^ r = 2 ^ r * (2 * y + 1) := by
    have : (2 * y) ||| 1 = 2 * y + 1 := by
      have := Nat.two_pow_add_eq_or_of_lt (i := 1) (b := 1) (by decide) y
      simpa [Nat.mul_comm] using this.symm
    have h3 := congrArg (fun z => z <<< r) this
    rw [Nat.shiftLeft_or_distrib] at h3
    simp only [Nat.shiftLeft_eq, Nat.one_mul] at h3
    rw [Nat.mul_comm (2 ^ r), Nat.mul_comm (2 ^ r)]
    exact h3
  have e3 : x ||| 2 ^ r = 2 ^ r * (2 * y + 1) ||| l := by rw [e1, Nat.or_assoc, Nat.or_comm l, ← Nat.or_assoc, e2]
  rw [e3, ← Nat.two_pow_add_eq_or_of_lt h2, Nat.mul_add, Nat.mul_one]
  omega
theorem set_bit {q : List Nat} {i Q : Nat} (hb : B32 q) (hi : i / 32 < q.length) (hv : nval 4294967296 q = 2 ^ (i + 1) * Q) :
    nval 4294967296 (q.set (i / 32) (q.getD (i / 32) 0 ||| 2 ^ (i % 32))) = 2 ^ i * (2 * Q + 1) := by
  have h0 : q.getD (i / 32) 0 / 2 ^ (i % 32) % 2 = 0 := by
    rw [← bit_of hb i, hv, Nat.pow_succ, Nat.mul_assoc, Nat.mul_div_cancel_left _ (Nat.two_pow_pos _), Nat.mul_mod_right]
  have h1 := nval_set (B := 4294967296) (y := q.getD (i / 32) 0 ||| 2 ^ (i % 32)) hi
  rw [or_bit h0, Nat.mul_add, show (4294967296 : Nat) ^ (i / 32) * 2 ^ (i % 32) = 2 ^ i by rw [show (4294967296 : Nat) = 2 ^ 32 from rfl, ← Nat.pow_mul, ← Nat.pow_add, Nat.div_add_mod]] at h1
  rw [or_bit h0]
  rw [hv, Nat.pow_succ, Nat.mul_assoc] at h1
  rw [Nat.mul_add, Nat.mul_one]
  omega

end Go.V

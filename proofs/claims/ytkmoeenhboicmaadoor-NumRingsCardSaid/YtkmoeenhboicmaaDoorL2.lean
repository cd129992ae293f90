/- math/bits.Div64: a number of two words by one word. -/
import Derived.Test.YtkmoeenhboicmaaDoorL
import Derived.Test.YtkmoeenhboicmaaDoorK
set_option linter.unusedSimpArgs false
set_option linter.unusedVariables false
set_option maxRecDepth 100000

namespace Go.V
open Go Go.RowKit Go.Proofs

theorem mul32 (a : Nat) : (a : Int) * 4294967296 = ((a * 4294967296 : Nat) : Int) := by simp
theorem mul32' (a : Nat) : 4294967296 * (a : Int) = ((4294967296 * a : Nat) : Int) := by simp

theorem wrap_rem (A d M R : Nat) (h : M + R = A + d) (hR : R < 18446744073709551616) : IntKind.u64.wrap ((((A % 18446744073709551616 + d) % 18446744073709551616 : Nat) : Int) - ((M % 18446744073709551616 : Nat) : Int)) = (R : Int) := by
  rw [wrap64_i]; omega
theorem wrap_mod (R y : Nat) (hR : R < 18446744073709551616) : IntKind.u64.wrap ((R : Int) - ((R / y * y : Nat) : Int)) = ((R % y : Nat) : Int) := by
  have := Nat.div_add_mod R y
  rw [Nat.mul_comm] at this
  rw [wrap64_i]; omega
theorem b32 (q : Nat) (h : q < 4294967296) : q * 4294967296 < 18446744073709551616 := by omega
theorem b32b (q r : Nat) (h : q < 4294967296) (h' : r < 4294967296) : q * 4294967296 + r < 18446744073709551616 := by omega

/-- One digit of the quotient: the loop that puts the guess right. -/
theorem bl_le {x k : Nat} (h : x < 2 ^ k) : bitLen x ≤ k := by
  unfold bitLen
  split
  · omega
  · rename_i h0
    have := (Nat.log2_lt h0).2 h
    omega


end Go.V

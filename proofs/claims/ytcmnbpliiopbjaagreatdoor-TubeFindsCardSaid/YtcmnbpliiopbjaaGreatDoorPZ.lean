/- Package round over values as data. Package round over values as data: Fit, Add, Sub, Mul, Div. -/
import Derived.Test.YtcmnbpliiopbjaaGreatDoorPX
import Derived.Test.YtcmnbpliiopbjaaGreatDoorPV
import Derived.Test.YtcmnbpliiopbjaaGreatDoorPC
set_option linter.unusedSimpArgs false
set_option linter.unusedVariables false
set_option maxRecDepth 100000
namespace Go.V
open Go Go.RowKit Go.Proofs

/-- So many bits. -/
def okP (p : Int) : Bool := decide (8 ≤ p) && decide (p ≤ 256)
theorem okP_nat {p : Int} (h : okP p = true) : ∃ n : Nat, p = n ∧ 8 ≤ n ∧ n ≤ 256 := by
  unfold okP at h
  rw [Bool.and_eq_true, decide_eq_true_eq, decide_eq_true_eq] at h
  exact ⟨p.toNat, by omega, by omega, by omega⟩



end Go.V
namespace Go.V
open Go Go.RowKit Go.Proofs

theorem lt_w64 {n k m : Nat} (h : n < 2 ^ k) (hk : k ≤ 64 * m) : n < 18446744073709551616 ^ m := by
  have e : (18446744073709551616 : Nat) ^ m = 2 ^ (64 * m) := by rw [Nat.pow_mul]
  rw [e]; exact Nat.lt_of_lt_of_le h (Nat.pow_le_pow_right (by decide) hk)




end Go.V

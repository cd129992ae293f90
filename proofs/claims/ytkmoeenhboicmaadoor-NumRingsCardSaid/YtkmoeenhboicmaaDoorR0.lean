/- One digit less. -/
import Derived.Test.YtkmoeenhboicmaaDoorR3
set_option linter.unusedSimpArgs false
set_option linter.unusedVariables false
set_option maxRecDepth 100000
namespace Go.V
open Go Go.RowKit Go.Proofs

theorem drop_step (xs : List Nat) {i : Nat} : nval 4294967296 (xs.drop i) = xs.getD i 0 + 4294967296 * nval 4294967296 (xs.drop (i + 1)) := by
  by_cases h : i < xs.length
  · exact nval_drop h
  · rw [nval_drop_all (by omega), nval_drop_all (by omega)]; simp [List.getD, List.getElem?_eq_none (Nat.le_of_not_lt h)]

end Go.V

/- Numbers over values as data: the document's values: their parts, sums, products. Numbers over values as data: the document's values: differences, order, right numbers. The statements' own small functions of layer 2: light. The seat's deck: numbers drawn from a list of words. A plan's check by bit masks: quick enough for the kernel at a region of a hundred operations. Plans with forks that join again, checked by bit masks. The statements' own small functions of layer 2: known, light. -/
import Derived.Test.YtgapammfekmihaaGreatDoorZPX
import Derived.Test.YtgapammfekmihaaGreatDoorZPU
import Derived.Test.YtgapammfekmihaaGreatDoorZPC
set_option linter.unusedSimpArgs false
set_option linter.unusedVariables false
set_option maxRecDepth 100000
namespace Go.V
open Go Go.RowKit Go.Proofs
end Go.V
namespace Go.V
open Go Go.RowKit Go.Proofs
end Go.V
namespace Go.V
open Go Go.RowKit Go.Proofs

/-- A list of numbers. -/
def eU (x : Nu) : List G := [.lit (.bool x.neg), .lit (.int .i64 x.exp), eS (eK .u64) x.w]
theorem eU_0 {x : Nu} : (eU x) = [.lit (.bool x.neg), .lit (.int .i64 x.exp), eS (eK .u64) x.w] := rfl
end Go.V
namespace Go.V
open Go Go.RowKit Go.Proofs
end Go.V
namespace Go.V
open Go Go.RowKit

variable {P : Program} {N : DEnv → Store → Prop} {X : Nat → DEnv → Store → Prop} {R : DEnv → Store → Prop} {e : DEnv} {S : Store}
end Go.V
namespace Go.V
open Go Go.RowKit

def graft : PT → PT → PT
  | .nil, r => r
  | .lin pl t, r => .lin pl (graft t r)
  | .fork i m a j k b, r => .fork i m (graft a r) j k (graft b r)
  | .fork3 i m a j k b p q c, r => .fork3 i m (graft a r) j k (graft b r) p q (graft c r)
  | .fork4 i m a j k b p q c s u d, r => .fork4 i m (graft a r) j k (graft b r) p q (graft c r) s u (graft d r)
  | .mix cs ars t, r => .mix cs ars (graft t r)
def chain : List PT → PT
  | [] => .nil
  | t :: r => graft t (chain r)
section
variable {ops : List Oper} {mode : Nat → Nat}
end
section
variable {P : Program} {ops : List Oper}
end
variable {P : Program} {N : DEnv → Store → Prop} {X : Nat → DEnv → Store → Prop} {R : DEnv → Store → Prop} {e : DEnv} {S : Store} {l : List Oper}
end Go.V
namespace Go.V
open Go Go.RowKit Go.Proofs

/-- Numbers of one odd word. -/
theorem w1 {s : Bool} {k : Int} {n : Nat} (ho : n % 2 = 1) (hn : n < 18446744073709551616) (h1 : -60000 ≤ k) (h2 : k ≤ 60000) : (⟨s, k, [n]⟩ : Nu) = nuOf (dy s n k) ∧ OkD (dy s n k) ∧ rightB ⟨s, k, [n]⟩ = true ∧ (⟨s, k, [n]⟩ : Nu).val = dy s n k := by
  have e : (⟨s, k, [n]⟩ : Nu) = nuOf (dy s n k) := by rw [nuOf_odd ho, digs_small (by decide) (by omega) hn]
  have hk : OkD (dy s n k) := OkD_word hn (by omega) (by omega)
  refine ⟨e, hk, ?_, ?_⟩
  · rw [e, rightB_nuOf, decide_eq_true hk]
  · rw [e, val_nuOf]
end Go.V

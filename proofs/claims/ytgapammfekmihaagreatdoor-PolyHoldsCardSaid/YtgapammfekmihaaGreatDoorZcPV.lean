/- Long division, word by word: the plain laws. No program, no model. Package nat: long division by words, over values as data. Package nat: long division by words, over values as data: a number by a word taken away, and given back. Package nat: long division by words, over values as data: the quotient and the rest; Div. Package nat: Div, over values as data. -/
import Derived.Test.YtgapammfekmihaaGreatDoorZcPD
import Derived.Test.YtgapammfekmihaaGreatDoorZcPT
set_option linter.unusedVariables false
set_option linter.unusedSimpArgs false
set_option maxRecDepth 100000
namespace Go.V
structure Gs (W j:Nat) (us vs:List Nat):Prop where
 W1:1≤W
 ub:∀ x ∈ us,x<W
 vb:∀ x ∈ vs,x<W
 n2:2≤vs.length
 len:j + vs.length + 1≤us.length
 top:1≤vs.getD (vs.length - 1) 0
 lt:nval W us<nval W vs * W ^ (j + 1)
section
variable {W j:Nat} {us vs:List Nat} (h:Gs W j us vs)
include h
end
end Go.V
namespace Go.V
open Go Go.RowKit Go.Proofs
theorem rnD_W64 {σ:Nm→Nm} {xs:List Nat}:rnD σ (W64 xs)=W64 xs:=rfl
theorem rnC_W64 {σ:Nm→Nm} {xs:List Nat}:rnC σ (W64 xs)=W64 xs:=rfl
attribute [go_sem] rnD_W64 rnC_W64
end Go.V
namespace Go.V
open Go Go.RowKit Go.Proofs
end Go.V
namespace Go.V
open Go Go.RowKit Go.Proofs
end Go.V
namespace Go.V
open Go Go.RowKit Go.Proofs
end Go.V

/- The seat's deck: parts of intervals. The statements IvDrawn, IvFour of layer 5. -/
import Derived.Test.YtcmnbpliiopbjaaI23
set_option linter.unusedSimpArgs false
set_option linter.unusedVariables false
set_option maxRecDepth 100000
namespace Go.V
open Go Go.RowKit Go.Proofs
def qI24_41_1 : PT := (.lin [(0, 0), (1, 2), (3, 0)] (.fork 2 3 (.lin [(4, 4), (5, 3), (6, 3), (7, 3)] .nil) 4 4 (.lin [(2, 3), (5, 3), (6, 3), (7, 3)] .nil)))
attribute [go_sem] qI24_41_1

set_option maxHeartbeats 1000000 in
theorem p_dPart {k : Nm} {S : Store} {Q : D → Store → Prop} {bb i : Nat} {w : List Nat} {x y : Dyadic} (hS : S k = some ⟨bb, 2, 0, [[W64 w, i64 i]]⟩) (hb : B64 w) (hi : i ≤ 800000000) (ox : OkD x) (oy : OkD y)
    (hQ : ∀ t u : Dyadic, OkD t → OkD u → InS x y t → InS x y u → Q (IV (ivD (loD t u) (hiD t u))) (updS S k (some ⟨bb, 2, 0, [[W64 w, i64 ((i + 2 : Nat) : Int)]]⟩))) : PFC Try.prog 41 [.ptr k bb 0 0 2, IV (ivD x y)] S Q := by
  unfold ivD
  have d1 := @dr 1 qI24_41_1
  refine PFB (rs := [.cell 4 34]) Try.func41 ?_
  repeat (first | with_reducible refine pv_seq fun K hK => ?_ | ((with_reducible first | refine hK _ _ ?_ | (clear hK; refine hK _ _ ?_) | (clear hK; clear hK; refine hK _ _ ?_)); clear hK; try clear K) | refine W0 ?_ | exact Z | with_reducible intro b)
  refine And.intro ?_ ?_
  · repeat (first | with_reducible refine pv_seq fun K hK => ?_ | ((with_reducible first | refine hK _ _ ?_ | (clear hK; refine hK _ _ ?_) | (clear hK; clear hK; refine hK _ _ ?_)); clear hK; try clear K) | refine W0 ?_ | exact Z | with_reducible intro b)
    refine p_dIn (i := i) (x := x) (y := y) (by simp -implicitDefEqProofs only [updS, upS]; exact hS) hb (by omega) ox oy (fun t ot ht => ?_)
    repeat (first | with_reducible refine pv_seq fun K hK => ?_ | ((with_reducible first | refine hK _ _ ?_ | (clear hK; refine hK _ _ ?_) | (clear hK; clear hK; refine hK _ _ ?_)); clear hK; try clear K) | refine W0 ?_ | exact Z | with_reducible intro b)
    refine p_dIn (i := i + 1) (x := x) (y := y) (by simp -implicitDefEqProofs only [updS, upS, if_true]; rfl) hb (by omega) ox oy (fun u ou hu => ?_)
    have pB := p_Between ot ou
    have hq := hQ t u ot ou ht hu
    repeat (first | with_reducible refine pv_seq fun K hK => ?_ | ((with_reducible first | refine hK _ _ ?_ | (clear hK; refine hK _ _ ?_) | (clear hK; clear hK; refine hK _ _ ?_)); clear hK; try clear K) | refine W ?_ | exact Z | with_reducible intro b)
    simp only [updS_updS]
    exact hq
  · repeat (first | with_reducible refine pv_seq fun K hK => ?_ | ((with_reducible first | refine hK _ _ ?_ | (clear hK; refine hK _ _ ?_) | (clear hK; clear hK; refine hK _ _ ?_)); clear hK; try clear K) | refine W0 ?_ | exact Z | with_reducible intro b)
    refine p_dIn (i := i) (x := x) (y := y) (by simp -implicitDefEqProofs only [updS, upS]; exact hS) hb (by omega) ox oy (fun t ot ht => ?_)
    repeat (first | with_reducible refine pv_seq fun K hK => ?_ | ((with_reducible first | refine hK _ _ ?_ | (clear hK; refine hK _ _ ?_) | (clear hK; clear hK; refine hK _ _ ?_)); clear hK; try clear K) | refine W0 ?_ | exact Z | with_reducible intro b)
    refine p_dIn (i := i + 1) (x := x) (y := y) (by simp -implicitDefEqProofs only [updS, upS, if_true]; rfl) hb (by omega) ox oy (fun u ou hu => ?_)
    have pB := p_Between ot ou
    have hq := hQ t u ot ou ht hu
    repeat (first | with_reducible refine pv_seq fun K hK => ?_ | ((with_reducible first | refine hK _ _ ?_ | (clear hK; refine hK _ _ ?_) | (clear hK; clear hK; refine hK _ _ ?_)); clear hK; try clear K) | refine W ?_ | exact Z | with_reducible intro b)
    simp only [updS_updS]
    exact hq
theorem wi_okD {x y : Dyadic} (hx : OkD x) (hy : OkD y) : Wi 65536 (ivD x y) := wi_D hx hy
end Go.V

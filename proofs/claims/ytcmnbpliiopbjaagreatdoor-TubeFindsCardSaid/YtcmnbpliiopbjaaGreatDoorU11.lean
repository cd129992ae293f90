/- The seat's deck: times. -/
import Derived.Test.YtcmnbpliiopbjaaGreatDoorU10
set_option linter.unusedSimpArgs false
set_option linter.unusedVariables false
set_option maxRecDepth 100000
namespace Go.V
open Go Go.RowKit Go.Proofs

/-- A time of the deck's. -/
def Tm (d : Dyadic) : Prop := ∃ (m : Nat) (e : Int), d = dy false m e ∧ 1 ≤ m ∧ m ≤ 8 ∧ -3 ≤ e ∧ e ≤ 0
theorem Tm.sm {d : Dyadic} (h : Tm d) : Sm 14 6 d := by
  obtain ⟨m, e, rfl, h1, h2, h3, h4⟩ := h
  exact Sm.dy (by omega) (by omega) (by omega)
theorem Tm.pos {d : Dyadic} (h : Tm d) : 0 < d := by
  obtain ⟨m, e, rfl, h1, h2, h3, h4⟩ := h
  exact dy_pos.2 ⟨rfl, by omega⟩
set_option maxHeartbeats 1000000 in
theorem p_dTime {k : Nm} {S : Store} {Q : D → Store → Prop} {b i : Nat} {w : List Nat} (hS : S k = some ⟨b, 2, 0, [[W64 w, i64 i]]⟩) (hb : B64 w) (hi : i ≤ 900000000)
    (hQ : ∀ d, Tm d → Q (NU (nuOf d)) (updS S k (some ⟨b, 2, 0, [[W64 w, i64 ((i + 2 : Nat) : Int)]]⟩))) : PFC Tryz.prog 16 [.ptr k b 0 0 2] S Q := by
  refine PFB (rs := [.cell 2 30]) Tryz.func16 ?_
  repeat (first | with_reducible refine pv_seq fun K hK => ?_ | ((with_reducible first | refine hK _ _ ?_ | (clear hK; refine hK _ _ ?_) | (clear hK; clear hK; refine hK _ _ ?_)); clear hK; try clear K) | refine W0 ?_ | exact Z | with_reducible intro b)
  refine p_next (i := i) (by simp -implicitDefEqProofs only [updS, upS]; exact hS) hb (by omega) ?_
  have hx : w.getD i 0 < 18446744073709551616 := get_lt hb (by decide) i
  generalize w.getD i 0 = x at *
  obtain ⟨m, hm, hm2⟩ : ∃ m : Nat, bitsV BinOp.and IntKind.u64 (x : Int) 7 = (m : Int) ∧ m < 8 := ⟨x &&& 7, and64_nat x 7 (by omega) (by decide), Nat.lt_of_le_of_lt Nat.and_le_right (by decide)⟩
  have hw1 : IntKind.u64.wrap (1 + (m : Int)) = ((m + 1 : Nat) : Int) := by simp [IntKind.wrap, IntKind.signed, IntKind.bits]; omega
  have ft := And.intro hm hw1
  repeat (first | with_reducible refine pv_seq fun K hK => ?_ | ((with_reducible first | refine hK _ _ ?_ | (clear hK; refine hK _ _ ?_) | (clear hK; clear hK; refine hK _ _ ?_)); clear hK; try clear K) | refine W0 ?_ | exact Z | with_reducible intro b)
  refine p_dN (n := 4) (i := i + 1) (by simp -implicitDefEqProofs only [updS, upS, if_true]; rfl) hb (by omega) (by decide) (by decide) (fun r hr => ?_)
  have pN := p_snum (neg := false) (w := [m + 1]) (e := (r : Int) - 3) (by intro z hz; rw [List.mem_singleton.1 hz]; omega) (by simp) (by unfold R64; omega)
  rw [show N64 [m + 1] = m + 1 by simp [N64, nval]] at pN
  have ht : Tm (dy false (m + 1) ((r : Int) - 3)) := ⟨_, _, rfl, by omega, by omega, by omega, by omega⟩
  have hq := hQ _ ht
  rw [numR_ok (ht.sm.ok (by decide) (by decide))] at pN
  generalize dy false (m + 1) ((r : Int) - 3) = d at *
  generalize nuOf d = q at *
  obtain ⟨s, y, v⟩ := q
  repeat (first | with_reducible refine pv_seq fun K hK => ?_ | ((with_reducible first | refine hK _ _ ?_ | (clear hK; refine hK _ _ ?_) | (clear hK; clear hK; refine hK _ _ ?_)); clear hK; try clear K) | refine W ?_ | exact Z | with_reducible intro b)
  simp only [updS_updS]
  exact hq
end Go.V

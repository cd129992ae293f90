/- Boxes and pieces over values as data: packages box and record. -/
import Derived.Test.YtcmnbpliiopbjaaGreatDoorI22
set_option linter.unusedSimpArgs false
set_option linter.unusedVariables false
set_option maxRecDepth 100000
namespace Go.V
open Go Go.RowKit Go.Proofs

theorem eI_len {a : Iv} : (eI a).length = 6 := rfl
theorem II_take {a : Iv} : D.agg (List.take 6 ((eI a).map D.g)) = IV a := rfl
attribute [go_sem] eI_len II_take eI_0 eU_0
def gI (l : List Iv) (i : Nat) : Iv := l.getD i iv0
theorem gI_at {l : List Iv} {i : Nat} (h : i < l.length) : l[i]? = some (gI l i) := by simp [gI, List.getD, List.getElem?_eq_getElem h]
theorem gI_mem {l : List Iv} {i : Nat} (h : i < l.length) : gI l i ∈ l := List.mem_of_getElem? (gI_at h)
/-- A list of right intervals. -/
def OkB (l : List Iv) : Prop := ∀ a ∈ l, Wi 65536 a ∧ rightI a = true
theorem OkB.wi {l : List Iv} (h : OkB l) {i : Nat} (hi : i < l.length) : Wi 65536 (gI l i) := (h _ (gI_mem hi)).1
theorem OkB.rt {l : List Iv} (h : OkB l) {i : Nat} (hi : i < l.length) : rightI (gI l i) = true := (h _ (gI_mem hi)).2

theorem p_bRight {l : List Iv} (hb : OkB l) (hl : l.length ≤ 100000) : PC Tryz.prog 92 [II l] fun d => d = bl (decide (1 ≤ l.length) && decide (l.length ≤ 4)) := by
  refine PB (rs := [.tmp 2]) Tryz.func92 ?_
  repeat (first | with_reducible refine pv_seq fun K hK => ?_ | ((with_reducible first | refine hK _ _ ?_ | (clear hK; refine hK _ _ ?_) | (clear hK; clear hK; refine hK _ _ ?_)); clear hK; try clear K) | refine W0 ?_ | exact Z | with_reducible intro b)
  have J : ∀ (e : DEnv) (S : Store), e 0 = II l → K e S := by
    intro e S g0
    by_cases h1 : 1 ≤ l.length
    · have k1 : ((1 : Int) ≤ (l.length : Int)) = True := eq_true (by omega)
      have k2 : ((l.length : Int) ≤ 4) = (l.length ≤ 4) := propext ⟨fun h => by omega, fun h => by omega⟩
      have ft := And.intro g0 (And.intro k1 k2)
      repeat (first | with_reducible refine pv_seq fun K hK => ?_ | ((with_reducible first | refine hK _ _ ?_ | (clear hK; refine hK _ _ ?_) | (clear hK; clear hK; refine hK _ _ ?_)); clear hK; try clear K) | refine W0 ?_ | exact Z | with_reducible intro b)
      rw [decide_eq_true h1, Bool.true_and]
    · have k1 : ((1 : Int) ≤ (l.length : Int)) = False := eq_false (by omega)
      have ft := And.intro g0 k1
      repeat (first | with_reducible refine pv_seq fun K hK => ?_ | ((with_reducible first | refine hK _ _ ?_ | (clear hK; refine hK _ _ ?_) | (clear hK; clear hK; refine hK _ _ ?_)); clear hK; try clear K) | refine W0 ?_ | exact Z | with_reducible intro b)
      rw [decide_eq_false h1, Bool.false_and]
  clear hK
  refine pv_loop (fun e S => ∃ i : Nat, i ≤ l.length ∧ e 0 = II l ∧ e 5 = II l ∧ e 6 = i64 l.length ∧ e 7 = i64 i) (fun e _ => l.length - (intD (e 7)).toNat) ?_ ?_
  · exact ⟨0, Nat.zero_le _, Z, Z, Z, Z⟩
  · rintro e S ⟨i, hi, g0, g5, g6, g7⟩
    have ft := And.intro g0 (And.intro g5 (And.intro g6 g7))
    repeat (first | with_reducible refine pv_seq fun K hK => ?_ | ((with_reducible first | refine hK _ _ ?_ | (clear hK; refine hK _ _ ?_) | (clear hK; clear hK; refine hK _ _ ?_)); clear hK; try clear K) | refine W0 ?_ | exact Z | with_reducible intro b)
    refine pv_cdD (fun ht1 => ?_) (fun ht => ?_)
    · have hil : i < l.length := by omega
      have pR := p_iRight (hb.wi hil)
      rw [hb.rt hil] at pR
      change PC _ _ [IV (l.getD i iv0)] _ at pR
      generalize hq : l.getD i iv0 = q at *
      obtain ⟨⟨n1, e1, w1⟩, ⟨n2, e2, w2⟩⟩ := q
      have ft := And.intro g0 (And.intro g5 (And.intro g6 (And.intro g7 hq)))
      repeat (first | with_reducible refine pv_seq fun K hK => ?_ | ((with_reducible first | refine hK _ _ ?_ | (clear hK; refine hK _ _ ?_) | (clear hK; clear hK; refine hK _ _ ?_)); clear hK; try clear K) | refine W ?_ | exact Z | with_reducible intro b)
      exact ⟨⟨i + 1, by omega, rfl⟩, by simp only [intD]; omega⟩
    · repeat (first | with_reducible refine pv_seq fun K hK => ?_ | ((with_reducible first | refine hK _ _ ?_ | (clear hK; refine hK _ _ ?_) | (clear hK; clear hK; refine hK _ _ ?_)); clear hK; try clear K) | refine W0 ?_ | exact Z | with_reducible intro b)
      exact J _ _ Z
end Go.V

/- The statements' own small functions of layer 2: light. -/
import Derived.Test.YtkmoeenhboicmaaDoorC5
set_option linter.unusedSimpArgs false
set_option linter.unusedVariables false
set_option maxRecDepth 100000
namespace Go.V
open Go Go.RowKit Go.Proofs

/-- A list of numbers. -/
def eU (x : Nu) : List G := [.lit (.bool x.neg), .lit (.int .i64 x.exp), eS (eK .u64) x.w]
def NN (xs : List Nu) : D := .g (eS eU xs)
theorem NN_1 {a : Nu} : D.g (.sl [eU a]) = NN [a] := rfl
theorem NN_2 {a b : Nu} : D.g (.sl [eU a, eU b]) = NN [a, b] := rfl
theorem NN_3 {a b c : Nu} : D.g (.sl [eU a, eU b, eU c]) = NN [a, b, c] := rfl
theorem lenD_NN {xs : List Nu} {K : D → Prop} : lenD (NN xs) K = K (.g (.lit (.int .i64 xs.length))) := lenD_eS
theorem ixD_NN {xs : List Nu} {i : Int} {K : D → Prop} : ixD 3 (NN xs) i K = (0 ≤ i ∧ i < xs.length ∧ K (.ip (eU (xs.getD i.toNat nu0)))) := by
  rw [NN, ixD_eS, eq_iff_iff]
  constructor
  · rintro ⟨h0, h1, h2⟩
    refine ⟨h0, h1, ?_⟩
    have : xs[i.toNat]? = some (xs.getD i.toNat nu0) := by simp [List.getD, List.getElem?_eq_getElem (show i.toNat < xs.length by omega)]
    rw [this] at h2; exact h2.2
  · rintro ⟨h0, h1, h2⟩
    refine ⟨h0, h1, ?_⟩
    have : xs[i.toNat]? = some (xs.getD i.toNat nu0) := by simp [List.getD, List.getElem?_eq_getElem (show i.toNat < xs.length by omega)]
    rw [this]; exact ⟨rfl, h2⟩
theorem eU_0 {x : Nu} : (eU x) = [.lit (.bool x.neg), .lit (.int .i64 x.exp), eS (eK .u64) x.w] := rfl
attribute [go_sem ↓] lenD_NN ixD_NN
attribute [go_sem] lenD_NN ixD_NN
theorem p_light {xs : List Nu} (hl : xs.length ≤ 1000) : PC Tryd.prog 13 [NN xs] fun d => d = bl (decide (∀ x ∈ xs, x.w.length ≤ 70)) := by
  refine PC.body (args := [NN xs]) (rs := [.tmp 2]) mixed Tryd.func13 rfl (by kernel_rfl) (by kernel_rfl) (Nat.le_of_ble_eq_true rfl) rfl ?_
  repeat (first | (with_reducible refine pv_seq fun K hK => ?_) | (with_reducible refine pv_reg ?_; simp -implicitDefEqProofs only [cmpB]) | (fail) | ((with_reducible first | refine hK _ _ ?_ | (clear hK; refine hK _ _ ?_) | (clear hK; clear hK; refine hK _ _ ?_)); clear hK; try clear K) | (simp -implicitDefEqProofs only [eU_0, true_and, go_sem, seval]) | (with_reducible intro b) | (with_reducible refine And.intro ?_ ?_; · first | assumption | omega | (unfold R64; omega)))
  have J : ∀ (e : DEnv) (S : Store), (∀ x ∈ xs, x.w.length ≤ 70) → K e S := by
    intro e S h
    repeat (first | (with_reducible refine pv_seq fun K hK => ?_) | (with_reducible refine pv_reg ?_; simp -implicitDefEqProofs only [cmpB]) | (fail) | ((with_reducible first | refine hK _ _ ?_ | (clear hK; refine hK _ _ ?_) | (clear hK; clear hK; refine hK _ _ ?_)); clear hK; try clear K) | (simp -implicitDefEqProofs only [eU_0, true_and, go_sem, seval]) | (with_reducible intro b) | (with_reducible refine And.intro ?_ ?_; · first | assumption | omega | (unfold R64; omega)))
    rw [decide_eq_true h]
  clear hK
  refine pv_loop (fun e S => ∃ i : Nat, i ≤ xs.length ∧ e 0 = NN xs ∧ e 3 = i64 i ∧ ∀ j, j < i → (xs.getD j nu0).w.length ≤ 70) (fun e _ => xs.length - (intD (e 3)).toNat) ?_ ?_
  · exact ⟨0, Nat.zero_le _, (by simp -implicitDefEqProofs only [eU_0, true_and, go_sem, seval]), (by simp -implicitDefEqProofs only [eU_0, true_and, go_sem, seval]), fun j hj => by omega⟩
  · rintro e S ⟨i, hi, g0, g3, hz⟩
    repeat (first | (with_reducible refine pv_seq fun K hK => ?_) | (with_reducible refine pv_reg ?_; simp -implicitDefEqProofs only [cmpB]) | (fail) | ((with_reducible first | refine hK _ _ ?_ | (clear hK; refine hK _ _ ?_) | (clear hK; clear hK; refine hK _ _ ?_)); clear hK; try clear K) | (simp -implicitDefEqProofs only [g0, g3, eU_0, true_and, go_sem, seval]) | (with_reducible intro b) | (with_reducible refine And.intro ?_ ?_; · first | assumption | omega | (unfold R64; omega)))
    refine pv_cdD (fun ht1 => ?_) (fun ht => ?_)
    · repeat (first | (with_reducible refine pv_seq fun K hK => ?_) | (with_reducible refine pv_reg ?_; simp -implicitDefEqProofs only [cmpB]) | (fail) | ((with_reducible first | refine hK _ _ ?_ | (clear hK; refine hK _ _ ?_) | (clear hK; clear hK; refine hK _ _ ?_)); clear hK; try clear K) | (simp -implicitDefEqProofs only [g0, g3, eU_0, true_and, go_sem, seval]) | (with_reducible intro b) | (with_reducible refine And.intro ?_ ?_; · first | assumption | omega | (unfold R64; omega)))
      refine pv_cdD (fun ht => ?_) (fun ht => ?_)
      · repeat (first | (with_reducible refine pv_seq fun K hK => ?_) | (with_reducible refine pv_reg ?_; simp -implicitDefEqProofs only [cmpB]) | (fail) | ((with_reducible first | refine hK _ _ ?_ | (clear hK; refine hK _ _ ?_) | (clear hK; clear hK; refine hK _ _ ?_)); clear hK; try clear K) | (simp -implicitDefEqProofs only [g0, g3, eU_0, true_and, go_sem, seval]) | (with_reducible intro b) | (with_reducible refine And.intro ?_ ?_; · first | assumption | omega | (unfold R64; omega)))
        rw [decide_eq_false]
        intro h
        have hm : xs.getD i nu0 ∈ xs := by simp [List.getD, List.getElem?_eq_getElem ht1]
        have := h _ hm
        omega
      · repeat (first | (with_reducible refine pv_seq fun K hK => ?_) | (with_reducible refine pv_reg ?_; simp -implicitDefEqProofs only [cmpB]) | (fail) | ((with_reducible first | refine hK _ _ ?_ | (clear hK; refine hK _ _ ?_) | (clear hK; clear hK; refine hK _ _ ?_)); clear hK; try clear K) | (simp -implicitDefEqProofs only [g0, g3, eU_0, true_and, go_sem, seval]) | (with_reducible intro b) | (with_reducible refine And.intro ?_ ?_; · first | assumption | omega | (unfold R64; omega)))
        refine ⟨⟨i + 1, by omega, rfl, fun j hj => ?_⟩, by simp only [intD]; omega⟩
        rcases Nat.lt_or_ge j i with h | h
        · exact hz j h
        · obtain rfl : j = i := by omega
          omega
    · repeat (first | (with_reducible refine pv_seq fun K hK => ?_) | (with_reducible refine pv_reg ?_; simp -implicitDefEqProofs only [cmpB]) | (fail) | ((with_reducible first | refine hK _ _ ?_ | (clear hK; refine hK _ _ ?_) | (clear hK; clear hK; refine hK _ _ ?_)); clear hK; try clear K) | (simp -implicitDefEqProofs only [g0, g3, eU_0, true_and, go_sem, seval]) | (with_reducible intro b) | (with_reducible refine And.intro ?_ ?_; · first | assumption | omega | (unfold R64; omega)))
      refine J _ _ fun x hx => ?_
      obtain ⟨j, hj⟩ := List.mem_iff_getElem?.1 hx
      have hjl : j < xs.length := (List.getElem?_eq_some_iff.1 hj).1
      have := hz j (by omega)
      simpa [List.getD, hj] using this

end Go.V

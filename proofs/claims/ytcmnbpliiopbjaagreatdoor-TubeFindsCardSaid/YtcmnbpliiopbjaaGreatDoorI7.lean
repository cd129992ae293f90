/- The statements' own small functions of layer 5: light. -/
import Derived.Test.YtcmnbpliiopbjaaGreatDoorI3
set_option linter.unusedSimpArgs false
set_option linter.unusedVariables false
set_option maxRecDepth 100000
namespace Go.V
open Go Go.RowKit Go.Proofs

/-- A list of intervals. -/
def eI (a : Iv) : List G := [.lit (.bool a.lo.neg), .lit (.int .i64 a.lo.exp), eS (eK .u64) a.lo.w, .lit (.bool a.hi.neg), .lit (.int .i64 a.hi.exp), eS (eK .u64) a.hi.w]
def II (xs : List Iv) : D := .g (eS eI xs)
theorem II_1 {a : Iv} : D.g (.sl [eI a]) = II [a] := rfl
theorem II_2 {a b : Iv} : D.g (.sl [eI a, eI b]) = II [a, b] := rfl
theorem lenD_II {xs : List Iv} {K : D → Prop} : lenD (II xs) K = K (.g (.lit (.int .i64 xs.length))) := lenD_eS
theorem ixD_II {xs : List Iv} {i : Int} {K : D → Prop} : ixD 6 (II xs) i K = (0 ≤ i ∧ i < xs.length ∧ K (.ip (eI (xs.getD i.toNat iv0)))) := by
  rw [II, ixD_eS, eq_iff_iff]
  constructor
  · rintro ⟨h0, h1, h2⟩
    refine ⟨h0, h1, ?_⟩
    have : xs[i.toNat]? = some (xs.getD i.toNat iv0) := by simp [List.getD, List.getElem?_eq_getElem (show i.toNat < xs.length by omega)]
    rw [this] at h2; exact h2.2
  · rintro ⟨h0, h1, h2⟩
    refine ⟨h0, h1, ?_⟩
    have : xs[i.toNat]? = some (xs.getD i.toNat iv0) := by simp [List.getD, List.getElem?_eq_getElem (show i.toNat < xs.length by omega)]
    rw [this]; exact ⟨rfl, h2⟩
theorem eI_0 {a : Iv} : (eI a) = [.lit (.bool a.lo.neg), .lit (.int .i64 a.lo.exp), eS (eK .u64) a.lo.w, .lit (.bool a.hi.neg), .lit (.int .i64 a.hi.exp), eS (eK .u64) a.hi.w] := rfl
attribute [go_sem ↓] lenD_II ixD_II
attribute [go_sem] lenD_II ixD_II
def lightI (a : Iv) : Prop := a.lo.w.length ≤ 70 ∧ a.hi.w.length ≤ 70
instance (a : Iv) : Decidable (lightI a) := inferInstanceAs (Decidable (_ ∧ _))
end Go.V

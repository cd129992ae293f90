/- Package iv over values as data: meet, opposites, amounts; outward, sums, differences, products. -/
import Derived.Test.YtcmnbpliiopbjaaGreatDoorI2
set_option linter.unusedSimpArgs false
set_option linter.unusedVariables false
set_option maxRecDepth 100000
namespace Go.V
open Go Go.RowKit Go.Proofs

def meetR (a b : Iv) : Iv × Int := if rightI a && rightI b then (if loD a.hi.val b.hi.val < hiD a.lo.val b.lo.val then (iv0, 4) else (ivD (hiD a.lo.val b.lo.val) (loD a.hi.val b.hi.val), 0)) else (iv0, 1)

def negI (a : Iv) : Iv := if rightI a then ivD (-a.hi.val) (-a.lo.val) else iv0
theorem rv_D {d : Dyadic} (h : OkD d) : rv (nuOf d) = d := by unfold rv; rw [rightB_nuOf, decide_eq_true h, if_pos rfl, val_nuOf]

def absD (d : Dyadic) : Dyadic := dy false (fN d) (fE d)
theorem nuOf_abs (a : Dyadic) : nuOf (absD a) = ⟨false, (nuOf a).exp, (nuOf a).w⟩ := by
  unfold absD
  by_cases h0 : a = 0
  · subst h0; rfl
  · rw [nuOf_odd (fN_mod h0), nuOf_f a]
theorem abs_ok {a : Dyadic} (h : OkD a) : OkD (absD a) := by
  unfold OkD at h ⊢
  rw [nuOf_abs]; exact ⟨h.len, h.lo, h.hi⟩
def magI (a : Iv) : Nu := if rightI a then nuOf (hiD (absD a.lo.val) (absD a.hi.val)) else nu0

/-- An interval of two values, rounded outward, or that there is none. -/
def outR (p : Nat) (l h : Dyadic) : Iv × Int := if (numR (rd p false l)).2 = 0 then (if (numR (rd p true h)).2 = 0 then (⟨(numR (rd p false l)).1, (numR (rd p true h)).1⟩, 0) else (iv0, 2)) else (iv0, 2)
theorem numR_err {d : Dyadic} : (numR d).2 ≠ 0 → (numR d).2 = 2 := by
  unfold numR; split
  · intro h; exact absurd rfl h
  · intro _; rfl
end Go.V

/- The deck's N and Prec. Numbers of few bits, near 1; the contracts of num and round over the core library's dyadic numbers. -/
import Derived.Test.YtklilekbokialaaGreatDoorZPY
import Derived.Test.YtklilekbokialaaGreatDoorZPZ
set_option linter.unusedSimpArgs false
set_option linter.unusedVariables false
set_option maxRecDepth 100000
namespace Go.V
open Go Go.RowKit Go.Proofs

end Go.V
namespace Go.V
open Go Go.RowKit Go.Proofs

/-- Of few bits and near 1: a multiple of 2 ^ -p, less than 2 ^ k times that. -/
def Sm (k : Nat) (p : Nat) (d : Dyadic) : Prop := ∃ z : Int, d = .ofIntWithPrec z p ∧ z.natAbs < 2 ^ k
theorem Sm.add {k p : Nat} {a b : Dyadic} (ha : Sm k p a) (hb : Sm k p b) : Sm (k + 1) p (a + b) := by
  obtain ⟨x, rfl, hx⟩ := ha; obtain ⟨y, rfl, hy⟩ := hb
  refine ⟨x + y, owp_add _ _ _, ?_⟩
  have := Int.natAbs_add_le x y
  rw [Nat.pow_succ]; omega
theorem Sm.mul {k m p q : Nat} {a b : Dyadic} (ha : Sm k p a) (hb : Sm m q b) : Sm (k + m) (p + q) (a * b) := by
  obtain ⟨x, rfl, hx⟩ := ha; obtain ⟨y, rfl, hy⟩ := hb
  refine ⟨x * y, by rw [owp_mul]; rfl, ?_⟩
  rw [Int.natAbs_mul, Nat.pow_add]
  exact Nat.mul_lt_mul'' hx hy
theorem Sm.mono {k m p : Nat} {a : Dyadic} (ha : Sm k p a) (h : k ≤ m) : Sm m p a := by
  obtain ⟨x, rfl, hx⟩ := ha
  exact ⟨x, rfl, Nat.lt_of_lt_of_le hx (Nat.pow_le_pow_right (by decide) h)⟩
theorem sg_natAbs (z : Int) : sg (decide (z < 0)) z.natAbs = z := by
  unfold sg
  by_cases h : z < 0
  · rw [decide_eq_true h, if_pos rfl]; omega
  · rw [decide_eq_false h, if_neg (by decide)]; omega
/-! ### Few bits, near 1: rounded -/
structure Bx (m l : Nat) (d : Dyadic) : Prop where
  n : fN d < 2 ^ m
  lo : -(l : Int) ≤ fE d
  hi : fE d ≤ l
theorem Bx.zero {m l : Nat} : Bx m l 0 := ⟨by rw [fN_zero]; exact Nat.two_pow_pos m, by rw [fE_zero]; omega, by rw [fE_zero]; omega⟩
theorem Bx.dy {m l j : Nat} {s : Bool} {n : Nat} {e : Int} (hn : n < 2 ^ m) (h1 : -(l : Int) ≤ e) (h2 : e + m ≤ l) : Bx m l (Go.V.dy s n e) := by
  by_cases h0 : n = 0
  · subst h0; rw [dy0]; exact Bx.zero
  · obtain ⟨_, a, b⟩ := f_of (neg := s) (e := e) h0
    have ht := tz_lt hn h0
    exact ⟨by rw [a]; exact Nat.lt_of_le_of_lt (Nat.div_le_self _ _) hn, by rw [b]; omega, by rw [b]; omega⟩
theorem Bx.ok {m l : Nat} {d : Dyadic} (h : Bx m l d) (hm : m ≤ 4096) (hl : l ≤ 65536) : OkD d := by
  unfold OkD
  have h1 := h.n; have h2 := h.lo; have h3 := h.hi
  rw [nuOf_f]
  refine ⟨?_, ?_, ?_⟩
  · exact digs_len_le (by decide) (lt_w64 h1 (by omega))
  · simp only; omega
  · simp only; omega
theorem Sm.bx {k q : Nat} {d : Dyadic} (h : Sm k q d) : Bx k (k + q) d := by
  obtain ⟨z, rfl, hz⟩ := h
  have : Dyadic.ofIntWithPrec z q = Go.V.dy (decide (z < 0)) z.natAbs (-(q : Int)) := by
    unfold Go.V.dy; rw [sg_natAbs, Int.neg_neg]
  rw [this]
  exact Bx.dy (j := 0) hz (by omega) (by omega)
theorem okP_of {p : Nat} (h8 : 8 ≤ p) (h256 : p ≤ 256) : okP p = true := by unfold okP; rw [decide_eq_true (by omega), decide_eq_true (by omega)]; rfl
end Go.V

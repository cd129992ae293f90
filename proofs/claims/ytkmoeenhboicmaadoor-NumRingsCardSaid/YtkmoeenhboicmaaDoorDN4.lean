/- Numbers as bits by a power of two: sizes of sums, products, opposites. No program, no model. -/
import Derived.Test.YtkmoeenhboicmaaDoorDN3
set_option linter.unusedVariables false
namespace Go.V
open Go

theorem Bd.of {k m : Nat} {neg : Bool} {n : Nat} {e : Int} (hn : n < 2 ^ m) (h1 : -(k : Int) ≤ e) (h2 : e ≤ k) : Bd (k + m) (Go.V.dy neg n e) := by
  by_cases h0 : n = 0
  · rw [dy_zero.2 h0]; exact Bd.zero _
  · obtain ⟨a, b, c⟩ := f_of (neg := neg) (e := e) h0
    have ht := tz_lt hn h0
    refine ⟨?_, ?_, ?_⟩
    · rw [b]
      exact Nat.lt_of_le_of_lt (Nat.div_le_self _ _) (Nat.lt_of_lt_of_le hn (Nat.pow_le_pow_right (by decide) (by omega)))
    · rw [c]; omega
    · rw [c]; omega
theorem f_neg (d : Dyadic) (h : d ≠ 0) : fS (-d) = !fS d ∧ fN (-d) = fN d ∧ fE (-d) = fE d := by
  have e : -d = Go.V.dy (!fS d) (fN d) (fE d) := by rw [← dy_neg, dy_f]
  rw [e, fS_odd (fN_mod h), fN_odd (fN_mod h), fE_odd (fN_mod h)]
  exact ⟨rfl, rfl, rfl⟩
theorem Bd.neg {k : Nat} {d : Dyadic} (h : Bd k d) : Bd k (-d) := by
  by_cases h0 : d = 0
  · subst h0; exact Bd.zero k
  · obtain ⟨_, a, b⟩ := f_neg d h0
    refine ⟨?_, ?_, ?_⟩
    · rw [a]; exact h.1
    · rw [b]; exact h.2.1
    · rw [b]; exact h.2.2
theorem mul_f (a b : Dyadic) : a * b = Go.V.dy (fS a != fS b) (fN a * fN b) (fE a + fE b) := by rw [← dy_mul, dy_f, dy_f]
theorem mul_odd {a b : Dyadic} (ha : a ≠ 0) (hb : b ≠ 0) : fS (a * b) = (fS a != fS b) ∧ fN (a * b) = fN a * fN b ∧ fE (a * b) = fE a + fE b := by
  have h : fN a * fN b % 2 = 1 := by rw [Nat.mul_mod, fN_mod ha, fN_mod hb]
  rw [mul_f, fS_odd h, fN_odd h, fE_odd h]
  exact ⟨rfl, rfl, rfl⟩
theorem Bd.mul {k m : Nat} {a b : Dyadic} (ha : Bd k a) (hb : Bd m b) : Bd (k + m) (a * b) := by
  by_cases h0 : a = 0
  · subst h0; rw [Dyadic.zero_mul]; exact Bd.zero _
  by_cases h1 : b = 0
  · subst h1; rw [Dyadic.mul_zero]; exact Bd.zero _
  obtain ⟨_, x, y⟩ := mul_odd h0 h1
  have := ha.2.1; have := ha.2.2; have := hb.2.1; have := hb.2.2
  refine ⟨?_, ?_, ?_⟩
  · rw [x, Nat.pow_add]; exact Nat.mul_lt_mul_of_lt_of_le ha.1 (Nat.le_of_lt hb.1) (Nat.two_pow_pos m)
  · rw [y]; omega
  · rw [y]; omega
theorem low_e (a b : Dyadic) : ∃ (e : Int) (i j : Nat), (if fE b < fE a then fE b else fE a) = e ∧ fE a - e = i ∧ fE b - e = j := by
  by_cases h : fE b < fE a
  · exact ⟨fE b, (fE a - fE b).toNat, 0, if_pos h, by omega, by omega⟩
  · exact ⟨fE a, 0, (fE b - fE a).toNat, if_neg h, by omega, by omega⟩
theorem up_f {d : Dyadic} {e : Int} {i : Nat} (h : fE d - e = i) : d = Go.V.dy (fS d) (fN d * 2 ^ i) e := by
  conv => lhs; rw [← dy_f d]
  rw [← dy_up]; congr 1; omega
theorem up_lt2 {k m n i : Nat} (hn : n < 2 ^ k) (hi : i ≤ m) : n * 2 ^ i < 2 ^ (k + m) := by
  rw [Nat.pow_add]
  have h1 : (2 : Nat) ^ i ≤ 2 ^ m := Nat.pow_le_pow_right (by decide) hi
  have h2 := Nat.mul_lt_mul_of_pos_right hn (Nat.two_pow_pos i)
  have h3 := Nat.mul_le_mul_left (2 ^ k) h1
  omega
theorem Bd.add {k : Nat} {a b : Dyadic} (ha : Bd k a) (hb : Bd k b) : Bd (4 * k + 1) (a + b) := by
  obtain ⟨e, i, j, h1, h2, h3⟩ := low_e a b
  have a1 := ha.2.1; have a2 := ha.2.2; have b1 := hb.2.1; have b2 := hb.2.2
  have e1 : -(k : Int) ≤ e := by rw [← h1]; split <;> assumption
  have e2 : e ≤ k := by rw [← h1]; split <;> assumption
  have i1 : i ≤ 2 * k := by omega
  have j1 : j ≤ 2 * k := by omega
  have x := up_lt2 ha.1 i1
  have y := up_lt2 hb.1 j1
  rw [up_f h2, up_f h3]
  have hp : (2 : Nat) ^ (k + 2 * k) + 2 ^ (k + 2 * k) = 2 ^ (3 * k + 1) := by rw [show k + 2 * k = 3 * k by omega, Nat.pow_succ]; omega
  rw [show 4 * k + 1 = k + (3 * k + 1) by omega]
  by_cases hs : fS a = fS b
  · rw [← hs, dy_add]
    exact Bd.of (by omega) e1 e2
  · by_cases hle : fN b * 2 ^ j ≤ fN a * 2 ^ i
    · rw [dy_sub hs hle]; exact Bd.of (by omega) e1 e2
    · rw [Dyadic.add_comm, dy_sub (Ne.symm hs) (by omega)]; exact Bd.of (by omega) e1 e2
theorem Bd.sub {k : Nat} {a b : Dyadic} (ha : Bd k a) (hb : Bd k b) : Bd (4 * k + 1) (a - b) := by
  rw [show a - b = a + -b by grind]; exact ha.add hb.neg
theorem digs32_le {n k : Nat} (h : n < 2 ^ k) : (digs 4294967296 n).length ≤ k :=
  digs_len_le (by decide) (Nat.lt_of_lt_of_le h (Nat.pow_le_pow_left (by decide) k))

end Go.V

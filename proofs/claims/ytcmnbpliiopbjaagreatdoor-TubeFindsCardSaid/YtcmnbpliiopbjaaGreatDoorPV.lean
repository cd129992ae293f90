/- Long division, word by word: the plain laws. No program, no model. Package nat: long division by words, over values as data. Package nat: long division by words, over values as data: a number by a word taken away, and given back. Package nat: long division by words, over values as data: the quotient and the rest; Div. Package nat: Div, over values as data. -/
import Derived.Test.YtcmnbpliiopbjaaGreatDoorPD
import Derived.Test.YtcmnbpliiopbjaaGreatDoorPT
set_option linter.unusedVariables false
set_option linter.unusedSimpArgs false
set_option maxRecDepth 100000
namespace Go.V

/-- The digit of a quotient, by the highest words: not above what they allow. -/
theorem gs_up {F D v0 T x0 s X N : Nat} (hX : X = x0 + F * T) (hx : x0 < F) (hN : N = v0 + F * D) (hs : s * N ≤ X) : s * D ≤ T := by
  subst hX hN
  rcases Nat.lt_or_ge T (s * D) with h | h
  · have h1 : F * (T + 1) ≤ F * (s * D) := Nat.mul_le_mul_left F h
    rw [Nat.mul_add, Nat.mul_one] at h1
    have h2 : s * (v0 + F * D) = s * v0 + F * (s * D) := by rw [Nat.mul_add, Nat.mul_left_comm]
    omega
  · exact h
/-- What they allow is one above it at most. -/
theorem gs_lo {F D v0 T x0 q X N : Nat} (hX : X = x0 + F * T) (hN : N = v0 + F * D) (hv : v0 < F) (hq : q * D ≤ T) (hqD : q ≤ D) (h0 : 0 < N) : q ≤ X / N + 1 := by
  subst hX hN
  rcases Nat.eq_zero_or_pos q with rfl | hp
  · exact Nat.zero_le _
  obtain ⟨r, rfl⟩ : ∃ r, q = r + 1 := ⟨q - 1, by omega⟩
  have : r ≤ (x0 + F * T) / (v0 + F * D) := by
    rw [Nat.le_div_iff_mul_le h0]
    have h1 : r * v0 ≤ r * F := Nat.mul_le_mul_left r (Nat.le_of_lt hv)
    have h2 : r * (v0 + F * D) = r * v0 + F * (r * D) := by rw [Nat.mul_add, Nat.mul_left_comm]
    have h3 : F * (r * D + r) ≤ F * T := Nat.mul_le_mul_left F (by rw [Nat.add_mul] at hq; omega)
    rw [Nat.mul_add, Nat.mul_comm F r] at h3
    omega
  omega
theorem hi_zero {W m : Nat} {us : List Nat} (h : nval W us < W ^ m) (hW : 1 ≤ W) : ∀ i, m ≤ i → us.getD i 0 = 0 := by
  intro i hi
  by_cases hl : i < us.length
  · have h1 := nval_set (B := W) (y := 0) hl
    have h2 : W ^ m ≤ W ^ i := Nat.pow_le_pow_right hW hi
    rcases Nat.eq_zero_or_pos (us.getD i 0) with h3 | h3
    · exact h3
    · have : W ^ i * 1 ≤ W ^ i * us.getD i 0 := Nat.mul_le_mul_left _ h3
      omega
  · simp [List.getD, List.getElem?_eq_none (Nat.le_of_not_lt hl)]
theorem hi_lt {W m : Nat} {us : List Nat} (hW : 1 ≤ W) (hb : ∀ x ∈ us, x < W) (h : ∀ i, m ≤ i → us.getD i 0 = 0) : nval W us < W ^ m := by
  rw [← nval_take h]
  refine Nat.lt_of_lt_of_le (nval_lt hW _ fun x hx => hb x (List.mem_of_mem_take hx)) (Nat.pow_le_pow_right hW ?_)
  simp; omega
/-- The three highest words of a number. -/
theorem top3 {W m : Nat} {us : List Nat} (hW : 1 ≤ W) (hb : ∀ x ∈ us, x < W) (hm : m + 3 ≤ us.length) (hz : ∀ i, m + 3 ≤ i → us.getD i 0 = 0) :
    ∃ x0, x0 < W ^ m ∧ nval W us = x0 + W ^ m * ((us.getD (m + 2) 0 * W + us.getD (m + 1) 0) * W + us.getD m 0) := by
  refine ⟨nval W (us.take m), ?_, ?_⟩
  · refine Nat.lt_of_lt_of_le (nval_lt hW _ fun x hx => hb x (List.mem_of_mem_take hx)) (Nat.pow_le_pow_right hW ?_)
    simp; omega
  · have h1 : nval W us = nval W (us.take m) + W ^ m * nval W (us.drop m) := by
      have := nval_append W (us.take m) (us.drop m)
      rw [List.take_append_drop, show (us.take m).length = m by rw [List.length_take]; omega] at this
      exact this
    have h2 : nval W (us.drop (m + 3)) = 0 := nval_zeros _ _ fun y hy => by
      obtain ⟨i, hi⟩ := List.mem_iff_getElem?.1 hy
      rw [List.getElem?_drop] at hi
      have := hz (m + 3 + i) (by omega)
      simpa [List.getD, hi] using this
    rw [h1, nval_drop (show m < us.length by omega), nval_drop (show m + 1 < us.length by omega), nval_drop (show m + 2 < us.length by omega), h2, Nat.mul_zero, Nat.add_zero (us.getD (m + 2) 0)]
    congr 2
    rw [Nat.mul_comm W (us.getD (m + 1) 0 + W * us.getD (m + 2) 0), Nat.mul_comm W (us.getD (m + 2) 0), Nat.add_comm (us.getD (m + 1) 0)]
    omega
/-- The two highest words. -/
theorem top2 {W m : Nat} {vs : List Nat} (hW : 1 ≤ W) (hb : ∀ x ∈ vs, x < W) (hm : vs.length = m + 2) :
    ∃ v0, v0 < W ^ m ∧ nval W vs = v0 + W ^ m * (vs.getD (m + 1) 0 * W + vs.getD m 0) := by
  refine ⟨nval W (vs.take m), ?_, ?_⟩
  · refine Nat.lt_of_lt_of_le (nval_lt hW _ fun x hx => hb x (List.mem_of_mem_take hx)) (Nat.pow_le_pow_right hW ?_)
    simp; omega
  · have h1 : nval W vs = nval W (vs.take m) + W ^ m * nval W (vs.drop m) := by
      have := nval_append W (vs.take m) (vs.drop m)
      rw [List.take_append_drop, show (vs.take m).length = m by rw [List.length_take]; omega] at this
      exact this
    rw [h1, nval_drop (show m < vs.length by omega), nval_drop (show m + 1 < vs.length by omega), nval_drop_all (show vs.length ≤ m + 1 + 1 by omega), Nat.mul_zero, Nat.add_zero]
    congr 2
    rw [Nat.mul_comm W]
    omega

/-- Both together: of the words of a window and those of the divisor. -/
structure Gs (W j : Nat) (us vs : List Nat) : Prop where
  W1 : 1 ≤ W
  ub : ∀ x ∈ us, x < W
  vb : ∀ x ∈ vs, x < W
  n2 : 2 ≤ vs.length
  len : j + vs.length + 1 ≤ us.length
  top : 1 ≤ vs.getD (vs.length - 1) 0
  lt : nval W us < nval W vs * W ^ (j + 1)

section
variable {W j : Nat} {us vs : List Nat} (h : Gs W j us vs)
include h
theorem Gs.zero : ∀ i, j + vs.length + 1 ≤ i → us.getD i 0 = 0 := by
  refine hi_zero (W := W) ?_ h.W1
  refine Nat.lt_of_lt_of_le h.lt ?_
  rw [show j + vs.length + 1 = vs.length + (j + 1) by omega, Nat.pow_add W vs.length (j + 1)]
  exact Nat.mul_le_mul_right _ (Nat.le_of_lt (nval_lt h.W1 _ h.vb))
theorem Gs.vpos : 0 < nval W vs := by
  rcases Nat.eq_zero_or_pos (nval W vs) with h0 | h0
  · have := h.lt; rw [h0, Nat.zero_mul] at this; omega
  · exact h0
theorem Gs.form : ∃ x0 v0, x0 < W ^ (j + vs.length - 2) ∧ W ^ j * v0 < W ^ (j + vs.length - 2) ∧
    nval W us = x0 + W ^ (j + vs.length - 2) * ((us.getD (j + vs.length) 0 * W + us.getD (j + vs.length - 1) 0) * W + us.getD (j + vs.length - 2) 0) ∧
    W ^ j * nval W vs = W ^ j * v0 + W ^ (j + vs.length - 2) * (vs.getD (vs.length - 1) 0 * W + vs.getD (vs.length - 2) 0) := by
  obtain ⟨m, hm⟩ : ∃ m, vs.length = m + 2 := ⟨vs.length - 2, by have := h.n2; omega⟩
  have hl := h.len
  obtain ⟨x0, h1, h2⟩ := top3 (m := j + m) h.W1 h.ub (by omega) fun i hi => h.zero i (by omega)
  obtain ⟨v0, h3, h4⟩ := top2 h.W1 h.vb hm
  refine ⟨x0, v0, ?_, ?_, ?_, ?_⟩
  · rw [hm, show j + (m + 2) - 2 = j + m by omega]; exact h1
  · rw [hm, show j + (m + 2) - 2 = j + m by omega, Nat.pow_add]
    exact Nat.mul_lt_mul_of_pos_left h3 (Nat.pow_pos h.W1)
  · rw [hm, show j + (m + 2) - 2 = j + m by omega, show j + (m + 2) - 1 = j + m + 1 by omega, show j + (m + 2) = j + m + 2 by omega]; exact h2
  · rw [hm, h4, show j + (m + 2) - 2 = j + m by omega, show m + 2 - 1 = m + 1 by omega, show m + 2 - 2 = m by omega, Nat.mul_add, Nat.pow_add, Nat.mul_assoc]
/-- The digit. -/
def Gs.q (_ : Gs W j us vs) : Nat := nval W us / (W ^ j * nval W vs)
theorem Gs.npos : 0 < W ^ j * nval W vs := Nat.mul_pos (Nat.pow_pos h.W1) h.vpos
theorem Gs.q_le : h.q * (vs.getD (vs.length - 1) 0 * W + vs.getD (vs.length - 2) 0) ≤ (us.getD (j + vs.length) 0 * W + us.getD (j + vs.length - 1) 0) * W + us.getD (j + vs.length - 2) 0 := by
  obtain ⟨x0, v0, h1, h2, h3, h4⟩ := h.form
  exact gs_up h3 h1 h4 (Nat.div_mul_le_self _ _)
theorem Gs.q_lt : h.q < W := by
  unfold Gs.q
  rw [Nat.div_lt_iff_lt_mul h.npos]
  have e : nval W vs * W ^ (j + 1) = W * (W ^ j * nval W vs) := by rw [Nat.pow_succ, Nat.mul_comm (W ^ j) W, Nat.mul_left_comm, Nat.mul_comm (nval W vs)]
  rw [← e]
  exact h.lt
theorem Gs.top_le : us.getD (j + vs.length) 0 ≤ vs.getD (vs.length - 1) 0 := by
  obtain ⟨x0, v0, h1, h2, h3, h4⟩ := h.form
  have hlt := h.lt
  have e : nval W vs * W ^ (j + 1) = W * (W ^ j * nval W vs) := by rw [Nat.pow_succ, Nat.mul_comm (W ^ j) W, Nat.mul_left_comm, Nat.mul_comm (nval W vs)]
  rw [e, h3, h4] at hlt
  have hv : vs.getD (vs.length - 2) 0 < W := by
    have hl := h.n2
    have : vs.length - 2 < vs.length := by omega
    simp only [List.getD, List.getElem?_eq_getElem this, Option.getD_some]
    exact h.vb _ (List.getElem_mem this)
  generalize us.getD (j + vs.length) 0 = a at *
  generalize vs.getD (vs.length - 1) 0 = b at *
  generalize vs.getD (vs.length - 2) 0 = c at *
  generalize us.getD (j + vs.length - 1) 0 = d at *
  generalize us.getD (j + vs.length - 2) 0 = f at *
  generalize W ^ (j + vs.length - 2) = F at *
  rcases Nat.lt_or_ge b a with hab | hab
  · exfalso
    have h5 : (b + 1) * W ≤ a * W := Nat.mul_le_mul_right W hab
    have h6 : ((b + 1) * W) * W ≤ (a * W + d) * W := Nat.mul_le_mul_right W (by omega)
    have h7 : F * ((b + 1) * W * W) ≤ F * ((a * W + d) * W + f) := Nat.mul_le_mul_left F (by omega)
    have h8 : W * (W ^ j * v0 + F * (b * W + c)) ≤ W * (F * ((b + 1) * W)) := by
      refine Nat.mul_le_mul_left W ?_
      have h9 : F * (b * W + c + 1) ≤ F * ((b + 1) * W) := Nat.mul_le_mul_left F (by rw [Nat.add_mul]; omega)
      rw [Nat.mul_add] at h9
      omega
    have h10 : W * (F * ((b + 1) * W)) = F * ((b + 1) * W * W) := by rw [Nat.mul_left_comm, Nat.mul_comm W ((b + 1) * W)]
    omega
  · exact hab
/-- The first guess, by the highest word. -/
theorem Gs.first (hlt : us.getD (j + vs.length) 0 < vs.getD (vs.length - 1) 0) : h.q ≤ (us.getD (j + vs.length) 0 * W + us.getD (j + vs.length - 1) 0) / vs.getD (vs.length - 1) 0 := by
  have hq := h.q_le
  have hf : us.getD (j + vs.length - 2) 0 < W := by
    have hl := h.len
    have := h.n2
    have : j + vs.length - 2 < us.length := by omega
    simp only [List.getD, List.getElem?_eq_getElem this, Option.getD_some]
    exact h.ub _ (List.getElem_mem this)
  rw [Nat.le_div_iff_mul_le h.top]
  generalize us.getD (j + vs.length) 0 * W + us.getD (j + vs.length - 1) 0 = u at *
  generalize vs.getD (vs.length - 1) 0 = b at *
  rw [Nat.mul_add, ← Nat.mul_assoc] at hq
  rcases Nat.lt_or_ge u (h.q * b) with h1 | h1
  · have h2 : (u + 1) * W ≤ h.q * b * W := Nat.mul_le_mul_right W h1
    rw [Nat.add_mul] at h2
    omega
  · exact h1
/-- One less. -/
theorem Gs.down {q R : Nat} (hR : q * vs.getD (vs.length - 1) 0 + R = us.getD (j + vs.length) 0 * W + us.getD (j + vs.length - 1) 0) (hq : h.q ≤ q) (hlt : R * W + us.getD (j + vs.length - 2) 0 < q * vs.getD (vs.length - 2) 0) : h.q < q := by
  have h1 := h.q_le
  rcases Nat.eq_or_lt_of_le hq with h2 | h2
  · exfalso
    rw [← hR, h2, Nat.mul_add, Nat.add_mul, ← Nat.mul_assoc] at h1
    omega
  · exact h2
/-- The end. -/
theorem Gs.stop {q R : Nat} (hR : q * vs.getD (vs.length - 1) 0 + R = us.getD (j + vs.length) 0 * W + us.getD (j + vs.length - 1) 0) (hqW : q < W) (hle : q * vs.getD (vs.length - 2) 0 ≤ R * W + us.getD (j + vs.length - 2) 0) : q ≤ h.q + 1 := by
  obtain ⟨x0, v0, h1, h2, h3, h4⟩ := h.form
  refine gs_lo h3 h4 h2 ?_ ?_ h.npos
  · rw [← hR, Nat.mul_add, Nat.add_mul, ← Nat.mul_assoc]; omega
  · have : 1 * W ≤ vs.getD (vs.length - 1) 0 * W := Nat.mul_le_mul_right W h.top
    omega
/-- It was not too much. -/
theorem Gs.take {q X1 : Nat} (h1 : X1 + W ^ j * (q * nval W vs) = nval W us) (hq : h.q ≤ q) : q = h.q ∧ X1 < nval W vs * W ^ j := by
  have e : W ^ j * (q * nval W vs) = q * (W ^ j * nval W vs) := Nat.mul_left_comm _ _ _
  have h2 : q ≤ h.q := by
    unfold Gs.q
    rw [Nat.le_div_iff_mul_le h.npos]; omega
  have h3 : q = h.q := by omega
  refine ⟨h3, ?_⟩
  have h4 := Nat.div_add_mod (nval W us) (W ^ j * nval W vs)
  have h5 := Nat.mod_lt (nval W us) h.npos
  have h6 : h.q * (W ^ j * nval W vs) = W ^ j * nval W vs * (nval W us / (W ^ j * nval W vs)) := by unfold Gs.q; exact Nat.mul_comm _ _
  rw [e, h3] at h1
  rw [Nat.mul_comm (nval W vs)]
  omega
/-- It was too much. -/
theorem Gs.back {q X1 X2 c : Nat} (h1 : X1 + W ^ j * (q * nval W vs) = nval W us + W ^ (j + vs.length + 1)) (hX1 : X1 < W ^ (j + vs.length + 1)) (hq : q ≤ h.q + 1)
    (h2 : X2 + W ^ (j + vs.length + 1) * c = X1 + W ^ j * nval W vs) (hX2 : X2 < W ^ (j + vs.length + 1)) (hc : c ≤ 1) :
    q = h.q + 1 ∧ X2 + W ^ j * (h.q * nval W vs) = nval W us ∧ X2 < nval W vs * W ^ j := by
  have e : W ^ j * (q * nval W vs) = q * (W ^ j * nval W vs) := Nat.mul_left_comm _ _ _
  have h4 := Nat.div_add_mod (nval W us) (W ^ j * nval W vs)
  have h5 := Nat.mod_lt (nval W us) h.npos
  have h6 : h.q * (W ^ j * nval W vs) = W ^ j * nval W vs * (nval W us / (W ^ j * nval W vs)) := by unfold Gs.q; exact Nat.mul_comm _ _
  have h3 : q = h.q + 1 := by
    rcases Nat.lt_or_ge h.q q with h3 | h3
    · omega
    · exfalso
      have : q * (W ^ j * nval W vs) ≤ h.q * (W ^ j * nval W vs) := Nat.mul_le_mul_right _ h3
      omega
  have e2 : W ^ j * (h.q * nval W vs) = h.q * (W ^ j * nval W vs) := Nat.mul_left_comm _ _ _
  have h7 : (h.q + 1) * (W ^ j * nval W vs) = h.q * (W ^ j * nval W vs) + W ^ j * nval W vs := by rw [Nat.add_mul, Nat.one_mul]
  refine ⟨h3, ?_⟩
  rw [e, h3, h7] at h1
  rw [e2, Nat.mul_comm (nval W vs)]
  have hc' : c = 0 ∨ c = 1 := by omega
  rcases hc' with rfl | rfl
  · rw [Nat.mul_zero] at h2; omega
  · rw [Nat.mul_one] at h2; omega
end

/-- A digit by one word, with a carry: low and high word. -/
theorem mul_carry {W x c : Nat} (hW : 0 < W) : (x % W + c) % W = (x + c) % W ∧ x / W + (x % W + c) / W = (x + c) / W := by
  refine ⟨Nat.mod_add_mod _ _ _, ?_⟩
  have h := Nat.div_add_mod x W
  have : x + c = (x % W + c) + W * (x / W) := by omega
  rw [this, Nat.add_mul_div_left _ _ hW]; omega
theorem carry_lt {W q w c : Nat} (hq : q < W) (hw : w < W) (hc : c < W) : (q * w + c) / W < W := by
  rw [Nat.div_lt_iff_lt_mul (by omega)]
  have h1 : q * w ≤ (W - 1) * (W - 1) := Nat.mul_le_mul (by omega) (by omega)
  obtain ⟨m, rfl⟩ : ∃ m, W = m + 1 := ⟨W - 1, by omega⟩
  rw [Nat.add_sub_cancel] at h1
  rw [Nat.add_mul, Nat.mul_add]
  omega
/-- Words hold what is taken away, or the borrow tells. -/
theorem less_word {W u lo b : Nat} (hu : u < W) (hlo : lo < W) (hb : b ≤ 1) : (u + W - lo - b) % W + lo + b = u + W * (if u < lo + b then 1 else 0) := by
  split
  · rename_i h
    rw [Nat.mod_eq_of_lt (by omega)]; omega
  · rename_i h
    have : u + W - lo - b = (u - lo - b) + W := by omega
    rw [this, Nat.add_mod_right, Nat.mod_eq_of_lt (by omega)]; omega

end Go.V
namespace Go.V
open Go Go.RowKit Go.Proofs

/-- A word as data. -/
def w64 (n : Nat) : D := .g (.lit (.int .u64 (n : Int)))
theorem rnD_W64 {σ : Nm → Nm} {xs : List Nat} : rnD σ (W64 xs) = W64 xs := rfl
theorem rnD_W32 {σ : Nm → Nm} {xs : List Nat} : rnD σ (W32 xs) = W32 xs := rfl
theorem rnC_W64 {σ : Nm → Nm} {xs : List Nat} : rnC σ (W64 xs) = W64 xs := rfl
theorem rnC_W32 {σ : Nm → Nm} {xs : List Nat} : rnC σ (W32 xs) = W32 xs := rfl
attribute [go_sem] w64 rnD_W64 rnD_W32 rnC_W64 rnC_W32
theorem rS_at {k : IntKind} {xs : List Nat} {i : Nat} (h : i < xs.length) : (rS (eK k) xs)[i]? = some [.g (.lit (.int k (xs.getD i 0 : Nat)))] := by
  rw [rS_get, getD_some h]; rfl

theorem rS_setw {k : IntKind} {xs : List Nat} {i y : Nat} : (rS (eK k) xs).set i [.g (.lit (.int k (y : Int)))] = rS (eK k) (xs.set i y) := rS_set rfl
attribute [go_sem] rS_setw

theorem p_add64 {x y c : Nat} (hc : c ≤ 1) : PC Tryz.prog 89 [w64 x, w64 y, w64 c] fun d => d = .tup [w64 ((x + y + c) % 18446744073709551616), w64 ((x + y + c) / 18446744073709551616)] := pc_new fun w I vs hG hv => by
  obtain ⟨v, v', v'', rfl, h, h', h''⟩ := hv.three
  obtain rfl := h.lit_inv
  obtain rfl := h'.lit_inv
  obtain rfl := h''.lit_inv
  exact add64 x y c hc ⟨Ext.refl _, _, RdD.ofT (.cons (.g (.lit _ rfl)) (.cons (.g (.lit _ rfl)) .nil)), rfl⟩
theorem p_sub64 {x y c : Nat} (hc : c ≤ 1) : PC Tryz.prog 90 [w64 x, w64 y, w64 c] fun d => d = .tup [w64 ((x + 18446744073709551616 - y - c) % 18446744073709551616), w64 (if x < y + c then 1 else 0)] := pc_new fun w I vs hG hv => by
  obtain ⟨v, v', v'', rfl, h, h', h''⟩ := hv.three
  obtain rfl := h.lit_inv
  obtain rfl := h'.lit_inv
  obtain rfl := h''.lit_inv
  exact sub64 x y c hc ⟨Ext.refl _, _, RdD.ofT (.cons (.g (.lit _ rfl)) (.cons (.g (.lit _ rfl)) .nil)), rfl⟩


end Go.V
namespace Go.V
open Go Go.RowKit Go.Proofs



end Go.V
namespace Go.V
open Go Go.RowKit Go.Proofs

/-- A divisor, by a power of two that brings its highest word's highest bit up: as many words. -/
theorem norm_len {B : List Nat} (hb : B64 B) (tB : NoTail B) (h2 : 2 ≤ B.length) :
    (D64 (N64 B * 2 ^ (64 - bitLen (B.getD (B.length - 1) 0)))).length = B.length ∧ B.getD (B.length - 1) 0 ≠ 0 ∧ 18446744073709551616 ^ (B.length - 1) ≤ N64 B := by
  have hne : B ≠ [] := by intro h; subst h; simp at h2
  have htop : B.getD (B.length - 1) 0 ≠ 0 := by
    refine tB _ ?_
    rw [List.getLast?_eq_getElem?, getD_some (by omega)]
  have hlast := nval_last (B := 18446744073709551616) hne
  have hlow : nval 18446744073709551616 (B.take (B.length - 1)) < 18446744073709551616 ^ (B.length - 1) := by
    have := nval_lt (B := 18446744073709551616) (by decide) (B.take (B.length - 1)) fun x hx => hb x (List.mem_of_mem_take hx)
    rwa [show (B.take (B.length - 1)).length = B.length - 1 by simp] at this
  have htw := get_lt hb (by decide) (B.length - 1)
  generalize B.getD (B.length - 1) 0 = t at *
  have hW : (18446744073709551616 : Nat) ^ (B.length - 1) ≤ N64 B := by
    rw [N64, hlast]
    have : 18446744073709551616 ^ (B.length - 1) * 1 ≤ 18446744073709551616 ^ (B.length - 1) * t := Nat.mul_le_mul_left _ (by omega)
    omega
  refine ⟨?_, htop, hW⟩
  have hbl := bitLen_le (n := t) (k := 64) htw
  obtain ⟨hs1, _⟩ := bitLen_spec t
  have hup : N64 B < 18446744073709551616 ^ (B.length - 1) * 2 ^ bitLen t := by
    rw [N64, hlast]
    have : 18446744073709551616 ^ (B.length - 1) * (t + 1) ≤ 18446744073709551616 ^ (B.length - 1) * 2 ^ bitLen t := Nat.mul_le_mul_left _ hs1
    rw [Nat.mul_add] at this; omega
  have hlt : N64 B * 2 ^ (64 - bitLen t) < 18446744073709551616 ^ B.length := by
    have h3 := Nat.mul_lt_mul_of_pos_right hup (Nat.two_pow_pos (64 - bitLen t))
    have h4 : 18446744073709551616 ^ (B.length - 1) * 2 ^ bitLen t * 2 ^ (64 - bitLen t) = 18446744073709551616 ^ B.length := by
      rw [Nat.mul_assoc, ← Nat.pow_add, show bitLen t + (64 - bitLen t) = 64 by omega]
      conv => rhs; rw [show B.length = B.length - 1 + 1 by omega, Nat.pow_succ]
    omega
  have h5 : (D64 (N64 B * 2 ^ (64 - bitLen t))).length ≤ B.length := digs_len_le (B := 18446744073709551616) (by decide) hlt
  have h6 : N64 B * 2 ^ (64 - bitLen t) < 18446744073709551616 ^ (D64 (N64 B * 2 ^ (64 - bitLen t))).length := lt_pow_len (B := 18446744073709551616) (by decide) (N64 B * 2 ^ (64 - bitLen t))
  rcases Nat.lt_or_ge (D64 (N64 B * 2 ^ (64 - bitLen t))).length B.length with h7 | h7
  · exfalso
    have h8 : 18446744073709551616 ^ (D64 (N64 B * 2 ^ (64 - bitLen t))).length ≤ 18446744073709551616 ^ (B.length - 1) := Nat.pow_le_pow_right (by decide) (by omega)
    have h9 : N64 B * 1 ≤ N64 B * 2 ^ (64 - bitLen t) := Nat.mul_le_mul_left _ (Nat.two_pow_pos _)
    omega
  · omega


end Go.V
namespace Go.V
open Go Go.RowKit Go.Proofs



end Go.V

/- Long division, word by word: the plain laws. No program, no model. Package nat: long division by words, over values as data. Package nat: long division by words, over values as data: a number by a word taken away, and given back. Package nat: long division by words, over values as data: the quotient and the rest; Div. Package nat: Div, over values as data. -/
import Derived.Test.YtilnmcabjkpohaaDoorPD
import Derived.Test.YtilnmcabjkpohaaDoorPT
set_option linter.unusedVariables false
set_option linter.unusedSimpArgs false
set_option maxRecDepth 100000
namespace Go.V

/-- The digit of a quotient, by the highest words: not above what they allow. -/
theorem gs_up {F D v0 T x0 s X N : Nat} (hX : X = x0 + F * T) (hx : x0 < F) (hN : N = v0 + F * D) (hs : s * N ≤ X) : s * D ≤ T := by
  subst hX hN
  rcases Nat.lt_or_ge T (s * D) with h | h
  · have h1 : F * (T + 1) ≤ F * (s * D) := Nat.mul_le_mul_left F h
    rw [Nat.mul_add, Nat.mul_one] at h1
    have h2 : s * (v0 + F * D) = s * v0 + F * (s * D) := by rw [Nat.mul_add, Nat.mul_left_comm]
    omega
  · exact h
/-- What they allow is one above it at most. -/
theorem gs_lo {F D v0 T x0 q X N : Nat} (hX : X = x0 + F * T) (hN : N = v0 + F * D) (hv : v0 < F) (hq : q * D ≤ T) (hqD : q ≤ D) (h0 : 0 < N) : q ≤ X / N + 1 := by
  subst hX hN
  rcases Nat.eq_zero_or_pos q with rfl | hp
  · exact Nat.zero_le _
  obtain ⟨r, rfl⟩ : ∃ r, q = r + 1 := ⟨q - 1, by omega⟩
  have : r ≤ (x0 + F * T) / (v0 + F * D) := by
    rw [Nat.le_div_iff_mul_le h0]
    have h1 : r * v0 ≤ r * F := Nat.mul_le_mul_left r (Nat.le_of_lt hv)
    have h2 : r * (v0 + F * D) = r * v0 + F * (r * D) := by rw [Nat.mul_add, Nat.mul_left_comm]
    have h3 : F * (r * D + r) ≤ F * T := Nat.mul_le_mul_left F (by rw [Nat.add_mul] at hq; omega)
    rw [Nat.mul_add, Nat.mul_comm F r] at h3
    omega
  omega
theorem hi_zero {W m : Nat} {us : List Nat} (h : nval W us < W ^ m) (hW : 1 ≤ W) : ∀ i, m ≤ i → us.getD i 0 = 0 := by
  intro i hi
  by_cases hl : i < us.length
  · have h1 := nval_set (B := W) (y := 0) hl
    have h2 : W ^ m ≤ W ^ i := Nat.pow_le_pow_right hW hi
    rcases Nat.eq_zero_or_pos (us.getD i 0) with h3 | h3
    · exact h3
    · have : W ^ i * 1 ≤ W ^ i * us.getD i 0 := Nat.mul_le_mul_left _ h3
      omega
  · simp [List.getD, List.getElem?_eq_none (Nat.le_of_not_lt hl)]
theorem hi_lt {W m : Nat} {us : List Nat} (hW : 1 ≤ W) (hb : ∀ x ∈ us, x < W) (h : ∀ i, m ≤ i → us.getD i 0 = 0) : nval W us < W ^ m := by
  rw [← nval_take h]
  refine Nat.lt_of_lt_of_le (nval_lt hW _ fun x hx => hb x (List.mem_of_mem_take hx)) (Nat.pow_le_pow_right hW ?_)
  simp; omega
/-- The three highest words of a number. -/
theorem top3 {W m : Nat} {us : List Nat} (hW : 1 ≤ W) (hb : ∀ x ∈ us, x < W) (hm : m + 3 ≤ us.length) (hz : ∀ i, m + 3 ≤ i → us.getD i 0 = 0) :
    ∃ x0, x0 < W ^ m ∧ nval W us = x0 + W ^ m * ((us.getD (m + 2) 0 * W + us.getD (m + 1) 0) * W + us.getD m 0) := by
  refine ⟨nval W (us.take m), ?_, ?_⟩
  · refine Nat.lt_of_lt_of_le (nval_lt hW _ fun x hx => hb x (List.mem_of_mem_take hx)) (Nat.pow_le_pow_right hW ?_)
    simp; omega
  · have h1 : nval W us = nval W (us.take m) + W ^ m * nval W (us.drop m) := by
      have := nval_append W (us.take m) (us.drop m)
      rw [List.take_append_drop, show (us.take m).length = m by rw [List.length_take]; omega] at this
      exact this
    have h2 : nval W (us.drop (m + 3)) = 0 := nval_zeros _ _ fun y hy => by
      obtain ⟨i, hi⟩ := List.mem_iff_getElem?.1 hy
      rw [List.getElem?_drop] at hi
      have := hz (m + 3 + i) (by omega)
      simpa [List.getD, hi] using this
    rw [h1, nval_drop (show m < us.length by omega), nval_drop (show m + 1 < us.length by omega), nval_drop (show m + 2 < us.length by omega), h2, Nat.mul_zero, Nat.add_zero (us.getD (m + 2) 0)]
    congr 2
    rw [Nat.mul_comm W (us.getD (m + 1) 0 + W * us.getD (m + 2) 0), Nat.mul_comm W (us.getD (m + 2) 0), Nat.add_comm (us.getD (m + 1) 0)]
    omega
/-- The two highest words. -/
theorem top2 {W m : Nat} {vs : List Nat} (hW : 1 ≤ W) (hb : ∀ x ∈ vs, x < W) (hm : vs.length = m + 2) :
    ∃ v0, v0 < W ^ m ∧ nval W vs = v0 + W ^ m * (vs.getD (m + 1) 0 * W + vs.getD m 0) := by
  refine ⟨nval W (vs.take m), ?_, ?_⟩
  · refine Nat.lt_of_lt_of_le (nval_lt hW _ fun x hx => hb x (List.mem_of_mem_take hx)) (Nat.pow_le_pow_right hW ?_)
    simp; omega
  · have h1 : nval W vs = nval W (vs.take m) + W ^ m * nval W (vs.drop m) := by
      have := nval_append W (vs.take m) (vs.drop m)
      rw [List.take_append_drop, show (vs.take m).length = m by rw [List.length_take]; omega] at this
      exact this
    rw [h1, nval_drop (show m < vs.length by omega), nval_drop (show m + 1 < vs.length by omega), nval_drop_all (show vs.length ≤ m + 1 + 1 by omega), Nat.mul_zero, Nat.add_zero]
    congr 2
    rw [Nat.mul_comm W]
    omega

/-- Both together: of the words of a window and those of the divisor. -/
structure Gs (W j : Nat) (us vs : List Nat) : Prop where
  W1 : 1 ≤ W
  ub : ∀ x ∈ us, x < W
  vb : ∀ x ∈ vs, x < W
  n2 : 2 ≤ vs.length
  len : j + vs.length + 1 ≤ us.length
  top : 1 ≤ vs.getD (vs.length - 1) 0
  lt : nval W us < nval W vs * W ^ (j + 1)

section
variable {W j : Nat} {us vs : List Nat} (h : Gs W j us vs)
include h
theorem Gs.zero : ∀ i, j + vs.length + 1 ≤ i → us.getD i 0 = 0 := by
  refine hi_zero (W := W) ?_ h.W1
  refine Nat.lt_of_lt_of_le h.lt ?_
  rw [show j + vs.length + 1 = vs.length + (j + 1) by omega, Nat.pow_add W vs.length (j + 1)]
  exact Nat.mul_le_mul_right _ (Nat.le_of_lt (nval_lt h.W1 _ h.vb))
theorem Gs.vpos : 0 < nval W vs := by
  rcases Nat.eq_zero_or_pos (nval W vs) with h0 | h0
  · have := h.lt; rw [h0, Nat.zero_mul] at this; omega
  · exact h0
theorem Gs.form : ∃ x0 v0, x0 < W ^ (j + vs.length - 2) ∧ W ^ j * v0 < W ^ (j + vs.length - 2) ∧
    nval W us = x0 + W ^ (j + vs.length - 2) * ((us.getD (j + vs.length) 0 * W + us.getD (j + vs.length - 1) 0) * W + us.getD (j + vs.length - 2) 0) ∧
    W ^ j * nval W vs = W ^ j * v0 + W ^ (j + vs.length - 2) * (vs.getD (vs.length - 1) 0 * W + vs.getD (vs.length - 2) 0) := by
  obtain ⟨m, hm⟩ : ∃ m, vs.length = m + 2 := ⟨vs.length - 2, by have := h.n2; omega⟩
  have hl := h.len
  obtain ⟨x0, h1, h2⟩ := top3 (m := j + m) h.W1 h.ub (by omega) fun i hi => h.zero i (by omega)
  obtain ⟨v0, h3, h4⟩ := top2 h.W1 h.vb hm
  refine ⟨x0, v0, ?_, ?_, ?_, ?_⟩
  · rw [hm, show j + (m + 2) - 2 = j + m by omega]; exact h1
  · rw [hm, show j + (m + 2) - 2 = j + m by omega, Nat.pow_add]
    exact Nat.mul_lt_mul_of_pos_left h3 (Nat.pow_pos h.W1)
  · rw [hm, show j + (m + 2) - 2 = j + m by omega, show j + (m + 2) - 1 = j + m + 1 by omega, show j + (m + 2) = j + m + 2 by omega]; exact h2
  · rw [hm, h4, show j + (m + 2) - 2 = j + m by omega, show m + 2 - 1 = m + 1 by omega, show m + 2 - 2 = m by omega, Nat.mul_add, Nat.pow_add, Nat.mul_assoc]
/-- The digit. -/
def Gs.q (_ : Gs W j us vs) : Nat := nval W us / (W ^ j * nval W vs)
theorem Gs.npos : 0 < W ^ j * nval W vs := Nat.mul_pos (Nat.pow_pos h.W1) h.vpos
theorem Gs.q_le : h.q * (vs.getD (vs.length - 1) 0 * W + vs.getD (vs.length - 2) 0) ≤ (us.getD (j + vs.length) 0 * W + us.getD (j + vs.length - 1) 0) * W + us.getD (j + vs.length - 2) 0 := by
  obtain ⟨x0, v0, h1, h2, h3, h4⟩ := h.form
  exact gs_up h3 h1 h4 (Nat.div_mul_le_self _ _)
theorem Gs.q_lt : h.q < W := by
  unfold Gs.q
  rw [Nat.div_lt_iff_lt_mul h.npos]
  have e : nval W vs * W ^ (j + 1) = W * (W ^ j * nval W vs) := by rw [Nat.pow_succ, Nat.mul_comm (W ^ j) W, Nat.mul_left_comm, Nat.mul_comm (nval W vs)]
  rw [← e]
  exact h.lt
theorem Gs.top_le : us.getD (j + vs.length) 0 ≤ vs.getD (vs.length - 1) 0 := by
  obtain ⟨x0, v0, h1, h2, h3, h4⟩ := h.form
  have hlt := h.lt
  have e : nval W vs * W ^ (j + 1) = W * (W ^ j * nval W vs) := by rw [Nat.pow_succ, Nat.mul_comm (W ^ j) W, Nat.mul_left_comm, Nat.mul_comm (nval W vs)]
  rw [e, h3, h4] at hlt
  have hv : vs.getD (vs.length - 2) 0 < W := by
    have hl := h.n2
    have : vs.length - 2 < vs.length := by omega
    simp only [List.getD, List.getElem?_eq_getElem this, Option.getD_some]
    exact h.vb _ (List.getElem_mem this)
  generalize us.getD (j + vs.length) 0 = a at *
  generalize vs.getD (vs.length - 1) 0 = b at *
  generalize vs.getD (vs.length - 2) 0 = c at *
  generalize us.getD (j + vs.length - 1) 0 = d at *
  generalize us.getD (j + vs.length - 2) 0 = f at *
  generalize W ^ (j + vs.length - 2) = F at *
  rcases Nat.lt_or_ge b a with hab | hab
  · exfalso
    have h5 : (b + 1) * W ≤ a * W := Nat.mul_le_mul_right W hab
    have h6 : ((b + 1) * W) * W ≤ (a * W + d) * W := Nat.mul_le_mul_right W (by omega)
    have h7 : F * ((b + 1) * W * W) ≤ F * ((a * W + d) * W + f) := Nat.mul_le_mul_left F (by omega)
    have h8 : W * (W ^ j * v0 + F * (b * W + c)) ≤ W * (F * ((b + 1) * W)) := by
      refine Nat.mul_le_mul_left W ?_
      have h9 : F * (b * W + c + 1) ≤ F * ((b + 1) * W) := Nat.mul_le_mul_left F (by rw [Nat.add_mul]; omega)
      rw [Nat.mul_add] at h9
      omega
    have h10 : W * (F * ((b + 1) * W)) = F * ((b + 1) * W * W) := by rw [Nat.mul_left_comm, Nat.mul_comm W ((b + 1) * W)]
    omega
  · exact hab
/-- The first guess, by the highest word. -/
theorem Gs.first (hlt : us.getD (j + vs.length) 0 < vs.getD (vs.length - 1) 0) : h.q ≤ (us.getD (j + vs.length) 0 * W + us.getD (j + vs.length - 1) 0) / vs.getD (vs.length - 1) 0 := by
  have hq := h.q_le
  have hf : us.getD (j + vs.length - 2) 0 < W := by
    have hl := h.len
    have := h.n2
    have : j + vs.length - 2 < us.length := by omega
    simp only [List.getD, List.getElem?_eq_getElem this, Option.getD_some]
    exact h.ub _ (List.getElem_mem this)
  rw [Nat.le_div_iff_mul_le h.top]
  generalize us.getD (j + vs.length) 0 * W + us.getD (j + vs.length - 1) 0 = u at *
  generalize vs.getD (vs.length - 1) 0 = b at *
  rw [Nat.mul_add, ← Nat.mul_assoc] at hq
  rcases Nat.lt_or_ge u (h.q * b) with h1 | h1
  · have h2 : (u + 1) * W ≤ h.q * b * W := Nat.mul_le_mul_right W h1
    rw [Nat.add_mul] at h2
    omega
  · exact h1
/-- One less. -/
theorem Gs.down {q R : Nat} (hR : q * vs.getD (vs.length - 1) 0 + R = us.getD (j + vs.length) 0 * W + us.getD (j + vs.length - 1) 0) (hq : h.q ≤ q) (hlt : R * W + us.getD (j + vs.length - 2) 0 < q * vs.getD (vs.length - 2) 0) : h.q < q := by
  have h1 := h.q_le
  rcases Nat.eq_or_lt_of_le hq with h2 | h2
  · exfalso
    rw [← hR, h2, Nat.mul_add, Nat.add_mul, ← Nat.mul_assoc] at h1
    omega
  · exact h2
/-- The end. -/
theorem Gs.stop {q R : Nat} (hR : q * vs.getD (vs.length - 1) 0 + R = us.getD (j + vs.length) 0 * W + us.getD (j + vs.length - 1) 0) (hqW : q < W) (hle : q * vs.getD (vs.length - 2) 0 ≤ R * W + us.getD (j + vs.length - 2) 0) : q ≤ h.q + 1 := by
  obtain ⟨x0, v0, h1, h2, h3, h4⟩ := h.form
  refine gs_lo h3 h4 h2 ?_ ?_ h.npos
  · rw [← hR, Nat.mul_add, Nat.add_mul, ← Nat.mul_assoc]; omega
  · have : 1 * W ≤ vs.getD (vs.length - 1) 0 * W := Nat.mul_le_mul_right W h.top
    omega
/-- It was not too much. -/
theorem Gs.take {q X1 : Nat} (h1 : X1 + W ^ j * (q * nval W vs) = nval W us) (hq : h.q ≤ q) : q = h.q ∧ X1 < nval W vs * W ^ j := by
  have e : W ^ j * (q * nval W vs) = q * (W ^ j * nval W vs) := Nat.mul_left_comm _ _ _
  have h2 : q ≤ h.q := by
    unfold Gs.q
    rw [Nat.le_div_iff_mul_le h.npos]; omega
  have h3 : q = h.q := by omega
  refine ⟨h3, ?_⟩
  have h4 := Nat.div_add_mod (nval W us) (W ^ j * nval W vs)
  have h5 := Nat.mod_lt (nval W us) h.npos
  have h6 : h.q * (W ^ j * nval W vs) = W ^ j * nval W vs * (nval W us / (W ^ j * nval W vs)) := by unfold Gs.q; exact Nat.mul_comm _ _
  rw [e, h3] at h1
  rw [Nat.mul_comm (nval W vs)]
  omega
/-- It was too much. -/
theorem Gs.back {q X1 X2 c : Nat} (h1 : X1 + W ^ j * (q * nval W vs) = nval W us + W ^ (j + vs.length + 1)) (hX1 : X1 < W ^ (j + vs.length + 1)) (hq : q ≤ h.q + 1)
    (h2 : X2 + W ^ (j + vs.length + 1) * c = X1 + W ^ j * nval W vs) (hX2 : X2 < W ^ (j + vs.length + 1)) (hc : c ≤ 1) :
    q = h.q + 1 ∧ X2 + W ^ j * (h.q * nval W vs) = nval W us ∧ X2 < nval W vs * W ^ j := by
  have e : W ^ j * (q * nval W vs) = q * (W ^ j * nval W vs) := Nat.mul_left_comm _ _ _
  have h4 := Nat.div_add_mod (nval W us) (W ^ j * nval W vs)
  have h5 := Nat.mod_lt (nval W us) h.npos
  have h6 : h.q * (W ^ j * nval W vs) = W ^ j * nval W vs * (nval W us / (W ^ j * nval W vs)) := by unfold Gs.q; exact Nat.mul_comm _ _
  have h3 : q = h.q + 1 := by
    rcases Nat.lt_or_ge h.q q with h3 | h3
    · omega
    · exfalso
      have : q * (W ^ j * nval W vs) ≤ h.q * (W ^ j * nval W vs) := Nat.mul_le_mul_right _ h3
      omega
  have e2 : W ^ j * (h.q * nval W vs) = h.q * (W ^ j * nval W vs) := Nat.mul_left_comm _ _ _
  have h7 : (h.q + 1) * (W ^ j * nval W vs) = h.q * (W ^ j * nval W vs) + W ^ j * nval W vs := by rw [Nat.add_mul, Nat.one_mul]
  refine ⟨h3, ?_⟩
  rw [e, h3, h7] at h1
  rw [e2, Nat.mul_comm (nval W vs)]
  have hc' : c = 0 ∨ c = 1 := by omega
  rcases hc' with rfl | rfl
  · rw [Nat.mul_zero] at h2; omega
  · rw [Nat.mul_one] at h2; omega
end

/-- A digit by one word, with a carry: low and high word. -/
theorem mul_carry {W x c : Nat} (hW : 0 < W) : (x % W + c) % W = (x + c) % W ∧ x / W + (x % W + c) / W = (x + c) / W := by
  refine ⟨Nat.mod_add_mod _ _ _, ?_⟩
  have h := Nat.div_add_mod x W
  have : x + c = (x % W + c) + W * (x / W) := by omega
  rw [this, Nat.add_mul_div_left _ _ hW]; omega
theorem carry_lt {W q w c : Nat} (hq : q < W) (hw : w < W) (hc : c < W) : (q * w + c) / W < W := by
  rw [Nat.div_lt_iff_lt_mul (by omega)]
  have h1 : q * w ≤ (W - 1) * (W - 1) := Nat.mul_le_mul (by omega) (by omega)
  obtain ⟨m, rfl⟩ : ∃ m, W = m + 1 := ⟨W - 1, by omega⟩
  rw [Nat.add_sub_cancel] at h1
  rw [Nat.add_mul, Nat.mul_add]
  omega
/-- Words hold what is taken away, or the borrow tells. -/
theorem less_word {W u lo b : Nat} (hu : u < W) (hlo : lo < W) (hb : b ≤ 1) : (u + W - lo - b) % W + lo + b = u + W * (if u < lo + b then 1 else 0) := by
  split
  · rename_i h
    rw [Nat.mod_eq_of_lt (by omega)]; omega
  · rename_i h
    have : u + W - lo - b = (u - lo - b) + W := by omega
    rw [this, Nat.add_mod_right, Nat.mod_eq_of_lt (by omega)]; omega

end Go.V
namespace Go.V
open Go Go.RowKit Go.Proofs
def qDX_54_2 : List (Nat × Nat) := [(0, 0), (1, 0), (2, 0), (3, 1), (4, 0), (5, 0), (6, 0), (7, 0), (8, 1), (9, 0), (10, 0), (11, 0), (12, 0), (13, 1), (14, 0), (15, 0), (16, 0)]
attribute [go_sem] qDX_54_2

/-- A word as data. -/
def w64 (n : Nat) : D := .g (.lit (.int .u64 (n : Int)))
theorem rnD_W64 {σ : Nm → Nm} {xs : List Nat} : rnD σ (W64 xs) = W64 xs := rfl
theorem rnD_W32 {σ : Nm → Nm} {xs : List Nat} : rnD σ (W32 xs) = W32 xs := rfl
theorem rnC_W64 {σ : Nm → Nm} {xs : List Nat} : rnC σ (W64 xs) = W64 xs := rfl
theorem rnC_W32 {σ : Nm → Nm} {xs : List Nat} : rnC σ (W32 xs) = W32 xs := rfl
attribute [go_sem] w64 rnD_W64 rnD_W32 rnC_W64 rnC_W32
theorem rS_at {k : IntKind} {xs : List Nat} {i : Nat} (h : i < xs.length) : (rS (eK k) xs)[i]? = some [.g (.lit (.int k (xs.getD i 0 : Nat)))] := by
  rw [rS_get, getD_some h]; rfl

theorem rS_setw {k : IntKind} {xs : List Nat} {i y : Nat} : (rS (eK k) xs).set i [.g (.lit (.int k (y : Int)))] = rS (eK k) (xs.set i y) := rS_set rfl
attribute [go_sem] rS_setw

theorem p_add64 {x y c : Nat} (hc : c ≤ 1) : PC Tryd.prog 41 [w64 x, w64 y, w64 c] fun d => d = .tup [w64 ((x + y + c) % 18446744073709551616), w64 ((x + y + c) / 18446744073709551616)] := pc_new fun w I vs hG hv => by
  obtain ⟨v, v', v'', rfl, h, h', h''⟩ := hv.three
  obtain rfl := h.lit_inv
  obtain rfl := h'.lit_inv
  obtain rfl := h''.lit_inv
  exact add64 x y c hc ⟨Ext.refl _, _, RdD.ofT (.cons (.g (.lit _ rfl)) (.cons (.g (.lit _ rfl)) .nil)), rfl⟩
theorem p_sub64 {x y c : Nat} (hc : c ≤ 1) : PC Tryd.prog 38 [w64 x, w64 y, w64 c] fun d => d = .tup [w64 ((x + 18446744073709551616 - y - c) % 18446744073709551616), w64 (if x < y + c then 1 else 0)] := pc_new fun w I vs hG hv => by
  obtain ⟨v, v', v'', rfl, h, h', h''⟩ := hv.three
  obtain rfl := h.lit_inv
  obtain rfl := h'.lit_inv
  obtain rfl := h''.lit_inv
  exact sub64 x y c hc ⟨Ext.refl _, _, RdD.ofT (.cons (.g (.lit _ rfl)) (.cons (.g (.lit _ rfl)) .nil)), rfl⟩
theorem p_mul64 {x y : Nat} (hx : x < 18446744073709551616) (hy : y < 18446744073709551616) : PC Tryd.prog 45 [w64 x, w64 y] fun d => d = .tup [w64 (x * y / 18446744073709551616), w64 (x * y % 18446744073709551616)] := pc_new fun w I vs hG hv => by
  obtain ⟨v, v', rfl, h, h'⟩ := hv.two
  obtain rfl := h.lit_inv
  obtain rfl := h'.lit_inv
  exact mul64 x y hx hy ⟨Ext.refl _, _, RdD.ofT (.cons (.g (.lit _ rfl)) (.cons (.g (.lit _ rfl)) .nil)), rfl⟩
theorem p_div64 {hi lo y : Nat} (hlt : hi < y) (hlo : lo < 18446744073709551616) (hy : y < 18446744073709551616) :
    PC Tryd.prog 52 [w64 hi, w64 lo, w64 y] fun d => d = .tup [w64 ((hi * 18446744073709551616 + lo) / y), w64 ((hi * 18446744073709551616 + lo) % y)] := pc_new fun w I vs hG hv => by
  obtain ⟨v, v', v'', rfl, h, h', h''⟩ := hv.three
  obtain rfl := h.lit_inv
  obtain rfl := h'.lit_inv
  obtain rfl := h''.lit_inv
  exact div64 hi lo y hlt hlo hy fun w' hE => ⟨hE, _, RdD.ofT (.cons (.g (.lit _ rfl)) (.cons (.g (.lit _ rfl)) .nil)), rfl⟩
theorem p_lz64 {x : Nat} (hx : x < 18446744073709551616) : PC Tryd.prog 53 [w64 x] fun d => d = i64 (64 - bitLen x : Nat) := pc_lit fun w I vs hG hv => by
  obtain ⟨v, rfl, h⟩ := hv.one
  obtain rfl := h.lit_inv
  exact lz64 x hx ⟨Ext.refl _, rfl, rfl⟩

set_option maxHeartbeats 4000000 in
theorem p_guess {k : Nm} {S : Store} {Q : D → Store → Prop} {b j cap p : Nat} {us V : List Nat} (hS : S k = some ⟨b, 1, p, rS (eK .u64) us⟩) (h : Gs 18446744073709551616 j us V) (hl : us.length ≤ 2199023255552)
    (hQ : ∀ q, q < 18446744073709551616 → h.q ≤ q → q ≤ h.q + 1 → Q (w64 q) S) : PFC Tryd.prog 54 [.own k b j (V.length + 1) cap 1, W64 V] S Q := by
  have d1 := @dl 2 qDX_54_2
  refine PFB (rs := [.tmp 4]) Tryd.func54 ?_
  have h2 := h.n2
  have hlen := h.len
  have e1 : (V.length : Int) - 1 = ((V.length - 1 : Nat) : Int) := by omega
  have e2 : (V.length : Int) - 2 = ((V.length - 2 : Nat) : Int) := by omega
  have k1 : j + V.length - 1 = j + (V.length - 1) := by omega
  have k2 : j + V.length - 2 = j + (V.length - 2) := by omega
  have g0 := rS_at (k := .u64) (xs := us) (i := j + V.length) (by omega)
  have g1 := rS_at (k := .u64) (xs := us) (i := j + (V.length - 1)) (by omega)
  have g2 := rS_at (k := .u64) (xs := us) (i := j + (V.length - 2)) (by omega)
  have htl := h.top_le
  have hfirst := h.first
  have hdown := @Gs.down _ _ _ _ h
  have hstop := @Gs.stop _ _ _ _ h
  rw [k1] at hfirst hdown hstop
  rw [k2] at hdown hstop
  have b0 := get_lt h.ub (by decide) (j + V.length)
  have b1 := get_lt h.ub (by decide) (j + (V.length - 1))
  have b2 := get_lt h.ub (by decide) (j + (V.length - 2))
  have c1 := get_lt h.vb (by decide) (V.length - 1)
  have c2 := get_lt h.vb (by decide) (V.length - 2)
  have ht1 := h.top
  have hqW := h.q_lt
  generalize us.getD (j + V.length) 0 = top at *
  generalize us.getD (j + (V.length - 1)) 0 = next at *
  generalize us.getD (j + (V.length - 2)) 0 = low at *
  generalize hv1 : V.getD (V.length - 1) 0 = v1 at *
  generalize hv2 : V.getD (V.length - 2) 0 = v2 at *
  repeat (first | (with_reducible first | refine pv_seq fun K hK => ?_ | refine pv_reg ?_ | refine pv_draw (id := 2) qDX_54_2 (by kernel_rfl) ?_) | ((with_reducible first | refine hK _ _ ?_ | (clear hK; refine hK _ _ ?_) | (clear hK; clear hK; refine hK _ _ ?_)); clear hK; try clear K) | simp -implicitDefEqProofs only [upS_up, hS, e1, e2, g0, g1, g2, hv1, hv2, true_and, go_sem, seval] | with_reducible intro b | (with_reducible refine And.intro ?_ ?_; · first | assumption | omega | (unfold R64; omega)))
  have J : ∀ (e : DEnv) (q R : Nat), q * v1 + R = top * 18446744073709551616 + next → h.q ≤ q → q < 18446744073709551616 → e 1 = W64 V → e 5 = i64 V.length → e 8 = w64 low → e 9 = w64 q → e 10 = w64 (R % 18446744073709551616) → e 11 = w64 (R / 18446744073709551616) → K e (upS S) := by
    intro e q R hR hq hqw f1 f5 f8 f9 f10 f11
    repeat (first | (with_reducible first | refine pv_seq fun K hK => ?_ | refine pv_reg ?_ | refine pv_draw (id := 2) qDX_54_2 (by kernel_rfl) ?_) | ((with_reducible first | refine hK _ _ ?_ | (clear hK; refine hK _ _ ?_) | (clear hK; clear hK; refine hK _ _ ?_)); clear hK; try clear K) | simp -implicitDefEqProofs only [upS_up, hS, e1, e2, g0, g1, g2, hv1, hv2, f1, f5, f8, f9, f10, f11, true_and, go_sem, seval] | with_reducible intro b | (with_reducible refine And.intro ?_ ?_; · first | assumption | omega | (unfold R64; omega)))
    have J2 : ∀ (e : DEnv) (q : Nat), h.q ≤ q → q ≤ h.q + 1 → q < 18446744073709551616 → e 9 = w64 q → K e (upS S) := by
      intro e q hq1 hq2 hqw f9
      have ft := f9
      repeat (first | with_reducible refine pv_seq fun K hK => ?_ | ((with_reducible first | refine hK _ _ ?_ | (clear hK; refine hK _ _ ?_) | (clear hK; clear hK; refine hK _ _ ?_)); clear hK; try clear K) | refine W0 ?_ | exact Z | with_reducible intro b)
      exact hQ q hqw hq1 hq2
    clear hK
    refine pv_loop (fun e S' => S' = upS S ∧ ∃ q R, q * v1 + R = top * 18446744073709551616 + next ∧ h.q ≤ q ∧ q < 18446744073709551616 ∧ e 1 = W64 V ∧ e 5 = i64 V.length ∧ e 8 = w64 low ∧ e 9 = w64 q ∧ e 10 = w64 (R % 18446744073709551616) ∧ e 11 = w64 (R / 18446744073709551616)) (fun e _ => (intD (e 9)).toNat) ?_ ?_
    · exact ⟨rfl, q, R, hR, hq, hqw, f1, f5, f8, f9, f10, f11⟩
    · clear hR hq hqw f1 f5 f8 f9 f10 f11 e q R
      rintro e _ ⟨rfl, q, R, hR, hq, hqw, f1, f5, f8, f9, f10, f11⟩
      have hmz : (intD (e 9)).toNat = q := by rw [f9]; rfl
      by_cases hov : R < 18446744073709551616
      · have hR0 : R / 18446744073709551616 = 0 := Nat.div_eq_of_lt hov
        have hR1 : R % 18446744073709551616 = R := Nat.mod_eq_of_lt hov
        have ft := And.intro e1 (And.intro e2 (And.intro hv1 (And.intro hv2 (And.intro f1 (And.intro f5 (And.intro f8 (And.intro f9 (And.intro f10 (And.intro f11 (And.intro hR0 hR1))))))))))
        repeat (first | with_reducible refine pv_seq fun K hK => ?_ | ((with_reducible first | refine hK _ _ ?_ | (clear hK; refine hK _ _ ?_) | (clear hK; clear hK; refine hK _ _ ?_)); clear hK; try clear K) | refine W0 ?_ | exact Z | with_reducible intro b)
        refine call_is (p_mul64 hqw c2) ?_
        have hdm := Nat.div_add_mod (q * v2) 18446744073709551616
        have hml := Nat.mod_lt (q * v2) (show 0 < 18446744073709551616 by decide)
        generalize q * v2 / 18446744073709551616 = hi at hdm
        generalize q * v2 % 18446744073709551616 = lo at hdm hml
        have go : R * 18446744073709551616 + low < q * v2 → h.q < q ∧ 0 < q ∧ (q - 1) * v1 + (R + v1) = top * 18446744073709551616 + next := by
          intro hlt
          have h5 := hdown hR hq hlt
          refine ⟨h5, by omega, ?_⟩
          obtain ⟨r, rfl⟩ : ∃ r, q = r + 1 := ⟨q - 1, by omega⟩
          rw [Nat.add_mul] at hR
          rw [Nat.add_sub_cancel]; omega
        have h6 : (hi < R ∨ (hi = R ∧ lo ≤ low)) ∨ (¬ hi < R ∧ hi = R ∧ ¬ lo ≤ low) ∨ (¬ hi < R ∧ ¬ hi = R) := by omega
        rcases h6 with (h6 | ⟨h6, h7⟩) | ⟨h6, h7, h8⟩ | ⟨h6, h7⟩
        · have i1 : (hi < R) = True := eq_true h6
          have ft := And.intro e1 (And.intro e2 (And.intro hv1 (And.intro hv2 (And.intro f1 (And.intro f5 (And.intro f8 (And.intro f9 (And.intro f10 (And.intro f11 (And.intro hR0 (And.intro hR1 i1)))))))))))
          repeat (first | with_reducible refine pv_seq fun K hK => ?_ | ((with_reducible first | refine hK _ _ ?_ | (clear hK; refine hK _ _ ?_) | (clear hK; clear hK; refine hK _ _ ?_)); clear hK; try clear K) | refine W0 ?_ | exact Z | with_reducible intro b)
          exact J2 _ q hq (hstop hR hqw (by omega)) hqw Z
        · have i1 : (hi < R) = False := eq_false (by omega)
          have i2 : (hi = R) = True := eq_true h6
          have i3 : (lo ≤ low) = True := eq_true h7
          have ft := And.intro e1 (And.intro e2 (And.intro hv1 (And.intro hv2 (And.intro f1 (And.intro f5 (And.intro f8 (And.intro f9 (And.intro f10 (And.intro f11 (And.intro hR0 (And.intro hR1 (And.intro i1 (And.intro i2 i3)))))))))))))
          repeat (first | with_reducible refine pv_seq fun K hK => ?_ | ((with_reducible first | refine hK _ _ ?_ | (clear hK; refine hK _ _ ?_) | (clear hK; clear hK; refine hK _ _ ?_)); clear hK; try clear K) | refine W0 ?_ | exact Z | with_reducible intro b)
          exact J2 _ q hq (hstop hR hqw (by omega)) hqw Z
        · have i1 : (hi < R) = False := eq_false (by omega)
          have i2 : (hi = R) = True := eq_true h7
          have i3 : (lo ≤ low) = False := eq_false h8
          obtain ⟨g1, g2, g3⟩ := go (by omega)
          have hw : IntKind.u64.wrap ((q : Int) - 1) = ((q - 1 : Nat) : Int) := by rw [show (q : Int) - 1 = ((q - 1 : Nat) : Int) by omega, wrap64_nat, Nat.mod_eq_of_lt (by omega)]
          have ft := And.intro e1 (And.intro e2 (And.intro hv1 (And.intro hv2 (And.intro f1 (And.intro f5 (And.intro f8 (And.intro f9 (And.intro f10 (And.intro f11 (And.intro hR0 (And.intro hR1 (And.intro i1 (And.intro i2 (And.intro i3 hw))))))))))))))
          repeat (first | with_reducible refine pv_seq fun K hK => ?_ | ((with_reducible first | refine hK _ _ ?_ | (clear hK; refine hK _ _ ?_) | (clear hK; clear hK; refine hK _ _ ?_)); clear hK; try clear K) | refine W0 ?_ | exact Z | with_reducible intro b)
          refine call_is (p_add64 (x := R) (y := v1) (c := 0) (by decide)) ?_
          rw [Nat.add_zero]
          repeat (first | with_reducible refine pv_seq fun K hK => ?_ | ((with_reducible first | refine hK _ _ ?_ | (clear hK; refine hK _ _ ?_) | (clear hK; clear hK; refine hK _ _ ?_)); clear hK; try clear K) | refine W0 ?_ | exact Z | with_reducible intro b)
          refine ⟨⟨q - 1, R + v1, g3, by omega, by omega, ?_⟩, ?_⟩
          rotate_left 1
          · simp only [intD]; omega
          exact ⟨rfl, rfl, rfl⟩
        · have i1 : (hi < R) = False := eq_false (by omega)
          have i2 : (hi = R) = False := eq_false h7
          obtain ⟨g1, g2, g3⟩ := go (by omega)
          have hw : IntKind.u64.wrap ((q : Int) - 1) = ((q - 1 : Nat) : Int) := by rw [show (q : Int) - 1 = ((q - 1 : Nat) : Int) by omega, wrap64_nat, Nat.mod_eq_of_lt (by omega)]
          have ft := And.intro e1 (And.intro e2 (And.intro hv1 (And.intro hv2 (And.intro f1 (And.intro f5 (And.intro f8 (And.intro f9 (And.intro f10 (And.intro f11 (And.intro hR0 (And.intro hR1 (And.intro i1 (And.intro i2 hw)))))))))))))
          repeat (first | with_reducible refine pv_seq fun K hK => ?_ | ((with_reducible first | refine hK _ _ ?_ | (clear hK; refine hK _ _ ?_) | (clear hK; clear hK; refine hK _ _ ?_)); clear hK; try clear K) | refine W0 ?_ | exact Z | with_reducible intro b)
          refine call_is (p_add64 (x := R) (y := v1) (c := 0) (by decide)) ?_
          rw [Nat.add_zero]
          repeat (first | with_reducible refine pv_seq fun K hK => ?_ | ((with_reducible first | refine hK _ _ ?_ | (clear hK; refine hK _ _ ?_) | (clear hK; clear hK; refine hK _ _ ?_)); clear hK; try clear K) | refine W0 ?_ | exact Z | with_reducible intro b)
          refine ⟨⟨q - 1, R + v1, g3, by omega, by omega, ?_⟩, ?_⟩
          rotate_left 1
          · simp only [intD]; omega
          exact ⟨rfl, rfl, rfl⟩
      · have hR0 : (R / 18446744073709551616 = 0) = False := eq_false (by omega)
        have ft := And.intro e1 (And.intro e2 (And.intro hv1 (And.intro hv2 (And.intro f1 (And.intro f5 (And.intro f8 (And.intro f9 (And.intro f10 (And.intro f11 hR0)))))))))
        repeat (first | with_reducible refine pv_seq fun K hK => ?_ | ((with_reducible first | refine hK _ _ ?_ | (clear hK; refine hK _ _ ?_) | (clear hK; clear hK; refine hK _ _ ?_)); clear hK; try clear K) | refine W0 ?_ | exact Z | with_reducible intro b)
        refine J2 _ q hq (hstop hR hqw ?_) hqw Z
        have : q * v2 ≤ 18446744073709551615 * 18446744073709551615 := Nat.mul_le_mul (by omega) (by omega)
        omega
  clear hK
  have hd1 : (V.length - 1) < V.length := by omega
  refine pv_cdD (fun ht => ?_) (fun ht => ?_)
  · repeat (first | (with_reducible first | refine pv_seq fun K hK => ?_ | refine pv_reg ?_ | refine pv_draw (id := 2) qDX_54_2 (by kernel_rfl) ?_) | ((with_reducible first | refine hK _ _ ?_ | (clear hK; refine hK _ _ ?_) | (clear hK; clear hK; refine hK _ _ ?_)); clear hK; try clear K) | simp -implicitDefEqProofs only [upS_up, hS, e1, e2, g0, g1, g2, hv1, hv2, true_and, go_sem, seval] | with_reducible intro b | (with_reducible refine And.intro ?_ ?_; · first | assumption | omega | (unfold R64; omega)))
    refine call_is (p_div64 (hi := top) (lo := next) (y := v1) ht b1 c1) ?_
    have hfirst := hfirst ht
    have hdm := Nat.div_add_mod (top * 18446744073709551616 + next) v1
    have hml := Nat.mod_lt (top * 18446744073709551616 + next) (show 0 < v1 by omega)
    have hqlt : (top * 18446744073709551616 + next) / v1 < 18446744073709551616 := by
      rw [Nat.div_lt_iff_lt_mul (by omega)]; omega
    generalize (top * 18446744073709551616 + next) / v1 = q at *
    generalize (top * 18446744073709551616 + next) % v1 = R at *
    repeat (first | (with_reducible first | refine pv_seq fun K hK => ?_ | refine pv_reg ?_ | refine pv_draw (id := 2) qDX_54_2 (by kernel_rfl) ?_) | ((with_reducible first | refine hK _ _ ?_ | (clear hK; refine hK _ _ ?_) | (clear hK; clear hK; refine hK _ _ ?_)); clear hK; try clear K) | simp -implicitDefEqProofs only [upS_up, hS, e1, e2, g0, g1, g2, hv1, hv2, true_and, go_sem, seval] | with_reducible intro b | (with_reducible refine And.intro ?_ ?_; · first | assumption | omega | (unfold R64; omega)))
    exact J _ q R (by rw [Nat.mul_comm]; exact hdm) hfirst hqlt (by simp -implicitDefEqProofs only [upS_up, hS, e1, e2, g0, g1, g2, hv1, hv2, true_and, go_sem, seval]) (by simp -implicitDefEqProofs only [upS_up, hS, e1, e2, g0, g1, g2, hv1, hv2, true_and, go_sem, seval]) (by simp -implicitDefEqProofs only [upS_up, hS, e1, e2, g0, g1, g2, hv1, hv2, true_and, go_sem, seval]) (by simp -implicitDefEqProofs only [upS_up, hS, e1, e2, g0, g1, g2, hv1, hv2, true_and, go_sem, seval]) (by rw [Nat.mod_eq_of_lt (by omega)]; try simp -implicitDefEqProofs only [upS_up, hS, e1, e2, g0, g1, g2, hv1, hv2, true_and, go_sem, seval]) (by rw [Nat.div_eq_of_lt (by omega)]; try simp -implicitDefEqProofs only [upS_up, hS, e1, e2, g0, g1, g2, hv1, hv2, true_and, go_sem, seval])
  · repeat (first | (with_reducible first | refine pv_seq fun K hK => ?_ | refine pv_reg ?_ | refine pv_draw (id := 2) qDX_54_2 (by kernel_rfl) ?_) | ((with_reducible first | refine hK _ _ ?_ | (clear hK; refine hK _ _ ?_) | (clear hK; clear hK; refine hK _ _ ?_)); clear hK; try clear K) | simp -implicitDefEqProofs only [upS_up, hS, e1, e2, g0, g1, g2, hv1, hv2, true_and, go_sem, seval] | with_reducible intro b | (with_reducible refine And.intro ?_ ?_; · first | assumption | omega | (unfold R64; omega)))
    refine call_is (p_add64 (x := next) (y := v1) (c := 0) (by decide)) ?_
    simp only [Nat.add_zero]
    obtain rfl : top = v1 := by omega
    repeat (first | (with_reducible first | refine pv_seq fun K hK => ?_ | refine pv_reg ?_ | refine pv_draw (id := 2) qDX_54_2 (by kernel_rfl) ?_) | ((with_reducible first | refine hK _ _ ?_ | (clear hK; refine hK _ _ ?_) | (clear hK; clear hK; refine hK _ _ ?_)); clear hK; try clear K) | simp -implicitDefEqProofs only [upS_up, hS, e1, e2, g0, g1, g2, hv1, hv2, true_and, go_sem, seval] | with_reducible intro b | (with_reducible refine And.intro ?_ ?_; · first | assumption | omega | (unfold R64; omega)))
    exact J _ 18446744073709551615 (next + top) (by omega) (by omega) (by decide) (by simp -implicitDefEqProofs only [upS_up, hS, e1, e2, g0, g1, g2, hv1, hv2, true_and, go_sem, seval]) (by simp -implicitDefEqProofs only [upS_up, hS, e1, e2, g0, g1, g2, hv1, hv2, true_and, go_sem, seval]) (by simp -implicitDefEqProofs only [upS_up, hS, e1, e2, g0, g1, g2, hv1, hv2, true_and, go_sem, seval]) rfl (by simp -implicitDefEqProofs only [upS_up, hS, e1, e2, g0, g1, g2, hv1, hv2, true_and, go_sem, seval]) (by simp -implicitDefEqProofs only [upS_up, hS, e1, e2, g0, g1, g2, hv1, hv2, true_and, go_sem, seval])

end Go.V
namespace Go.V
open Go Go.RowKit Go.Proofs

set_option maxHeartbeats 4000000 in
theorem p_less {k : Nm} {S : Store} {Q : D → Store → Prop} {b j cap p q : Nat} {us V : List Nat} (hS : S k = some ⟨b, 1, p, rS (eK .u64) us⟩) (ub : B64 us) (vb : B64 V) (hq : q < 18446744073709551616) (hp : p ≤ j) (hlen : j + V.length + 1 ≤ us.length) (hl : us.length ≤ 2199023255552)
    (hQ : ∀ us' r, us'.length = us.length → B64 us' → (∀ i, (i < j ∨ j + V.length + 1 ≤ i) → us'.getD i 0 = us.getD i 0) → nval 18446744073709551616 us' + 18446744073709551616 ^ j * (q * nval 18446744073709551616 V) = nval 18446744073709551616 us + 18446744073709551616 ^ (j + V.length + 1) * (if r = true then 1 else 0) →
      Q (bl r) (updS S k (some ⟨b, 1, p, rS (eK .u64) us'⟩))) : PFC Tryd.prog 55 [.own k b j (V.length + 1) cap 1, W64 V, w64 q] S Q := by
  refine PFB (rs := [.tmp 6]) Tryd.func55 ?_
  repeat (first | (with_reducible first | refine pv_seq fun K hK => ?_ | refine pv_reg ?_) | ((with_reducible first | refine hK _ _ ?_ | (clear hK; refine hK _ _ ?_) | (clear hK; clear hK; refine hK _ _ ?_)); clear hK; try clear K) | simp -implicitDefEqProofs only [upS_up, true_and, go_sem, seval] | with_reducible intro b | (with_reducible refine And.intro ?_ ?_; · first | assumption | omega | (unfold R64; omega)))
  have J : ∀ (e : DEnv) (os : List Nat) (c bo : Nat), os.length = us.length → B64 os → (∀ m, (m < j ∨ j + V.length ≤ m) → os.getD m 0 = us.getD m 0) → c < 18446744073709551616 → bo ≤ 1 →
      nval 18446744073709551616 os + 18446744073709551616 ^ j * (q * nval 18446744073709551616 V) = nval 18446744073709551616 us + 18446744073709551616 ^ (j + V.length) * (bo + c) →
      e 0 = .own (.up k) b j (V.length + 1) cap 1 → e 1 = W64 V → e 7 = w64 c → e 8 = w64 bo → K e (updS (upS S) (.up k) (some ⟨b, 1, p, rS (eK .u64) os⟩)) := by
    intro e os c bo hol ob hout hc hbo hv f0 f1 f7 f8
    have g0 := rS_at (k := .u64) (xs := os) (i := j + V.length) (by omega)
    have hu := get_lt ob (by decide) (j + V.length)
    have hw := less_word (lo := c) (b := bo) hu hc hbo
    have hstep := sub_step (W := 18446744073709551616) (i := j + V.length) (c := bo) (b := c) (d := 0) (os := os) (S := 18446744073709551616 ^ j * (q * nval 18446744073709551616 V)) (T := nval 18446744073709551616 us) (by omega) hw (by rw [Nat.mul_zero, Nat.add_zero]; exact hv)
    have hlt : (os.getD (j + V.length) 0 + 18446744073709551616 - c - bo) % 18446744073709551616 < 18446744073709551616 := Nat.mod_lt _ (by decide)
    repeat (first | (with_reducible first | refine pv_seq fun K hK => ?_ | refine pv_reg ?_) | ((with_reducible first | refine hK _ _ ?_ | (clear hK; refine hK _ _ ?_) | (clear hK; clear hK; refine hK _ _ ?_)); clear hK; try clear K) | simp -implicitDefEqProofs only [f0, f1, f7, f8, g0, updS_updS, D.one, Nat.le_refl, Nat.zero_add, true_and, go_sem, seval] | with_reducible intro b | (with_reducible refine And.intro ?_ ?_; · first | assumption | omega | (unfold R64; omega)) | refine call_is (by exact (p_sub64 (x := os.getD (j + V.length) 0) (y := c) (c := bo) hbo)) ?_)
    refine hQ _ _ (by simp [hol]) (set_lt ob hlt) (fun m hm => ?_) ?_
    · rw [getD_set, if_neg (by omega)]; exact hout m (by omega)
    · rw [hstep]; congr 2
      by_cases hlt : os.getD (j + V.length) 0 < c + bo
      · simp [hlt]
      · simp [hlt]
  clear hK
  refine pv_loop (fun e S' => ∃ (i : Nat) (os : List Nat) (c bo : Nat), i ≤ V.length ∧ os.length = us.length ∧ B64 os ∧ (∀ m, (m < j ∨ j + i ≤ m) → os.getD m 0 = us.getD m 0) ∧ c < 18446744073709551616 ∧ bo ≤ 1 ∧
      nval 18446744073709551616 os + 18446744073709551616 ^ j * (q * nval 18446744073709551616 V) = nval 18446744073709551616 us + 18446744073709551616 ^ (j + i) * (bo + (c + q * nval 18446744073709551616 (V.drop i))) ∧
      e 0 = .own (.up k) b j (V.length + 1) cap 1 ∧ e 1 = W64 V ∧ e 2 = w64 q ∧ e 7 = w64 c ∧ e 8 = w64 bo ∧ e 14 = W64 V ∧ e 15 = i64 V.length ∧ e 16 = i64 i ∧ S' = updS (upS S) (.up k) (some ⟨b, 1, p, rS (eK .u64) os⟩)) (fun e _ => V.length - (intD (e 16)).toNat) ?_ ?_
  · refine ⟨0, us, 0, 0, by omega, rfl, ub, fun _ _ => rfl, by decide, by decide, by rw [List.drop_zero, Nat.zero_add, Nat.zero_add, Nat.add_zero], (by simp -implicitDefEqProofs only [upS_up, true_and, go_sem, seval]), (by simp -implicitDefEqProofs only [upS_up, true_and, go_sem, seval]), (by simp -implicitDefEqProofs only [upS_up, true_and, go_sem, seval]), (by simp -implicitDefEqProofs only [upS_up, true_and, go_sem, seval]), (by simp -implicitDefEqProofs only [upS_up, true_and, go_sem, seval]), (by simp -implicitDefEqProofs only [upS_up, true_and, go_sem, seval]), (by simp -implicitDefEqProofs only [upS_up, true_and, go_sem, seval]), (by simp -implicitDefEqProofs only [upS_up, true_and, go_sem, seval]), (updS_same (S := upS S) (k := .up k) hS).symm⟩
  · rintro e _ ⟨i, os, c, bo, hi, hol, ob, hout, hc, hbo, hv, f0, f1, f2, f7, f8, f14, f15, f16, rfl⟩
    have hmz : (intD (e 16)).toNat = i := by rw [f16]; rfl
    repeat (first | (with_reducible first | refine pv_seq fun K hK => ?_ | refine pv_reg ?_) | ((with_reducible first | refine hK _ _ ?_ | (clear hK; refine hK _ _ ?_) | (clear hK; clear hK; refine hK _ _ ?_)); clear hK; try clear K) | simp -implicitDefEqProofs only [f0, f1, f2, f7, f8, f14, f15, f16, updS_updS, D.one, Nat.le_refl, Nat.zero_add, true_and, go_sem, seval] | with_reducible intro b | (with_reducible refine And.intro ?_ ?_; · first | assumption | omega | (unfold R64; omega)))
    refine pv_cdD (fun ht => ?_) (fun ht => ?_)
    · have ha := get_lt vb (by decide) i
      have g0 := rS_at (k := .u64) (xs := os) (i := j + i) (by omega)
      have hu := get_lt ob (by decide) (j + i)
      obtain ⟨m1, m2⟩ := mul_carry (W := 18446744073709551616) (x := q * V.getD i 0) (c := c) (by decide)
      have hcl := carry_lt (W := 18446744073709551616) hq ha hc
      have hlol : (q * V.getD i 0 + c) % 18446744073709551616 < 18446744073709551616 := Nat.mod_lt _ (by decide)
      have hw := less_word (lo := (q * V.getD i 0 + c) % 18446744073709551616) (b := bo) hu hlol hbo
      have hdm := Nat.div_add_mod (q * V.getD i 0 + c) 18446744073709551616
      have hstep := sub_step (W := 18446744073709551616) (i := j + i) (c := bo) (b := (q * V.getD i 0 + c) % 18446744073709551616) (d := (q * V.getD i 0 + c) / 18446744073709551616 + q * nval 18446744073709551616 (V.drop (i + 1))) (os := os) (S := 18446744073709551616 ^ j * (q * nval 18446744073709551616 V)) (T := nval 18446744073709551616 us) (by omega) hw (by
        rw [hv, nval_drop ht]; congr 2
        generalize nval 18446744073709551616 (V.drop (i + 1)) = D at *
        rw [Nat.mul_add q, Nat.mul_left_comm q]; omega)
      have hlt : (os.getD (j + i) 0 + 18446744073709551616 - (q * V.getD i 0 + c) % 18446744073709551616 - bo) % 18446744073709551616 < 18446744073709551616 := Nat.mod_lt _ (by decide)
      have hm3 : ((q * V.getD i 0 + c) / 18446744073709551616) % 18446744073709551616 = (q * V.getD i 0 + c) / 18446744073709551616 := Nat.mod_eq_of_lt hcl
      repeat (first | (with_reducible first | refine pv_seq fun K hK => ?_ | refine pv_reg ?_) | ((with_reducible first | refine hK _ _ ?_ | (clear hK; refine hK _ _ ?_) | (clear hK; clear hK; refine hK _ _ ?_)); clear hK; try clear K) | simp -implicitDefEqProofs only [f0, f1, f2, f7, f8, f14, f15, f16, g0, updS_updS, D.one, Nat.le_refl, Nat.zero_add, true_and, go_sem, seval] | with_reducible intro b | (with_reducible refine And.intro ?_ ?_; · first | assumption | omega | (unfold R64; omega)) | refine call_is (by exact (p_mul64 hq ha)) ?_)
      refine call_is (p_add64 (x := q * V.getD i 0 % 18446744073709551616) (y := c) (c := 0) (by decide)) ?_
      simp only [Nat.add_zero, m1]
      repeat (first | (with_reducible first | refine pv_seq fun K hK => ?_ | refine pv_reg ?_) | ((with_reducible first | refine hK _ _ ?_ | (clear hK; refine hK _ _ ?_) | (clear hK; clear hK; refine hK _ _ ?_)); clear hK; try clear K) | simp -implicitDefEqProofs only [f0, f1, f2, f7, f8, f14, f15, f16, g0, updS_updS, D.one, Nat.le_refl, Nat.zero_add, m2, hm3, true_and, go_sem, seval] | with_reducible intro b | (with_reducible refine And.intro ?_ ?_; · first | assumption | omega | (unfold R64; omega)) | refine call_is (by exact (p_sub64 (x := os.getD (j + i) 0) (y := (q * V.getD i 0 + c) % 18446744073709551616) (c := bo) hbo)) ?_)
      refine ⟨⟨i + 1, os.set (j + i) ((os.getD (j + i) 0 + 18446744073709551616 - (q * V.getD i 0 + c) % 18446744073709551616 - bo) % 18446744073709551616), (q * V.getD i 0 + c) / 18446744073709551616, if os.getD (j + i) 0 < (q * V.getD i 0 + c) % 18446744073709551616 + bo then 1 else 0,
        by omega, by simp [hol], set_lt ob hlt, fun m hm => ?_, hcl, by split <;> decide, hstep, rfl, rfl, rfl, rfl⟩, by simp only [intD]; omega⟩
      rw [getD_set, if_neg (by omega)]; exact hout m (by omega)
    · repeat (first | (with_reducible first | refine pv_seq fun K hK => ?_ | refine pv_reg ?_) | ((with_reducible first | refine hK _ _ ?_ | (clear hK; refine hK _ _ ?_) | (clear hK; clear hK; refine hK _ _ ?_)); clear hK; try clear K) | simp -implicitDefEqProofs only [f0, f1, f2, f7, f8, f14, f15, f16, g0, updS_updS, D.one, Nat.le_refl, Nat.zero_add, m2, hm3, true_and, go_sem, seval] | with_reducible intro b | (with_reducible refine And.intro ?_ ?_; · first | assumption | omega | (unfold R64; omega)))
      obtain rfl : i = V.length := by omega
      refine J _ os c bo hol ob hout hc hbo ?_ f0 f1 f7 f8
      rw [hv, nval_drop_all (Nat.le_refl _), Nat.mul_zero, Nat.add_zero]

set_option maxHeartbeats 4000000 in
theorem p_more {k : Nm} {S : Store} {Q : D → Store → Prop} {b j cap p : Nat} {us V : List Nat} (hS : S k = some ⟨b, 1, p, rS (eK .u64) us⟩) (ub : B64 us) (vb : B64 V) (hp : p ≤ j) (hlen : j + V.length + 1 ≤ us.length) (hl : us.length ≤ 2199023255552)
    (hQ : ∀ us' c, us'.length = us.length → B64 us' → (∀ i, (i < j ∨ j + V.length + 1 ≤ i) → us'.getD i 0 = us.getD i 0) → nval 18446744073709551616 us' + 18446744073709551616 ^ (j + V.length + 1) * c = nval 18446744073709551616 us + 18446744073709551616 ^ j * nval 18446744073709551616 V → c ≤ 1 →
      Q (.tup []) (updS S k (some ⟨b, 1, p, rS (eK .u64) us'⟩))) : PFC Tryd.prog 56 [.own k b j (V.length + 1) cap 1, W64 V] S Q := by
  refine PFB (rs := []) Tryd.func56 ?_
  repeat (first | (with_reducible first | refine pv_seq fun K hK => ?_ | refine pv_reg ?_) | ((with_reducible first | refine hK _ _ ?_ | (clear hK; refine hK _ _ ?_) | (clear hK; clear hK; refine hK _ _ ?_)); clear hK; try clear K) | simp -implicitDefEqProofs only [upS_up, true_and, go_sem, seval] | with_reducible intro b | (with_reducible refine And.intro ?_ ?_; · first | assumption | omega | (unfold R64; omega)))
  have J : ∀ (e : DEnv) (os : List Nat) (c : Nat), os.length = us.length → B64 os → (∀ m, (m < j ∨ j + V.length ≤ m) → os.getD m 0 = us.getD m 0) → c ≤ 1 →
      nval 18446744073709551616 os + 18446744073709551616 ^ (j + V.length) * c = nval 18446744073709551616 us + 18446744073709551616 ^ j * nval 18446744073709551616 V →
      e 0 = .own (.up k) b j (V.length + 1) cap 1 → e 1 = W64 V → e 4 = w64 c → K e (updS (upS S) (.up k) (some ⟨b, 1, p, rS (eK .u64) os⟩)) := by
    intro e os c hol ob hout hc hv f0 f1 f4
    have g0 := rS_at (k := .u64) (xs := os) (i := j + V.length) (by omega)
    have hu := get_lt ob (by decide) (j + V.length)
    have hstep := add_step (W := 18446744073709551616) (i := j + V.length) (s := os.getD (j + V.length) 0 + c) (c := c) (b := 0) (d := 0) (os := os) (T := nval 18446744073709551616 us + 18446744073709551616 ^ j * nval 18446744073709551616 V) (by decide) (by omega) (by omega) (by simpa using hv)
    repeat (first | (with_reducible first | refine pv_seq fun K hK => ?_ | refine pv_reg ?_) | ((with_reducible first | refine hK _ _ ?_ | (clear hK; refine hK _ _ ?_) | (clear hK; clear hK; refine hK _ _ ?_)); clear hK; try clear K) | simp -implicitDefEqProofs only [f0, f1, f4, g0, updS_updS, D.one, Nat.le_refl, Nat.zero_add, true_and, go_sem, seval] | with_reducible intro b | (with_reducible refine And.intro ?_ ?_; · first | assumption | omega | (unfold R64; omega)))
    refine hQ _ _ (by simp [hol]) (set_lt ob (Nat.mod_lt _ (by decide))) (fun m hm => ?_) hstep (by omega)
    rw [getD_set, if_neg (by omega)]; exact hout m (by omega)
  clear hK
  refine pv_loop (fun e S' => ∃ (i : Nat) (os : List Nat) (c : Nat), i ≤ V.length ∧ os.length = us.length ∧ B64 os ∧ (∀ m, (m < j ∨ j + i ≤ m) → os.getD m 0 = us.getD m 0) ∧ c ≤ 1 ∧
      nval 18446744073709551616 os + 18446744073709551616 ^ (j + i) * (c + nval 18446744073709551616 (V.drop i)) = nval 18446744073709551616 us + 18446744073709551616 ^ j * nval 18446744073709551616 V ∧
      e 0 = .own (.up k) b j (V.length + 1) cap 1 ∧ e 1 = W64 V ∧ e 4 = w64 c ∧ e 7 = W64 V ∧ e 8 = i64 V.length ∧ e 9 = i64 i ∧ S' = updS (upS S) (.up k) (some ⟨b, 1, p, rS (eK .u64) os⟩)) (fun e _ => V.length - (intD (e 9)).toNat) ?_ ?_
  · refine ⟨0, us, 0, by omega, rfl, ub, fun _ _ => rfl, by decide, by simp, (by simp -implicitDefEqProofs only [upS_up, true_and, go_sem, seval]), (by simp -implicitDefEqProofs only [upS_up, true_and, go_sem, seval]), (by simp -implicitDefEqProofs only [upS_up, true_and, go_sem, seval]), (by simp -implicitDefEqProofs only [upS_up, true_and, go_sem, seval]), (by simp -implicitDefEqProofs only [upS_up, true_and, go_sem, seval]), (by simp -implicitDefEqProofs only [upS_up, true_and, go_sem, seval]), (updS_same (S := upS S) (k := .up k) hS).symm⟩
  · rintro e _ ⟨i, os, c, hi, hol, ob, hout, hc, hv, f0, f1, f4, f7, f8, f9, rfl⟩
    have hmz : (intD (e 9)).toNat = i := by rw [f9]; rfl
    repeat (first | (with_reducible first | refine pv_seq fun K hK => ?_ | refine pv_reg ?_) | ((with_reducible first | refine hK _ _ ?_ | (clear hK; refine hK _ _ ?_) | (clear hK; clear hK; refine hK _ _ ?_)); clear hK; try clear K) | simp -implicitDefEqProofs only [f0, f1, f4, f7, f8, f9, updS_updS, D.one, Nat.le_refl, Nat.zero_add, true_and, go_sem, seval] | with_reducible intro b | (with_reducible refine And.intro ?_ ?_; · first | assumption | omega | (unfold R64; omega)))
    refine pv_cdD (fun ht => ?_) (fun ht => ?_)
    · have ha := get_lt vb (by decide) i
      have g0 := rS_at (k := .u64) (xs := os) (i := j + i) (by omega)
      have hu := get_lt ob (by decide) (j + i)
      have hstep := add_step (W := 18446744073709551616) (i := j + i) (s := os.getD (j + i) 0 + V.getD i 0 + c) (c := c) (b := V.getD i 0) (d := nval 18446744073709551616 (V.drop (i + 1))) (os := os) (T := nval 18446744073709551616 us + 18446744073709551616 ^ j * nval 18446744073709551616 V) (by decide) (by omega) rfl (by rw [← nval_drop ht]; exact hv)
      repeat (first | (with_reducible first | refine pv_seq fun K hK => ?_ | refine pv_reg ?_) | ((with_reducible first | refine hK _ _ ?_ | (clear hK; refine hK _ _ ?_) | (clear hK; clear hK; refine hK _ _ ?_)); clear hK; try clear K) | simp -implicitDefEqProofs only [f0, f1, f4, f7, f8, f9, g0, updS_updS, D.one, Nat.le_refl, Nat.zero_add, true_and, go_sem, seval] | with_reducible intro b | (with_reducible refine And.intro ?_ ?_; · first | assumption | omega | (unfold R64; omega)) | refine call_is (by exact (p_add64 (x := os.getD (j + i) 0) (y := V.getD i 0) (c := c) hc)) ?_)
      refine ⟨⟨i + 1, os.set (j + i) ((os.getD (j + i) 0 + V.getD i 0 + c) % 18446744073709551616), (os.getD (j + i) 0 + V.getD i 0 + c) / 18446744073709551616,
        by omega, by simp [hol], set_lt ob (Nat.mod_lt _ (by decide)), fun m hm => ?_, by omega, hstep, rfl, rfl, rfl⟩, by simp only [intD]; omega⟩
      rw [getD_set, if_neg (by omega)]; exact hout m (by omega)
    · repeat (first | (with_reducible first | refine pv_seq fun K hK => ?_ | refine pv_reg ?_) | ((with_reducible first | refine hK _ _ ?_ | (clear hK; refine hK _ _ ?_) | (clear hK; clear hK; refine hK _ _ ?_)); clear hK; try clear K) | simp -implicitDefEqProofs only [f0, f1, f4, f7, f8, f9, g0, updS_updS, D.one, Nat.le_refl, Nat.zero_add, true_and, go_sem, seval] | with_reducible intro b | (with_reducible refine And.intro ?_ ?_; · first | assumption | omega | (unfold R64; omega)))
      obtain rfl : i = V.length := by omega
      refine J _ os c hol ob hout hc ?_ f0 f1 f4
      rw [nval_drop_all (Nat.le_refl _), Nat.add_zero] at hv
      exact hv

end Go.V
namespace Go.V
open Go Go.RowKit Go.Proofs
def qDZ_44_15 : List (Nat × Nat) := [(0, 0), (2, 0), (3, 0), (4, 0), (5, 0), (1, 3), (6, 3), (7, 0), (8, 0)]
attribute [go_sem] qDZ_44_15

/-- A divisor, by a power of two that brings its highest word's highest bit up: as many words. -/
theorem norm_len {B : List Nat} (hb : B64 B) (tB : NoTail B) (h2 : 2 ≤ B.length) :
    (D64 (N64 B * 2 ^ (64 - bitLen (B.getD (B.length - 1) 0)))).length = B.length ∧ B.getD (B.length - 1) 0 ≠ 0 ∧ 18446744073709551616 ^ (B.length - 1) ≤ N64 B := by
  have hne : B ≠ [] := by intro h; subst h; simp at h2
  have htop : B.getD (B.length - 1) 0 ≠ 0 := by
    refine tB _ ?_
    rw [List.getLast?_eq_getElem?, getD_some (by omega)]
  have hlast := nval_last (B := 18446744073709551616) hne
  have hlow : nval 18446744073709551616 (B.take (B.length - 1)) < 18446744073709551616 ^ (B.length - 1) := by
    have := nval_lt (B := 18446744073709551616) (by decide) (B.take (B.length - 1)) fun x hx => hb x (List.mem_of_mem_take hx)
    rwa [show (B.take (B.length - 1)).length = B.length - 1 by simp] at this
  have htw := get_lt hb (by decide) (B.length - 1)
  generalize B.getD (B.length - 1) 0 = t at *
  have hW : (18446744073709551616 : Nat) ^ (B.length - 1) ≤ N64 B := by
    rw [N64, hlast]
    have : 18446744073709551616 ^ (B.length - 1) * 1 ≤ 18446744073709551616 ^ (B.length - 1) * t := Nat.mul_le_mul_left _ (by omega)
    omega
  refine ⟨?_, htop, hW⟩
  have hbl := bitLen_le (n := t) (k := 64) htw
  obtain ⟨hs1, _⟩ := bitLen_spec t
  have hup : N64 B < 18446744073709551616 ^ (B.length - 1) * 2 ^ bitLen t := by
    rw [N64, hlast]
    have : 18446744073709551616 ^ (B.length - 1) * (t + 1) ≤ 18446744073709551616 ^ (B.length - 1) * 2 ^ bitLen t := Nat.mul_le_mul_left _ hs1
    rw [Nat.mul_add] at this; omega
  have hlt : N64 B * 2 ^ (64 - bitLen t) < 18446744073709551616 ^ B.length := by
    have h3 := Nat.mul_lt_mul_of_pos_right hup (Nat.two_pow_pos (64 - bitLen t))
    have h4 : 18446744073709551616 ^ (B.length - 1) * 2 ^ bitLen t * 2 ^ (64 - bitLen t) = 18446744073709551616 ^ B.length := by
      rw [Nat.mul_assoc, ← Nat.pow_add, show bitLen t + (64 - bitLen t) = 64 by omega]
      conv => rhs; rw [show B.length = B.length - 1 + 1 by omega, Nat.pow_succ]
    omega
  have h5 : (D64 (N64 B * 2 ^ (64 - bitLen t))).length ≤ B.length := digs_len_le (B := 18446744073709551616) (by decide) hlt
  have h6 : N64 B * 2 ^ (64 - bitLen t) < 18446744073709551616 ^ (D64 (N64 B * 2 ^ (64 - bitLen t))).length := lt_pow_len (B := 18446744073709551616) (by decide) (N64 B * 2 ^ (64 - bitLen t))
  rcases Nat.lt_or_ge (D64 (N64 B * 2 ^ (64 - bitLen t))).length B.length with h7 | h7
  · exfalso
    have h8 : 18446744073709551616 ^ (D64 (N64 B * 2 ^ (64 - bitLen t))).length ≤ 18446744073709551616 ^ (B.length - 1) := Nat.pow_le_pow_right (by decide) (by omega)
    have h9 : N64 B * 1 ≤ N64 B * 2 ^ (64 - bitLen t) := Nat.mul_le_mul_left _ (Nat.two_pow_pos _)
    omega
  · omega

set_option maxHeartbeats 4000000 in
theorem p_byWords {A B : List Nat} (ha : B64 A) (hb : B64 B) (hlA : A.length ≤ 1099511627776) (tA : NoTail A) (tB : NoTail B) (h2 : 2 ≤ B.length) (hle : N64 B ≤ N64 A) :
    PC Tryd.prog 44 [W64 A, W64 B] fun d => d = .tup [W64 (D64 (N64 A / N64 B)), W64 (D64 (N64 A % N64 B))] := by
  obtain ⟨hvl, htop, hBl⟩ := norm_len hb tB h2
  have htw := get_lt hb (by decide) (B.length - 1)
  have hA : N64 A < 18446744073709551616 ^ A.length := nval_lt (by decide) A ha
  have hBA : B.length ≤ A.length := by
    rcases Nat.lt_or_ge A.length B.length with h | h
    · exfalso
      have : (18446744073709551616 : Nat) ^ A.length ≤ 18446744073709551616 ^ (B.length - 1) := Nat.pow_le_pow_right (by decide) (by omega)
      omega
    · exact h
  have e1 : (B.length : Int) - 1 = ((B.length - 1 : Nat) : Int) := by omega
  have hs64 : 64 - bitLen (B.getD (B.length - 1) 0) ≤ 64 := by omega
  generalize hs : 64 - bitLen (B.getD (B.length - 1) 0) = s at *
  have d1 := @dl 15 qDZ_44_15
  refine PB (rs := [.tmp 4, .tmp 5]) Tryd.func44 ?_
  have ft := And.intro e1 hs
  repeat (first | with_reducible refine pv_seq fun K hK => ?_ | ((with_reducible first | refine hK _ _ ?_ | (clear hK; refine hK _ _ ?_) | (clear hK; clear hK; refine hK _ _ ?_)); clear hK; try clear K) | refine W0 ?_ | exact Z | with_reducible intro b | refine call_is (by first | exact (p_lz64 htw) | exact (p_Up hb (by omega) (by omega))) ?_)
  refine call_is (p_Up ha (by omega) (by omega)) ?_
  have hUl : (D64 (N64 A * 2 ^ s)).length ≤ A.length + 1 := by
    refine digs_len_le (by decide) ?_
    rw [Nat.pow_succ]
    have h3 : (2 : Nat) ^ s ≤ 2 ^ 64 := Nat.pow_le_pow_right (by decide) hs64
    have h4 := Nat.mul_lt_mul_of_pos_right hA (Nat.two_pow_pos s)
    have h5 := Nat.mul_le_mul_left (18446744073709551616 ^ A.length) h3
    omega
  obtain ⟨V, hV⟩ : ∃ V, V = D64 (N64 B * 2 ^ s) := ⟨_, rfl⟩
  obtain ⟨U, hU⟩ : ∃ U, U = D64 (N64 A * 2 ^ s) := ⟨_, rfl⟩
  obtain ⟨u, hu⟩ : ∃ u, u = U ++ List.replicate (A.length + 1 - U.length) 0 := ⟨_, rfl⟩
  have hNV : nval 18446744073709551616 V = N64 B * 2 ^ s := by rw [hV]; exact nval_digs (by decide) _
  have hNu : nval 18446744073709551616 u = N64 A * 2 ^ s := by
    rw [hu, nval_append, nval_zeros _ _ (fun y hy => List.eq_of_mem_replicate hy), Nat.mul_zero, Nat.add_zero, hU]; exact nval_digs (by decide) _
  have hVb : B64 V := by rw [hV]; exact digs_lt (by decide) _
  have hub : B64 u := by
    rw [hu]; intro x hx
    rcases List.mem_append.1 hx with h | h
    · rw [hU] at h; exact digs_lt (by decide) _ x h
    · rw [List.eq_of_mem_replicate h]; decide
  rw [← hU] at hUl
  have hul : u.length = A.length + 1 := by rw [hu, List.length_append, List.length_replicate]; omega
  have hVt : 1 ≤ V.getD (V.length - 1) 0 := by
    have h3 : V.getD (V.length - 1) 0 ≠ 0 := by
      have h4 := digs_noTail (B := 18446744073709551616) (by decide) (N64 B * 2 ^ s)
      refine h4 _ ?_
      rw [show digs 18446744073709551616 (N64 B * 2 ^ s) = V from hV.symm, List.getLast?_eq_getElem?, getD_some (by rw [hV, hvl]; omega)]
    omega
  rw [← hU, ← hV]
  rw [← hV] at hvl
  have hrep : ∀ n, List.replicate n [D.g (.lit (.int .u64 0))] = rS (eK .u64) (List.replicate n 0) := fun n => rS_rep (f := eK .u64) (y := 0) rfl
  have J0 : ∀ (e : DEnv) (b1 : Nat), e 0 = W64 A → e 6 = i64 B.length → e 7 = i64 s → e 8 = W64 V → e 9 = .own (.l 27) b1 0 (A.length + 1) (A.length + 1) 1 → K e (updS noS (.l 27) (some ⟨b1, 1, 0, rS (eK .u64) u⟩)) := by
    intro e b1 f0 f6 f7 f8 f9
    have e2 : (A.length : Int) - (B.length : Int) = ((A.length - B.length : Nat) : Int) := by omega
    have ft := And.intro f0 (And.intro f6 (And.intro f7 (And.intro f8 (And.intro f9 (And.intro e2 hrep)))))
    repeat (first | with_reducible refine pv_seq fun K hK => ?_ | ((with_reducible first | refine hK _ _ ?_ | (clear hK; refine hK _ _ ?_) | (clear hK; clear hK; refine hK _ _ ?_)); clear hK; try clear K) | refine W0 ?_ | exact Z | with_reducible intro b)
    have J1 : ∀ (e : DEnv) (S : Store) (os out : List Nat), os.length = A.length + 1 → B64 os → out.length = A.length - B.length + 1 → B64 out → nval 18446744073709551616 os + nval 18446744073709551616 out * nval 18446744073709551616 V = N64 A * 2 ^ s → nval 18446744073709551616 os < nval 18446744073709551616 V →
        e 6 = i64 B.length → e 7 = i64 s → e 9 = .own (.l 27) b1 0 (A.length + 1) (A.length + 1) 1 → e 10 = .own (.l 38) b 0 (A.length - B.length + 1) (A.length - B.length + 1) 1 → S (.l 27) = some ⟨b1, 1, 0, rS (eK .u64) os⟩ → S (.l 38) = some ⟨b, 1, 0, rS (eK .u64) out⟩ → K e S := by
      intro e S os out hol ob hul ub hv hlt f6 f7 f9 f10 hS1 hS2
      have hto : out.take (A.length - B.length + 1) = out := List.take_of_length_le (by omega)
      have hNB : 0 < N64 B := Nat.lt_of_lt_of_le (Nat.pow_pos (by decide)) hBl
      have hps := Nat.two_pow_pos s
      rw [hNV] at hv hlt
      have ho : nval 18446744073709551616 out = N64 A / N64 B ∧ nval 18446744073709551616 os = N64 A % N64 B * 2 ^ s := by
        have h3 : N64 A * 2 ^ s / (N64 B * 2 ^ s) = N64 A / N64 B := Nat.mul_div_mul_right _ _ hps
        have h4 : N64 A * 2 ^ s % (N64 B * 2 ^ s) = N64 A % N64 B * 2 ^ s := Nat.mul_mod_mul_right _ _ _
        rw [← h3, ← h4, ← hv]
        constructor
        · rw [Nat.add_mul_div_right _ _ (Nat.mul_pos hNB hps), Nat.div_eq_of_lt hlt, Nat.zero_add]
        · rw [Nat.add_mul_mod_self_right, Nat.mod_eq_of_lt hlt]
      have hos : nval 18446744073709551616 (os.take B.length) = nval 18446744073709551616 os := nval_take (hi_zero (W := 18446744073709551616) (by
        refine Nat.lt_of_lt_of_le hlt ?_
        rw [← hNV, ← hvl]
        exact Nat.le_of_lt (nval_lt (by decide) V hVb)) (by decide))
      repeat (first | (with_reducible first | refine pv_seq fun K hK => ?_ | refine pv_reg ?_ | refine pv_draw (id := 15) qDZ_44_15 (by kernel_rfl) ?_) | ((with_reducible first | refine hK _ _ ?_ | (clear hK; refine hK _ _ ?_) | (clear hK; clear hK; refine hK _ _ ?_)); clear hK; try clear K) | simp -implicitDefEqProofs only [f6, f7, f9, f10, hS1, hS2, rS_take, optLL_rS, hto, sl_eS, Nat.sub_zero, true_and, go_sem, seval] | with_reducible intro b | (with_reducible refine And.intro ?_ ?_; · first | assumption | omega | (unfold R64; omega)))
      refine PFC.coe ?_
      simp -implicitDefEqProofs only [f6, f7, f9, f10, hS1, hS2, rS_take, optLL_rS, hto, sl_eS, Nat.sub_zero, true_and, go_sem, seval]
      refine ⟨by rw [rS_len]; omega, ?_⟩
      repeat (first | (with_reducible first | refine pv_seq fun K hK => ?_ | refine pv_reg ?_ | refine pv_draw (id := 15) qDZ_44_15 (by kernel_rfl) ?_) | ((with_reducible first | refine hK _ _ ?_ | (clear hK; refine hK _ _ ?_) | (clear hK; clear hK; refine hK _ _ ?_)); clear hK; try clear K) | simp -implicitDefEqProofs only [f6, f7, f9, f10, hS1, hS2, rS_take, optLL_rS, hto, sl_eS, Nat.sub_zero, true_and, go_sem, seval] | with_reducible intro b | (with_reducible refine And.intro ?_ ?_; · first | assumption | omega | (unfold R64; omega)) | refine call_is (by exact (p_cut ub)) ?_)
      refine PFC.coe ?_
      simp -implicitDefEqProofs only [f6, f7, f9, f10, hS1, hS2, rS_take, optLL_rS, hto, sl_eS, Nat.sub_zero, true_and, go_sem, seval]
      refine ⟨by rw [rS_len]; omega, ?_⟩
      refine call_is (p_Down (xs := os.take B.length) (n := s) (fun x hx => ob x (List.mem_of_mem_take hx)) (by rw [List.length_take]; omega) (by omega)) ?_
      rw [show N64 (os.take B.length) / 2 ^ s = N64 A % N64 B by rw [show N64 (os.take B.length) = N64 A % N64 B * 2 ^ s from hos.trans ho.2, Nat.mul_div_cancel _ hps], show N64 out = N64 A / N64 B from ho.1]
      repeat (first | (with_reducible first | refine pv_seq fun K hK => ?_ | refine pv_reg ?_ | refine pv_draw (id := 15) qDZ_44_15 (by kernel_rfl) ?_) | ((with_reducible first | refine hK _ _ ?_ | (clear hK; refine hK _ _ ?_) | (clear hK; clear hK; refine hK _ _ ?_)); clear hK; try clear K) | simp -implicitDefEqProofs only [f6, f7, f9, f10, hS1, hS2, rS_take, optLL_rS, hto, sl_eS, Nat.sub_zero, true_and, go_sem, seval] | with_reducible intro b | (with_reducible refine And.intro ?_ ?_; · first | assumption | omega | (unfold R64; omega)))
    clear hK
    refine pv_loop (fun e S => ∃ (k : Nat) (os out : List Nat), k ≤ A.length - B.length + 1 ∧ os.length = A.length + 1 ∧ B64 os ∧ out.length = A.length - B.length + 1 ∧ B64 out ∧ nval 18446744073709551616 os + 18446744073709551616 ^ k * (nval 18446744073709551616 (out.drop k) * nval 18446744073709551616 V) = N64 A * 2 ^ s ∧
      nval 18446744073709551616 os < nval 18446744073709551616 V * 18446744073709551616 ^ k ∧ e 6 = i64 B.length ∧ e 7 = i64 s ∧ e 8 = W64 V ∧ e 9 = .own (.l 27) b1 0 (A.length + 1) (A.length + 1) 1 ∧ e 10 = .own (.l 38) b 0 (A.length - B.length + 1) (A.length - B.length + 1) 1 ∧ e 11 = i64 ((k : Int) - 1) ∧
      S (.l 27) = some ⟨b1, 1, 0, rS (eK .u64) os⟩ ∧ S (.l 38) = some ⟨b, 1, 0, rS (eK .u64) out⟩) (fun e _ => (intD (e 11) + 1).toNat) ?_ ?_
    · refine ⟨A.length - B.length + 1, u, List.replicate (A.length - B.length + 1) 0, by omega, hul, hub, by simp, fun x hx => by rw [List.eq_of_mem_replicate hx]; decide, ?_, ?_, Z, Z, Z, Z, Z, ?_, Z, Z⟩
      · rw [nval_drop_all (by simp), Nat.zero_mul, Nat.mul_zero, Nat.add_zero]; exact hNu
      · rw [hNu, hNV, Nat.mul_right_comm]
        refine Nat.mul_lt_mul_of_pos_right ?_ (Nat.two_pow_pos s)
        have h3 := Nat.mul_le_mul_right (18446744073709551616 ^ (A.length - B.length + 1)) hBl
        rw [← Nat.pow_add, show B.length - 1 + (A.length - B.length + 1) = A.length by omega] at h3
        omega
      · rw [show ((A.length - B.length + 1 : Nat) : Int) - 1 = ((A.length - B.length : Nat) : Int) by omega]; rfl
    · rintro e S ⟨k, os, out, hk, hol, ob, hutl, utb, hv, hlt, f6, f7, f8, f9, f10, f11, hS1, hS2⟩
      have hmz : (intD (e 11) + 1).toNat = k := by rw [f11]; simp only [i64, intD]; omega
      rcases Nat.eq_zero_or_pos k with rfl | hp
      · have hneg : ((0 : Int) ≤ ((0 : Nat) : Int) - 1) = False := eq_false (by omega)
        have ft := And.intro f6 (And.intro f7 (And.intro f8 (And.intro f9 (And.intro f10 (And.intro f11 hneg)))))
        repeat (first | with_reducible refine pv_seq fun K hK => ?_ | ((with_reducible first | refine hK _ _ ?_ | (clear hK; refine hK _ _ ?_) | (clear hK; clear hK; refine hK _ _ ?_)); clear hK; try clear K) | refine W0 ?_ | exact Z | with_reducible intro b)
        refine J1 _ _ os out hol ob hutl utb ?_ ?_ Z Z Z Z hS1 hS2
        · rw [List.drop_zero, Nat.pow_zero, Nat.one_mul] at hv; exact hv
        · rw [Nat.pow_zero, Nat.mul_one] at hlt; exact hlt
      · obtain ⟨j, rfl⟩ : ∃ j, k = j + 1 := ⟨k - 1, by omega⟩
        rw [cast_succ_sub] at f11
        have hG : Gs 18446744073709551616 j os V := ⟨by decide, ob, hVb, by omega, by omega, hVt, hlt⟩
        have hsl : j + B.length + 1 - j = V.length + 1 := by omega
        have hz := hG.zero
        repeat (first | (with_reducible first | refine pv_seq fun K hK => ?_ | refine pv_reg ?_ | refine pv_draw (id := 15) qDZ_44_15 (by kernel_rfl) ?_) | ((with_reducible first | refine hK _ _ ?_ | (clear hK; refine hK _ _ ?_) | (clear hK; clear hK; refine hK _ _ ?_)); clear hK; try clear K) | simp -implicitDefEqProofs only [f6, f7, f8, f9, f10, f11, hS1, hS2, hsl, Nat.zero_add, true_and, go_sem, seval] | with_reducible intro b | (with_reducible refine And.intro ?_ ?_; · first | assumption | omega | (unfold R64; omega)))
        refine p_guess hS1 hG (by omega) (fun q hqW hq1 hq2 => ?_)
        repeat (first | (with_reducible first | refine pv_seq fun K hK => ?_ | refine pv_reg ?_ | refine pv_draw (id := 15) qDZ_44_15 (by kernel_rfl) ?_) | ((with_reducible first | refine hK _ _ ?_ | (clear hK; refine hK _ _ ?_) | (clear hK; clear hK; refine hK _ _ ?_)); clear hK; try clear K) | simp -implicitDefEqProofs only [f6, f7, f8, f9, f10, f11, hS1, hS2, hsl, Nat.zero_add, true_and, go_sem, seval] | with_reducible intro b | (with_reducible refine And.intro ?_ ?_; · first | assumption | omega | (unfold R64; omega)))
        refine p_less hS1 ob hVb hqW (Nat.zero_le _) (by omega) (by omega) (fun us' r hul' ub' hout hv' => ?_)
        repeat (first | (with_reducible first | refine pv_seq fun K hK => ?_ | refine pv_reg ?_ | refine pv_draw (id := 15) qDZ_44_15 (by kernel_rfl) ?_) | ((with_reducible first | refine hK _ _ ?_ | (clear hK; refine hK _ _ ?_) | (clear hK; clear hK; refine hK _ _ ?_)); clear hK; try clear K) | simp -implicitDefEqProofs only [f6, f7, f8, f9, f10, f11, hS1, hS2, hsl, Nat.zero_add, true_and, go_sem, seval] | with_reducible intro b | (with_reducible refine And.intro ?_ ?_; · first | assumption | omega | (unfold R64; omega)))
        have J2 : ∀ (e : DEnv) (S : Store) (us2 : List Nat), us2.length = A.length + 1 → B64 us2 → nval 18446744073709551616 us2 + 18446744073709551616 ^ j * (hG.q * nval 18446744073709551616 V) = nval 18446744073709551616 os → nval 18446744073709551616 us2 < nval 18446744073709551616 V * 18446744073709551616 ^ j →
            e 6 = i64 B.length → e 7 = i64 s → e 8 = W64 V → e 9 = .own (.l 27) b1 0 (A.length + 1) (A.length + 1) 1 → e 10 = .own (.l 38) b 0 (A.length - B.length + 1) (A.length - B.length + 1) 1 → e 11 = i64 j → e 12 = w64 hG.q → S (.l 27) = some ⟨b1, 1, 0, rS (eK .u64) us2⟩ → S (.l 38) = some ⟨b, 1, 0, rS (eK .u64) out⟩ → K e S := by
          intro e S us2 hl2 hb2 hv2 hlt2 f6 f7 f8 f9 f10 f11 f12 hS1 hS2
          have g0 := rS_at (k := .u64) (xs := out) (i := j) (by omega)
          repeat (first | (with_reducible first | refine pv_seq fun K hK => ?_ | refine pv_reg ?_ | refine pv_draw (id := 15) qDZ_44_15 (by kernel_rfl) ?_) | ((with_reducible first | refine hK _ _ ?_ | (clear hK; refine hK _ _ ?_) | (clear hK; clear hK; refine hK _ _ ?_)); clear hK; try clear K) | simp -implicitDefEqProofs only [f6, f7, f8, f9, f10, f11, f12, hS1, hS2, g0, D.one, Nat.le_refl, Nat.zero_add, true_and, go_sem, seval] | with_reducible intro b | (with_reducible refine And.intro ?_ ?_; · first | assumption | omega | (unfold R64; omega)))
          refine ⟨⟨j, us2, out.set j hG.q, by omega, hl2, hb2, by simp [hutl], set_lt utb hG.q_lt, ?_, hlt2, rfl, rfl, rfl⟩, ?_⟩
          · rw [nval_drop (xs := out.set j hG.q) (i := j) (by rw [List.length_set]; omega), getD_set, if_pos ⟨rfl, by omega⟩, List.drop_set_of_lt (by omega), ← hv, ← hv2, Nat.add_mul, Nat.mul_add, Nat.pow_succ]
            generalize nval 18446744073709551616 (out.drop (j + 1)) = o
            rw [Nat.mul_assoc 18446744073709551616, Nat.mul_assoc (18446744073709551616 ^ j)]
            omega
          · rw [hmz]; simp only [intD]; omega
        clear hK
        cases r with
        | false =>
          repeat (first | (with_reducible first | refine pv_seq fun K hK => ?_ | refine pv_reg ?_ | refine pv_draw (id := 15) qDZ_44_15 (by kernel_rfl) ?_) | ((with_reducible first | refine hK _ _ ?_ | (clear hK; refine hK _ _ ?_) | (clear hK; clear hK; refine hK _ _ ?_)); clear hK; try clear K) | simp -implicitDefEqProofs only [f6, f7, f8, f9, f10, f11, hS1, hS2, hsl, Nat.zero_add, true_and, go_sem, seval] | with_reducible intro b | (with_reducible refine And.intro ?_ ?_; · first | assumption | omega | (unfold R64; omega)))
          have hv3 : nval 18446744073709551616 us' + 18446744073709551616 ^ j * (q * nval 18446744073709551616 V) = nval 18446744073709551616 os := by simpa using hv'
          obtain ⟨rfl, h4⟩ := hG.take hv3 hq1
          exact J2 _ _ us' (by omega) ub' hv3 h4 (by simp -implicitDefEqProofs only [f6, f7, f8, f9, f10, f11, hS1, hS2, hsl, Nat.zero_add, true_and, go_sem, seval]) (by simp -implicitDefEqProofs only [f6, f7, f8, f9, f10, f11, hS1, hS2, hsl, Nat.zero_add, true_and, go_sem, seval]) (by simp -implicitDefEqProofs only [f6, f7, f8, f9, f10, f11, hS1, hS2, hsl, Nat.zero_add, true_and, go_sem, seval]) (by simp -implicitDefEqProofs only [f6, f7, f8, f9, f10, f11, hS1, hS2, hsl, Nat.zero_add, true_and, go_sem, seval]) (by simp -implicitDefEqProofs only [f6, f7, f8, f9, f10, f11, hS1, hS2, hsl, Nat.zero_add, true_and, go_sem, seval]) (by simp -implicitDefEqProofs only [f6, f7, f8, f9, f10, f11, hS1, hS2, hsl, Nat.zero_add, true_and, go_sem, seval]) (by simp -implicitDefEqProofs only [f6, f7, f8, f9, f10, f11, hS1, hS2, hsl, Nat.zero_add, true_and, go_sem, seval]) (by simp -implicitDefEqProofs only [f6, f7, f8, f9, f10, f11, hS1, hS2, hsl, Nat.zero_add, true_and, go_sem, seval]) (by simp -implicitDefEqProofs only [f6, f7, f8, f9, f10, f11, hS1, hS2, hsl, Nat.zero_add, true_and, go_sem, seval])
        | true =>
          have hX1 : nval 18446744073709551616 us' < 18446744073709551616 ^ (j + V.length + 1) := hi_lt (by decide) ub' fun i hi => by rw [hout i (.inr hi)]; exact hz i hi
          have hv3 : nval 18446744073709551616 us' + 18446744073709551616 ^ j * (q * nval 18446744073709551616 V) = nval 18446744073709551616 os + 18446744073709551616 ^ (j + V.length + 1) := by simpa using hv'
          have hq0 : 0 < q := by
            rcases Nat.eq_zero_or_pos q with rfl | h
            · rw [Nat.zero_mul, Nat.mul_zero] at hv3; omega
            · exact h
          have hw : IntKind.u64.wrap ((q : Int) - 1) = ((q - 1 : Nat) : Int) := by rw [show (q : Int) - 1 = ((q - 1 : Nat) : Int) by omega, wrap64_nat, Nat.mod_eq_of_lt (by omega)]
          repeat (first | (with_reducible first | refine pv_seq fun K hK => ?_ | refine pv_reg ?_ | refine pv_draw (id := 15) qDZ_44_15 (by kernel_rfl) ?_) | ((with_reducible first | refine hK _ _ ?_ | (clear hK; refine hK _ _ ?_) | (clear hK; clear hK; refine hK _ _ ?_)); clear hK; try clear K) | simp -implicitDefEqProofs only [f6, f7, f8, f9, f10, f11, hS1, hS2, hsl, Nat.zero_add, hw, updS_updS, true_and, go_sem, seval] | with_reducible intro b | (with_reducible refine And.intro ?_ ?_; · first | assumption | omega | (unfold R64; omega)))
          refine p_more (us := us') (p := 0) updS_at ub' hVb (Nat.zero_le _) (by omega) (by omega) (fun us2 c hl2 hb2 hout2 hv2 hc => ?_)
          have hX2 : nval 18446744073709551616 us2 < 18446744073709551616 ^ (j + V.length + 1) := hi_lt (by decide) hb2 fun i hi => by rw [hout2 i (.inr hi), hout i (.inr hi)]; exact hz i hi
          obtain ⟨h3, h4, h5⟩ := hG.back hv3 hX1 hq2 hv2 hX2 hc
          obtain rfl : q = hG.q + 1 := h3
          rw [Nat.add_sub_cancel]
          repeat (first | (with_reducible first | refine pv_seq fun K hK => ?_ | refine pv_reg ?_ | refine pv_draw (id := 15) qDZ_44_15 (by kernel_rfl) ?_) | ((with_reducible first | refine hK _ _ ?_ | (clear hK; refine hK _ _ ?_) | (clear hK; clear hK; refine hK _ _ ?_)); clear hK; try clear K) | simp -implicitDefEqProofs only [f6, f7, f8, f9, f10, f11, hS1, hS2, hsl, Nat.zero_add, hw, updS_updS, true_and, go_sem, seval] | with_reducible intro b | (with_reducible refine And.intro ?_ ?_; · first | assumption | omega | (unfold R64; omega)))
          exact J2 _ _ us2 (by omega) hb2 h4 h5 (by simp -implicitDefEqProofs only [f6, f7, f8, f9, f10, f11, hS1, hS2, hsl, Nat.zero_add, hw, updS_updS, true_and, go_sem, seval]) (by simp -implicitDefEqProofs only [f6, f7, f8, f9, f10, f11, hS1, hS2, hsl, Nat.zero_add, hw, updS_updS, true_and, go_sem, seval]) (by simp -implicitDefEqProofs only [f6, f7, f8, f9, f10, f11, hS1, hS2, hsl, Nat.zero_add, hw, updS_updS, true_and, go_sem, seval]) (by simp -implicitDefEqProofs only [f6, f7, f8, f9, f10, f11, hS1, hS2, hsl, Nat.zero_add, hw, updS_updS, true_and, go_sem, seval]) (by simp -implicitDefEqProofs only [f6, f7, f8, f9, f10, f11, hS1, hS2, hsl, Nat.zero_add, hw, updS_updS, true_and, go_sem, seval]) (by simp -implicitDefEqProofs only [f6, f7, f8, f9, f10, f11, hS1, hS2, hsl, Nat.zero_add, hw, updS_updS, true_and, go_sem, seval]) (by simp -implicitDefEqProofs only [f6, f7, f8, f9, f10, f11, hS1, hS2, hsl, Nat.zero_add, hw, updS_updS, true_and, go_sem, seval]) (by simp -implicitDefEqProofs only [f6, f7, f8, f9, f10, f11, hS1, hS2, hsl, Nat.zero_add, hw, updS_updS, true_and, go_sem, seval]) (by simp -implicitDefEqProofs only [f6, f7, f8, f9, f10, f11, hS1, hS2, hsl, Nat.zero_add, hw, updS_updS, true_and, go_sem, seval])
  repeat (first | (with_reducible first | refine pv_seq fun K hK => ?_ | refine pv_reg ?_ | refine pv_draw (id := 15) qDZ_44_15 (by kernel_rfl) ?_) | ((with_reducible first | refine hK _ _ ?_ | (clear hK; refine hK _ _ ?_) | (clear hK; clear hK; refine hK _ _ ?_)); clear hK; try clear K) | simp -implicitDefEqProofs only [e1, hs, hrep, rS_len, hUl, rS_take, rS_drop, rS_app, List.take_zero, Nat.zero_add, updS_updS, true_and, go_sem, seval] | with_reducible intro b | (with_reducible refine And.intro ?_ ?_; · first | assumption | omega | (unfold R64; omega)))
  refine ⟨by simp, ?_⟩
  rw [List.take_length, List.drop_replicate, ← hu]
  exact J0 _ _ (by simp -implicitDefEqProofs only [e1, hs, hrep, rS_len, hUl, rS_take, rS_drop, rS_app, List.take_zero, Nat.zero_add, updS_updS, true_and, go_sem, seval]) (by simp -implicitDefEqProofs only [e1, hs, hrep, rS_len, hUl, rS_take, rS_drop, rS_app, List.take_zero, Nat.zero_add, updS_updS, true_and, go_sem, seval]) (by simp -implicitDefEqProofs only [e1, hs, hrep, rS_len, hUl, rS_take, rS_drop, rS_app, List.take_zero, Nat.zero_add, updS_updS, true_and, go_sem, seval]) (by simp -implicitDefEqProofs only [e1, hs, hrep, rS_len, hUl, rS_take, rS_drop, rS_app, List.take_zero, Nat.zero_add, updS_updS, true_and, go_sem, seval]) (by simp -implicitDefEqProofs only [e1, hs, hrep, rS_len, hUl, rS_take, rS_drop, rS_app, List.take_zero, Nat.zero_add, updS_updS, true_and, go_sem, seval])

end Go.V
namespace Go.V
open Go Go.RowKit Go.Proofs

theorem p_byWord {A : List Nat} {d : Nat} (ha : B64 A) (hl : A.length ≤ 1099511627776) (hd0 : 0 < d) (hd : d < 18446744073709551616) :
    PC Tryd.prog 43 [W64 A, w64 d] fun r => r = .tup [W64 (D64 (N64 A / d)), w64 (N64 A % d)] := pc_new fun w I vs hG hv => by
  obtain ⟨v, v', rfl, h, h'⟩ := hv.two
  obtain rfl := h'.lit_inv
  refine (nat_byWord (rd_w64 h ha) hl hd0 hd).mono ?_
  rintro r w' ⟨hE, q, rfl, hq⟩
  exact ⟨hE, _, RdD.ofT (.cons (own_w64 hq) (.cons (.g (.lit _ rfl)) .nil)), rfl⟩

set_option maxHeartbeats 4000000 in
theorem p_Div {xs ys : List Nat} (hx : B64 xs) (hy : B64 ys) (hl : xs.length ≤ 1099511627776) (hl' : ys.length ≤ 1099511627776) :
    PC Tryd.prog 27 [W64 xs, W64 ys] fun d => d = if N64 ys = 0 then .tup [W64 [], W64 [], bl false] else .tup [W64 (D64 (N64 xs / N64 ys)), W64 (D64 (N64 xs % N64 ys)), bl true] := by
  have hlm : (D64 (N64 xs)).length ≤ xs.length := digs_len_le (by decide) (nval_lt (by decide) xs hx)
  have hln : (D64 (N64 ys)).length ≤ ys.length := digs_len_le (by decide) (nval_lt (by decide) ys hy)
  have h0 : (D64 (N64 ys)).length = 0 ↔ N64 ys = 0 := by rw [List.length_eq_zero_iff]; exact digs_eq_nil (by decide)
  have hm : N64 (D64 (N64 xs)) = N64 xs := nval_digs (by decide) _
  have hn : N64 (D64 (N64 ys)) = N64 ys := nval_digs (by decide) _
  have hbm : B64 (D64 (N64 xs)) := digs_lt (by decide) _
  have hbn : B64 (D64 (N64 ys)) := digs_lt (by decide) _
  have htm : NoTail (D64 (N64 xs)) := digs_noTail (by decide) _
  have htn : NoTail (D64 (N64 ys)) := digs_noTail (by decide) _
  refine PB (rs := [.tmp 4, .tmp 5, .tmp 6]) Tryd.func27 ?_
  repeat (first | with_reducible refine pv_seq fun K hK => ?_ | ((with_reducible first | refine hK _ _ ?_ | (clear hK; refine hK _ _ ?_) | (clear hK; clear hK; refine hK _ _ ?_)); clear hK; try clear K) | refine W0 ?_ | exact Z | with_reducible intro b | refine call_is (by first | exact (p_cut hx) | exact (p_cut hy)) ?_)
  refine pv_cdD (fun ht => ?_) (fun ht => ?_)
  · repeat (first | with_reducible refine pv_seq fun K hK => ?_ | ((with_reducible first | refine hK _ _ ?_ | (clear hK; refine hK _ _ ?_) | (clear hK; clear hK; refine hK _ _ ?_)); clear hK; try clear K) | refine W0 ?_ | exact Z | with_reducible intro b)
    rw [if_pos (h0.1 ht)]
  · have hn0 : ¬ N64 ys = 0 := fun h => ht (h0.2 h)
    repeat (first | with_reducible refine pv_seq fun K hK => ?_ | ((with_reducible first | refine hK _ _ ?_ | (clear hK; refine hK _ _ ?_) | (clear hK; clear hK; refine hK _ _ ?_)); clear hK; try clear K) | refine W0 ?_ | exact Z | with_reducible intro b)
    refine call_is (p_Cmp hbm hbn (by omega) (by omega)) ?_
    rw [hm, hn]
    repeat (first | with_reducible refine pv_seq fun K hK => ?_ | ((with_reducible first | refine hK _ _ ?_ | (clear hK; refine hK _ _ ?_) | (clear hK; clear hK; refine hK _ _ ?_)); clear hK; try clear K) | refine W0 ?_ | exact Z | with_reducible intro b)
    refine pv_cdD (fun ht2 => ?_) (fun ht2 => ?_)
    · repeat (first | with_reducible refine pv_seq fun K hK => ?_ | ((with_reducible first | refine hK _ _ ?_ | (clear hK; refine hK _ _ ?_) | (clear hK; clear hK; refine hK _ _ ?_)); clear hK; try clear K) | refine W0 ?_ | exact Z | with_reducible intro b)
      refine call_is (p_Trim hbm (by omega)) ?_
      rw [hm]
      have hlt : N64 xs < N64 ys := by
        unfold cmpI at ht2
        split at ht2
        · omega
        · split at ht2 <;> simp at ht2
      repeat (first | with_reducible refine pv_seq fun K hK => ?_ | ((with_reducible first | refine hK _ _ ?_ | (clear hK; refine hK _ _ ?_) | (clear hK; clear hK; refine hK _ _ ?_)); clear hK; try clear K) | refine W0 ?_ | exact Z | with_reducible intro b)
      rw [if_neg hn0, Nat.div_eq_of_lt hlt, Nat.mod_eq_of_lt hlt, show D64 0 = [] from digs_zero _]
    · have hge : N64 ys ≤ N64 xs := by
        unfold cmpI at ht2
        split at ht2
        · simp at ht2
        · omega
      repeat (first | with_reducible refine pv_seq fun K hK => ?_ | ((with_reducible first | refine hK _ _ ?_ | (clear hK; refine hK _ _ ?_) | (clear hK; clear hK; refine hK _ _ ?_)); clear hK; try clear K) | refine W0 ?_ | exact Z | with_reducible intro b)
      refine pv_cdD (fun ht3 => ?_) (fun ht3 => ?_)
      · obtain ⟨x, hx1⟩ : ∃ x, D64 (N64 ys) = [x] := List.length_eq_one_iff.1 (by omega)
        have hxn : x = N64 ys := by rw [← hn, hx1]; simp [nval]
        have hxb : x < 18446744073709551616 := hbn x (by rw [hx1]; exact List.mem_singleton.2 rfl)
        rw [hx1]
        repeat (first | with_reducible refine pv_seq fun K hK => ?_ | ((with_reducible first | refine hK _ _ ?_ | (clear hK; refine hK _ _ ?_) | (clear hK; clear hK; refine hK _ _ ?_)); clear hK; try clear K) | refine W0 ?_ | exact Z | with_reducible intro b)
        refine call_is (p_byWord hbm (by omega) (show 0 < x by omega) hxb) ?_
        rw [hm, hxn]
        have hmod : N64 xs % N64 ys < 18446744073709551616 := by rw [← hxn]; exact Nat.lt_trans (Nat.mod_lt _ (by omega)) hxb
        repeat (first | with_reducible refine pv_seq fun K hK => ?_ | ((with_reducible first | refine hK _ _ ?_ | (clear hK; refine hK _ _ ?_) | (clear hK; clear hK; refine hK _ _ ?_)); clear hK; try clear K) | refine W0 ?_ | exact Z | with_reducible intro b)
        refine PFC.coe ?_
        simp -implicitDefEqProofs only [ft, go_sem, seval]
        refine call_is (p_cut (xs := [N64 xs % N64 ys]) (by intro x hx; rw [List.mem_singleton.1 hx]; exact hmod)) ?_
        rw [show N64 [N64 xs % N64 ys] = N64 xs % N64 ys by simp [nval]]
        repeat (first | with_reducible refine pv_seq fun K hK => ?_ | ((with_reducible first | refine hK _ _ ?_ | (clear hK; refine hK _ _ ?_) | (clear hK; clear hK; refine hK _ _ ?_)); clear hK; try clear K) | refine W0 ?_ | exact Z | with_reducible intro b)
        rw [if_neg hn0]
      · repeat (first | with_reducible refine pv_seq fun K hK => ?_ | ((with_reducible first | refine hK _ _ ?_ | (clear hK; refine hK _ _ ?_) | (clear hK; clear hK; refine hK _ _ ?_)); clear hK; try clear K) | refine W0 ?_ | exact Z | with_reducible intro b)
        refine call_is (p_byWords hbm hbn (by omega) htm htn (by omega) (by rw [hm, hn]; exact hge)) ?_
        rw [hm, hn]
        repeat (first | with_reducible refine pv_seq fun K hK => ?_ | ((with_reducible first | refine hK _ _ ?_ | (clear hK; refine hK _ _ ?_) | (clear hK; clear hK; refine hK _ _ ?_)); clear hK; try clear K) | refine W0 ?_ | exact Z | with_reducible intro b)
        rw [if_neg hn0]

end Go.V

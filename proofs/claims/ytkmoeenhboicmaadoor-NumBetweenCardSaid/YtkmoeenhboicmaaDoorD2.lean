/- Bits of numbers, by their digits. Plain arithmetic. -/
import Derived.Test.YtkmoeenhboicmaaDoorD
import Derived.Laws.MathBits
import Derived.Lib.TrailingZeros
set_option linter.unusedVariables false
namespace Go.V
open Go

theorem bitLen_unique {n k : Nat} (h1 : n < 2 ^ k) (h2 : k ≠ 0 → 2 ^ (k - 1) ≤ n) : bitLen n = k := by
  obtain ⟨a1, a2⟩ := bitLen_spec n
  by_cases hk : k = 0
  · subst hk
    have : n = 0 := by simpa using h1
    subst this; rfl
  · have h2 := h2 hk
    have hn : n ≠ 0 := by have := Nat.two_pow_pos (k - 1); omega
    have a2 := a2 hn
    have b1 : k - 1 < bitLen n := (Nat.pow_lt_pow_iff_right (by decide : 1 < 2)).1 (Nat.lt_of_le_of_lt h2 a1)
    have b2 : bitLen n - 1 < k := (Nat.pow_lt_pow_iff_right (by decide : 1 < 2)).1 (Nat.lt_of_le_of_lt a2 h1)
    omega

theorem bitLen_zero : bitLen 0 = 0 := rfl
theorem bitLen_pos {n : Nat} (h : n ≠ 0) : 0 < bitLen n := by unfold bitLen; rw [if_neg h]; omega

/-- The bits of a number whose highest digit is x, behind m digits of b bits. -/
theorem bitLen_top {b m x r : Nat} (hx : x ≠ 0) (hr : r < 2 ^ (b * m)) : bitLen (r + 2 ^ (b * m) * x) = b * m + bitLen x := by
  obtain ⟨a1, a2⟩ := bitLen_spec x
  have hp := bitLen_pos hx
  apply bitLen_unique
  · rw [Nat.pow_add]
    have : 2 ^ (b * m) * (x + 1) ≤ 2 ^ (b * m) * 2 ^ bitLen x := Nat.mul_le_mul_left _ a1
    rw [Nat.mul_add] at this; omega
  · intro _
    rw [show b * m + bitLen x - 1 = b * m + (bitLen x - 1) by omega, Nat.pow_add]
    have := Nat.mul_le_mul_left (2 ^ (b * m)) (a2 hx)
    omega

theorem nval_last {B : Nat} {xs : List Nat} (h : xs ≠ []) : nval B xs = nval B (xs.take (xs.length - 1)) + B ^ (xs.length - 1) * xs.getD (xs.length - 1) 0 := by
  have hl : xs.length ≠ 0 := fun h0 => h (List.eq_nil_of_length_eq_zero h0)
  have e : xs = xs.take (xs.length - 1) ++ [xs.getD (xs.length - 1) 0] := by
    conv => lhs; rw [← List.take_append_drop (xs.length - 1) xs]
    congr 1
    rw [List.drop_eq_getElem_cons (by omega)]
    simp only [List.getD, List.getElem?_eq_getElem (show xs.length - 1 < xs.length by omega), Option.getD_some]
    rw [List.drop_of_length_le (by omega)]
  conv => lhs; rw [e]
  rw [nval_append]
  simp [nval]

/-- How many of the lowest bits are 0. -/
def tz (n : Nat) : Nat := if h : n = 0 ∨ n % 2 = 1 then 0 else 1 + tz (n / 2)
termination_by n
decreasing_by omega

theorem tz_zero : tz 0 = 0 := by rw [tz]; simp
theorem tz_odd {n : Nat} (h : n % 2 = 1) : tz n = 0 := by rw [tz]; rw [dif_pos (.inr h)]
theorem tz_double {n : Nat} (h : n ≠ 0) : tz (2 * n) = 1 + tz n := by
  rw [tz, dif_neg (by omega)]
  congr 2
  omega
theorem tz_pow {n : Nat} (k : Nat) (h : n ≠ 0) : tz (2 ^ k * n) = k + tz n := by
  induction k with
  | zero => simp
  | succ k ih =>
    rw [Nat.pow_succ, Nat.mul_comm (2 ^ k) 2, Nat.mul_assoc, tz_double (by have := Nat.mul_pos (Nat.two_pow_pos k) (Nat.pos_of_ne_zero h); omega), ih]
    omega
theorem tz_form {k m : Nat} : tz (2 ^ k * (2 * m + 1)) = k := by rw [tz_pow k (by omega), tz_odd (by omega)]; omega
/-- What is left above is odd. -/
theorem tz_spec : ∀ (n : Nat), n ≠ 0 → ∃ m, n = 2 ^ tz n * (2 * m + 1) := by
  intro n
  induction n using Nat.strongRecOn with
  | _ n ih =>
    intro h
    by_cases ho : n % 2 = 1
    · refine ⟨n / 2, ?_⟩
      rw [tz_odd ho]; omega
    · obtain ⟨m, hm⟩ := ih (n / 2) (by omega) (by omega)
      refine ⟨m, ?_⟩
      have e : n = 2 * (n / 2) := by omega
      have h2 : tz n = 1 + tz (n / 2) := by
        have := tz_double (n := n / 2) (by omega)
        rw [← e] at this; exact this
      rw [h2, Nat.pow_add, Nat.pow_one, Nat.mul_assoc, ← hm]
      exact e
theorem ctz_tz {b x : Nat} (h0 : x ≠ 0) (h : x < 2 ^ b) : Lib.ctz b x = tz x := by
  obtain ⟨m, hm, _⟩ := Lib.ctzFrom_spec b x (by omega) h
  have : Lib.ctz b x = Lib.ctzFrom b x := by simp [Lib.ctz, h0]
  rw [this]
  conv => rhs; rw [hm]
  rw [tz_form]
/-- The lowest bits of a number whose lowest digits are noughts. -/
theorem tz_low {b i x r : Nat} (h0 : x ≠ 0) (h : x < 2 ^ b) : tz (2 ^ (b * i) * (x + 2 ^ b * r)) = b * i + tz x := by
  obtain ⟨m, hm⟩ := tz_spec x h0
  rw [tz_pow _ (by omega)]
  congr 1
  have hlt : tz x < b := by
    have : 2 ^ tz x ≤ x := by
      conv => rhs; rw [hm]
      exact Nat.le_mul_of_pos_right _ (by omega)
    exact (Nat.pow_lt_pow_iff_right (by decide : 1 < 2)).1 (Nat.lt_of_le_of_lt this h)
  have e : x + 2 ^ b * r = 2 ^ tz x * (2 * (m + 2 ^ (b - tz x - 1) * r) + 1) := by
    have hb : (2 : Nat) ^ b = 2 ^ tz x * (2 * 2 ^ (b - tz x - 1)) := by
      rw [← Nat.pow_succ', ← Nat.pow_add]; congr 1; omega
    rw [hb]
    conv => lhs; rw [hm]
    have e2 : tz (2 ^ tz x * (2 * m + 1)) = tz x := tz_form
    rw [e2, Nat.mul_assoc, ← Nat.mul_add]
    congr 1
    rw [Nat.mul_add, Nat.mul_assoc]
    omega
  rw [e, tz_form]

/-- The digits' order is that of their numbers. -/
theorem nval_lt_of_len {B : Nat} (hB : 2 ≤ B) {n m : Nat} (h : (digs B n).length < (digs B m).length) : n < m := by
  have h1 := lt_pow_len hB n
  have hm : m ≠ 0 := by rintro rfl; rw [digs_zero] at h; simp at h
  have h2 := pow_len_le hB hm
  have h3 : B ^ (digs B n).length ≤ B ^ ((digs B m).length - 1) := Nat.pow_le_pow_right (by omega) (by omega)
  omega

/-- Alike above place i; at i they part. -/
theorem nval_part {B : Nat} (hB : 1 ≤ B) {xs ys : List Nat} (hx : ∀ x ∈ xs, x < B) (hl : xs.length = ys.length) {i : Nat} (hi : i < xs.length)
    (hab : ∀ j, i < j → xs.getD j 0 = ys.getD j 0) (hlt : xs.getD i 0 < ys.getD i 0) : nval B xs < nval B ys := by
  have split : ∀ zs : List Nat, i < zs.length → nval B zs = nval B (zs.take i) + B ^ i * (zs.getD i 0 + B * nval B (zs.drop (i + 1))) := by
    intro zs hz
    have := nval_append B (zs.take i) (zs.drop i)
    rw [List.take_append_drop, List.length_take, Nat.min_eq_left (by omega)] at this
    rw [this, List.drop_eq_getElem_cons hz, nval_cons]
    simp [List.getD, hz]
  have hd : xs.drop (i + 1) = ys.drop (i + 1) := by
    apply List.ext_getElem?
    intro j
    rw [List.getElem?_drop, List.getElem?_drop]
    have := hab (i + 1 + j) (by omega)
    simp only [List.getD] at this
    by_cases hj : i + 1 + j < xs.length
    · rw [List.getElem?_eq_getElem hj, List.getElem?_eq_getElem (by omega)] at this ⊢
      simpa using this
    · rw [List.getElem?_eq_none (by omega), List.getElem?_eq_none (by omega)]
  rw [split xs hi, split ys (by omega), hd]
  have h1 := nval_lt hB (xs.take i) (fun x hxx => hx x (List.mem_of_mem_take hxx))
  rw [List.length_take, Nat.min_eq_left (by omega)] at h1
  have h2 : B ^ i * (xs.getD i 0 + B * nval B (ys.drop (i + 1)) + 1) ≤ B ^ i * (ys.getD i 0 + B * nval B (ys.drop (i + 1))) := Nat.mul_le_mul_left _ (by omega)
  rw [Nat.mul_add _ _ 1] at h2
  omega

theorem digs_len_eq {B : Nat} (hB : 2 ≤ B) {xs : List Nat} (hx : ∀ x ∈ xs, x < B) : (digs B (nval B xs)).length = xs.length ↔ NoTail xs := by
  constructor
  · intro h
    intro x hl hx0
    subst hx0
    have hne : xs ≠ [] := by rintro rfl; simp at hl
    have h1 := nval_last (B := B) hne
    have hz : xs.getD (xs.length - 1) 0 = 0 := by
      rw [List.getLast?_eq_getElem?] at hl
      rw [List.getD, hl]; rfl
    rw [hz, Nat.mul_zero, Nat.add_zero] at h1
    have h2 := nval_lt (B := B) (by omega) (xs.take (xs.length - 1)) (fun x hxx => hx x (List.mem_of_mem_take hxx))
    rw [← h1, List.length_take, Nat.min_eq_left (by omega)] at h2
    have := digs_len_le hB h2
    have hl0 : xs.length ≠ 0 := fun h0 => hne (List.eq_nil_of_length_eq_zero h0)
    omega
  · intro h
    rw [digs_nval hB xs hx h]

theorem nval_low {B : Nat} {xs : List Nat} {i : Nat} (hi : i < xs.length) (h : ∀ j, j < i → xs.getD j 0 = 0) : nval B xs = B ^ i * (xs.getD i 0 + B * nval B (xs.drop (i + 1))) := by
  have := nval_append B (xs.take i) (xs.drop i)
  rw [List.take_append_drop, List.length_take, Nat.min_eq_left (by omega)] at this
  rw [this, nval_zeros B (xs.take i), List.drop_eq_getElem_cons hi, nval_cons]
  · simp [List.getD, hi]
  · intro y hy
    obtain ⟨j, hj, rfl⟩ := List.getElem_of_mem hy
    rw [List.getElem_take]
    have hj' : j < xs.length := by rw [List.length_take] at hj; omega
    have := h j (by rw [List.length_take] at hj; omega)
    simpa [List.getD, hj'] using this
theorem nval_none {B : Nat} {xs : List Nat} (h : ∀ j, j < xs.length → xs.getD j 0 = 0) : nval B xs = 0 := by
  refine nval_zeros B xs fun y hy => ?_
  obtain ⟨j, hj, rfl⟩ := List.getElem_of_mem hy
  have := h j hj
  simpa [List.getD, hj] using this
theorem list_ext_getD {xs ys : List Nat} (hl : xs.length = ys.length) (h : ∀ j, xs.getD j 0 = ys.getD j 0) : xs = ys := by
  apply List.ext_getElem hl
  intro j h1 h2
  have := h j
  simpa [List.getD, h1, h2] using this

theorem nval_set {B i y : Nat} {xs : List Nat} (hi : i < xs.length) : nval B (xs.set i y) + B ^ i * xs.getD i 0 = nval B xs + B ^ i * y := by
  induction xs generalizing i with
  | nil => simp at hi
  | cons x r ih =>
    cases i with
    | zero => simp [nval]; omega
    | succ i =>
      have := ih (i := i) (by simpa using hi)
      simp only [List.set_cons_succ, nval_cons, List.getD_cons_succ, Nat.pow_succ]
      have h2 : B * (nval B (r.set i y) + B ^ i * r.getD i 0) = B * (nval B r + B ^ i * y) := by rw [this]
      rw [Nat.mul_add, Nat.mul_add] at h2
      rw [Nat.mul_comm (B ^ i) B, Nat.mul_assoc, Nat.mul_assoc]
      omega
theorem nval_drop {B i : Nat} {xs : List Nat} (hi : i < xs.length) : nval B (xs.drop i) = xs.getD i 0 + B * nval B (xs.drop (i + 1)) := by
  rw [List.drop_eq_getElem_cons hi, nval_cons]
  simp [List.getD, hi]
theorem nval_drop_all {B i : Nat} {xs : List Nat} (hi : xs.length ≤ i) : nval B (xs.drop i) = 0 := by rw [List.drop_of_length_le hi]; rfl
theorem set_lt {B i y : Nat} {xs : List Nat} (h : ∀ x ∈ xs, x < B) (hy : y < B) : ∀ x ∈ xs.set i y, x < B := by
  intro x hx
  rcases List.mem_or_eq_of_mem_set hx with h' | rfl
  · exact h x h'
  · exact hy

/-- One step of a sum: a digit is added where there is a carry. -/
theorem add_step {W i s c b d : Nat} {os : List Nat} {T : Nat} (hW : 0 < W) (hi : i < os.length) (hs : s = os.getD i 0 + b + c) (hT : nval W os + W ^ i * (c + (b + W * d)) = T) :
    nval W (os.set i (s % W)) + W ^ (i + 1) * (s / W + d) = T := by
  have h1 := nval_set (B := W) (y := s % W) hi
  have h2 : W ^ i * (s % W) + W ^ (i + 1) * (s / W) = W ^ i * s := by
    rw [Nat.pow_succ, Nat.mul_assoc, ← Nat.mul_add, Nat.mod_add_div]
  have h3 : W ^ i * s = W ^ i * os.getD i 0 + W ^ i * b + W ^ i * c := by rw [hs, Nat.mul_add, Nat.mul_add]
  have h4 : W ^ (i + 1) * (s / W + d) = W ^ (i + 1) * (s / W) + W ^ (i + 1) * d := Nat.mul_add _ _ _
  have h5 : W ^ i * (c + (b + W * d)) = W ^ i * c + (W ^ i * b + W ^ (i + 1) * d) := by
    rw [Nat.mul_add, Nat.mul_add, Nat.pow_succ, Nat.mul_assoc]
  omega
/-- One step of a difference. -/
theorem sub_step {W i y c c' b d : Nat} {os : List Nat} {S T : Nat} (hi : i < os.length) (hs : y + b + c = os.getD i 0 + W * c') (hT : nval W os + S = T + W ^ i * (c + (b + W * d))) :
    nval W (os.set i y) + S = T + W ^ (i + 1) * (c' + d) := by
  have h1 := nval_set (B := W) (y := y) hi
  have h2 : W ^ i * (y + b + c) = W ^ i * (os.getD i 0 + W * c') := by rw [hs]
  have h3 : W ^ i * (y + b + c) = W ^ i * y + W ^ i * b + W ^ i * c := by rw [Nat.mul_add, Nat.mul_add]
  have h4 : W ^ i * (os.getD i 0 + W * c') = W ^ i * os.getD i 0 + W ^ (i + 1) * c' := by rw [Nat.mul_add, Nat.pow_succ, Nat.mul_assoc]
  have h5 : W ^ i * (c + (b + W * d)) = W ^ i * c + (W ^ i * b + W ^ (i + 1) * d) := by
    rw [Nat.mul_add, Nat.mul_add, Nat.pow_succ, Nat.mul_assoc]
  have h6 : W ^ (i + 1) * (c' + d) = W ^ (i + 1) * c' + W ^ (i + 1) * d := Nat.mul_add _ _ _
  omega

theorem last_place (xs : List Nat) : ∃ m, m ≤ xs.length ∧ (∀ j, m ≤ j → xs.getD j 0 = 0) ∧ (m ≠ 0 → xs.getD (m - 1) 0 ≠ 0) := by
  have key : ∀ k, k ≤ xs.length → (∀ j, k ≤ j → xs.getD j 0 = 0) → ∃ m, m ≤ xs.length ∧ (∀ j, m ≤ j → xs.getD j 0 = 0) ∧ (m ≠ 0 → xs.getD (m - 1) 0 ≠ 0) := by
    intro k
    induction k with
    | zero => intro h1 h2; exact ⟨0, h1, h2, fun h => absurd rfl h⟩
    | succ k ih =>
      intro h1 h2
      by_cases h : xs.getD k 0 = 0
      · refine ih (by omega) fun j hj => ?_
        rcases Nat.eq_or_lt_of_le hj with rfl | hj
        · exact h
        · exact h2 j hj
      · exact ⟨k + 1, h1, h2, fun _ => by simpa using h⟩
  exact key xs.length (Nat.le_refl _) fun j hj => by simp [List.getD, List.getElem?_eq_none hj]
theorem take_digs_len {B : Nat} (hB : 2 ≤ B) {xs : List Nat} (hx : ∀ x ∈ xs, x < B) : xs.take (digs B (nval B xs)).length = digs B (nval B xs) := by
  obtain ⟨m, h1, h2, h3⟩ := last_place xs
  have h := take_digs hB hx h1 h2 h3
  have hl : (digs B (nval B xs)).length = m := by rw [← h]; simp; omega
  rw [hl, h]

end Go.V

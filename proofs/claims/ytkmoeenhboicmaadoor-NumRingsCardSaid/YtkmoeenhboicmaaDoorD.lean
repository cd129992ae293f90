/- Numbers as digits, the lowest first. Plain arithmetic: no program, no model. -/
import Init
set_option linter.unusedSimpArgs false
set_option linter.unusedVariables false
namespace Go.V

def cmpI (a b : Int) : Int := if a < b then -1 else if b < a then 1 else 0
def nval (B : Nat) : List Nat → Nat
  | [] => 0
  | x :: r => x + B * nval B r

/-- The digits of a number, no nought at the end. -/
def digs (B n : Nat) : List Nat := if h : n = 0 ∨ B < 2 then [] else n % B :: digs B (n / B)
termination_by n
decreasing_by exact Nat.div_lt_self (by omega) (by omega)

theorem digs_zero (B : Nat) : digs B 0 = [] := by rw [digs]; simp
theorem digs_pos {B n : Nat} (hB : 2 ≤ B) (hn : n ≠ 0) : digs B n = n % B :: digs B (n / B) := by rw [digs]; rw [dif_neg (by omega)]
theorem digs_small {B n : Nat} (hB : 2 ≤ B) (h0 : n ≠ 0) (hn : n < B) : digs B n = [n] := by rw [digs_pos hB h0, Nat.mod_eq_of_lt hn, Nat.div_eq_of_lt hn, digs_zero]

theorem nval_nil (B : Nat) : nval B [] = 0 := rfl
theorem nval_cons (B x : Nat) (r : List Nat) : nval B (x :: r) = x + B * nval B r := rfl

theorem nval_digs {B : Nat} (hB : 2 ≤ B) : ∀ n, nval B (digs B n) = n := by
  intro n
  induction n using Nat.strongRecOn with
  | _ n ih =>
    by_cases h0 : n = 0
    · subst h0; rw [digs_zero]; rfl
    · rw [digs_pos hB h0, nval_cons, ih (n / B) (Nat.div_lt_self (by omega) (by omega)), Nat.mod_add_div]

theorem digs_lt {B : Nat} (hB : 2 ≤ B) : ∀ n x, x ∈ digs B n → x < B := by
  intro n
  induction n using Nat.strongRecOn with
  | _ n ih =>
    intro x hx
    by_cases h0 : n = 0
    · subst h0; rw [digs_zero] at hx; cases hx
    · rw [digs_pos hB h0] at hx
      rcases List.mem_cons.1 hx with rfl | hx
      · exact Nat.mod_lt _ (by omega)
      · exact ih (n / B) (Nat.div_lt_self (by omega) (by omega)) x hx

theorem nval_append (B : Nat) : ∀ (xs ys : List Nat), nval B (xs ++ ys) = nval B xs + B ^ xs.length * nval B ys
  | [], ys => by simp [nval]
  | x :: xs, ys => by
    simp only [List.cons_append, nval_cons, nval_append B xs ys, List.length_cons, Nat.pow_succ, Nat.mul_add, Nat.add_assoc]
    congr 2
    rw [Nat.mul_comm (B ^ xs.length) B, Nat.mul_assoc]

theorem nval_lt {B : Nat} (hB : 1 ≤ B) : ∀ (xs : List Nat), (∀ x ∈ xs, x < B) → nval B xs < B ^ xs.length
  | [], _ => by simp [nval]
  | x :: xs, h => by
    have h1 := nval_lt hB xs (fun y hy => h y (by simp [hy]))
    have h0 := h x (by simp)
    rw [nval_cons, List.length_cons, Nat.pow_succ, Nat.mul_comm _ B]
    have : B * (nval B xs + 1) ≤ B * B ^ xs.length := Nat.mul_le_mul_left B h1
    rw [Nat.mul_add] at this; omega

/-- The last digit, if there is one, is none that is 0. -/
def NoTail (xs : List Nat) : Prop := ∀ x, xs.getLast? = some x → x ≠ 0

theorem digs_noTail {B : Nat} (hB : 2 ≤ B) : ∀ n, NoTail (digs B n) := by
  intro n
  induction n using Nat.strongRecOn with
  | _ n ih =>
    by_cases h0 : n = 0
    · subst h0; rw [digs_zero]; intro x hx; simp at hx
    · rw [digs_pos hB h0]
      intro x hx
      have ih' := ih (n / B) (Nat.div_lt_self (by omega) (by omega))
      cases hd : digs B (n / B) with
      | nil =>
        rw [hd] at hx
        simp at hx
        have h1 := nval_digs hB (n / B)
        rw [hd, nval_nil] at h1
        have := Nat.mod_add_div n B
        rw [← h1] at this
        omega
      | cons y r =>
        rw [hd] at hx ih'
        exact ih' x (by simpa using hx)

theorem nval_pos {B : Nat} (hB : 2 ≤ B) : ∀ (xs : List Nat), NoTail xs → xs ≠ [] → nval B xs ≠ 0
  | [], _, h => absurd rfl h
  | [x], ht, _ => by have := ht x (by simp); simp [nval]; exact this
  | x :: y :: r, ht, _ => by
    have := nval_pos hB (y :: r) (fun z hz => ht z (by simpa using hz)) (by simp)
    rw [nval_cons]
    have h2 : 0 < B * nval B (y :: r) := Nat.mul_pos (by omega) (Nat.pos_of_ne_zero this)
    omega

theorem digs_nval {B : Nat} (hB : 2 ≤ B) : ∀ (xs : List Nat), (∀ x ∈ xs, x < B) → NoTail xs → digs B (nval B xs) = xs
  | [], _, _ => digs_zero B
  | x :: r, h, ht => by
    have h0 := h x (by simp)
    rw [digs_pos hB (nval_pos hB _ ht (by simp)), nval_cons]
    have e1 : (x + B * nval B r) % B = x := by rw [Nat.add_mul_mod_self_left, Nat.mod_eq_of_lt h0]
    have e2 : (x + B * nval B r) / B = nval B r := by rw [Nat.add_mul_div_left _ _ (by omega), Nat.div_eq_of_lt h0, Nat.zero_add]
    rw [e1, e2, digs_nval hB r (fun y hy => h y (by simp [hy])) (fun z hz => ?_)]
    cases r with
    | nil => simp at hz
    | cons y r => exact ht z (by simpa using hz)

/-- Digits behind which there are noughts alone. -/
theorem nval_zeros (B : Nat) : ∀ (ys : List Nat), (∀ y ∈ ys, y = 0) → nval B ys = 0
  | [], _ => rfl
  | y :: r, h => by rw [nval_cons, h y (by simp), nval_zeros B r (fun z hz => h z (by simp [hz]))]; simp

theorem nval_take {B m : Nat} {xs : List Nat} (h : ∀ j, m ≤ j → xs.getD j 0 = 0) : nval B (xs.take m) = nval B xs := by
  have e : xs.take m ++ xs.drop m = xs := List.take_append_drop m xs
  have := nval_append B (xs.take m) (xs.drop m)
  rw [e] at this
  rw [this, nval_zeros B (xs.drop m), Nat.mul_zero, Nat.add_zero]
  intro y hy
  obtain ⟨j, hj, rfl⟩ := List.getElem_of_mem hy
  have := h (m + j) (by omega)
  rw [List.getElem_drop]
  simp at hj
  simpa [List.getD, List.getElem?_eq_getElem (show m + j < xs.length by omega)] using this

/-- What a cut comes to: the digits of the number. -/
theorem take_digs {B m : Nat} (hB : 2 ≤ B) {xs : List Nat} (hx : ∀ x ∈ xs, x < B) (hm : m ≤ xs.length) (h0 : ∀ j, m ≤ j → xs.getD j 0 = 0) (h1 : m ≠ 0 → xs.getD (m - 1) 0 ≠ 0) :
    xs.take m = digs B (nval B xs) := by
  rw [← nval_take h0, digs_nval hB]
  · intro x hxx; exact hx x (List.mem_of_mem_take hxx)
  · intro x hl
    by_cases hm0 : m = 0
    · subst hm0; simp at hl
    · have := h1 hm0
      rw [List.getLast?_eq_getElem?, List.length_take, Nat.min_eq_left hm, List.getElem?_take, if_pos (by omega)] at hl
      rw [List.getD, hl] at this
      exact this

theorem digs_len_le {B : Nat} (hB : 2 ≤ B) {n k : Nat} (h : n < B ^ k) : (digs B n).length ≤ k := by
  induction k generalizing n with
  | zero => simp at h; subst h; simp [digs_zero]
  | succ k ih =>
    by_cases h0 : n = 0
    · subst h0; simp [digs_zero]
    · rw [digs_pos hB h0, List.length_cons]
      have := ih (n := n / B) (by rw [Nat.div_lt_iff_lt_mul (by omega)]; rwa [Nat.pow_succ] at h)
      omega

theorem lt_pow_len {B : Nat} (hB : 2 ≤ B) (n : Nat) : n < B ^ (digs B n).length := by
  have := nval_lt (B := B) (by omega) (digs B n) (digs_lt hB n)
  rwa [nval_digs hB] at this

theorem pow_len_le {B : Nat} (hB : 2 ≤ B) {n : Nat} (h0 : n ≠ 0) : B ^ ((digs B n).length - 1) ≤ n := by
  induction n using Nat.strongRecOn with
  | _ n ih =>
    rw [digs_pos hB h0, List.length_cons]
    by_cases h1 : n / B = 0
    · rw [h1, digs_zero]; simp; omega
    · have := ih (n / B) (Nat.div_lt_self (by omega) (by omega)) h1
      have hl : (digs B (n / B)).length ≠ 0 := by
        intro hl
        have := List.eq_nil_of_length_eq_zero hl
        have h2 := nval_digs hB (n / B)
        rw [this, nval_nil] at h2
        omega
      have e : (digs B (n / B)).length + 1 - 1 = ((digs B (n / B)).length - 1) + 1 := by omega
      rw [e, Nat.pow_succ]
      calc B ^ ((digs B (n / B)).length - 1) * B ≤ n / B * B := Nat.mul_le_mul_right B this
        _ ≤ n := Nat.div_mul_le_self n B

theorem digs_eq_nil {B n : Nat} (hB : 2 ≤ B) : digs B n = [] ↔ n = 0 := by
  constructor
  · intro h; have := nval_digs hB n; rw [h] at this; exact this.symm
  · rintro rfl; exact digs_zero B

end Go.V

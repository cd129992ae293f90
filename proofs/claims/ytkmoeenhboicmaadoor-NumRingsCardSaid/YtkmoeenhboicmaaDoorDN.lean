/- Numbers as bits by a power of two: the plain laws, over the core library's dyadic numbers. No program, no model. -/
import Derived.Test.YtkmoeenhboicmaaDoorD2
set_option linter.unusedVariables false
namespace Go.V
open Go

/-! ### The core library's dyadic numbers -/

theorem owp_rat (x p : Int) : (Dyadic.ofIntWithPrec x p).toRat = x * 2 ^ (-p) := Dyadic.toRat_ofIntWithPrec_eq_mul_two_pow
theorem owp_add (x y p : Int) : Dyadic.ofIntWithPrec x p + Dyadic.ofIntWithPrec y p = Dyadic.ofIntWithPrec (x + y) p := by
  rw [← Dyadic.toRat_inj, Dyadic.toRat_add, owp_rat, owp_rat, owp_rat, Rat.intCast_add, Rat.add_mul]
theorem owp_mul (x y p q : Int) : Dyadic.ofIntWithPrec x p * Dyadic.ofIntWithPrec y q = Dyadic.ofIntWithPrec (x * y) (p + q) := by
  rw [← Dyadic.toRat_inj, Dyadic.toRat_mul, owp_rat, owp_rat, owp_rat, Rat.intCast_mul, Int.neg_add, Rat.zpow_add (by decide)]
  generalize (2 : Rat) ^ (-p) = a
  generalize (2 : Rat) ^ (-q) = b
  grind
theorem owp_lt {x y p : Int} : Dyadic.ofIntWithPrec x p < Dyadic.ofIntWithPrec y p ↔ x < y := by
  rw [← Dyadic.toRat_lt_toRat_iff, owp_rat, owp_rat]
  have hp : (0 : Rat) < 2 ^ (-p) := Rat.zpow_pos (by decide)
  constructor
  · intro h
    exact Rat.intCast_lt_intCast.1 (Rat.lt_of_mul_lt_mul_right h (Rat.le_of_lt hp))
  · intro h
    exact Rat.mul_lt_mul_of_pos_right (Rat.intCast_lt_intCast.2 h) hp
theorem owp_inj {x y p : Int} : Dyadic.ofIntWithPrec x p = Dyadic.ofIntWithPrec y p ↔ x = y := by
  constructor
  · intro h
    rcases Int.lt_trichotomy x y with h1 | h1 | h1
    · have := owp_lt (p := p).2 h1; rw [h] at this; exact absurd this (by simp)
    · exact h1
    · have := owp_lt (p := p).2 h1; rw [h] at this; exact absurd this (by simp)
  · rintro rfl; rfl
theorem owp_zero {x p : Int} : Dyadic.ofIntWithPrec x p = 0 ↔ x = 0 := by
  have := owp_inj (x := x) (y := 0) (p := p)
  rwa [Dyadic.ofIntWithPrec_zero] at this
theorem owp_shl (x p : Int) (k : Nat) : Dyadic.ofIntWithPrec (x * 2 ^ k) (p + k) = Dyadic.ofIntWithPrec x p := by
  have := Dyadic.ofIntWithPrec_shiftLeft_add (x := x) (i := p) (n := k)
  rwa [Int.shiftLeft_eq] at this

/-! ### Sign, bits, exponent -/

def sg (neg : Bool) (n : Nat) : Int := if neg then -(n : Int) else n
theorem sg_zero (neg : Bool) : sg neg 0 = 0 := by cases neg <;> rfl
theorem sg_eq_zero {neg : Bool} {n : Nat} : sg neg n = 0 ↔ n = 0 := by cases neg <;> simp [sg]
theorem sg_not (neg : Bool) (n : Nat) : sg (!neg) n = - sg neg n := by cases neg <;> simp [sg]
theorem sg_mul (a b : Bool) (n m : Nat) : sg a n * sg b m = sg (a != b) (n * m) := by cases a <;> cases b <;> simp [sg, Int.neg_mul, Int.mul_neg]
theorem sg_abs (neg : Bool) (n : Nat) : (sg neg n).natAbs = n := by cases neg <;> simp [sg]
theorem sg_neg {neg : Bool} {n : Nat} (h : n ≠ 0) : decide (sg neg n < 0) = neg := by cases neg <;> simp [sg] <;> omega
theorem sg_pow (neg : Bool) (n k : Nat) : sg neg n * 2 ^ k = sg neg (n * 2 ^ k) := by cases neg <;> simp [sg, Int.neg_mul]

/-- The value of n by 2^e, below 0, if neg. -/
def dy (neg : Bool) (n : Nat) (e : Int) : Dyadic := .ofIntWithPrec (sg neg n) (-e)
theorem dy_zero {neg : Bool} {n : Nat} {e : Int} : dy neg n e = 0 ↔ n = 0 := by unfold dy; rw [owp_zero, sg_eq_zero]
theorem dy_shl (neg : Bool) (n k : Nat) (e : Int) : dy neg (n * 2 ^ k) e = dy neg n (e + k) := by
  unfold dy
  rw [← sg_pow, ← owp_shl (sg neg n) (-(e + k)) k]
  congr 1; omega
theorem dy_neg (neg : Bool) (n : Nat) (e : Int) : - dy neg n e = dy (!neg) n e := by
  unfold dy; rw [Dyadic.neg_ofIntWithPrec, sg_not]
theorem dy_mul (a b : Bool) (n m : Nat) (e f : Int) : dy a n e * dy b m f = dy (a != b) (n * m) (e + f) := by
  unfold dy; rw [owp_mul, sg_mul, Int.neg_add]
theorem dy_add (a : Bool) (n m : Nat) (e : Int) : dy a n e + dy a m e = dy a (n + m) e := by
  unfold dy; rw [owp_add]; congr 1; cases a <;> simp [sg] <;> omega
theorem dy_sub {a b : Bool} (h : a ≠ b) {n m : Nat} (hle : m ≤ n) (e : Int) : dy a n e + dy b m e = dy a (n - m) e := by
  unfold dy; rw [owp_add]; congr 1; cases a <;> cases b <;> simp [sg] at h ⊢ <;> omega
theorem sg_odd {neg : Bool} {n : Nat} (h : n % 2 = 1) : sg neg n % 2 = 1 := by cases neg <;> simp only [sg, Bool.false_eq_true, if_true, if_false] <;> omega
theorem dy_odd {neg : Bool} {n : Nat} {e : Int} (h : n % 2 = 1) : dy neg n e = .ofOdd (sg neg n) (-e) (sg_odd h) := by
  rw [Dyadic.ofOdd_eq_ofIntWithPrec]; rfl
theorem dy_odd_inj {a b : Bool} {n m : Nat} {e f : Int} (hn : n % 2 = 1) (hm : m % 2 = 1) (h : dy a n e = dy b m f) : a = b ∧ n = m ∧ e = f := by
  rw [dy_odd hn, dy_odd hm] at h
  injection h with h1 h2
  have h3 : n = m := by rw [← sg_abs a n, h1, sg_abs]
  subst h3
  have h4 : a = b := by rw [← sg_neg (neg := a) (n := n) (by intro h0; subst h0; cases hn), h1, sg_neg (by intro h0; subst h0; cases hn)]
  exact ⟨h4, rfl, by omega⟩
/-- Every value but 0 is an odd number by a power of two. -/
theorem dy_form (d : Dyadic) (h : d ≠ 0) : ∃ neg n e, d = dy neg n e ∧ n % 2 = 1 := by
  cases d with
  | zero => exact absurd rfl h
  | ofOdd n k hn =>
    refine ⟨decide (n < 0), n.natAbs, -k, ?_, by omega⟩
    rw [Dyadic.ofOdd_eq_ofIntWithPrec]
    unfold dy sg
    congr 1
    · by_cases h0 : n < 0
      · rw [decide_eq_true h0]; simp; omega
      · rw [decide_eq_false h0]; simp; omega
    · omega
theorem dy_tz {neg : Bool} {n : Nat} {e : Int} (h : n ≠ 0) : dy neg n e = dy neg (n / 2 ^ tz n) (e + tz n) ∧ n / 2 ^ tz n % 2 = 1 := by
  obtain ⟨m, hm⟩ := tz_spec n h
  have h1 : n / 2 ^ tz n = 2 * m + 1 := by
    conv => lhs; lhs; rw [hm]
    exact Nat.mul_div_cancel_left _ (Nat.two_pow_pos _)
  refine ⟨?_, by rw [h1]; omega⟩
  rw [h1, ← dy_shl, Nat.mul_comm (2 * m + 1), ← hm]

/-! ### Signs and order -/

def sgnD (d : Dyadic) : Int := if d < 0 then -1 else if 0 < d then 1 else 0
def cmpD (a b : Dyadic) : Int := if a < b then -1 else if b < a then 1 else 0
theorem dy_pos {neg : Bool} {n : Nat} {e : Int} : 0 < dy neg n e ↔ neg = false ∧ n ≠ 0 := by
  have h := owp_lt (x := 0) (y := sg neg n) (p := -e)
  rw [Dyadic.ofIntWithPrec_zero] at h
  unfold dy; rw [h]; cases neg <;> simp [sg] <;> omega
theorem dy_neg_lt {neg : Bool} {n : Nat} {e : Int} : dy neg n e < 0 ↔ neg = true ∧ n ≠ 0 := by
  have h := owp_lt (x := sg neg n) (y := 0) (p := -e)
  rw [Dyadic.ofIntWithPrec_zero] at h
  unfold dy; rw [h]; cases neg <;> simp [sg] <;> omega
theorem sgnD_dy (neg : Bool) (n : Nat) (e : Int) : sgnD (dy neg n e) = if n = 0 then 0 else if neg then -1 else 1 := by
  unfold sgnD
  simp only [dy_pos, dy_neg_lt]
  by_cases h : n = 0
  · subst h; simp
  · cases neg <;> simp [h]
theorem cmpD_sub (a b : Dyadic) : cmpD a b = sgnD (a - b) := by
  unfold cmpD sgnD
  have h1 : a < b ↔ a - b < 0 := by grind
  have h2 : b < a ↔ 0 < a - b := by grind
  simp only [h1, h2]

/-! ### Numbers with fields -/

structure Nu where
  neg : Bool
  exp : Int
  w : List Nat
  deriving DecidableEq
def Nu.val (x : Nu) : Dyadic := dy x.neg (nval 18446744073709551616 x.w) x.exp
/-- The one form of a value. -/
def nuOf : Dyadic → Nu
  | .zero => ⟨false, 0, []⟩
  | .ofOdd n k _ => ⟨decide (n < 0), -k, digs 18446744073709551616 n.natAbs⟩
def nu0 : Nu := ⟨false, 0, []⟩
theorem nuOf_zero : nuOf 0 = nu0 := rfl
theorem nuOf_odd {neg : Bool} {n : Nat} {e : Int} (h : n % 2 = 1) : nuOf (dy neg n e) = ⟨neg, e, digs 18446744073709551616 n⟩ := by
  rw [dy_odd h]
  simp only [nuOf, sg_abs, Int.neg_neg]
  rw [sg_neg (by intro h0; subst h0; cases h)]
theorem nuOf_dy {neg : Bool} {n : Nat} {e : Int} (h : n ≠ 0) : nuOf (dy neg n e) = ⟨neg, e + tz n, digs 18446744073709551616 (n / 2 ^ tz n)⟩ := by
  obtain ⟨h1, h2⟩ := dy_tz (neg := neg) (e := e) h
  rw [h1, nuOf_odd h2]
theorem val_nuOf (d : Dyadic) : (nuOf d).val = d := by
  by_cases h : d = 0
  · subst h; rfl
  · obtain ⟨neg, n, e, rfl, hn⟩ := dy_form d h
    rw [nuOf_odd hn]
    unfold Nu.val
    rw [nval_digs (by decide)]
theorem nuOf_inj {a b : Dyadic} (h : nuOf a = nuOf b) : a = b := by rw [← val_nuOf a, h, val_nuOf]

/-- What a right number is. -/
structure Nu.Ok (x : Nu) : Prop where
  len : x.w.length ≤ 64
  lo : -65536 ≤ x.exp
  hi : x.exp ≤ 65536
instance (x : Nu) : Decidable x.Ok := decidable_of_iff (x.w.length ≤ 64 ∧ -65536 ≤ x.exp ∧ x.exp ≤ 65536) ⟨fun h => ⟨h.1, h.2.1, h.2.2⟩, fun h => ⟨h.1, h.2, h.3⟩⟩
def Nu.Right (x : Nu) : Prop := (x = nu0) ∨ (x.Ok ∧ x.w ≠ [] ∧ NoTail x.w ∧ x.w.getD 0 0 % 2 = 1)
theorem nval_head {B : Nat} {xs : List Nat} (hB : B % 2 = 0) : nval B xs % 2 = xs.getD 0 0 % 2 := by
  cases xs with
  | nil => rfl
  | cons a r => 
    simp only [nval_cons, List.getD_cons_zero]
    rw [Nat.add_mod, Nat.mul_mod, hB]; simp
theorem right_form {x : Nu} (hb : ∀ y ∈ x.w, y < 18446744073709551616) (h : x.Right) : x = nuOf x.val ∧ x.Ok := by
  rcases h with rfl | ⟨h1, h2, h3, h4⟩
  · exact ⟨rfl, ⟨by decide, by decide, by decide⟩⟩
  · refine ⟨?_, h1⟩
    unfold Nu.val
    rw [nuOf_odd (by rw [nval_head (by decide)]; exact h4), digs_nval (by decide) _ hb h3]
theorem right_of {x : Nu} (h : x = nuOf x.val) (hk : x.Ok) : x.Right := by
  by_cases h0 : x.val = 0
  · left; rw [h, h0]; rfl
  · right
    obtain ⟨neg, n, e, hv, hn⟩ := dy_form _ h0
    have hx : x = ⟨neg, e, digs 18446744073709551616 n⟩ := by rw [h, hv, nuOf_odd hn]
    subst hx
    refine ⟨hk, ?_, digs_noTail (by decide) n, ?_⟩
    · simp only [ne_eq, digs_eq_nil (by decide : 2 ≤ 18446744073709551616)]; omega
    · rw [← nval_head (B := 18446744073709551616) (by decide), nval_digs (by decide)]; exact hn

/-- A value's right number, or none: 2 is ErrOver. -/
def numR (d : Dyadic) : Nu × Int := if (nuOf d).Ok then (nuOf d, 0) else (nu0, 2)

end Go.V

/- Numbers as bits by a power of two: order by bits, sizes of sums and products. No program, no model. -/
import Derived.Test.YtkmoeenhboicmaaDoorDN2
set_option linter.unusedVariables false
namespace Go.V
open Go

theorem dy_lt {n m : Nat} {e : Int} : dy false n e < dy false m e ↔ n < m := by
  unfold dy; rw [owp_lt]; simp [sg]
theorem dy_cmp {n m : Nat} {e : Int} : cmpD (dy false n e) (dy false m e) = cmpI n m := by
  unfold cmpD cmpI; simp only [dy_lt, Int.ofNat_lt]
theorem dy_up (neg : Bool) (n m : Nat) (e : Int) : dy neg n (e + m) = dy neg (n * 2 ^ m) e := (dy_shl neg n m e).symm
theorem bit_lo {n : Nat} (h : n ≠ 0) : 2 ^ (bitLen n - 1) ≤ n := (bitLen_spec n).2 h
theorem bit_hi (n : Nat) : n < 2 ^ bitLen n := (bitLen_spec n).1
theorem size_lt {n m : Nat} {ea eb : Int} (hm : m ≠ 0) (h : (bitLen n : Int) + ea < bitLen m + eb) : dy false n ea < dy false m eb := by
  have key : ∀ (e0 : Int) (i j : Nat), ea = e0 + i → eb = e0 + j → dy false n ea < dy false m eb := by
    rintro e0 i j rfl rfl
    rw [dy_up, dy_up, dy_lt]
    have h1 := Nat.mul_lt_mul_of_pos_right (bit_hi n) (Nat.two_pow_pos i)
    have h2 := Nat.mul_le_mul_right (2 ^ j) (bit_lo hm)
    have h3 := bitLen_pos hm
    rw [← Nat.pow_add] at h1 h2
    have h4 : (2 : Nat) ^ (bitLen n + i) ≤ 2 ^ (bitLen m - 1 + j) := Nat.pow_le_pow_right (by decide) (by omega)
    omega
  by_cases he : ea ≤ eb
  · exact key ea 0 (eb - ea).toNat (by omega) (by omega)
  · exact key eb (ea - eb).toNat 0 (by omega) (by omega)
theorem cmpD_lt {a b : Dyadic} (h : a < b) : cmpD a b = -1 := if_pos h
theorem cmpD_gt {a b : Dyadic} (h : b < a) : cmpD a b = 1 := by
  unfold cmpD
  rw [if_neg (by grind), if_pos h]
theorem cmpD_self (a : Dyadic) : cmpD a a = 0 := by
  unfold cmpD
  rw [if_neg (by grind), if_neg (by grind)]
theorem cmpD_negs (a b : Dyadic) : cmpD (-a) (-b) = - cmpD a b := by
  unfold cmpD
  have h1 : -a < -b ↔ b < a := by grind
  have h2 : -b < -a ↔ a < b := by grind
  simp only [h1, h2]
  by_cases h : a < b
  · rw [if_neg (by grind), if_pos h, if_pos h]; rfl
  · rw [if_neg h, if_neg h]
    split <;> rfl
theorem cmpD_sgn {a b : Dyadic} (h : sgnD a ≠ sgnD b) : cmpD a b = cmpI (sgnD a) (sgnD b) := by
  unfold cmpD sgnD cmpI at *
  by_cases a1 : a < 0 <;> by_cases a2 : 0 < a <;> by_cases b1 : b < 0 <;> by_cases b2 : 0 < b <;> simp only [a1, a2, b1, b2, if_true, if_false] at h ⊢ <;> first
    | exact absurd rfl h
    | (have : a < b := by grind
       simp only [this, if_true]; decide)
    | (have h1 : ¬ a < b := by grind
       have h2 : b < a := by grind
       simp only [h1, h2, if_true, if_false]; decide)
    | (exfalso; grind)
theorem cmpD_zero : cmpD 0 0 = 0 := by decide
theorem sgnD_zero {d : Dyadic} : sgnD d = 0 ↔ d = 0 := by
  unfold sgnD
  constructor
  · intro h
    by_cases h1 : d < 0
    · rw [if_pos h1] at h; simp at h
    · rw [if_neg h1] at h
      by_cases h2 : 0 < d
      · rw [if_pos h2] at h; simp at h
      · grind
  · rintro rfl; decide

theorem sgnD_range (d : Dyadic) : -1 ≤ sgnD d ∧ sgnD d ≤ 1 := by
  unfold sgnD; split
  · decide
  · split <;> decide
theorem cmpD_range (a b : Dyadic) : -1 ≤ cmpD a b ∧ cmpD a b ≤ 1 := by
  unfold cmpD; split
  · decide
  · split <;> decide
theorem cmpD_abs {neg neg' : Bool} {n m : Nat} {e f : Int} (hn : n ≠ 0) (hm : m ≠ 0) (h : sgnD (dy neg n e) = sgnD (dy neg' m f)) :
    sgnD (dy neg' m f) * cmpD (dy false n e) (dy false m f) = cmpD (dy neg n e) (dy neg' m f) := by
  rw [sgnD_dy, sgnD_dy, if_neg hn, if_neg hm] at h
  rw [sgnD_dy, if_neg hm]
  cases neg <;> cases neg' <;> simp at h ⊢
  have h1 := dy_neg false n e
  have h2 := dy_neg false m f
  simp only [Bool.not_false] at h1 h2
  rw [← h1, ← h2, cmpD_negs]

theorem tz_words {w : List Nat} {k : Nat} (hb : ∀ y ∈ w, y < 18446744073709551616) (hl : w.length ≤ k) (h0 : nval 18446744073709551616 w ≠ 0) : tz (nval 18446744073709551616 w) < 64 * k := by
  refine tz_lt (Nat.lt_of_lt_of_le (nval_lt (B := 18446744073709551616) (by decide) w hb) ?_) h0
  rw [Nat.pow_mul]
  exact Nat.pow_le_pow_right (by decide) hl

/-- Sizes of fields. -/
structure Sz (k : Nat) (x : Nu) : Prop where
  b : ∀ y ∈ x.w, y < 18446744073709551616
  len : x.w.length ≤ k
  lo : -(k : Int) ≤ x.exp
  hi : x.exp ≤ k
theorem Sz.mono {k m : Nat} {x : Nu} (h : Sz k x) (hm : k ≤ m) : Sz m x := ⟨h.b, by have := h.len; omega, by have := h.lo; omega, by have := h.hi; omega⟩
theorem Sz.lt {k : Nat} {x : Nu} (h : Sz k x) : nval 18446744073709551616 x.w < 18446744073709551616 ^ k :=
  Nat.lt_of_lt_of_le (nval_lt (by decide) _ h.b) (Nat.pow_le_pow_right (by decide) h.len)
theorem Sz.mk' {k : Nat} {neg : Bool} {n : Nat} {e : Int} (hn : n < 18446744073709551616 ^ k) (h1 : -(k : Int) ≤ e) (h2 : e ≤ k) : Sz k ⟨neg, e, digs 18446744073709551616 n⟩ :=
  ⟨digs_lt (by decide) n, digs_len_le (by decide) hn, h1, h2⟩
theorem Sz.zero (k : Nat) : Sz k nu0 := ⟨by simp [nu0], by simp [nu0], by simp [nu0], by simp [nu0]⟩
theorem val_mk {neg : Bool} {n : Nat} {e : Int} : (⟨neg, e, digs 18446744073709551616 n⟩ : Nu).val = dy neg n e := by
  unfold Nu.val; rw [nval_digs (by decide)]
theorem OkD.sz {d : Dyadic} (h : OkD d) : Sz 65536 (nuOf d) := ⟨by rw [nuOf_f]; exact digs_lt (by decide) _, by have := h.len; omega, by have := h.lo; omega, by have := h.hi; omega⟩
theorem pow_up {n m k : Nat} (hn : n < 18446744073709551616 ^ k) : n * 2 ^ m < 18446744073709551616 ^ (k + m) := by
  rw [Nat.pow_add]
  have h1 : (2 : Nat) ^ m ≤ 18446744073709551616 ^ m := Nat.pow_le_pow_left (by decide) m
  have h2 := Nat.mul_lt_mul_of_pos_right hn (Nat.two_pow_pos m)
  have h3 := Nat.mul_le_mul_left (18446744073709551616 ^ k) h1
  omega

theorem tz_zero_le (n : Nat) (h0 : n ≠ 0) : 2 ^ tz n ≤ n := by
  obtain ⟨m, hm⟩ := tz_spec n h0
  have := Nat.mul_le_mul_left (2 ^ tz n) (show 1 ≤ 2 * m + 1 by omega)
  omega
/-- One word, near 1. -/
theorem OkD_word {neg : Bool} {n : Nat} {e : Int} (hn : n < 18446744073709551616) (h1 : -65536 ≤ e) (h2 : e + 64 ≤ 65536) : OkD (dy neg n e) := by
  by_cases h0 : n = 0
  · rw [dy_zero.2 h0]; exact OkD.zero
  · unfold OkD
    rw [nuOf_dy h0]
    have ht : tz n < 64 := tz_lt hn h0
    refine ⟨?_, ?_, ?_⟩
    · have : (digs 18446744073709551616 (n / 2 ^ tz n)).length ≤ 1 := digs_len_le (by decide) (Nat.lt_of_le_of_lt (Nat.div_le_self _ _) (by simpa using hn))
      simp only; omega
    · simp only; omega
    · simp only; omega

/-- Words, not too many. -/
structure Wl (k : Nat) (x : Nu) : Prop where
  b : ∀ y ∈ x.w, y < 18446744073709551616
  len : x.w.length ≤ k
theorem Sz.wl {k : Nat} {x : Nu} (h : Sz k x) : Wl k x := ⟨h.b, h.len⟩
theorem right_sz {x : Nu} (hb : ∀ y ∈ x.w, y < 18446744073709551616) (h : rightB x = true) : Sz 65536 x := by
  obtain ⟨d, hd, rfl⟩ := right_is hb h
  exact hd.sz

end Go.V

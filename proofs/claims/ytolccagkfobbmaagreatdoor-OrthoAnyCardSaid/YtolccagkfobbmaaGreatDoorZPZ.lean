/- Package round over values as data. Package round over values as data: Fit, Add, Sub, Mul, Div. -/
import Derived.Test.YtolccagkfobbmaaGreatDoorZPX
import Derived.Test.YtolccagkfobbmaaGreatDoorZPV
import Derived.Test.YtolccagkfobbmaaGreatDoorZPC
set_option linter.unusedSimpArgs false
set_option linter.unusedVariables false
set_option maxRecDepth 100000
namespace Go.V
open Go Go.RowKit Go.Proofs
def qE1_81_1 : List (Nat × Nat) := [(0, 2), (1, 0), (2, 0), (3, 4), (4, 3), (5, 3)]
attribute [go_sem] qE1_81_1
/-- So many bits. -/
def okP (p : Int) : Bool := decide (8 ≤ p) && decide (p ≤ 256)
theorem p_Valid {p : Int} : PC Tryz.prog 16 [i64 p] fun d => d = bl (okP p) := by
  refine PB (rs := [.tmp 2]) Tryz.func16 ?_
  by_cases h1 : (8 : Int) ≤ p
  · by_cases h2 : p ≤ (256 : Int)
    · rw [okP, decide_eq_true h1, decide_eq_true h2]
      have ft := And.intro (eq_true h1) (eq_true h2)
      exact Wk
    · rw [okP, decide_eq_true h1, decide_eq_false h2]
      have ft := And.intro (eq_true h1) (eq_false h2)
      exact Wk
  · rw [okP, decide_eq_false h1]
    have ft := (eq_false h1)
    exact Wk
theorem okP_nat {p : Int} (h : okP p = true) : ∃ n : Nat, p = n ∧ 8 ≤ n ∧ n ≤ 256 := by
  unfold okP at h
  rw [Bool.and_eq_true, decide_eq_true_eq, decide_eq_true_eq] at h
  exact ⟨p.toNat, by omega, by omega, by omega⟩

theorem p_away1 {neg up : Bool} : PC Tryz.prog 110 [bl neg, .ip [.lit (.bool up)]] fun d => d = bl (up != neg) := by
  refine PB (rs := [.tmp 3]) Tryz.func110 ?_
  cases neg <;> cases up
  · exact Wk
  · exact Wk
  · exact Wk
  · exact Wk

theorem N64_D64 (n : Nat) : N64 (D64 n) = n := nval_digs (by decide) n
theorem p_rounded {k p : Nat} {x : Nu} {up : Bool} (hx : Sz k x) (hk : k ≤ 16777216) (hp : p ≤ 1024) : PC Tryz.prog 97 [NU x, i64 p, .fn 110 [] [.ip [.lit (.bool up)]]] fun d => ∃ z, d = NU z ∧ Sz (65 * k + 1) z ∧ z.val = rd p up x.val := by
  have hb := hx.b; have hlen := hx.len; have hlo := hx.lo; have hhi := hx.hi; have hlt := hx.lt
  rw [Nu.val, rd_dy, rdM]
  obtain ⟨neg, exp, w⟩ := x
  simp only at hb hlen hlo hhi hlt
  have pB := p_Bits hb (by omega)
  have pZ := p_Zeros hb (by omega)
  have hbl : bitLen (N64 w) ≤ 64 * k := bitLen_le (by rw [Nat.pow_mul]; exact hlt)
  show PC _ _ _ fun d => ∃ z, d = NU z ∧ Sz (65 * k + 1) z ∧ z.val = if bitLen (N64 w) ≤ p then dy neg (N64 w) exp else dy neg (N64 w / 2 ^ (bitLen (N64 w) - p) + if N64 w % 2 ^ (bitLen (N64 w) - p) ≠ 0 ∧ up ≠ neg then 1 else 0) (exp + (bitLen (N64 w) - p : Nat))
  by_cases h : bitLen (N64 w) ≤ p
  · rw [if_pos h]
    have k1 : ((bitLen (N64 w) : Int) - (p : Int) ≤ 0) = True := eq_true (by omega)
    refine PB (rs := [.cell 6 38]) Tryz.func97 ?_
    have ft := k1
    repeat (first | with_reducible refine pv_seq fun K hK => ?_ | ((with_reducible first | refine hK _ _ ?_ | (clear hK; refine hK _ _ ?_) | (clear hK; clear hK; refine hK _ _ ?_)); clear hK; try clear K) | refine W ?_ | exact Z | with_reducible intro b)
    exact ⟨⟨neg, exp, w⟩, rfl, hx.mono (by omega), rfl⟩
  · rw [if_neg h]
    obtain ⟨s, hs⟩ : ∃ s : Nat, bitLen (N64 w) - p = s := ⟨_, rfl⟩
    have hs2 : (bitLen (N64 w) : Int) - (p : Int) = (s : Int) := by omega
    have h0 : N64 w ≠ 0 := by intro h2; rw [h2, bitLen_zero] at h; omega
    have pD := p_Down (n := s) hb (by omega) (by omega)
    have k1 : ((s : Int) ≤ 0) = False := eq_false (by omega)
    have tzl : (N64 w % 2 ^ s ≠ 0) ↔ tz (N64 w) < s := by
      obtain ⟨m, hm⟩ := tz_spec _ h0
      generalize tz (N64 w) = t at *
      rw [hm]
      constructor
      · intro h2
        rcases Nat.lt_or_ge t s with h3 | h3
        · exact h3
        · exfalso; apply h2
          obtain ⟨i, rfl⟩ : ∃ i, t = s + i := ⟨t - s, by omega⟩
          rw [Nat.pow_add, Nat.mul_assoc, Nat.mul_mod_right]
      · intro h2 h3
        obtain ⟨i, rfl⟩ : ∃ i, s = t + (i + 1) := ⟨s - t - 1, by omega⟩
        rw [Nat.pow_add, Nat.mul_mod_mul_left, Nat.mul_eq_zero] at h3
        rcases h3 with h3 | h3
        · have := Nat.two_pow_pos t; omega
        · have h4 := congrArg (· % 2) h3
          simp only [Nat.pow_succ, Nat.mul_comm (2 ^ i) 2, Nat.mod_mul_right_mod] at h4
          omega
    rw [hs]
    have hq : N64 w / 2 ^ s < 18446744073709551616 ^ k := Nat.lt_of_le_of_lt (Nat.div_le_self _ _) hlt
    have hql : (D64 (N64 w / 2 ^ s)).length ≤ k := digs_len_le (by decide) hq
    have szq : ∀ c, c ≤ 1 → Sz (65 * k + 1) ⟨neg, exp + s, D64 (N64 w / 2 ^ s + c)⟩ := fun c hc =>
      Sz.mk' (Nat.lt_of_lt_of_le (show _ < 18446744073709551616 ^ k + 1 by omega) (by
        have h9 : 18446744073709551616 ^ k * 2 ≤ 18446744073709551616 ^ (65 * k + 1) := by
          rw [show 65 * k + 1 = k + (64 * k + 1) by omega, Nat.pow_add]
          exact Nat.mul_le_mul_left _ (Nat.le_trans (by decide) (Nat.pow_le_pow_right (by decide) (show 1 ≤ 64 * k + 1 by omega)))
        have := Nat.pow_pos (n := k) (show 0 < 18446744073709551616 by decide)
        omega)) (by omega) (by omega)
    have pA := p_Add (xs := D64 (N64 w / 2 ^ s)) (ys := [1]) (digs_lt (by decide) _) (by decide) (by omega) (by decide)
    rw [N64_D64, show N64 [1] = 1 by decide] at pA
    have pX := p_away1 (neg := neg) (up := up)
    by_cases hu : up = neg
    · rw [if_neg (by simp [hu])]
      rw [show (up != neg) = false by rw [hu]; cases neg <;> rfl] at pX
      refine PB (rs := [.cell 6 38]) Tryz.func97 ?_
      have ft := And.intro hs2 k1
      repeat (first | with_reducible refine pv_seq fun K hK => ?_ | ((with_reducible first | refine hK _ _ ?_ | (clear hK; refine hK _ _ ?_) | (clear hK; clear hK; refine hK _ _ ?_)); clear hK; try clear K) | refine W ?_ | exact Z | with_reducible intro b)
      exact ⟨_, rfl, szq 0 (by decide), by rw [Nat.add_zero, val_mk]⟩
    · rw [show (up != neg) = true by cases up <;> cases neg <;> simp at hu ⊢] at pX
      by_cases ht : tz (N64 w) < s
      · have k2 : ((tz (N64 w) : Int) < (s : Int)) = True := eq_true (by omega)
        rw [if_pos ⟨tzl.2 ht, hu⟩]
        refine PB (rs := [.cell 6 38]) Tryz.func97 ?_
        have ft := And.intro hs2 (And.intro k1 k2)
        repeat (first | with_reducible refine pv_seq fun K hK => ?_ | ((with_reducible first | refine hK _ _ ?_ | (clear hK; refine hK _ _ ?_) | (clear hK; clear hK; refine hK _ _ ?_)); clear hK; try clear K) | refine W ?_ | exact Z | with_reducible intro b)
        exact ⟨_, rfl, szq 1 (by decide), val_mk⟩
      · have k2 : ((tz (N64 w) : Int) < (s : Int)) = False := eq_false (by omega)
        rw [if_neg (by rw [tzl]; simp [ht])]
        refine PB (rs := [.cell 6 38]) Tryz.func97 ?_
        have ft := And.intro hs2 (And.intro k1 k2)
        repeat (first | with_reducible refine pv_seq fun K hK => ?_ | ((with_reducible first | refine hK _ _ ?_ | (clear hK; refine hK _ _ ?_) | (clear hK; clear hK; refine hK _ _ ?_)); clear hK; try clear K) | refine W ?_ | exact Z | with_reducible intro b)
        exact ⟨_, rfl, szq 0 (by decide), by rw [Nat.add_zero, val_mk]⟩

theorem p_away {up : Bool} : PC Tryz.prog 98 [bl up] fun d => d = .fn 110 [] [.ip [.lit (.bool up)]] := by
  refine PZB (rs := [.tmp 2]) Tryz.func98 ?_
  exact Wk
theorem p_roundE {k p : Nat} {x : Nu} {up : Bool} (hx : Sz k x) (hk : k ≤ 16777216) (hp : p ≤ 1024) : PC Tryz.prog 81 [NU x, i64 p, bl up] fun d => ∃ z, d = NU z ∧ Sz (65 * k + 1) z ∧ z.val = rd p up x.val := by
  have pR := p_rounded (p := p) (up := up) hx hk hp
  generalize rd p up x.val = v at *
  obtain ⟨neg, exp, w⟩ := x
  have d1 := @dl 1 qE1_81_1
  refine PB (rs := [.cell 6 38]) Tryz.func81 ?_
  repeat (first | with_reducible refine pv_seq fun K hK => ?_ | ((with_reducible first | refine hK _ _ ?_ | (clear hK; refine hK _ _ ?_) | (clear hK; clear hK; refine hK _ _ ?_)); clear hK; try clear K) | refine W0 ?_ | exact Z | with_reducible intro b | refine call_is (by exact p_away) ?_ | (refine ExtC_is ?_; simp -implicitDefEqProofs only [ft, go_sem, seval]; refine ext_is (by exact p_away) ?_))
  refine call_pc pR ?_
  rintro d ⟨⟨s, e, y⟩, rfl, hz⟩
  repeat (first | with_reducible refine pv_seq fun K hK => ?_ | ((with_reducible first | refine hK _ _ ?_ | (clear hK; refine hK _ _ ?_) | (clear hK; clear hK; refine hK _ _ ?_)); clear hK; try clear K) | refine W0 ?_ | exact Z | with_reducible intro b)
  exact ⟨_, rfl, hz⟩
theorem p_roundV {k p : Nat} {x : Nu} {up : Bool} (hx : Sz k x) (hk : k ≤ 16000000) (hp : p ≤ 1024) : PC Tryz.prog 60 [NU x, i64 p, bl up] fun d => d = NE (numR (rd p up x.val)) := by
  have pR := p_roundE (p := p) (up := up) hx (by omega) hp
  generalize rd p up x.val = v at *
  generalize hq : numR v = q
  obtain ⟨⟨s1, e1, y1⟩, er⟩ := q
  obtain ⟨neg, exp, w⟩ := x
  refine PB (rs := [.cell 6 38, .tmp 7]) Tryz.func60 ?_
  repeat (first | with_reducible refine pv_seq fun K hK => ?_ | ((with_reducible first | refine hK _ _ ?_ | (clear hK; refine hK _ _ ?_) | (clear hK; clear hK; refine hK _ _ ?_)); clear hK; try clear K) | refine W0 ?_ | exact Z | with_reducible intro b)
  refine call_pc pR ?_
  rintro d ⟨⟨s, e, y⟩, rfl, hz, hv⟩
  have hzb := hz.b; have hzl := hz.len; have h1 := hz.lo; have h2 := hz.hi
  simp only at hzb hzl h1 h2
  have pM := p_nMake (neg := s) (w := y) (e := e) hzb (by omega) (by unfold R64; omega)
  rw [show dy s (N64 y) e = v from hv, hq] at pM
  exact Wk
end Go.V
namespace Go.V
open Go Go.RowKit Go.Proofs
def qE2_61_1 : List (Nat × Nat) := [(0, 0), (1, 0), (2, 0), (3, 1), (6, 0), (7, 2), (4, 4), (5, 0), (8, 3), (9, 0), (10, 0), (11, 0)]
def qE2_61_2 : List (Nat × Nat) := [(0, 0), (1, 1), (2, 0), (4, 0), (5, 2), (3, 4), (6, 3), (7, 0), (8, 0), (9, 0), (10, 0), (11, 0), (12, 0), (13, 0)]
attribute [go_sem] qE2_61_1 qE2_61_2
theorem lt_w64 {n k m : Nat} (h : n < 2 ^ k) (hk : k ≤ 64 * m) : n < 18446744073709551616 ^ m := by
  have e : (18446744073709551616 : Nat) ^ m = 2 ^ (64 * m) := by rw [Nat.pow_mul]
  rw [e]; exact Nat.lt_of_lt_of_le h (Nat.pow_le_pow_right (by decide) hk)


def opP (x y : Nu) (p : Int) (up : Bool) (v : Dyadic) : Nu × Int := if rightB x && rightB y && okP p then numR (rd p.toNat up v) else (nu0, 1)
theorem p_rdBothOk {k m p : Nat} {x y : Nu} {f : FuncId} {v : Dyadic} {up : Bool} (hx : Wl k x) (hy : Wl k y) (rx : rightB x = true) (ry : rightB y = true) (hP : okP p = true) (hf : PC Tryz.prog f [NU x, NU y] fun d => ∃ z, d = NU z ∧ Sz m z ∧ z.val = v) (hm : m ≤ 16000000) :
    PC Tryz.prog 62 [NU x, NU y, i64 p, bl up, .fn f [] []] fun d => d = NE (numR (rd p up v)) := by
  have pX := p_nRight hx.b
  have pY := p_nRight hy.b
  have pP := p_Valid (p := p)
  rw [rx] at pX
  rw [ry] at pY
  rw [hP] at pP
  obtain ⟨n, hn, h8, h256⟩ := okP_nat hP
  obtain ⟨neg, exp, w⟩ := x
  obtain ⟨neg', exp', w'⟩ := y
  refine PB (rs := [.cell 10 38, .tmp 11]) Tryz.func62 ?_
  repeat (first | with_reducible refine pv_seq fun K hK => ?_ | ((with_reducible first | refine hK _ _ ?_ | (clear hK; refine hK _ _ ?_) | (clear hK; clear hK; refine hK _ _ ?_)); clear hK; try clear K) | refine W ?_ | exact Z | with_reducible intro b)
  refine call_pc hf ?_
  rintro d ⟨z, rfl, hz, rfl⟩
  have pV := p_roundV (p := p) (up := up) hz hm (by omega)
  generalize numR (rd p up z.val) = q at *
  obtain ⟨⟨s, e, y⟩, er⟩ := q
  obtain ⟨neg2, exp2, w2⟩ := z
  exact Wk
theorem p_rdBothNo {k : Nat} {x y : Nu} {f : FuncId} {p : Int} {up : Bool} (hx : Wl k x) (hy : Wl k y) (h : (rightB x && rightB y && okP p) = false) : PC Tryz.prog 62 [NU x, NU y, i64 p, bl up, .fn f [] []] fun d => d = NE (nu0, 1) := by
  have pX := p_nRight hx.b
  have pY := p_nRight hy.b
  have pP := p_Valid (p := p)
  generalize rightB x = r at *
  generalize rightB y = s at *
  generalize okP p = t at *
  obtain ⟨neg, exp, w⟩ := x
  obtain ⟨neg', exp', w'⟩ := y
  refine PB (rs := [.cell 10 38, .tmp 11]) Tryz.func62 ?_
  repeat (first | with_reducible refine pv_seq fun K hK => ?_ | ((with_reducible first | refine hK _ _ ?_ | (clear hK; refine hK _ _ ?_) | (clear hK; clear hK; refine hK _ _ ?_)); clear hK; try clear K) | refine W0 ?_ | exact Z | with_reducible intro b)
  refine call_is pX ?_
  cases r
  · exact Wk
  · repeat (first | with_reducible refine pv_seq fun K hK => ?_ | ((with_reducible first | refine hK _ _ ?_ | (clear hK; refine hK _ _ ?_) | (clear hK; clear hK; refine hK _ _ ?_)); clear hK; try clear K) | refine W0 ?_ | exact Z | with_reducible intro b)
    refine call_is pY ?_
    cases s
    · exact Wk
    · obtain rfl : t = false := h
      exact Wk
theorem p_rdBoth {k m : Nat} {x y : Nu} {f : FuncId} {p : Int} {v : Dyadic} {up : Bool} (hx : Wl k x) (hy : Wl k y) (hf : rightB x = true → rightB y = true → PC Tryz.prog f [NU x, NU y] fun d => ∃ z, d = NU z ∧ Sz m z ∧ z.val = v) (hm : m ≤ 16000000) :
    PC Tryz.prog 62 [NU x, NU y, i64 p, bl up, .fn f [] []] fun d => d = NE (opP x y p up v) := by
  unfold opP
  by_cases h : (rightB x && rightB y && okP p) = true
  · rw [if_pos h]
    rw [Bool.and_eq_true, Bool.and_eq_true] at h
    obtain ⟨n, rfl, h8, h256⟩ := okP_nat h.2
    exact p_rdBothOk hx hy h.1.1 h.1.2 h.2 (hf h.1.1 h.1.2) hm
  · rw [if_neg h]
    exact p_rdBothNo hx hy (by simpa using h)
theorem p_rdAdd {k : Nat} {x y : Nu} {p : Int} {up : Bool} (hx : Wl k x) (hy : Wl k y) : PC Tryz.prog 59 [NU x, NU y, i64 p, bl up] fun d => d = NE (opP x y p up (x.val + y.val)) := by
  have pB := p_rdBoth (p := p) (up := up) hx hy (fun h1 h2 => p_eAdd (right_sz hx.b h1) (right_sz hy.b h2) (by decide)) (by decide)
  obtain ⟨neg, exp, w⟩ := x
  obtain ⟨neg', exp', w'⟩ := y
  refine PB (rs := [.cell 8 38, .tmp 9]) Tryz.func59 ?_
  exact Wk
theorem p_rdSub {k : Nat} {x y : Nu} {p : Int} {up : Bool} (hx : Wl k x) (hy : Wl k y) : PC Tryz.prog 44 [NU x, NU y, i64 p, bl up] fun d => d = NE (opP x y p up (x.val - y.val)) := by
  have pB := p_rdBoth (p := p) (up := up) hx hy (fun h1 h2 => p_eSub (right_sz hx.b h1) (right_sz hy.b h2) (by decide)) (by decide)
  obtain ⟨neg, exp, w⟩ := x
  obtain ⟨neg', exp', w'⟩ := y
  refine PB (rs := [.cell 8 38, .tmp 9]) Tryz.func44 ?_
  exact Wk
theorem p_rdMul {k : Nat} {x y : Nu} {p : Int} {up : Bool} (hx : Wl k x) (hy : Wl k y) : PC Tryz.prog 43 [NU x, NU y, i64 p, bl up] fun d => d = NE (opP x y p up (x.val * y.val)) := by
  have pB := p_rdBoth (p := p) (up := up) hx hy (fun h1 h2 => p_eMul (right_sz hx.b h1) (right_sz hy.b h2) (by decide)) (by decide)
  obtain ⟨neg, exp, w⟩ := x
  obtain ⟨neg', exp', w'⟩ := y
  refine PB (rs := [.cell 8 38, .tmp 9]) Tryz.func43 ?_
  exact Wk

theorem max0 (a : Int) : (if a < 0 then 0 else a) = (a.toNat : Int) := by split <;> omega
theorem D64_l0 {n : Nat} : ((D64 n).length = 0) = (n = 0) := by rw [List.length_eq_zero_iff]; exact propext (digs_eq_nil (by decide))
theorem w64_lt {n m : Nat} (h : n < 18446744073709551616 ^ m) : n < 2 ^ (64 * m) := by rw [Nat.pow_mul]; exact h
theorem okD_fN {d : Dyadic} (h : OkD d) : ∃ k, k ≤ 4096 ∧ fN d < 2 ^ k := by
  have := h.len
  rw [nuOf_f] at this
  have h2 := lt_pow_len (B := 18446744073709551616) (by decide) (fN d)
  simp only at this
  exact ⟨_, by omega, w64_lt h2⟩
theorem two_le_w (i : Nat) (hi : 1 ≤ i) : 2 ≤ 18446744073709551616 ^ i := Nat.le_trans (by decide : 2 ≤ 18446744073709551616 ^ 1) (Nat.pow_le_pow_right (by decide) hi)
theorem lt_succ_w {q m m' c : Nat} (h : q < 18446744073709551616 ^ m) (hm : m < m') (hc : c ≤ 1) : q + c < 18446744073709551616 ^ m' := by
  obtain ⟨i, rfl⟩ : ∃ i, m' = m + (i + 1) := ⟨m' - m - 1, by omega⟩
  have h9 := Nat.mul_le_mul_left (18446744073709551616 ^ m) (two_le_w (i + 1) (by omega))
  rw [← Nat.pow_add] at h9
  have := Nat.pow_pos (n := m) (show 0 < 18446744073709551616 by decide)
  omega
theorem p_quotient {p T : Nat} (hT : 150000 ≤ T) {a b : Dyadic} (ha : OkD a) (hb : OkD b) (ha0 : a ≠ 0) (hb0 : b ≠ 0) (hp : p ≤ 256) : PC Tryz.prog 61 [NU (nuOf a), NU (nuOf b), i64 p] fun d => ∃ z, d = NU z ∧ Sz T z ∧ z.val = quo p a b := by
  obtain ⟨kA, hkA, hA⟩ := okD_fN ha
  obtain ⟨kB, hkB, hB⟩ := okD_fN hb
  have b1 := bitLen_le hA
  have b2 := bitLen_le hB
  have e1 := ha.lo; have e2 := ha.hi; have e3 := hb.lo; have e4 := hb.hi
  have hB0 : fN b ≠ 0 := fun h => hb0 (fN_eq_zero.1 h)
  have lA : (D64 (fN a)).length ≤ 64 := by have := ha.len; rw [nuOf_f] at this; exact this
  have lB : (D64 (fN b)).length ≤ 64 := by have := hb.len; rw [nuOf_f] at this; exact this
  have pBa := p_Bits (xs := D64 (fN a)) (digs_lt (by decide) _) (by omega)
  have pBb := p_Bits (xs := D64 (fN b)) (digs_lt (by decide) _) (by omega)
  rw [N64_D64] at pBa pBb
  rw [nuOf_f] at e1 e2 e3 e4
  simp only at e1 e2 e3 e4
  rw [nuOf_f a, nuOf_f b]
  unfold quo
  have hm : (if ((p + 2 + bitLen (fN b) : Nat) : Int) - ((bitLen (fN a) : Nat) : Int) < 0 then 0 else ((p + 2 + bitLen (fN b) : Nat) : Int) - ((bitLen (fN a) : Nat) : Int)) = ((p + 2 + bitLen (fN b) - bitLen (fN a) : Nat) : Int) := by rw [max0]; omega
  have hs : p + 2 + bitLen (fN b) - bitLen (fN a) ≤ 4354 := by omega
  generalize p + 2 + bitLen (fN b) - bitLen (fN a) = s at *
  obtain ⟨M, hM, hM2⟩ : ∃ M, 64 + s = M ∧ M ≤ 4418 := ⟨_, rfl, by omega⟩
  have hu : fN a * 2 ^ s < 18446744073709551616 ^ M := by rw [← hM]; exact pow_up (lt_w64 hA (by omega))
  have lU : (D64 (fN a * 2 ^ s)).length ≤ M := digs_len_le (by decide) hu
  have hq : fN a * 2 ^ s / fN b < 18446744073709551616 ^ M := Nat.lt_of_le_of_lt (Nat.div_le_self _ _) hu
  have lQ : (D64 (fN a * 2 ^ s / fN b)).length ≤ M := digs_len_le (by decide) hq
  have pU := p_Up (xs := D64 (fN a)) (n := s) (digs_lt (by decide) _) (by omega) (by omega)
  have pD := p_Div (xs := D64 (fN a * 2 ^ s)) (ys := D64 (fN b)) (digs_lt (by decide) _) (digs_lt (by decide) _) (by omega) (by omega)
  have pU2 := p_Up (xs := D64 (fN a * 2 ^ s / fN b)) (n := 1) (digs_lt (by decide) _) (by omega) (by decide)
  have hq2 : fN a * 2 ^ s / fN b * 2 ^ 1 < 18446744073709551616 ^ (M + 1) := pow_up hq
  have lQ2 : (D64 (fN a * 2 ^ s / fN b * 2 ^ 1)).length ≤ M + 1 := digs_len_le (by decide) hq2
  have pA := p_Add (xs := D64 (fN a * 2 ^ s / fN b * 2 ^ 1)) (ys := [1]) (digs_lt (by decide) _) (by decide) (by omega) (by decide)
  rw [N64_D64] at pU pU2
  rw [N64_D64, N64_D64] at pD
  rw [N64_D64, show N64 [1] = 1 by decide] at pA
  rw [if_neg hB0] at pD
  have hl : ((D64 (fN a * 2 ^ s % fN b)).length = 0) = (fN a * 2 ^ s % fN b = 0) := D64_l0
  generalize fN a * 2 ^ s % fN b = r at *
  generalize fN a * 2 ^ s / fN b = q at *
  have sz : ∀ c : Nat, c ≤ 1 → Sz T ⟨fS a != fS b, fE a - fE b - (s : Int) - 1, D64 (q * 2 ^ 1 + c)⟩ := fun c hc =>
    Sz.mk' (lt_succ_w hq2 (by omega) hc) (by omega) (by omega)
  generalize fS a = sa at *
  generalize fS b = sb at *
  simp only [Nat.pow_one] at pU2 pA sz lQ2
  by_cases h : r = 0
  · have k1 : ((0 : Int) < ((D64 r).length : Int)) = False := eq_false (by have : (D64 r).length = 0 := (by rw [D64_l0]; exact h); omega)
    rw [if_pos h]
    have d1 := @dl 1 qE2_61_1
    have d2 := @dl 2 qE2_61_2
    refine PB (rs := [.cell 6 38]) Tryz.func61 ?_
    have ft := And.intro hm k1
    repeat (first | with_reducible refine pv_seq fun K hK => ?_ | ((with_reducible first | refine hK _ _ ?_ | (clear hK; refine hK _ _ ?_) | (clear hK; clear hK; refine hK _ _ ?_)); clear hK; try clear K) | refine W ?_ | exact Z | with_reducible intro b)
    exact ⟨_, rfl, sz 0 (by decide), by rw [Nat.add_zero, val_mk, Nat.mul_comm]; rfl⟩
  · have k1 : ((0 : Int) < ((D64 r).length : Int)) = True := eq_true (by have : (D64 r).length ≠ 0 := (by rw [Ne, D64_l0]; exact h); omega)
    rw [if_neg h]
    have d1 := @dl 1 qE2_61_1
    have d2 := @dl 2 qE2_61_2
    refine PB (rs := [.cell 6 38]) Tryz.func61 ?_
    have ft := And.intro hm k1
    repeat (first | with_reducible refine pv_seq fun K hK => ?_ | ((with_reducible first | refine hK _ _ ?_ | (clear hK; refine hK _ _ ?_) | (clear hK; clear hK; refine hK _ _ ?_)); clear hK; try clear K) | refine W ?_ | exact Z | with_reducible intro b)
    exact ⟨_, rfl, sz 1 (by decide), by rw [val_mk, Nat.mul_comm]⟩

/-- The rounded quotient, or why there is none. -/
def dvR (x y : Nu) (p : Int) (up : Bool) : Nu × Int := if rightB x && rightB y && okP p then (if y.val = 0 then (nu0, 3) else numR (rd p.toNat up (quo p.toNat x.val y.val))) else (nu0, 1)
theorem p_rdDiv {k : Nat} {x y : Nu} {p : Int} {up : Bool} (hx : Wl k x) (hy : Wl k y) : PC Tryz.prog 42 [NU x, NU y, i64 p, bl up] fun d => d = NE (dvR x y p up) := by
  have pX := p_nRight hx.b
  have pY := p_nRight hy.b
  have pP := p_Valid (p := p)
  unfold dvR
  by_cases h : (rightB x && rightB y && okP p) = true
  · rw [if_pos h]
    rw [Bool.and_eq_true, Bool.and_eq_true] at h
    rw [h.1.1] at pX
    rw [h.1.2] at pY
    rw [h.2] at pP
    obtain ⟨m, rfl, h8, h256⟩ := okP_nat h.2
    obtain ⟨a, ha, rfl⟩ := right_is hx.b h.1.1
    obtain ⟨b, hb, rfl⟩ := right_is hy.b h.1.2
    rw [val_nuOf, val_nuOf, Int.toNat_natCast]
    have lA : ((nuOf a).w.length = 0) ↔ a = 0 := by rw [nuOf_f]; simp only; rw [← fN_eq_zero]; exact Iff.of_eq D64_l0
    have lB : ((nuOf b).w.length = 0) ↔ b = 0 := by rw [nuOf_f]; simp only; rw [← fN_eq_zero]; exact Iff.of_eq D64_l0
    by_cases h0 : b = 0
    · rw [if_pos h0]
      have hl := eq_true (lB.2 h0)
      clear lA lB
      generalize nuOf a = x at *
      generalize nuOf b = y at *
      obtain ⟨neg, exp, w⟩ := x
      obtain ⟨neg', exp', w'⟩ := y
      simp only at hl
      refine PB (rs := [.cell 8 38, .tmp 9]) Tryz.func42 ?_
      have ft := hl
      exact Wk
    · rw [if_neg h0]
      have hl := eq_false (fun h => h0 (lB.1 h))
      by_cases ha0 : a = 0
      · have hl2 := eq_true (lA.2 ha0)
        rw [ha0, quo_zero, rd_zero, numR_zero]
        clear lA lB
        rw [ha0] at pX hl2
        clear ha0
        rw [show NE (nu0, 0) = NE (nu0, 0) from rfl]
        generalize nuOf 0 = x at *
        generalize nuOf b = y at *
        obtain ⟨neg, exp, w⟩ := x
        obtain ⟨neg', exp', w'⟩ := y
        simp only at hl hl2
        refine PB (rs := [.cell 8 38, .tmp 9]) Tryz.func42 ?_
        have ft := And.intro hl hl2
        exact Wk
      · have hl2 := eq_false (fun h => ha0 (lA.1 h))
        have pQ := p_quotient (p := m) (T := 1000000) (by decide) ha hb ha0 h0 h256
        clear lA lB
        generalize quo m a b = u at *
        generalize nuOf a = x at *
        generalize nuOf b = y at *
        obtain ⟨neg, exp, w⟩ := x
        obtain ⟨neg', exp', w'⟩ := y
        simp only at hl hl2
        refine PB (rs := [.cell 8 38, .tmp 9]) Tryz.func42 ?_
        have ft := And.intro hl hl2
        repeat (first | with_reducible refine pv_seq fun K hK => ?_ | ((with_reducible first | refine hK _ _ ?_ | (clear hK; refine hK _ _ ?_) | (clear hK; clear hK; refine hK _ _ ?_)); clear hK; try clear K) | refine W ?_ | exact Z | with_reducible intro b)
        refine call_pc pQ ?_
        rintro d ⟨z, rfl, hz, rfl⟩
        have pV := p_roundV (p := m) (up := up) hz (by decide) (by omega)
        generalize numR (rd m up z.val) = q at *
        obtain ⟨⟨s, e, y⟩, er⟩ := q
        obtain ⟨neg2, exp2, w2⟩ := z
        exact Wk
  · rw [if_neg h]
    generalize rightB x = r at *
    generalize rightB y = s at *
    generalize okP p = t at *
    obtain ⟨neg, exp, w⟩ := x
    obtain ⟨neg', exp', w'⟩ := y
    refine PB (rs := [.cell 8 38, .tmp 9]) Tryz.func42 ?_
    repeat (first | with_reducible refine pv_seq fun K hK => ?_ | ((with_reducible first | refine hK _ _ ?_ | (clear hK; refine hK _ _ ?_) | (clear hK; clear hK; refine hK _ _ ?_)); clear hK; try clear K) | refine W0 ?_ | exact Z | with_reducible intro b)
    refine call_is pX ?_
    cases r
    · exact Wk
    · repeat (first | with_reducible refine pv_seq fun K hK => ?_ | ((with_reducible first | refine hK _ _ ?_ | (clear hK; refine hK _ _ ?_) | (clear hK; clear hK; refine hK _ _ ?_)); clear hK; try clear K) | refine W0 ?_ | exact Z | with_reducible intro b)
      refine call_is pY ?_
      cases s
      · exact Wk
      · obtain rfl : t = false := by simpa using h
        exact Wk
end Go.V

/- The deck's N and Prec. Numbers of few bits, near 1; the contracts of num and round over the core library's dyadic numbers. -/
import Derived.Test.YtcmnbpliiopbjaaGreatDoorPY
import Derived.Test.YtcmnbpliiopbjaaGreatDoorPZ
set_option linter.unusedSimpArgs false
set_option linter.unusedVariables false
set_option maxRecDepth 100000
namespace Go.V
open Go Go.RowKit Go.Proofs

theorem u64w {n : Nat} (h : n < 18446744073709551616) : IntKind.u64.wrap (n : Int) = (n : Int) := by simp [IntKind.wrap, IntKind.signed, IntKind.bits]; omega
theorem i64w {n : Nat} (h : n < 9223372036854775808) : IntKind.i64.wrap (n : Int) = (n : Int) := by simp [IntKind.wrap, IntKind.signed, IntKind.bits]; omega
theorem p_dN {k : Nm} {S : Store} {Q : D → Store → Prop} {b i n : Nat} {w : List Nat} (hS : S k = some ⟨b, 2, 0, [[W64 w, i64 i]]⟩) (hb : B64 w) (hi : i ≤ 1000000000) (hn : 0 < n) (hn2 : n ≤ 1099511627776)
    (hQ : ∀ r, r < n → Q (i64 (r : Nat)) (updS S k (some ⟨b, 2, 0, [[W64 w, i64 ((i + 1 : Nat) : Int)]]⟩))) : PFC Tryz.prog 7 [.ptr k b 0 0 2, i64 n] S Q := by
  have e1 := u64w (n := n) (by omega)
  have hlt : w.getD i 0 % n < n := Nat.mod_lt _ hn
  have e2 : (((w.getD i 0 : Nat) : Int).tmod (n : Int)) = ((w.getD i 0 % n : Nat) : Int) := by rw [Int.tmod_eq_emod_of_nonneg (by omega)]; omega
  have hq := hQ _ hlt
  have e3 := i64w (n := w.getD i 0 % n) (by omega)
  have e4 : ((n : Int) = 0) = False := eq_false (by omega)
  generalize w.getD i 0 % n = r at *
  refine PFB (rs := [.tmp 4]) Tryz.func7 ?_
  have ft := hS
  repeat (first | with_reducible refine pv_seq fun K hK => ?_ | ((with_reducible first | refine hK _ _ ?_ | (clear hK; refine hK _ _ ?_) | (clear hK; clear hK; refine hK _ _ ?_)); clear hK; try clear K) | refine W0 ?_ | exact Z | with_reducible intro b)
  refine p_next (i := i) (by simp -implicitDefEqProofs only [updS, upS]; exact hS) hb (by omega) ?_
  repeat (first | (with_reducible first | refine pv_seq fun K hK => ?_ | refine pv_reg ?_) | ((with_reducible first | refine hK _ _ ?_ | (clear hK; refine hK _ _ ?_) | (clear hK; clear hK; refine hK _ _ ?_)); clear hK; try clear K) | simp -implicitDefEqProofs only [e1, e2, e3, e4, not_false_eq_true, true_and, go_sem, seval] | with_reducible intro b | (with_reducible refine And.intro ?_ ?_; · first | assumption | omega | (unfold R64; omega)))
  exact hq



end Go.V
namespace Go.V
open Go Go.RowKit Go.Proofs

/-- Of few bits and near 1: a multiple of 2 ^ -p, less than 2 ^ k times that. -/
def Sm (k : Nat) (p : Nat) (d : Dyadic) : Prop := ∃ z : Int, d = .ofIntWithPrec z p ∧ z.natAbs < 2 ^ k
theorem Sm.dy {neg : Bool} {n : Nat} {e : Int} (hn : n < 64) (h1 : -6 ≤ e) (h2 : e ≤ 2) : Sm 14 6 (dy neg n e) := by
  refine ⟨sg neg n * 2 ^ (e + 6).toNat, ?_, ?_⟩
  · have := owp_shl (sg neg n) (-e) (e + 6).toNat
    rw [show -e + ((e + 6).toNat : Int) = (6 : Nat) by omega] at this
    exact this.symm
  · rw [Int.natAbs_mul, sg_abs, Int.natAbs_pow]
    have : (2 : Int).natAbs ^ (e + 6).toNat ≤ 2 ^ 8 := Nat.pow_le_pow_right (by decide) (by omega)
    calc n * (2 : Int).natAbs ^ (e + 6).toNat ≤ n * 2 ^ 8 := Nat.mul_le_mul_left _ this
      _ < 2 ^ 14 := by omega
theorem Sm.add {k p : Nat} {a b : Dyadic} (ha : Sm k p a) (hb : Sm k p b) : Sm (k + 1) p (a + b) := by
  obtain ⟨x, rfl, hx⟩ := ha; obtain ⟨y, rfl, hy⟩ := hb
  refine ⟨x + y, owp_add _ _ _, ?_⟩
  have := Int.natAbs_add_le x y
  rw [Nat.pow_succ]; omega
theorem Sm.sub {k p : Nat} {a b : Dyadic} (ha : Sm k p a) (hb : Sm k p b) : Sm (k + 1) p (a - b) := by
  obtain ⟨x, rfl, hx⟩ := ha; obtain ⟨y, rfl, hy⟩ := hb
  refine ⟨x - y, ?_, ?_⟩
  · have h := owp_add (x - y) y p
    rw [Int.sub_add_cancel] at h
    rw [← h]; grind
  · have := Int.natAbs_sub_le x y
    rw [Nat.pow_succ]; omega
theorem Sm.mul {k m p q : Nat} {a b : Dyadic} (ha : Sm k p a) (hb : Sm m q b) : Sm (k + m) (p + q) (a * b) := by
  obtain ⟨x, rfl, hx⟩ := ha; obtain ⟨y, rfl, hy⟩ := hb
  refine ⟨x * y, by rw [owp_mul]; rfl, ?_⟩
  rw [Int.natAbs_mul, Nat.pow_add]
  exact Nat.mul_lt_mul'' hx hy
theorem Sm.mono {k m p : Nat} {a : Dyadic} (ha : Sm k p a) (h : k ≤ m) : Sm m p a := by
  obtain ⟨x, rfl, hx⟩ := ha
  exact ⟨x, rfl, Nat.lt_of_lt_of_le hx (Nat.pow_le_pow_right (by decide) h)⟩
theorem sg_natAbs (z : Int) : sg (decide (z < 0)) z.natAbs = z := by
  unfold sg
  by_cases h : z < 0
  · rw [decide_eq_true h, if_pos rfl]; omega
  · rw [decide_eq_false h, if_neg (by decide)]; omega
theorem Sm.ok {k p : Nat} {d : Dyadic} (h : Sm k p d) (hk : k ≤ 64) (hp : p ≤ 60000) : OkD d := by
  obtain ⟨z, rfl, hz⟩ := h
  have : Dyadic.ofIntWithPrec z p = Go.V.dy (decide (z < 0)) z.natAbs (-(p : Int)) := by
    unfold Go.V.dy; rw [sg_natAbs, Int.neg_neg]
  rw [this]
  exact OkD_word (Nat.lt_of_lt_of_le hz (Nat.pow_le_pow_right (by decide) hk)) (by omega) (by omega)
theorem Sm.half {k p : Nat} {d : Dyadic} (h : Sm k p d) : ∃ m, Sm k (p + 1) m ∧ m + m = d ∧ Go.V.dy (fS d) (fN d) (fE d + -1) = m := by
  obtain ⟨z, hz, hz2⟩ := h
  have e2 : Go.V.dy (fS d) (fN d) (fE d + -1) = .ofIntWithPrec z (p + 1 : Nat) := by
    have h3 := dy_f d
    unfold Go.V.dy at *
    rw [hz] at h3 ⊢
    generalize fS (Dyadic.ofIntWithPrec z ↑p) = s at *
    generalize fN (Dyadic.ofIntWithPrec z ↑p) = n at *
    generalize fE (Dyadic.ofIntWithPrec z ↑p) = e at *
    have h4 := congrArg (fun d => d * Dyadic.ofIntWithPrec 1 1) h3
    simp only [owp_mul, Int.mul_one] at h4
    rw [show -(e + -1) = -e + 1 by omega, h4]; rfl
  refine ⟨_, ⟨z, rfl, hz2⟩, ?_, e2⟩
  rw [owp_add, hz, ← owp_shl z p 1]
  rw [show z + z = z * 2 ^ 1 by omega]; rfl
theorem p_nAddD {a b : Dyadic} (ha : OkD a) (hb : OkD b) : PC Tryz.prog 15 [NU (nuOf a), NU (nuOf b)] fun d => d = NE (numR (a + b)) := by
  have := p_nAdd (ha.sz).wl (hb.sz).wl (by decide)
  rw [opR, rightB_nuOf, rightB_nuOf, decide_eq_true ha, decide_eq_true hb, val_nuOf, val_nuOf] at this
  exact this
theorem p_nCmpD {a b : Dyadic} (ha : OkD a) (hb : OkD b) : PC Tryz.prog 14 [NU (nuOf a), NU (nuOf b)] fun d => d = i64 (cmpD a b) := by
  have := p_nCmp (ha.sz).wl (hb.sz).wl (by decide)
  rw [rightB_nuOf, rightB_nuOf, decide_eq_true ha, decide_eq_true hb, val_nuOf, val_nuOf] at this
  exact this
theorem p_nSameD {a b : Dyadic} (ha : OkD a) : PC Tryz.prog 72 [NU (nuOf a), NU (nuOf b)] fun d => d = bl (decide (a = b)) := by
  have := p_nSame (y := nuOf b) (x := nuOf a) (by have := (ha.sz).len; omega)
  rw [show decide (nuOf a = nuOf b) = decide (a = b) from decide_eq_decide.2 ⟨nuOf_inj, fun h => h ▸ rfl⟩] at this
  exact this
theorem p_nRightD {a : Dyadic} (ha : OkD a) : PC Tryz.prog 35 [NU (nuOf a)] fun d => d = bl true := by
  have := p_nRight (x := nuOf a) (ha.sz).b
  rw [rightB_nuOf, decide_eq_true ha] at this
  exact this
theorem p_smallD {k : Nm} {S : Store} {Q : D → Store → Prop} {b i : Nat} {w : List Nat} (hS : S k = some ⟨b, 2, 0, [[W64 w, i64 i]]⟩) (hb : B64 w) (hi : i ≤ 1099511627776)
    (hQ : ∀ d, Sm 14 6 d → Pb 6 d → Q (NU (nuOf d)) (updS S k (some ⟨b, 2, 0, [[W64 w, i64 ((i + 1 : Nat) : Int)]]⟩))) : PFC Tryz.prog 76 [.ptr k b 0 0 2] S Q :=
  p_small hS hb hi (fun neg n e h1 h2 h3 => by
    have := Sm.dy (neg := neg) h1 h2 h3
    rw [numR_ok (this.ok (by decide) (by decide))]
    exact hQ _ this (Pb.dy h1))

theorem cmpD_le {a b : Dyadic} (h : a ≤ b) : (0 < cmpD a b) = False := by
  unfold cmpD
  by_cases h1 : a < b
  · rw [if_pos h1]; simp
  · rw [if_neg h1, if_neg (by grind)]; simp
theorem cmpD_gt0 {a b : Dyadic} : 0 < cmpD a b ↔ b < a := by
  unfold cmpD
  by_cases h1 : a < b
  · rw [if_pos h1]; simp; grind
  · rw [if_neg h1]; by_cases h2 : b < a <;> simp [h2]
theorem cmpD_eq0 {a b : Dyadic} : cmpD a b = 0 ↔ a = b := by
  unfold cmpD
  by_cases h1 : a < b
  · rw [if_pos h1]; simp; grind
  · rw [if_neg h1]; by_cases h2 : b < a
    · simp [h2]; grind
    · simp [h2]; grind
theorem cmpD_le0 {a b : Dyadic} (h : a ≤ b) : (cmpD a b ≤ 0) = True := by
  have := cmpD_le h
  apply eq_true
  simp only [eq_iff_iff, iff_false] at this
  omega

/-! ### Few bits, near 1: rounded -/
structure Bx (m l : Nat) (d : Dyadic) : Prop where
  n : fN d < 2 ^ m
  lo : -(l : Int) ≤ fE d
  hi : fE d ≤ l
theorem Bx.zero {m l : Nat} : Bx m l 0 := ⟨by rw [fN_zero]; exact Nat.two_pow_pos m, by rw [fE_zero]; omega, by rw [fE_zero]; omega⟩
theorem Bx.dy {m l j : Nat} {s : Bool} {n : Nat} {e : Int} (hn : n < 2 ^ m) (h1 : -(l : Int) ≤ e) (h2 : e + m ≤ l) : Bx m l (Go.V.dy s n e) := by
  by_cases h0 : n = 0
  · subst h0; rw [dy0]; exact Bx.zero
  · obtain ⟨_, a, b⟩ := f_of (neg := s) (e := e) h0
    have ht := tz_lt hn h0
    exact ⟨by rw [a]; exact Nat.lt_of_le_of_lt (Nat.div_le_self _ _) hn, by rw [b]; omega, by rw [b]; omega⟩
theorem Bx.mono {m l m' l' : Nat} {d : Dyadic} (h : Bx m l d) (hm : m ≤ m') (hl : l ≤ l') : Bx m' l' d :=
  ⟨Nat.lt_of_lt_of_le h.n (Nat.pow_le_pow_right (by decide) hm), by have := h.lo; omega, by have := h.hi; omega⟩
theorem Bx.ok {m l : Nat} {d : Dyadic} (h : Bx m l d) (hm : m ≤ 4096) (hl : l ≤ 65536) : OkD d := by
  unfold OkD
  have h1 := h.n; have h2 := h.lo; have h3 := h.hi
  rw [nuOf_f]
  refine ⟨?_, ?_, ?_⟩
  · exact digs_len_le (by decide) (lt_w64 h1 (by omega))
  · simp only; omega
  · simp only; omega
theorem Sm.bx {k q : Nat} {d : Dyadic} (h : Sm k q d) : Bx k (k + q) d := by
  obtain ⟨z, rfl, hz⟩ := h
  have : Dyadic.ofIntWithPrec z q = Go.V.dy (decide (z < 0)) z.natAbs (-(q : Int)) := by
    unfold Go.V.dy; rw [sg_natAbs, Int.neg_neg]
  rw [this]
  exact Bx.dy (j := 0) hz (by omega) (by omega)
theorem Bx.mul {m l m' l' : Nat} {a b : Dyadic} (ha : Bx m l a) (hb : Bx m' l' b) : Bx (m + m') (l + l') (a * b) := by
  by_cases ha0 : a = 0
  · subst ha0; rw [show (0 : Dyadic) * b = 0 by grind]; exact Bx.zero
  · by_cases hb0 : b = 0
    · subst hb0; rw [show a * (0 : Dyadic) = 0 by grind]; exact Bx.zero
    · obtain ⟨_, h2, h3⟩ := mul_odd ha0 hb0
      have a1 := ha.lo; have a2 := ha.hi; have b1 := hb.lo; have b2 := hb.hi
      exact ⟨by rw [h2, Nat.pow_add]; exact Nat.mul_lt_mul'' ha.n hb.n, by rw [h3]; omega, by rw [h3]; omega⟩
theorem Bx.rd {m l p : Nat} {up : Bool} {d : Dyadic} (h : Bx m l d) (hp : 1 ≤ p) : Bx p (l + m + p + 1) (Go.V.rd p up d) := by
  have h0 := rd_pb (up := up) (d := d) hp
  have hbl : bitLen (fN d) ≤ m := bitLen_le h.n
  have hlo := h.lo; have hhi := h.hi
  suffices h9 : -((l + m + p + 1 : Nat) : Int) ≤ fE (Go.V.rd p up d) ∧ fE (Go.V.rd p up d) ≤ ((l + m + p + 1 : Nat) : Int) from ⟨h0, h9.1, h9.2⟩
  unfold Go.V.rd rdM
  by_cases h1 : bitLen (fN d) ≤ p
  · rw [if_pos h1, dy_f]; omega
  · rw [if_neg h1]
    have h2 := q_hi h1
    generalize hq : fN d / 2 ^ (bitLen (fN d) - p) + (if fN d % 2 ^ (bitLen (fN d) - p) ≠ 0 ∧ up ≠ fS d then 1 else 0) = q
    have h3 : q < 2 ^ (p + 1) := by
      rw [← hq, Nat.pow_succ]
      have := Nat.two_pow_pos p
      split <;> omega
    by_cases h0 : q = 0
    · rw [h0, dy0, fE_zero]; omega
    · rw [(f_of h0).2.2]
      have := tz_lt h3 h0
      omega
theorem Bx.quo {m l m' l' p : Nat} {a b : Dyadic} (ha : Bx m l a) (hb : Bx m' l' b) : Bx (m + p + m' + 4) (l + l' + 3 * (m + p + m' + 4)) (Go.V.quo p a b) := by
  have a1 := ha.lo; have a2 := ha.hi; have b1 := hb.lo; have b2 := hb.hi
  have hbl2 := bitLen_le hb.n
  unfold Go.V.quo
  have hs : p + 2 + bitLen (fN b) - bitLen (fN a) ≤ p + 2 + m' := by omega
  generalize p + 2 + bitLen (fN b) - bitLen (fN a) = s at *
  have hu : fN a * 2 ^ s < 2 ^ (m + s) := by
    rw [Nat.pow_add]; exact Nat.mul_lt_mul_of_pos_right ha.n (Nat.two_pow_pos s)
  have hq : fN a * 2 ^ s / fN b < 2 ^ (m + s) := Nat.lt_of_le_of_lt (Nat.div_le_self _ _) hu
  have hq2 : fN a * 2 ^ s / fN b < 2 ^ (m + p + m' + 2) := Nat.lt_of_lt_of_le hq (Nat.pow_le_pow_right (by decide) (by omega))
  refine Bx.dy (j := 0) ?_ (by omega) (by omega)
  rw [Nat.pow_succ 2 (m + p + m' + 3), Nat.pow_succ 2 (m + p + m' + 2)]
  split <;> omega
theorem Sm.rd {k q p : Nat} {up : Bool} {d : Dyadic} (h : Sm k q d) : Sm (k + 1) q (Go.V.rd p up d) := by
  obtain ⟨z, rfl, hz⟩ := h
  have e0 : Dyadic.ofIntWithPrec z q = Go.V.dy (decide (z < 0)) z.natAbs (-(q : Int)) := by
    unfold Go.V.dy; rw [sg_natAbs, Int.neg_neg]
  rw [e0, rd_dy]
  have key : ∀ (s : Bool) (n : Nat), n < 2 ^ (k + 1) → Sm (k + 1) q (Go.V.dy s n (-(q : Int))) := fun s n hn =>
    ⟨sg s n, by unfold Go.V.dy; rw [Int.neg_neg], by rw [sg_abs]; exact hn⟩
  have hz2 : z.natAbs < 2 ^ (k + 1) := by rw [Nat.pow_succ]; omega
  have hbl : bitLen z.natAbs ≤ k := bitLen_le hz
  unfold rdM
  split
  · exact key _ _ hz2
  · rw [dy_up]
    refine key _ _ ?_
    have h1 := Nat.div_mul_le_self z.natAbs (2 ^ (bitLen z.natAbs - p))
    have h2 : 2 ^ (bitLen z.natAbs - p) ≤ 2 ^ k := Nat.pow_le_pow_right (by decide) (by omega)
    rw [Nat.add_mul, Nat.pow_succ]
    split
    · rw [Nat.one_mul]; omega
    · omega

theorem okP_of {p : Nat} (h8 : 8 ≤ p) (h256 : p ≤ 256) : okP p = true := by unfold okP; rw [decide_eq_true (by omega), decide_eq_true (by omega)]; rfl
end Go.V

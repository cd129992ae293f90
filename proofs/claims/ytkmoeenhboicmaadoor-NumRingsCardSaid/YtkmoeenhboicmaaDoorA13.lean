/- The statements NumRings and NumBetween of layer 2. -/
import Derived.Test.YtkmoeenhboicmaaDoorC6
import Derived.Test.YtkmoeenhboicmaaDoorC7
import Derived.Test.YtkmoeenhboicmaaDoorC8
set_option linter.unusedSimpArgs false
set_option linter.unusedVariables false
set_option maxRecDepth 100000
namespace Go.V
open Go Go.RowKit Go.Proofs

/-- Of few bits and near 1: a multiple of 2 ^ -p, less than 2 ^ k times that. -/
def Sm (k : Nat) (p : Nat) (d : Dyadic) : Prop := ∃ z : Int, d = .ofIntWithPrec z p ∧ z.natAbs < 2 ^ k
theorem Sm.dy {neg : Bool} {n : Nat} {e : Int} (hn : n < 64) (h1 : -6 ≤ e) (h2 : e ≤ 2) : Sm 14 6 (dy neg n e) := by
  refine ⟨sg neg n * 2 ^ (e + 6).toNat, ?_, ?_⟩
  · have := owp_shl (sg neg n) (-e) (e + 6).toNat
    rw [show -e + ((e + 6).toNat : Int) = (6 : Nat) by omega] at this
    exact this.symm
  · rw [Int.natAbs_mul, sg_abs, Int.natAbs_pow]
    have : (2 : Int).natAbs ^ (e + 6).toNat ≤ 2 ^ 8 := Nat.pow_le_pow_right (by decide) (by omega)
    calc n * (2 : Int).natAbs ^ (e + 6).toNat ≤ n * 2 ^ 8 := Nat.mul_le_mul_left _ this
      _ < 2 ^ 14 := by omega
theorem Sm.add {k p : Nat} {a b : Dyadic} (ha : Sm k p a) (hb : Sm k p b) : Sm (k + 1) p (a + b) := by
  obtain ⟨x, rfl, hx⟩ := ha; obtain ⟨y, rfl, hy⟩ := hb
  refine ⟨x + y, owp_add _ _ _, ?_⟩
  have := Int.natAbs_add_le x y
  rw [Nat.pow_succ]; omega
theorem Sm.sub {k p : Nat} {a b : Dyadic} (ha : Sm k p a) (hb : Sm k p b) : Sm (k + 1) p (a - b) := by
  obtain ⟨x, rfl, hx⟩ := ha; obtain ⟨y, rfl, hy⟩ := hb
  refine ⟨x - y, ?_, ?_⟩
  · have h := owp_add (x - y) y p
    rw [Int.sub_add_cancel] at h
    rw [← h]; grind
  · have := Int.natAbs_sub_le x y
    rw [Nat.pow_succ]; omega
theorem Sm.mul {k m p q : Nat} {a b : Dyadic} (ha : Sm k p a) (hb : Sm m q b) : Sm (k + m) (p + q) (a * b) := by
  obtain ⟨x, rfl, hx⟩ := ha; obtain ⟨y, rfl, hy⟩ := hb
  refine ⟨x * y, by rw [owp_mul]; rfl, ?_⟩
  rw [Int.natAbs_mul, Nat.pow_add]
  exact Nat.mul_lt_mul'' hx hy
theorem Sm.mono {k m p : Nat} {a : Dyadic} (ha : Sm k p a) (h : k ≤ m) : Sm m p a := by
  obtain ⟨x, rfl, hx⟩ := ha
  exact ⟨x, rfl, Nat.lt_of_lt_of_le hx (Nat.pow_le_pow_right (by decide) h)⟩
theorem sg_natAbs (z : Int) : sg (decide (z < 0)) z.natAbs = z := by
  unfold sg
  by_cases h : z < 0
  · rw [decide_eq_true h, if_pos rfl]; omega
  · rw [decide_eq_false h, if_neg (by decide)]; omega
theorem Sm.ok {k p : Nat} {d : Dyadic} (h : Sm k p d) (hk : k ≤ 64) (hp : p ≤ 60000) : OkD d := by
  obtain ⟨z, rfl, hz⟩ := h
  have : Dyadic.ofIntWithPrec z p = Go.V.dy (decide (z < 0)) z.natAbs (-(p : Int)) := by
    unfold Go.V.dy; rw [sg_natAbs, Int.neg_neg]
  rw [this]
  exact OkD_word (Nat.lt_of_lt_of_le hz (Nat.pow_le_pow_right (by decide) hk)) (by omega) (by omega)
theorem Sm.half {k p : Nat} {d : Dyadic} (h : Sm k p d) : ∃ m, Sm k (p + 1) m ∧ m + m = d ∧ Go.V.dy (fS d) (fN d) (fE d + -1) = m := by
  obtain ⟨z, hz, hz2⟩ := h
  have e2 : Go.V.dy (fS d) (fN d) (fE d + -1) = .ofIntWithPrec z (p + 1 : Nat) := by
    have h3 := dy_f d
    unfold Go.V.dy at *
    rw [hz] at h3 ⊢
    generalize fS (Dyadic.ofIntWithPrec z ↑p) = s at *
    generalize fN (Dyadic.ofIntWithPrec z ↑p) = n at *
    generalize fE (Dyadic.ofIntWithPrec z ↑p) = e at *
    have h4 := congrArg (fun d => d * Dyadic.ofIntWithPrec 1 1) h3
    simp only [owp_mul, Int.mul_one] at h4
    rw [show -(e + -1) = -e + 1 by omega, h4]; rfl
  refine ⟨_, ⟨z, rfl, hz2⟩, ?_, e2⟩
  rw [owp_add, hz, ← owp_shl z p 1]
  rw [show z + z = z * 2 ^ 1 by omega]; rfl
theorem p_nAddD {a b : Dyadic} (ha : OkD a) (hb : OkD b) : PC Tryd.prog 32 [NU (nuOf a), NU (nuOf b)] fun d => d = NE (numR (a + b)) := by
  have := p_nAdd (ha.sz).wl (hb.sz).wl (by decide)
  rw [opR, rightB_nuOf, rightB_nuOf, decide_eq_true ha, decide_eq_true hb, val_nuOf, val_nuOf] at this
  exact this
theorem p_nSubD {a b : Dyadic} (ha : OkD a) (hb : OkD b) : PC Tryd.prog 33 [NU (nuOf a), NU (nuOf b)] fun d => d = NE (numR (a - b)) := by
  have := p_nSub (ha.sz).wl (hb.sz).wl (by decide)
  rw [opR, rightB_nuOf, rightB_nuOf, decide_eq_true ha, decide_eq_true hb, val_nuOf, val_nuOf] at this
  exact this
theorem p_nMulD {a b : Dyadic} (ha : OkD a) (hb : OkD b) : PC Tryd.prog 34 [NU (nuOf a), NU (nuOf b)] fun d => d = NE (numR (a * b)) := by
  have := p_nMul (ha.sz).wl (hb.sz).wl (by decide)
  rw [opR, rightB_nuOf, rightB_nuOf, decide_eq_true ha, decide_eq_true hb, val_nuOf, val_nuOf] at this
  exact this
theorem p_nCmpD {a b : Dyadic} (ha : OkD a) (hb : OkD b) : PC Tryd.prog 23 [NU (nuOf a), NU (nuOf b)] fun d => d = i64 (cmpD a b) := by
  have := p_nCmp (ha.sz).wl (hb.sz).wl (by decide)
  rw [rightB_nuOf, rightB_nuOf, decide_eq_true ha, decide_eq_true hb, val_nuOf, val_nuOf] at this
  exact this
theorem p_nSameD {a b : Dyadic} (ha : OkD a) : PC Tryd.prog 16 [NU (nuOf a), NU (nuOf b)] fun d => d = bl (decide (a = b)) := by
  have := p_nSame (y := nuOf b) (x := nuOf a) (by have := (ha.sz).len; omega)
  rw [show decide (nuOf a = nuOf b) = decide (a = b) from decide_eq_decide.2 ⟨nuOf_inj, fun h => h ▸ rfl⟩] at this
  exact this
theorem p_nRightD {a : Dyadic} (ha : OkD a) : PC Tryd.prog 14 [NU (nuOf a)] fun d => d = bl true := by
  have := p_nRight (x := nuOf a) (ha.sz).b
  rw [rightB_nuOf, decide_eq_true ha] at this
  exact this
theorem p_smallD {k : Nm} {S : Store} {Q : D → Store → Prop} {b i : Nat} {w : List Nat} (hS : S k = some ⟨b, 2, 0, [[W64 w, i64 i]]⟩) (hb : B64 w) (hi : i ≤ 1099511627776)
    (hQ : ∀ d, Sm 14 6 d → Q (NU (nuOf d)) (updS S k (some ⟨b, 2, 0, [[W64 w, i64 ((i + 1 : Nat) : Int)]]⟩))) : PFC Tryd.prog 40 [.ptr k b 0 0 2] S Q :=
  p_small hS hb hi (fun neg n e h1 h2 h3 => by
    have := Sm.dy (neg := neg) h1 h2 h3
    rw [numR_ok (this.ok (by decide) (by decide))]
    exact hQ _ this)

theorem scR_m1 {d : Dyadic} (hd : OkD d) (h : OkD (Go.V.dy (fS d) (fN d) (fE d + -1))) : scR (nuOf d) (-1) = (nuOf (Go.V.dy (fS d) (fN d) (fE d + -1)), 0) := by
  unfold scR
  rw [rightB_nuOf, decide_eq_true hd, if_pos rfl]
  by_cases h0 : d = 0
  · subst h0; rfl
  · rw [if_neg (by rw [nuOf_f]; simp only; intro hl; exact h0 (fN_eq_zero.1 ((digs_eq_nil (by decide)).1 (List.eq_nil_of_length_eq_zero hl)))), if_neg (by decide), nuOf_f]
    simp only
    rw [show N64 (digs 18446744073709551616 (fN d)) = fN d from nval_digs (by decide) _]
    exact numR_ok h
theorem p_halfD {k p : Nat} {d : Dyadic} (h : Sm k p d) (hk : k ≤ 64) (hp : p ≤ 50000) : ∃ m, Sm k (p + 1) m ∧ m + m = d ∧ PC Tryd.prog 38 [NU (nuOf d), i64 (-1)] fun r => r = NE (nuOf m, 0) := by
  obtain ⟨m, h1, h2, h3⟩ := h.half
  have hd := h.ok hk (by omega)
  have hm := h1.ok hk (by omega)
  refine ⟨m, h1, h2, ?_⟩
  have := p_nScale (j := -1) (hd.sz).wl (by decide) (by unfold R64; omega)
  rw [scR_m1 hd (by rw [h3]; exact hm), h3] at this
  exact this

theorem p_NumRings {w : List Nat} (hb : B64 w) : PC Tryd.prog 10 [W64 w] fun d => d = bl true := by
  refine PC.body (args := [W64 w]) (rs := [.tmp 2]) mixed Tryd.func10 rfl (by kernel_rfl) (by kernel_rfl) (Nat.le_of_ble_eq_true rfl) rfl ?_
  repeat (first | (with_reducible refine pv_seq fun K hK => ?_) | (with_reducible refine pv_reg ?_; simp -implicitDefEqProofs only [cmpB]) | (fail) | ((with_reducible first | refine hK _ _ ?_ | (clear hK; refine hK _ _ ?_) | (clear hK; clear hK; refine hK _ _ ?_)); clear hK; try clear K) | (simp -implicitDefEqProofs only [true_and, true_and, go_sem, seval]) | (with_reducible intro b) | (with_reducible refine And.intro ?_ ?_; · first | assumption | omega | (unfold R64; omega)))
  refine call_is p_known2 ?_
  repeat (first | (with_reducible refine pv_seq fun K hK => ?_) | (with_reducible refine pv_reg ?_; simp -implicitDefEqProofs only [cmpB]) | (fail) | ((with_reducible first | refine hK _ _ ?_ | (clear hK; refine hK _ _ ?_) | (clear hK; clear hK; refine hK _ _ ?_)); clear hK; try clear K) | (simp -implicitDefEqProofs only [true_and, true_and, go_sem, seval]) | (with_reducible intro b) | (with_reducible refine And.intro ?_ ?_; · first | assumption | omega | (unfold R64; omega)))
  refine p_Of (fun b0 => ?_)
  repeat (first | (with_reducible refine pv_seq fun K hK => ?_) | (with_reducible refine pv_reg ?_; simp -implicitDefEqProofs only [cmpB]) | (fail) | ((with_reducible first | refine hK _ _ ?_ | (clear hK; refine hK _ _ ?_) | (clear hK; clear hK; refine hK _ _ ?_)); clear hK; try clear K) | (simp -implicitDefEqProofs only [true_and, true_and, go_sem, seval]) | (with_reducible intro b) | (with_reducible refine And.intro ?_ ?_; · first | assumption | omega | (unfold R64; omega)))
  refine p_smallD (i := 0) (by simp -implicitDefEqProofs only [updS, upS, if_true]; rfl) hb (by omega) (fun a sa => ?_)
  repeat (first | (with_reducible refine pv_seq fun K hK => ?_) | (with_reducible refine pv_reg ?_; simp -implicitDefEqProofs only [cmpB]) | (fail) | ((with_reducible first | refine hK _ _ ?_ | (clear hK; refine hK _ _ ?_) | (clear hK; clear hK; refine hK _ _ ?_)); clear hK; try clear K) | (simp -implicitDefEqProofs only [true_and, true_and, go_sem, seval]) | (with_reducible intro b) | (with_reducible refine And.intro ?_ ?_; · first | assumption | omega | (unfold R64; omega)))
  refine p_smallD (i := 1) (by simp -implicitDefEqProofs only [updS, upS, if_true]; rfl) hb (by omega) (fun b' sb => ?_)
  repeat (first | (with_reducible refine pv_seq fun K hK => ?_) | (with_reducible refine pv_reg ?_; simp -implicitDefEqProofs only [cmpB]) | (fail) | ((with_reducible first | refine hK _ _ ?_ | (clear hK; refine hK _ _ ?_) | (clear hK; clear hK; refine hK _ _ ?_)); clear hK; try clear K) | (simp -implicitDefEqProofs only [true_and, true_and, go_sem, seval]) | (with_reducible intro b) | (with_reducible refine And.intro ?_ ?_; · first | assumption | omega | (unfold R64; omega)))
  refine p_smallD (i := 2) (by simp -implicitDefEqProofs only [updS, upS, if_true]; rfl) hb (by omega) (fun c sc => ?_)
  repeat (first | (with_reducible refine pv_seq fun K hK => ?_) | (with_reducible refine pv_reg ?_; simp -implicitDefEqProofs only [cmpB]) | (fail) | ((with_reducible first | refine hK _ _ ?_ | (clear hK; refine hK _ _ ?_) | (clear hK; clear hK; refine hK _ _ ?_)); clear hK; try clear K) | (simp -implicitDefEqProofs only [true_and, true_and, go_sem, seval]) | (with_reducible intro b) | (with_reducible refine And.intro ?_ ?_; · first | assumption | omega | (unfold R64; omega)))
  have oa := sa.ok (by decide) (by decide); have ob := sb.ok (by decide) (by decide); have oc := sc.ok (by decide) (by decide)
  have sbc := sb.add sc; have obc := sbc.ok (by decide) (by decide)
  have ox := (sa.mul sbc).ok (by decide) (by decide)
  have sab := sa.mul sb; have oab := sab.ok (by decide) (by decide)
  have sca := sc.mul sa; have oca := sca.ok (by decide) (by decide)
  have e1 : a * (b' + c) = c * a + a * b' := by grind
  have e2 : c * a + a * b' - a * b' = c * a := by grind
  rw [e1] at ox
  have q1 := p_nAddD ob oc; rw [numR_ok obc] at q1
  have q2 := p_nMulD oa obc; rw [e1, numR_ok ox] at q2
  have q3 := p_nMulD oa ob; rw [numR_ok oab] at q3
  have q4 := p_nMulD oc oa; rw [numR_ok oca] at q4
  have q5 := p_nAddD oca oab; rw [numR_ok ox] at q5
  have q6 := p_nSubD ox oab; rw [e2, numR_ok oca] at q6
  have q7 := p_nSameD (b := c * a + a * b') ox; rw [decide_eq_true rfl] at q7
  have q8 := p_nSameD (b := c * a) oca; rw [decide_eq_true rfl] at q8
  have q9 := p_nRightD ox
  generalize nuOf (c * a + a * b') = u1 at *
  generalize nuOf (c * a) = u2 at *
  generalize nuOf (a * b') = u3 at *
  generalize nuOf (b' + c) = u4 at *
  generalize nuOf a = u5 at *
  generalize nuOf b' = u6 at *
  generalize nuOf c = u7 at *
  obtain ⟨s1, x1, w1⟩ := u1; obtain ⟨s2, x2, w2⟩ := u2; obtain ⟨s3, x3, w3⟩ := u3; obtain ⟨s4, x4, w4⟩ := u4; obtain ⟨s5, x5, w5⟩ := u5; obtain ⟨s6, x6, w6⟩ := u6; obtain ⟨s7, x7, w7⟩ := u7
  refine call_is q1 ?_
  repeat (first | (with_reducible refine pv_seq fun K hK => ?_) | (with_reducible refine pv_reg ?_; simp -implicitDefEqProofs only [cmpB]) | (fail) | ((with_reducible first | refine hK _ _ ?_ | (clear hK; refine hK _ _ ?_) | (clear hK; clear hK; refine hK _ _ ?_)); clear hK; try clear K) | (simp -implicitDefEqProofs only [true_and, true_and, go_sem, seval]) | (with_reducible intro b) | (with_reducible refine And.intro ?_ ?_; · first | assumption | omega | (unfold R64; omega)))
  refine call_is q2 ?_
  repeat (first | (with_reducible refine pv_seq fun K hK => ?_) | (with_reducible refine pv_reg ?_; simp -implicitDefEqProofs only [cmpB]) | (fail) | ((with_reducible first | refine hK _ _ ?_ | (clear hK; refine hK _ _ ?_) | (clear hK; clear hK; refine hK _ _ ?_)); clear hK; try clear K) | (simp -implicitDefEqProofs only [true_and, true_and, go_sem, seval]) | (with_reducible intro b) | (with_reducible refine And.intro ?_ ?_; · first | assumption | omega | (unfold R64; omega)))
  refine call_is q3 ?_
  repeat (first | (with_reducible refine pv_seq fun K hK => ?_) | (with_reducible refine pv_reg ?_; simp -implicitDefEqProofs only [cmpB]) | (fail) | ((with_reducible first | refine hK _ _ ?_ | (clear hK; refine hK _ _ ?_) | (clear hK; clear hK; refine hK _ _ ?_)); clear hK; try clear K) | (simp -implicitDefEqProofs only [true_and, true_and, go_sem, seval]) | (with_reducible intro b) | (with_reducible refine And.intro ?_ ?_; · first | assumption | omega | (unfold R64; omega)))
  refine call_is q4 ?_
  repeat (first | (with_reducible refine pv_seq fun K hK => ?_) | (with_reducible refine pv_reg ?_; simp -implicitDefEqProofs only [cmpB]) | (fail) | ((with_reducible first | refine hK _ _ ?_ | (clear hK; refine hK _ _ ?_) | (clear hK; clear hK; refine hK _ _ ?_)); clear hK; try clear K) | (simp -implicitDefEqProofs only [true_and, true_and, go_sem, seval]) | (with_reducible intro b) | (with_reducible refine And.intro ?_ ?_; · first | assumption | omega | (unfold R64; omega)))
  refine call_is q5 ?_
  repeat (first | (with_reducible refine pv_seq fun K hK => ?_) | (with_reducible refine pv_reg ?_; simp -implicitDefEqProofs only [cmpB]) | (fail) | ((with_reducible first | refine hK _ _ ?_ | (clear hK; refine hK _ _ ?_) | (clear hK; clear hK; refine hK _ _ ?_)); clear hK; try clear K) | (simp -implicitDefEqProofs only [true_and, true_and, go_sem, seval]) | (with_reducible intro b) | (with_reducible refine And.intro ?_ ?_; · first | assumption | omega | (unfold R64; omega)))
  refine call_is q6 ?_
  repeat (first | (with_reducible refine pv_seq fun K hK => ?_) | (with_reducible refine pv_reg ?_; simp -implicitDefEqProofs only [cmpB]) | (fail) | ((with_reducible first | refine hK _ _ ?_ | (clear hK; refine hK _ _ ?_) | (clear hK; clear hK; refine hK _ _ ?_)); clear hK; try clear K) | (simp -implicitDefEqProofs only [true_and, true_and, go_sem, seval]) | (with_reducible intro b) | (with_reducible refine And.intro ?_ ?_; · first | assumption | omega | (unfold R64; omega)))
  refine call_is q7 ?_
  repeat (first | (with_reducible refine pv_seq fun K hK => ?_) | (with_reducible refine pv_reg ?_; simp -implicitDefEqProofs only [cmpB]) | (fail) | ((with_reducible first | refine hK _ _ ?_ | (clear hK; refine hK _ _ ?_) | (clear hK; clear hK; refine hK _ _ ?_)); clear hK; try clear K) | (simp -implicitDefEqProofs only [true_and, true_and, go_sem, seval]) | (with_reducible intro b) | (with_reducible refine And.intro ?_ ?_; · first | assumption | omega | (unfold R64; omega)))
  refine call_is q8 ?_
  repeat (first | (with_reducible refine pv_seq fun K hK => ?_) | (with_reducible refine pv_reg ?_; simp -implicitDefEqProofs only [cmpB]) | (fail) | ((with_reducible first | refine hK _ _ ?_ | (clear hK; refine hK _ _ ?_) | (clear hK; clear hK; refine hK _ _ ?_)); clear hK; try clear K) | (simp -implicitDefEqProofs only [true_and, true_and, go_sem, seval]) | (with_reducible intro b) | (with_reducible refine And.intro ?_ ?_; · first | assumption | omega | (unfold R64; omega)))
  refine call_is q9 ?_
  repeat (first | (with_reducible refine pv_seq fun K hK => ?_) | (with_reducible refine pv_reg ?_; simp -implicitDefEqProofs only [cmpB]) | (fail) | ((with_reducible first | refine hK _ _ ?_ | (clear hK; refine hK _ _ ?_) | (clear hK; clear hK; refine hK _ _ ?_)); clear hK; try clear K) | (simp -implicitDefEqProofs only [true_and, true_and, go_sem, seval]) | (with_reducible intro b) | (with_reducible refine And.intro ?_ ?_; · first | assumption | omega | (unfold R64; omega)))

theorem cmpD_le {a b : Dyadic} (h : a ≤ b) : (0 < cmpD a b) = False := by
  unfold cmpD
  by_cases h1 : a < b
  · rw [if_pos h1]; simp
  · rw [if_neg h1, if_neg (by grind)]; simp
theorem cmpD_gt0 {a b : Dyadic} : 0 < cmpD a b ↔ b < a := by
  unfold cmpD
  by_cases h1 : a < b
  · rw [if_pos h1]; simp; grind
  · rw [if_neg h1]; by_cases h2 : b < a <;> simp [h2]
theorem cmpD_eq0 {a b : Dyadic} : cmpD a b = 0 ↔ a = b := by
  unfold cmpD
  by_cases h1 : a < b
  · rw [if_pos h1]; simp; grind
  · rw [if_neg h1]; by_cases h2 : b < a
    · simp [h2]; grind
    · simp [h2]; grind
theorem cmpD_le0 {a b : Dyadic} (h : a ≤ b) : (cmpD a b ≤ 0) = True := by
  have := cmpD_le h
  apply eq_true
  simp only [eq_iff_iff, iff_false] at this
  omega
theorem p_NumBetween {w : List Nat} (hb : B64 w) : PC Tryd.prog 11 [W64 w] fun d => d = bl true := by
  refine PC.body (args := [W64 w]) (rs := [.tmp 2]) mixed Tryd.func11 rfl (by kernel_rfl) (by kernel_rfl) (Nat.le_of_ble_eq_true rfl) rfl ?_
  repeat (first | (with_reducible refine pv_seq fun K hK => ?_) | (with_reducible refine pv_reg ?_; simp -implicitDefEqProofs only [cmpB]) | (fail) | ((with_reducible first | refine hK _ _ ?_ | (clear hK; refine hK _ _ ?_) | (clear hK; clear hK; refine hK _ _ ?_)); clear hK; try clear K) | (simp -implicitDefEqProofs only [true_and, true_and, go_sem, seval]) | (with_reducible intro b) | (with_reducible refine And.intro ?_ ?_; · first | assumption | omega | (unfold R64; omega)))
  refine call_is p_known2 ?_
  repeat (first | (with_reducible refine pv_seq fun K hK => ?_) | (with_reducible refine pv_reg ?_; simp -implicitDefEqProofs only [cmpB]) | (fail) | ((with_reducible first | refine hK _ _ ?_ | (clear hK; refine hK _ _ ?_) | (clear hK; clear hK; refine hK _ _ ?_)); clear hK; try clear K) | (simp -implicitDefEqProofs only [true_and, true_and, go_sem, seval]) | (with_reducible intro b) | (with_reducible refine And.intro ?_ ?_; · first | assumption | omega | (unfold R64; omega)))
  refine p_Of (fun b0 => ?_)
  repeat (first | (with_reducible refine pv_seq fun K hK => ?_) | (with_reducible refine pv_reg ?_; simp -implicitDefEqProofs only [cmpB]) | (fail) | ((with_reducible first | refine hK _ _ ?_ | (clear hK; refine hK _ _ ?_) | (clear hK; clear hK; refine hK _ _ ?_)); clear hK; try clear K) | (simp -implicitDefEqProofs only [true_and, true_and, go_sem, seval]) | (with_reducible intro b) | (with_reducible refine And.intro ?_ ?_; · first | assumption | omega | (unfold R64; omega)))
  refine p_smallD (i := 0) (by simp -implicitDefEqProofs only [updS, upS, if_true]; rfl) hb (by omega) (fun a sa => ?_)
  repeat (first | (with_reducible refine pv_seq fun K hK => ?_) | (with_reducible refine pv_reg ?_; simp -implicitDefEqProofs only [cmpB]) | (fail) | ((with_reducible first | refine hK _ _ ?_ | (clear hK; refine hK _ _ ?_) | (clear hK; clear hK; refine hK _ _ ?_)); clear hK; try clear K) | (simp -implicitDefEqProofs only [true_and, true_and, go_sem, seval]) | (with_reducible intro b) | (with_reducible refine And.intro ?_ ?_; · first | assumption | omega | (unfold R64; omega)))
  refine p_smallD (i := 1) (by simp -implicitDefEqProofs only [updS, upS, if_true]; rfl) hb (by omega) (fun b' sb => ?_)
  repeat (first | (with_reducible refine pv_seq fun K hK => ?_) | (with_reducible refine pv_reg ?_; simp -implicitDefEqProofs only [cmpB]) | (fail) | ((with_reducible first | refine hK _ _ ?_ | (clear hK; refine hK _ _ ?_) | (clear hK; clear hK; refine hK _ _ ?_)); clear hK; try clear K) | (simp -implicitDefEqProofs only [true_and, true_and, go_sem, seval]) | (with_reducible intro b) | (with_reducible refine And.intro ?_ ?_; · first | assumption | omega | (unfold R64; omega)))
  refine p_smallD (i := 2) (by simp -implicitDefEqProofs only [updS, upS, if_true]; rfl) hb (by omega) (fun c sc => ?_)
  repeat (first | (with_reducible refine pv_seq fun K hK => ?_) | (with_reducible refine pv_reg ?_; simp -implicitDefEqProofs only [cmpB]) | (fail) | ((with_reducible first | refine hK _ _ ?_ | (clear hK; refine hK _ _ ?_) | (clear hK; clear hK; refine hK _ _ ?_)); clear hK; try clear K) | (simp -implicitDefEqProofs only [true_and, true_and, go_sem, seval]) | (with_reducible intro b) | (with_reducible refine And.intro ?_ ?_; · first | assumption | omega | (unfold R64; omega)))
  rename_i b4 b5 K0 hK0
  have oa := sa.ok (by decide) (by decide); have ob := sb.ok (by decide) (by decide); have oc := sc.ok (by decide) (by decide)
  have J : ∀ (e : DEnv) (S : Store) (x y : Dyadic), Sm 14 6 x → Sm 14 6 y → x ≤ y → e 4 = .ptr (.l 4) b4 0 0 3 → e 5 = .ptr (.l 5) b5 0 0 3 → e 6 = .ptr (.l 6) b 0 0 3 → S (.l 4) = some ⟨b4, 3, 0, [[bl (nuOf x).neg, i64 (nuOf x).exp, W64 (nuOf x).w]]⟩ → S (.l 5) = some ⟨b5, 3, 0, [[bl (nuOf y).neg, i64 (nuOf y).exp, W64 (nuOf y).w]]⟩ →
      S (.l 6) = some ⟨b, 3, 0, [[bl (nuOf c).neg, i64 (nuOf c).exp, W64 (nuOf c).w]]⟩ → K0 e S := by
    intro e S x y sx sy hxy g4 g5 g6 s4 s5 s6
    have ox := sx.ok (by decide) (by decide); have oy := sy.ok (by decide) (by decide)
    have ss := sx.add sy; have os := ss.ok (by decide) (by decide)
    obtain ⟨m, sm, hm, q2⟩ := p_halfD ss (by decide) (by decide)
    have om := sm.ok (by decide) (by decide)
    have q1 := p_nAddD ox oy; rw [numR_ok os] at q1
    have q3 := p_nCmpD ox om
    have q4 := p_nCmpD om oy
    have q5 := p_nCmpD oy oc
    have q6 := p_nCmpD ox oc
    have q7 := p_nSameD (b := y) ox
    have k3 := cmpD_le (show x ≤ m by grind)
    have k4 := cmpD_le (show m ≤ y by grind)
    have k5 : (cmpD x m = 0) = (x = y) := by rw [cmpD_eq0]; apply propext; constructor <;> intro h <;> grind
    have k6 : ¬ 0 < cmpD y c → (cmpD x c ≤ 0) = True := fun h => by
      rw [cmpD_gt0] at h
      exact cmpD_le0 (by grind)
    refine hK0 _ _ ?_
    clear hK0 hK
    generalize cmpD x m = c1 at *
    generalize cmpD m y = c2 at *
    generalize cmpD y c = c3 at *
    generalize cmpD x c = c4 at *
    generalize hz : decide (x = y) = z at *
    generalize nuOf (x + y) = u1 at *
    generalize nuOf m = u2 at *
    generalize nuOf x = u3 at *
    generalize nuOf y = u4 at *
    generalize nuOf c = u5 at *
    obtain ⟨s1, x1, w1⟩ := u1; obtain ⟨s2, x2, w2⟩ := u2; obtain ⟨s3, x3, w3⟩ := u3; obtain ⟨t4, x4, w4⟩ := u4; obtain ⟨t5, x5, w5⟩ := u5
    simp only at s4 s5 s6
    by_cases h5 : 0 < c3
    · by_cases h6 : x = y
      · rw [decide_eq_true h6] at hz; subst hz
        repeat (first | (with_reducible refine pv_seq fun K hK => ?_) | (with_reducible refine pv_reg ?_; simp -implicitDefEqProofs only [cmpB]) | (fail) | ((with_reducible first | refine hK _ _ ?_ | (clear hK; refine hK _ _ ?_) | (clear hK; clear hK; refine hK _ _ ?_)); clear hK; try clear K) | (simp -implicitDefEqProofs only [g4, g5, g6, s4, s5, s6, k3, k4, k5, eq_true h5, eq_true h6, true_and, go_sem, seval]) | (with_reducible intro b) | (with_reducible refine And.intro ?_ ?_; · first | assumption | omega | (unfold R64; omega)))
        first | (refine call_is (q1) ?_) | (refine ExtC_is ?_; simp -implicitDefEqProofs only [g4, g5, g6, s4, s5, s6, k3, k4, k5, eq_true h5, eq_true h6, true_and, go_sem, seval]; refine ext_is (q1) ?_) | (refine PFC.coe ?_; simp -implicitDefEqProofs only [g4, g5, g6, s4, s5, s6, k3, k4, k5, eq_true h5, eq_true h6, true_and, go_sem, seval]; refine call_is (q1) ?_)
        repeat (first | (with_reducible refine pv_seq fun K hK => ?_) | (with_reducible refine pv_reg ?_; simp -implicitDefEqProofs only [cmpB]) | (fail) | ((with_reducible first | refine hK _ _ ?_ | (clear hK; refine hK _ _ ?_) | (clear hK; clear hK; refine hK _ _ ?_)); clear hK; try clear K) | (simp -implicitDefEqProofs only [g4, g5, g6, s4, s5, s6, k3, k4, k5, eq_true h5, eq_true h6, true_and, go_sem, seval]) | (with_reducible intro b) | (with_reducible refine And.intro ?_ ?_; · first | assumption | omega | (unfold R64; omega)))
        first | (refine call_is (q2) ?_) | (refine ExtC_is ?_; simp -implicitDefEqProofs only [g4, g5, g6, s4, s5, s6, k3, k4, k5, eq_true h5, eq_true h6, true_and, go_sem, seval]; refine ext_is (q2) ?_) | (refine PFC.coe ?_; simp -implicitDefEqProofs only [g4, g5, g6, s4, s5, s6, k3, k4, k5, eq_true h5, eq_true h6, true_and, go_sem, seval]; refine call_is (q2) ?_)
        repeat (first | (with_reducible refine pv_seq fun K hK => ?_) | (with_reducible refine pv_reg ?_; simp -implicitDefEqProofs only [cmpB]) | (fail) | ((with_reducible first | refine hK _ _ ?_ | (clear hK; refine hK _ _ ?_) | (clear hK; clear hK; refine hK _ _ ?_)); clear hK; try clear K) | (simp -implicitDefEqProofs only [g4, g5, g6, s4, s5, s6, k3, k4, k5, eq_true h5, eq_true h6, true_and, go_sem, seval]) | (with_reducible intro b) | (with_reducible refine And.intro ?_ ?_; · first | assumption | omega | (unfold R64; omega)))
        first | (refine call_is (q3) ?_) | (refine ExtC_is ?_; simp -implicitDefEqProofs only [g4, g5, g6, s4, s5, s6, k3, k4, k5, eq_true h5, eq_true h6, true_and, go_sem, seval]; refine ext_is (q3) ?_) | (refine PFC.coe ?_; simp -implicitDefEqProofs only [g4, g5, g6, s4, s5, s6, k3, k4, k5, eq_true h5, eq_true h6, true_and, go_sem, seval]; refine call_is (q3) ?_)
        repeat (first | (with_reducible refine pv_seq fun K hK => ?_) | (with_reducible refine pv_reg ?_; simp -implicitDefEqProofs only [cmpB]) | (fail) | ((with_reducible first | refine hK _ _ ?_ | (clear hK; refine hK _ _ ?_) | (clear hK; clear hK; refine hK _ _ ?_)); clear hK; try clear K) | (simp -implicitDefEqProofs only [g4, g5, g6, s4, s5, s6, k3, k4, k5, eq_true h5, eq_true h6, true_and, go_sem, seval]) | (with_reducible intro b) | (with_reducible refine And.intro ?_ ?_; · first | assumption | omega | (unfold R64; omega)))
        first | (refine call_is (q4) ?_) | (refine ExtC_is ?_; simp -implicitDefEqProofs only [g4, g5, g6, s4, s5, s6, k3, k4, k5, eq_true h5, eq_true h6, true_and, go_sem, seval]; refine ext_is (q4) ?_) | (refine PFC.coe ?_; simp -implicitDefEqProofs only [g4, g5, g6, s4, s5, s6, k3, k4, k5, eq_true h5, eq_true h6, true_and, go_sem, seval]; refine call_is (q4) ?_)
        repeat (first | (with_reducible refine pv_seq fun K hK => ?_) | (with_reducible refine pv_reg ?_; simp -implicitDefEqProofs only [cmpB]) | (fail) | ((with_reducible first | refine hK _ _ ?_ | (clear hK; refine hK _ _ ?_) | (clear hK; clear hK; refine hK _ _ ?_)); clear hK; try clear K) | (simp -implicitDefEqProofs only [g4, g5, g6, s4, s5, s6, k3, k4, k5, eq_true h5, eq_true h6, true_and, go_sem, seval]) | (with_reducible intro b) | (with_reducible refine And.intro ?_ ?_; · first | assumption | omega | (unfold R64; omega)))
        first | (refine call_is (q3) ?_) | (refine ExtC_is ?_; simp -implicitDefEqProofs only [g4, g5, g6, s4, s5, s6, k3, k4, k5, eq_true h5, eq_true h6, true_and, go_sem, seval]; refine ext_is (q3) ?_) | (refine PFC.coe ?_; simp -implicitDefEqProofs only [g4, g5, g6, s4, s5, s6, k3, k4, k5, eq_true h5, eq_true h6, true_and, go_sem, seval]; refine call_is (q3) ?_)
        repeat (first | (with_reducible refine pv_seq fun K hK => ?_) | (with_reducible refine pv_reg ?_; simp -implicitDefEqProofs only [cmpB]) | (fail) | ((with_reducible first | refine hK _ _ ?_ | (clear hK; refine hK _ _ ?_) | (clear hK; clear hK; refine hK _ _ ?_)); clear hK; try clear K) | (simp -implicitDefEqProofs only [g4, g5, g6, s4, s5, s6, k3, k4, k5, eq_true h5, eq_true h6, true_and, go_sem, seval]) | (with_reducible intro b) | (with_reducible refine And.intro ?_ ?_; · first | assumption | omega | (unfold R64; omega)))
        first | (refine call_is (q7) ?_) | (refine ExtC_is ?_; simp -implicitDefEqProofs only [g4, g5, g6, s4, s5, s6, k3, k4, k5, eq_true h5, eq_true h6, true_and, go_sem, seval]; refine ext_is (q7) ?_) | (refine PFC.coe ?_; simp -implicitDefEqProofs only [g4, g5, g6, s4, s5, s6, k3, k4, k5, eq_true h5, eq_true h6, true_and, go_sem, seval]; refine call_is (q7) ?_)
        repeat (first | (with_reducible refine pv_seq fun K hK => ?_) | (with_reducible refine pv_reg ?_; simp -implicitDefEqProofs only [cmpB]) | (fail) | ((with_reducible first | refine hK _ _ ?_ | (clear hK; refine hK _ _ ?_) | (clear hK; clear hK; refine hK _ _ ?_)); clear hK; try clear K) | (simp -implicitDefEqProofs only [g4, g5, g6, s4, s5, s6, k3, k4, k5, eq_true h5, eq_true h6, true_and, go_sem, seval]) | (with_reducible intro b) | (with_reducible refine And.intro ?_ ?_; · first | assumption | omega | (unfold R64; omega)))
        first | (refine call_is (q5) ?_) | (refine ExtC_is ?_; simp -implicitDefEqProofs only [g4, g5, g6, s4, s5, s6, k3, k4, k5, eq_true h5, eq_true h6, true_and, go_sem, seval]; refine ext_is (q5) ?_) | (refine PFC.coe ?_; simp -implicitDefEqProofs only [g4, g5, g6, s4, s5, s6, k3, k4, k5, eq_true h5, eq_true h6, true_and, go_sem, seval]; refine call_is (q5) ?_)
        repeat (first | (with_reducible refine pv_seq fun K hK => ?_) | (with_reducible refine pv_reg ?_; simp -implicitDefEqProofs only [cmpB]) | (fail) | ((with_reducible first | refine hK _ _ ?_ | (clear hK; refine hK _ _ ?_) | (clear hK; clear hK; refine hK _ _ ?_)); clear hK; try clear K) | (simp -implicitDefEqProofs only [g4, g5, g6, s4, s5, s6, k3, k4, k5, eq_true h5, eq_true h6, true_and, go_sem, seval]) | (with_reducible intro b) | (with_reducible refine And.intro ?_ ?_; · first | assumption | omega | (unfold R64; omega)))
      · rw [decide_eq_false h6] at hz; subst hz
        repeat (first | (with_reducible refine pv_seq fun K hK => ?_) | (with_reducible refine pv_reg ?_; simp -implicitDefEqProofs only [cmpB]) | (fail) | ((with_reducible first | refine hK _ _ ?_ | (clear hK; refine hK _ _ ?_) | (clear hK; clear hK; refine hK _ _ ?_)); clear hK; try clear K) | (simp -implicitDefEqProofs only [g4, g5, g6, s4, s5, s6, k3, k4, k5, eq_true h5, eq_false h6, true_and, go_sem, seval]) | (with_reducible intro b) | (with_reducible refine And.intro ?_ ?_; · first | assumption | omega | (unfold R64; omega)))
        first | (refine call_is (q1) ?_) | (refine ExtC_is ?_; simp -implicitDefEqProofs only [g4, g5, g6, s4, s5, s6, k3, k4, k5, eq_true h5, eq_false h6, true_and, go_sem, seval]; refine ext_is (q1) ?_) | (refine PFC.coe ?_; simp -implicitDefEqProofs only [g4, g5, g6, s4, s5, s6, k3, k4, k5, eq_true h5, eq_false h6, true_and, go_sem, seval]; refine call_is (q1) ?_)
        repeat (first | (with_reducible refine pv_seq fun K hK => ?_) | (with_reducible refine pv_reg ?_; simp -implicitDefEqProofs only [cmpB]) | (fail) | ((with_reducible first | refine hK _ _ ?_ | (clear hK; refine hK _ _ ?_) | (clear hK; clear hK; refine hK _ _ ?_)); clear hK; try clear K) | (simp -implicitDefEqProofs only [g4, g5, g6, s4, s5, s6, k3, k4, k5, eq_true h5, eq_false h6, true_and, go_sem, seval]) | (with_reducible intro b) | (with_reducible refine And.intro ?_ ?_; · first | assumption | omega | (unfold R64; omega)))
        first | (refine call_is (q2) ?_) | (refine ExtC_is ?_; simp -implicitDefEqProofs only [g4, g5, g6, s4, s5, s6, k3, k4, k5, eq_true h5, eq_false h6, true_and, go_sem, seval]; refine ext_is (q2) ?_) | (refine PFC.coe ?_; simp -implicitDefEqProofs only [g4, g5, g6, s4, s5, s6, k3, k4, k5, eq_true h5, eq_false h6, true_and, go_sem, seval]; refine call_is (q2) ?_)
        repeat (first | (with_reducible refine pv_seq fun K hK => ?_) | (with_reducible refine pv_reg ?_; simp -implicitDefEqProofs only [cmpB]) | (fail) | ((with_reducible first | refine hK _ _ ?_ | (clear hK; refine hK _ _ ?_) | (clear hK; clear hK; refine hK _ _ ?_)); clear hK; try clear K) | (simp -implicitDefEqProofs only [g4, g5, g6, s4, s5, s6, k3, k4, k5, eq_true h5, eq_false h6, true_and, go_sem, seval]) | (with_reducible intro b) | (with_reducible refine And.intro ?_ ?_; · first | assumption | omega | (unfold R64; omega)))
        first | (refine call_is (q3) ?_) | (refine ExtC_is ?_; simp -implicitDefEqProofs only [g4, g5, g6, s4, s5, s6, k3, k4, k5, eq_true h5, eq_false h6, true_and, go_sem, seval]; refine ext_is (q3) ?_) | (refine PFC.coe ?_; simp -implicitDefEqProofs only [g4, g5, g6, s4, s5, s6, k3, k4, k5, eq_true h5, eq_false h6, true_and, go_sem, seval]; refine call_is (q3) ?_)
        repeat (first | (with_reducible refine pv_seq fun K hK => ?_) | (with_reducible refine pv_reg ?_; simp -implicitDefEqProofs only [cmpB]) | (fail) | ((with_reducible first | refine hK _ _ ?_ | (clear hK; refine hK _ _ ?_) | (clear hK; clear hK; refine hK _ _ ?_)); clear hK; try clear K) | (simp -implicitDefEqProofs only [g4, g5, g6, s4, s5, s6, k3, k4, k5, eq_true h5, eq_false h6, true_and, go_sem, seval]) | (with_reducible intro b) | (with_reducible refine And.intro ?_ ?_; · first | assumption | omega | (unfold R64; omega)))
        first | (refine call_is (q4) ?_) | (refine ExtC_is ?_; simp -implicitDefEqProofs only [g4, g5, g6, s4, s5, s6, k3, k4, k5, eq_true h5, eq_false h6, true_and, go_sem, seval]; refine ext_is (q4) ?_) | (refine PFC.coe ?_; simp -implicitDefEqProofs only [g4, g5, g6, s4, s5, s6, k3, k4, k5, eq_true h5, eq_false h6, true_and, go_sem, seval]; refine call_is (q4) ?_)
        repeat (first | (with_reducible refine pv_seq fun K hK => ?_) | (with_reducible refine pv_reg ?_; simp -implicitDefEqProofs only [cmpB]) | (fail) | ((with_reducible first | refine hK _ _ ?_ | (clear hK; refine hK _ _ ?_) | (clear hK; clear hK; refine hK _ _ ?_)); clear hK; try clear K) | (simp -implicitDefEqProofs only [g4, g5, g6, s4, s5, s6, k3, k4, k5, eq_true h5, eq_false h6, true_and, go_sem, seval]) | (with_reducible intro b) | (with_reducible refine And.intro ?_ ?_; · first | assumption | omega | (unfold R64; omega)))
        first | (refine call_is (q3) ?_) | (refine ExtC_is ?_; simp -implicitDefEqProofs only [g4, g5, g6, s4, s5, s6, k3, k4, k5, eq_true h5, eq_false h6, true_and, go_sem, seval]; refine ext_is (q3) ?_) | (refine PFC.coe ?_; simp -implicitDefEqProofs only [g4, g5, g6, s4, s5, s6, k3, k4, k5, eq_true h5, eq_false h6, true_and, go_sem, seval]; refine call_is (q3) ?_)
        repeat (first | (with_reducible refine pv_seq fun K hK => ?_) | (with_reducible refine pv_reg ?_; simp -implicitDefEqProofs only [cmpB]) | (fail) | ((with_reducible first | refine hK _ _ ?_ | (clear hK; refine hK _ _ ?_) | (clear hK; clear hK; refine hK _ _ ?_)); clear hK; try clear K) | (simp -implicitDefEqProofs only [g4, g5, g6, s4, s5, s6, k3, k4, k5, eq_true h5, eq_false h6, true_and, go_sem, seval]) | (with_reducible intro b) | (with_reducible refine And.intro ?_ ?_; · first | assumption | omega | (unfold R64; omega)))
        first | (refine call_is (q5) ?_) | (refine ExtC_is ?_; simp -implicitDefEqProofs only [g4, g5, g6, s4, s5, s6, k3, k4, k5, eq_true h5, eq_false h6, true_and, go_sem, seval]; refine ext_is (q5) ?_) | (refine PFC.coe ?_; simp -implicitDefEqProofs only [g4, g5, g6, s4, s5, s6, k3, k4, k5, eq_true h5, eq_false h6, true_and, go_sem, seval]; refine call_is (q5) ?_)
        repeat (first | (with_reducible refine pv_seq fun K hK => ?_) | (with_reducible refine pv_reg ?_; simp -implicitDefEqProofs only [cmpB]) | (fail) | ((with_reducible first | refine hK _ _ ?_ | (clear hK; refine hK _ _ ?_) | (clear hK; clear hK; refine hK _ _ ?_)); clear hK; try clear K) | (simp -implicitDefEqProofs only [g4, g5, g6, s4, s5, s6, k3, k4, k5, eq_true h5, eq_false h6, true_and, go_sem, seval]) | (with_reducible intro b) | (with_reducible refine And.intro ?_ ?_; · first | assumption | omega | (unfold R64; omega)))
    · have k7 := k6 h5
      by_cases h6 : x = y
      · rw [decide_eq_true h6] at hz; subst hz
        repeat (first | (with_reducible refine pv_seq fun K hK => ?_) | (with_reducible refine pv_reg ?_; simp -implicitDefEqProofs only [cmpB]) | (fail) | ((with_reducible first | refine hK _ _ ?_ | (clear hK; refine hK _ _ ?_) | (clear hK; clear hK; refine hK _ _ ?_)); clear hK; try clear K) | (simp -implicitDefEqProofs only [g4, g5, g6, s4, s5, s6, k3, k4, k5, eq_false h5, eq_true h6, k7, true_and, go_sem, seval]) | (with_reducible intro b) | (with_reducible refine And.intro ?_ ?_; · first | assumption | omega | (unfold R64; omega)))
        first | (refine call_is (q1) ?_) | (refine ExtC_is ?_; simp -implicitDefEqProofs only [g4, g5, g6, s4, s5, s6, k3, k4, k5, eq_false h5, eq_true h6, k7, true_and, go_sem, seval]; refine ext_is (q1) ?_) | (refine PFC.coe ?_; simp -implicitDefEqProofs only [g4, g5, g6, s4, s5, s6, k3, k4, k5, eq_false h5, eq_true h6, k7, true_and, go_sem, seval]; refine call_is (q1) ?_)
        repeat (first | (with_reducible refine pv_seq fun K hK => ?_) | (with_reducible refine pv_reg ?_; simp -implicitDefEqProofs only [cmpB]) | (fail) | ((with_reducible first | refine hK _ _ ?_ | (clear hK; refine hK _ _ ?_) | (clear hK; clear hK; refine hK _ _ ?_)); clear hK; try clear K) | (simp -implicitDefEqProofs only [g4, g5, g6, s4, s5, s6, k3, k4, k5, eq_false h5, eq_true h6, k7, true_and, go_sem, seval]) | (with_reducible intro b) | (with_reducible refine And.intro ?_ ?_; · first | assumption | omega | (unfold R64; omega)))
        first | (refine call_is (q2) ?_) | (refine ExtC_is ?_; simp -implicitDefEqProofs only [g4, g5, g6, s4, s5, s6, k3, k4, k5, eq_false h5, eq_true h6, k7, true_and, go_sem, seval]; refine ext_is (q2) ?_) | (refine PFC.coe ?_; simp -implicitDefEqProofs only [g4, g5, g6, s4, s5, s6, k3, k4, k5, eq_false h5, eq_true h6, k7, true_and, go_sem, seval]; refine call_is (q2) ?_)
        repeat (first | (with_reducible refine pv_seq fun K hK => ?_) | (with_reducible refine pv_reg ?_; simp -implicitDefEqProofs only [cmpB]) | (fail) | ((with_reducible first | refine hK _ _ ?_ | (clear hK; refine hK _ _ ?_) | (clear hK; clear hK; refine hK _ _ ?_)); clear hK; try clear K) | (simp -implicitDefEqProofs only [g4, g5, g6, s4, s5, s6, k3, k4, k5, eq_false h5, eq_true h6, k7, true_and, go_sem, seval]) | (with_reducible intro b) | (with_reducible refine And.intro ?_ ?_; · first | assumption | omega | (unfold R64; omega)))
        first | (refine call_is (q3) ?_) | (refine ExtC_is ?_; simp -implicitDefEqProofs only [g4, g5, g6, s4, s5, s6, k3, k4, k5, eq_false h5, eq_true h6, k7, true_and, go_sem, seval]; refine ext_is (q3) ?_) | (refine PFC.coe ?_; simp -implicitDefEqProofs only [g4, g5, g6, s4, s5, s6, k3, k4, k5, eq_false h5, eq_true h6, k7, true_and, go_sem, seval]; refine call_is (q3) ?_)
        repeat (first | (with_reducible refine pv_seq fun K hK => ?_) | (with_reducible refine pv_reg ?_; simp -implicitDefEqProofs only [cmpB]) | (fail) | ((with_reducible first | refine hK _ _ ?_ | (clear hK; refine hK _ _ ?_) | (clear hK; clear hK; refine hK _ _ ?_)); clear hK; try clear K) | (simp -implicitDefEqProofs only [g4, g5, g6, s4, s5, s6, k3, k4, k5, eq_false h5, eq_true h6, k7, true_and, go_sem, seval]) | (with_reducible intro b) | (with_reducible refine And.intro ?_ ?_; · first | assumption | omega | (unfold R64; omega)))
        first | (refine call_is (q4) ?_) | (refine ExtC_is ?_; simp -implicitDefEqProofs only [g4, g5, g6, s4, s5, s6, k3, k4, k5, eq_false h5, eq_true h6, k7, true_and, go_sem, seval]; refine ext_is (q4) ?_) | (refine PFC.coe ?_; simp -implicitDefEqProofs only [g4, g5, g6, s4, s5, s6, k3, k4, k5, eq_false h5, eq_true h6, k7, true_and, go_sem, seval]; refine call_is (q4) ?_)
        repeat (first | (with_reducible refine pv_seq fun K hK => ?_) | (with_reducible refine pv_reg ?_; simp -implicitDefEqProofs only [cmpB]) | (fail) | ((with_reducible first | refine hK _ _ ?_ | (clear hK; refine hK _ _ ?_) | (clear hK; clear hK; refine hK _ _ ?_)); clear hK; try clear K) | (simp -implicitDefEqProofs only [g4, g5, g6, s4, s5, s6, k3, k4, k5, eq_false h5, eq_true h6, k7, true_and, go_sem, seval]) | (with_reducible intro b) | (with_reducible refine And.intro ?_ ?_; · first | assumption | omega | (unfold R64; omega)))
        first | (refine call_is (q3) ?_) | (refine ExtC_is ?_; simp -implicitDefEqProofs only [g4, g5, g6, s4, s5, s6, k3, k4, k5, eq_false h5, eq_true h6, k7, true_and, go_sem, seval]; refine ext_is (q3) ?_) | (refine PFC.coe ?_; simp -implicitDefEqProofs only [g4, g5, g6, s4, s5, s6, k3, k4, k5, eq_false h5, eq_true h6, k7, true_and, go_sem, seval]; refine call_is (q3) ?_)
        repeat (first | (with_reducible refine pv_seq fun K hK => ?_) | (with_reducible refine pv_reg ?_; simp -implicitDefEqProofs only [cmpB]) | (fail) | ((with_reducible first | refine hK _ _ ?_ | (clear hK; refine hK _ _ ?_) | (clear hK; clear hK; refine hK _ _ ?_)); clear hK; try clear K) | (simp -implicitDefEqProofs only [g4, g5, g6, s4, s5, s6, k3, k4, k5, eq_false h5, eq_true h6, k7, true_and, go_sem, seval]) | (with_reducible intro b) | (with_reducible refine And.intro ?_ ?_; · first | assumption | omega | (unfold R64; omega)))
        first | (refine call_is (q7) ?_) | (refine ExtC_is ?_; simp -implicitDefEqProofs only [g4, g5, g6, s4, s5, s6, k3, k4, k5, eq_false h5, eq_true h6, k7, true_and, go_sem, seval]; refine ext_is (q7) ?_) | (refine PFC.coe ?_; simp -implicitDefEqProofs only [g4, g5, g6, s4, s5, s6, k3, k4, k5, eq_false h5, eq_true h6, k7, true_and, go_sem, seval]; refine call_is (q7) ?_)
        repeat (first | (with_reducible refine pv_seq fun K hK => ?_) | (with_reducible refine pv_reg ?_; simp -implicitDefEqProofs only [cmpB]) | (fail) | ((with_reducible first | refine hK _ _ ?_ | (clear hK; refine hK _ _ ?_) | (clear hK; clear hK; refine hK _ _ ?_)); clear hK; try clear K) | (simp -implicitDefEqProofs only [g4, g5, g6, s4, s5, s6, k3, k4, k5, eq_false h5, eq_true h6, k7, true_and, go_sem, seval]) | (with_reducible intro b) | (with_reducible refine And.intro ?_ ?_; · first | assumption | omega | (unfold R64; omega)))
        first | (refine call_is (q5) ?_) | (refine ExtC_is ?_; simp -implicitDefEqProofs only [g4, g5, g6, s4, s5, s6, k3, k4, k5, eq_false h5, eq_true h6, k7, true_and, go_sem, seval]; refine ext_is (q5) ?_) | (refine PFC.coe ?_; simp -implicitDefEqProofs only [g4, g5, g6, s4, s5, s6, k3, k4, k5, eq_false h5, eq_true h6, k7, true_and, go_sem, seval]; refine call_is (q5) ?_)
        repeat (first | (with_reducible refine pv_seq fun K hK => ?_) | (with_reducible refine pv_reg ?_; simp -implicitDefEqProofs only [cmpB]) | (fail) | ((with_reducible first | refine hK _ _ ?_ | (clear hK; refine hK _ _ ?_) | (clear hK; clear hK; refine hK _ _ ?_)); clear hK; try clear K) | (simp -implicitDefEqProofs only [g4, g5, g6, s4, s5, s6, k3, k4, k5, eq_false h5, eq_true h6, k7, true_and, go_sem, seval]) | (with_reducible intro b) | (with_reducible refine And.intro ?_ ?_; · first | assumption | omega | (unfold R64; omega)))
        first | (refine call_is (q6) ?_) | (refine ExtC_is ?_; simp -implicitDefEqProofs only [g4, g5, g6, s4, s5, s6, k3, k4, k5, eq_false h5, eq_true h6, k7, true_and, go_sem, seval]; refine ext_is (q6) ?_) | (refine PFC.coe ?_; simp -implicitDefEqProofs only [g4, g5, g6, s4, s5, s6, k3, k4, k5, eq_false h5, eq_true h6, k7, true_and, go_sem, seval]; refine call_is (q6) ?_)
        repeat (first | (with_reducible refine pv_seq fun K hK => ?_) | (with_reducible refine pv_reg ?_; simp -implicitDefEqProofs only [cmpB]) | (fail) | ((with_reducible first | refine hK _ _ ?_ | (clear hK; refine hK _ _ ?_) | (clear hK; clear hK; refine hK _ _ ?_)); clear hK; try clear K) | (simp -implicitDefEqProofs only [g4, g5, g6, s4, s5, s6, k3, k4, k5, eq_false h5, eq_true h6, k7, true_and, go_sem, seval]) | (with_reducible intro b) | (with_reducible refine And.intro ?_ ?_; · first | assumption | omega | (unfold R64; omega)))
      · rw [decide_eq_false h6] at hz; subst hz
        repeat (first | (with_reducible refine pv_seq fun K hK => ?_) | (with_reducible refine pv_reg ?_; simp -implicitDefEqProofs only [cmpB]) | (fail) | ((with_reducible first | refine hK _ _ ?_ | (clear hK; refine hK _ _ ?_) | (clear hK; clear hK; refine hK _ _ ?_)); clear hK; try clear K) | (simp -implicitDefEqProofs only [g4, g5, g6, s4, s5, s6, k3, k4, k5, eq_false h5, eq_false h6, k7, true_and, go_sem, seval]) | (with_reducible intro b) | (with_reducible refine And.intro ?_ ?_; · first | assumption | omega | (unfold R64; omega)))
        first | (refine call_is (q1) ?_) | (refine ExtC_is ?_; simp -implicitDefEqProofs only [g4, g5, g6, s4, s5, s6, k3, k4, k5, eq_false h5, eq_false h6, k7, true_and, go_sem, seval]; refine ext_is (q1) ?_) | (refine PFC.coe ?_; simp -implicitDefEqProofs only [g4, g5, g6, s4, s5, s6, k3, k4, k5, eq_false h5, eq_false h6, k7, true_and, go_sem, seval]; refine call_is (q1) ?_)
        repeat (first | (with_reducible refine pv_seq fun K hK => ?_) | (with_reducible refine pv_reg ?_; simp -implicitDefEqProofs only [cmpB]) | (fail) | ((with_reducible first | refine hK _ _ ?_ | (clear hK; refine hK _ _ ?_) | (clear hK; clear hK; refine hK _ _ ?_)); clear hK; try clear K) | (simp -implicitDefEqProofs only [g4, g5, g6, s4, s5, s6, k3, k4, k5, eq_false h5, eq_false h6, k7, true_and, go_sem, seval]) | (with_reducible intro b) | (with_reducible refine And.intro ?_ ?_; · first | assumption | omega | (unfold R64; omega)))
        first | (refine call_is (q2) ?_) | (refine ExtC_is ?_; simp -implicitDefEqProofs only [g4, g5, g6, s4, s5, s6, k3, k4, k5, eq_false h5, eq_false h6, k7, true_and, go_sem, seval]; refine ext_is (q2) ?_) | (refine PFC.coe ?_; simp -implicitDefEqProofs only [g4, g5, g6, s4, s5, s6, k3, k4, k5, eq_false h5, eq_false h6, k7, true_and, go_sem, seval]; refine call_is (q2) ?_)
        repeat (first | (with_reducible refine pv_seq fun K hK => ?_) | (with_reducible refine pv_reg ?_; simp -implicitDefEqProofs only [cmpB]) | (fail) | ((with_reducible first | refine hK _ _ ?_ | (clear hK; refine hK _ _ ?_) | (clear hK; clear hK; refine hK _ _ ?_)); clear hK; try clear K) | (simp -implicitDefEqProofs only [g4, g5, g6, s4, s5, s6, k3, k4, k5, eq_false h5, eq_false h6, k7, true_and, go_sem, seval]) | (with_reducible intro b) | (with_reducible refine And.intro ?_ ?_; · first | assumption | omega | (unfold R64; omega)))
        first | (refine call_is (q3) ?_) | (refine ExtC_is ?_; simp -implicitDefEqProofs only [g4, g5, g6, s4, s5, s6, k3, k4, k5, eq_false h5, eq_false h6, k7, true_and, go_sem, seval]; refine ext_is (q3) ?_) | (refine PFC.coe ?_; simp -implicitDefEqProofs only [g4, g5, g6, s4, s5, s6, k3, k4, k5, eq_false h5, eq_false h6, k7, true_and, go_sem, seval]; refine call_is (q3) ?_)
        repeat (first | (with_reducible refine pv_seq fun K hK => ?_) | (with_reducible refine pv_reg ?_; simp -implicitDefEqProofs only [cmpB]) | (fail) | ((with_reducible first | refine hK _ _ ?_ | (clear hK; refine hK _ _ ?_) | (clear hK; clear hK; refine hK _ _ ?_)); clear hK; try clear K) | (simp -implicitDefEqProofs only [g4, g5, g6, s4, s5, s6, k3, k4, k5, eq_false h5, eq_false h6, k7, true_and, go_sem, seval]) | (with_reducible intro b) | (with_reducible refine And.intro ?_ ?_; · first | assumption | omega | (unfold R64; omega)))
        first | (refine call_is (q4) ?_) | (refine ExtC_is ?_; simp -implicitDefEqProofs only [g4, g5, g6, s4, s5, s6, k3, k4, k5, eq_false h5, eq_false h6, k7, true_and, go_sem, seval]; refine ext_is (q4) ?_) | (refine PFC.coe ?_; simp -implicitDefEqProofs only [g4, g5, g6, s4, s5, s6, k3, k4, k5, eq_false h5, eq_false h6, k7, true_and, go_sem, seval]; refine call_is (q4) ?_)
        repeat (first | (with_reducible refine pv_seq fun K hK => ?_) | (with_reducible refine pv_reg ?_; simp -implicitDefEqProofs only [cmpB]) | (fail) | ((with_reducible first | refine hK _ _ ?_ | (clear hK; refine hK _ _ ?_) | (clear hK; clear hK; refine hK _ _ ?_)); clear hK; try clear K) | (simp -implicitDefEqProofs only [g4, g5, g6, s4, s5, s6, k3, k4, k5, eq_false h5, eq_false h6, k7, true_and, go_sem, seval]) | (with_reducible intro b) | (with_reducible refine And.intro ?_ ?_; · first | assumption | omega | (unfold R64; omega)))
        first | (refine call_is (q3) ?_) | (refine ExtC_is ?_; simp -implicitDefEqProofs only [g4, g5, g6, s4, s5, s6, k3, k4, k5, eq_false h5, eq_false h6, k7, true_and, go_sem, seval]; refine ext_is (q3) ?_) | (refine PFC.coe ?_; simp -implicitDefEqProofs only [g4, g5, g6, s4, s5, s6, k3, k4, k5, eq_false h5, eq_false h6, k7, true_and, go_sem, seval]; refine call_is (q3) ?_)
        repeat (first | (with_reducible refine pv_seq fun K hK => ?_) | (with_reducible refine pv_reg ?_; simp -implicitDefEqProofs only [cmpB]) | (fail) | ((with_reducible first | refine hK _ _ ?_ | (clear hK; refine hK _ _ ?_) | (clear hK; clear hK; refine hK _ _ ?_)); clear hK; try clear K) | (simp -implicitDefEqProofs only [g4, g5, g6, s4, s5, s6, k3, k4, k5, eq_false h5, eq_false h6, k7, true_and, go_sem, seval]) | (with_reducible intro b) | (with_reducible refine And.intro ?_ ?_; · first | assumption | omega | (unfold R64; omega)))
        first | (refine call_is (q5) ?_) | (refine ExtC_is ?_; simp -implicitDefEqProofs only [g4, g5, g6, s4, s5, s6, k3, k4, k5, eq_false h5, eq_false h6, k7, true_and, go_sem, seval]; refine ext_is (q5) ?_) | (refine PFC.coe ?_; simp -implicitDefEqProofs only [g4, g5, g6, s4, s5, s6, k3, k4, k5, eq_false h5, eq_false h6, k7, true_and, go_sem, seval]; refine call_is (q5) ?_)
        repeat (first | (with_reducible refine pv_seq fun K hK => ?_) | (with_reducible refine pv_reg ?_; simp -implicitDefEqProofs only [cmpB]) | (fail) | ((with_reducible first | refine hK _ _ ?_ | (clear hK; refine hK _ _ ?_) | (clear hK; clear hK; refine hK _ _ ?_)); clear hK; try clear K) | (simp -implicitDefEqProofs only [g4, g5, g6, s4, s5, s6, k3, k4, k5, eq_false h5, eq_false h6, k7, true_and, go_sem, seval]) | (with_reducible intro b) | (with_reducible refine And.intro ?_ ?_; · first | assumption | omega | (unfold R64; omega)))
        first | (refine call_is (q6) ?_) | (refine ExtC_is ?_; simp -implicitDefEqProofs only [g4, g5, g6, s4, s5, s6, k3, k4, k5, eq_false h5, eq_false h6, k7, true_and, go_sem, seval]; refine ext_is (q6) ?_) | (refine PFC.coe ?_; simp -implicitDefEqProofs only [g4, g5, g6, s4, s5, s6, k3, k4, k5, eq_false h5, eq_false h6, k7, true_and, go_sem, seval]; refine call_is (q6) ?_)
        repeat (first | (with_reducible refine pv_seq fun K hK => ?_) | (with_reducible refine pv_reg ?_; simp -implicitDefEqProofs only [cmpB]) | (fail) | ((with_reducible first | refine hK _ _ ?_ | (clear hK; refine hK _ _ ?_) | (clear hK; clear hK; refine hK _ _ ?_)); clear hK; try clear K) | (simp -implicitDefEqProofs only [g4, g5, g6, s4, s5, s6, k3, k4, k5, eq_false h5, eq_false h6, k7, true_and, go_sem, seval]) | (with_reducible intro b) | (with_reducible refine And.intro ?_ ?_; · first | assumption | omega | (unfold R64; omega)))
  clear hK0
  have q0 := p_nCmpD oa ob
  by_cases h : b' < a
  · have k1 : (0 < cmpD a b') = True := eq_true (cmpD_gt0.2 h)
    first | (refine call_is (q0) ?_) | (refine ExtC_is ?_; simp -implicitDefEqProofs only [k1, true_and, go_sem, seval]; refine ext_is (q0) ?_) | (refine PFC.coe ?_; simp -implicitDefEqProofs only [k1, true_and, go_sem, seval]; refine call_is (q0) ?_)
    repeat (first | (with_reducible refine pv_seq fun K hK => ?_) | (with_reducible refine pv_reg ?_; simp -implicitDefEqProofs only [cmpB]) | (fail) | ((with_reducible first | refine hK _ _ ?_ | (clear hK; refine hK _ _ ?_) | (clear hK; clear hK; refine hK _ _ ?_)); clear hK; try clear K) | (simp -implicitDefEqProofs only [k1, true_and, go_sem, seval]) | (with_reducible intro b) | (with_reducible refine And.intro ?_ ?_; · first | assumption | omega | (unfold R64; omega)))
    exact J _ _ b' a sb sa (by grind) (by simp -implicitDefEqProofs only [k1, true_and, go_sem, seval]) (by simp -implicitDefEqProofs only [k1, true_and, go_sem, seval]) (by simp -implicitDefEqProofs only [k1, true_and, go_sem, seval]) (by simp -implicitDefEqProofs only [k1, true_and, go_sem, seval]) (by simp -implicitDefEqProofs only [k1, true_and, go_sem, seval]) (by simp -implicitDefEqProofs only [k1, true_and, go_sem, seval])
  · have k1 : (0 < cmpD a b') = False := cmpD_le (by grind)
    first | (refine call_is (q0) ?_) | (refine ExtC_is ?_; simp -implicitDefEqProofs only [k1, true_and, go_sem, seval]; refine ext_is (q0) ?_) | (refine PFC.coe ?_; simp -implicitDefEqProofs only [k1, true_and, go_sem, seval]; refine call_is (q0) ?_)
    repeat (first | (with_reducible refine pv_seq fun K hK => ?_) | (with_reducible refine pv_reg ?_; simp -implicitDefEqProofs only [cmpB]) | (fail) | ((with_reducible first | refine hK _ _ ?_ | (clear hK; refine hK _ _ ?_) | (clear hK; clear hK; refine hK _ _ ?_)); clear hK; try clear K) | (simp -implicitDefEqProofs only [k1, true_and, go_sem, seval]) | (with_reducible intro b) | (with_reducible refine And.intro ?_ ?_; · first | assumption | omega | (unfold R64; omega)))
    exact J _ _ a b' sa sb (by grind) (by simp -implicitDefEqProofs only [k1, true_and, go_sem, seval]) (by simp -implicitDefEqProofs only [k1, true_and, go_sem, seval]) (by simp -implicitDefEqProofs only [k1, true_and, go_sem, seval]) (by simp -implicitDefEqProofs only [k1, true_and, go_sem, seval]) (by simp -implicitDefEqProofs only [k1, true_and, go_sem, seval]) (by simp -implicitDefEqProofs only [k1, true_and, go_sem, seval])
end Go.V

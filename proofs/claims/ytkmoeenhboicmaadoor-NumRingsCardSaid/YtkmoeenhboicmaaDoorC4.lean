/- Numbers over values as data: the document's values: their parts, sums, products. -/
import Derived.Test.YtkmoeenhboicmaaDoorC1
import Derived.Test.YtkmoeenhboicmaaDoorDN4
import Derived.Test.YtkmoeenhboicmaaDoorR4
import Derived.Test.YtkmoeenhboicmaaDoorR5
import Derived.Test.YtkmoeenhboicmaaDoorR6
import Derived.Test.YtkmoeenhboicmaaDoorR8
set_option linter.unusedSimpArgs false
set_option linter.unusedVariables false
set_option maxRecDepth 100000
namespace Go.V
open Go Go.RowKit Go.Proofs

/-- A value of the document's. -/
def VA (d : Dyadic) : D := .agg [bl (fS d), W32 (D32 (fN d)), i64 (fE d)]
attribute [go_sem] VA
theorem D32_0 : D32 0 = [] := digs_zero _
theorem N32_D32 (n : Nat) : N32 (D32 n) = n := nval_digs (by decide) n
theorem D32_b (n : Nat) : B32 (D32 n) := digs_lt (by decide) n
theorem D32_l0 {n : Nat} : ((D32 n).length = 0) = (n = 0) := by rw [List.length_eq_zero_iff]; exact propext (digs_eq_nil (by decide))
theorem VA_0 : VA 0 = .agg [bl false, W32 [], i64 0] := by unfold VA; rw [fN_zero, D32_0]; rfl

theorem p_rOdd {k : Nat} {neg : Bool} {n : Nat} {e : Int} (hn : n < 2 ^ k) (hk : k ≤ 1073741824) (h1 : -1099511627776 ≤ e) (h2 : e ≤ 1099511627776) : PC Tryd.prog 49 [bl neg, W32 (D32 n), i64 e] fun d => d = VA (dy neg n e) := by
  have hl : (D32 n).length ≤ k := digs32_le hn
  have pZ := p_rZeros (n := n) (by omega)
  by_cases h0 : n = 0
  · subst h0
    rw [dy_zero.2 rfl, VA_0, D32_0]
    refine PC.body (args := [bl neg, W32 [], i64 e]) (rs := [.cell 6 36]) mixed Tryd.func49 rfl (by kernel_rfl) (by kernel_rfl) (Nat.le_of_ble_eq_true rfl) rfl ?_
    repeat (first | (with_reducible refine pv_seq fun K hK => ?_) | (with_reducible refine pv_reg ?_; simp -implicitDefEqProofs only [cmpB]) | (fail) | ((with_reducible first | refine hK _ _ ?_ | (clear hK; refine hK _ _ ?_) | (clear hK; clear hK; refine hK _ _ ?_)); clear hK; try clear K) | (simp -implicitDefEqProofs only [true_and, true_and, go_sem, seval]) | (with_reducible intro b) | (with_reducible refine And.intro ?_ ?_; · first | assumption | omega | (unfold R64; omega)))
    rfl
  · have ht := tz_lt hn h0
    have pD := p_rDown (n := tz n) (D32_b n) (show (D32 n).length ≤ 1099511627776 by omega) (by omega)
    rw [N32_D32] at pD
    obtain ⟨f1, f2, f3⟩ := f_of (neg := neg) (e := e) h0
    unfold VA
    rw [f1, f2, f3]
    have hl0 : ((D32 n).length = 0) = False := eq_false (by rw [D32_l0]; exact h0)
    refine PC.body (args := [bl neg, W32 (D32 n), i64 e]) (rs := [.cell 6 36]) mixed Tryd.func49 rfl (by kernel_rfl) (by kernel_rfl) (Nat.le_of_ble_eq_true rfl) rfl ?_
    repeat (first | (with_reducible refine pv_seq fun K hK => ?_) | (with_reducible refine pv_reg ?_; simp -implicitDefEqProofs only [cmpB]) | (fail) | ((with_reducible first | refine hK _ _ ?_ | (clear hK; refine hK _ _ ?_) | (clear hK; clear hK; refine hK _ _ ?_)); clear hK; try clear K) | (simp -implicitDefEqProofs only [hl0, true_and, go_sem, seval]) | (with_reducible intro b) | (with_reducible refine And.intro ?_ ?_; · first | assumption | omega | (unfold R64; omega)))
    refine call_is pZ ?_
    repeat (first | (with_reducible refine pv_seq fun K hK => ?_) | (with_reducible refine pv_reg ?_; simp -implicitDefEqProofs only [cmpB]) | (fail) | ((with_reducible first | refine hK _ _ ?_ | (clear hK; refine hK _ _ ?_) | (clear hK; clear hK; refine hK _ _ ?_)); clear hK; try clear K) | (simp -implicitDefEqProofs only [hl0, true_and, go_sem, seval]) | (with_reducible intro b) | (with_reducible refine And.intro ?_ ?_; · first | assumption | omega | (unfold R64; omega)))
    refine call_pc pD ?_
    rintro d ⟨b, rfl⟩
    repeat (first | (with_reducible refine pv_seq fun K hK => ?_) | (with_reducible refine pv_reg ?_; simp -implicitDefEqProofs only [cmpB]) | (fail) | ((with_reducible first | refine hK _ _ ?_ | (clear hK; refine hK _ _ ?_) | (clear hK; clear hK; refine hK _ _ ?_)); clear hK; try clear K) | (simp -implicitDefEqProofs only [hl0, true_and, go_sem, seval]) | (with_reducible intro b) | (with_reducible refine And.intro ?_ ?_; · first | assumption | omega | (unfold R64; omega)))

theorem p_rOf {d : Dyadic} (hd : OkD d) : PC Tryd.prog 24 [NU (nuOf d)] fun r => r = VA d := by
  have hl := hd.len
  rw [nuOf_f] at hl
  simp only at hl
  have pP := p_Part (xs := D64 (fN d)) (digs_lt (by decide) _) (by show (digs _ _).length ≤ _; omega)
  rw [show N64 (D64 (fN d)) = fN d from nval_digs (by decide) _] at pP
  unfold VA
  rw [nuOf_f]
  refine PC.body (args := [NU ⟨fS d, fE d, digs 18446744073709551616 (fN d)⟩]) (rs := [.cell 2 36]) mixed Tryd.func24 rfl (by kernel_rfl) (by kernel_rfl) (Nat.le_of_ble_eq_true rfl) rfl ?_
  repeat (first | (with_reducible refine pv_seq fun K hK => ?_) | (with_reducible refine pv_reg ?_; simp -implicitDefEqProofs only [cmpB]) | (with_reducible refine pv_draw (id := 1) [(0, 0), (1, 2), (2, 0), (3, 1), (5, 0), (6, 2), (4, 4), (7, 0), (8, 3)] (by kernel_rfl) ?_; simp -implicitDefEqProofs only [cmpB]) | ((with_reducible first | refine hK _ _ ?_ | (clear hK; refine hK _ _ ?_) | (clear hK; clear hK; refine hK _ _ ?_)); clear hK; try clear K) | (simp -implicitDefEqProofs only [true_and, true_and, go_sem, seval]) | (with_reducible intro b) | (with_reducible refine And.intro ?_ ?_; · first | assumption | omega | (unfold R64; omega)))
  refine ExtC_is ?_
  simp -implicitDefEqProofs only [true_and, true_and, go_sem, seval]
  refine ext_is pP ?_
  repeat (first | (with_reducible refine pv_seq fun K hK => ?_) | (with_reducible refine pv_reg ?_; simp -implicitDefEqProofs only [cmpB]) | (with_reducible refine pv_draw (id := 1) [(0, 0), (1, 2), (2, 0), (3, 1), (5, 0), (6, 2), (4, 4), (7, 0), (8, 3)] (by kernel_rfl) ?_; simp -implicitDefEqProofs only [cmpB]) | ((with_reducible first | refine hK _ _ ?_ | (clear hK; refine hK _ _ ?_) | (clear hK; clear hK; refine hK _ _ ?_)); clear hK; try clear K) | (simp -implicitDefEqProofs only [true_and, true_and, go_sem, seval]) | (with_reducible intro b) | (with_reducible refine And.intro ?_ ?_; · first | assumption | omega | (unfold R64; omega)))

theorem p_rNum {k : Nat} {d : Dyadic} (hd : Bd k d) (hk : k ≤ 1073741824) : PC Tryd.prog 22 [VA d] fun r => r = NE (numR d) := by
  have hl : (D32 (fN d)).length ≤ k := digs32_le hd.1
  by_cases h0 : d = 0
  · subst h0
    rw [VA_0, numR_zero]
    refine PC.body (args := [.agg [bl false, W32 [], i64 0]]) (rs := [.cell 2 24, .tmp 3]) mixed Tryd.func22 rfl (by kernel_rfl) (by kernel_rfl) (Nat.le_of_ble_eq_true rfl) rfl ?_
    repeat (first | (with_reducible refine pv_seq fun K hK => ?_) | (with_reducible refine pv_reg ?_; simp -implicitDefEqProofs only [cmpB]) | (fail) | ((with_reducible first | refine hK _ _ ?_ | (clear hK; refine hK _ _ ?_) | (clear hK; clear hK; refine hK _ _ ?_)); clear hK; try clear K) | (simp -implicitDefEqProofs only [true_and, true_and, go_sem, seval]) | (with_reducible intro b) | (with_reducible refine And.intro ?_ ?_; · first | assumption | omega | (unfold R64; omega)))
    rfl
  · have hl0 : ((D32 (fN d)).length = 0) = False := eq_false (by rw [D32_l0]; exact mt fN_eq_zero.1 h0)
    have pW := p_Words (n := fN d) (by omega)
    have hok : OkD d ↔ (D64 (fN d)).length ≤ 64 ∧ -65536 ≤ fE d ∧ fE d ≤ 65536 := by
      unfold OkD; rw [nuOf_f]; exact ⟨fun h => ⟨h.1, h.2, h.3⟩, fun h => ⟨h.1, h.2.1, h.2.2⟩⟩
    have hnu : OkD d → numR d = (⟨fS d, fE d, D64 (fN d)⟩, 0) := fun h => by rw [numR_ok h, nuOf_f]
    have hno : ¬ OkD d → numR d = (nu0, 2) := numR_over
    unfold VA
    generalize numR d = r at *
    generalize fS d = s at *
    generalize fE d = e at *
    generalize fN d = n at *
    refine PC.body (args := [.agg [bl s, W32 (D32 n), i64 e]]) (rs := [.cell 2 24, .tmp 3]) mixed Tryd.func22 rfl (by kernel_rfl) (by kernel_rfl) (Nat.le_of_ble_eq_true rfl) rfl ?_
    repeat (first | (with_reducible refine pv_seq fun K hK => ?_) | (with_reducible refine pv_reg ?_; simp -implicitDefEqProofs only [cmpB]) | (fail) | ((with_reducible first | refine hK _ _ ?_ | (clear hK; refine hK _ _ ?_) | (clear hK; clear hK; refine hK _ _ ?_)); clear hK; try clear K) | (simp -implicitDefEqProofs only [hl0, true_and, go_sem, seval]) | (with_reducible intro b) | (with_reducible refine And.intro ?_ ?_; · first | assumption | omega | (unfold R64; omega)))
    refine call_is pW ?_
    by_cases g1 : (64 : Int) < ((D64 n).length : Int)
    · repeat (first | (with_reducible refine pv_seq fun K hK => ?_) | (with_reducible refine pv_reg ?_; simp -implicitDefEqProofs only [cmpB]) | (fail) | ((with_reducible first | refine hK _ _ ?_ | (clear hK; refine hK _ _ ?_) | (clear hK; clear hK; refine hK _ _ ?_)); clear hK; try clear K) | (simp -implicitDefEqProofs only [eq_true g1, true_and, go_sem, seval]) | (with_reducible intro b) | (with_reducible refine And.intro ?_ ?_; · first | assumption | omega | (unfold R64; omega)))
      rw [hno fun h => by have := hok.1 h; omega]; try rfl
    · by_cases g2 : e < -65536
      · repeat (first | (with_reducible refine pv_seq fun K hK => ?_) | (with_reducible refine pv_reg ?_; simp -implicitDefEqProofs only [cmpB]) | (fail) | ((with_reducible first | refine hK _ _ ?_ | (clear hK; refine hK _ _ ?_) | (clear hK; clear hK; refine hK _ _ ?_)); clear hK; try clear K) | (simp -implicitDefEqProofs only [eq_false g1, eq_true g2, true_and, go_sem, seval]) | (with_reducible intro b) | (with_reducible refine And.intro ?_ ?_; · first | assumption | omega | (unfold R64; omega)))
        rw [hno fun h => by have := hok.1 h; omega]; try rfl
      · by_cases g3 : 65536 < e
        · repeat (first | (with_reducible refine pv_seq fun K hK => ?_) | (with_reducible refine pv_reg ?_; simp -implicitDefEqProofs only [cmpB]) | (fail) | ((with_reducible first | refine hK _ _ ?_ | (clear hK; refine hK _ _ ?_) | (clear hK; clear hK; refine hK _ _ ?_)); clear hK; try clear K) | (simp -implicitDefEqProofs only [eq_false g1, eq_false g2, eq_true g3, true_and, go_sem, seval]) | (with_reducible intro b) | (with_reducible refine And.intro ?_ ?_; · first | assumption | omega | (unfold R64; omega)))
          rw [hno fun h => by have := hok.1 h; omega]; try rfl
        · repeat (first | (with_reducible refine pv_seq fun K hK => ?_) | (with_reducible refine pv_reg ?_; simp -implicitDefEqProofs only [cmpB]) | (fail) | ((with_reducible first | refine hK _ _ ?_ | (clear hK; refine hK _ _ ?_) | (clear hK; clear hK; refine hK _ _ ?_)); clear hK; try clear K) | (simp -implicitDefEqProofs only [eq_false g1, eq_false g2, eq_false g3, true_and, go_sem, seval]) | (with_reducible intro b) | (with_reducible refine And.intro ?_ ?_; · first | assumption | omega | (unfold R64; omega)))
          rw [hnu (hok.2 (by omega))]; try rfl

theorem p_rMake {k : Nat} {neg : Bool} {w : List Nat} {e : Int} (hb : B64 w) (hl : w.length ≤ k) (hk : k ≤ 1048576) (he : R64 e) : PC Tryd.prog 19 [bl neg, W64 w, i64 e] fun d => d = NE (numR (dy neg (N64 w) e)) := by
  unfold R64 at he
  have hn : N64 w < 2 ^ (64 * k) := by
    rw [Nat.pow_mul]
    exact Nat.lt_of_lt_of_le (nval_lt (by decide) w hb) (Nat.pow_le_pow_right (by decide) hl)
  have hlD : (D32 (N64 w)).length ≤ 64 * k := digs32_le hn
  have pP := p_Part hb (by omega)
  have pZ := p_rZeros (n := N64 w) (by omega)
  by_cases h0 : N64 w = 0
  · rw [h0, D32_0] at pP
    rw [dy_zero.2 h0, numR_zero]
    refine PC.body (args := [bl neg, W64 w, i64 e]) (rs := [.cell 6 24, .tmp 7]) mixed Tryd.func19 rfl (by kernel_rfl) (by kernel_rfl) (Nat.le_of_ble_eq_true rfl) rfl ?_
    repeat (first | (with_reducible refine pv_seq fun K hK => ?_) | (with_reducible refine pv_reg ?_; simp -implicitDefEqProofs only [cmpB]) | (fail) | ((with_reducible first | refine hK _ _ ?_ | (clear hK; refine hK _ _ ?_) | (clear hK; clear hK; refine hK _ _ ?_)); clear hK; try clear K) | (simp -implicitDefEqProofs only [true_and, true_and, go_sem, seval]) | (with_reducible intro b) | (with_reducible refine And.intro ?_ ?_; · first | assumption | omega | (unfold R64; omega)))
    refine call_is pP ?_
    repeat (first | (with_reducible refine pv_seq fun K hK => ?_) | (with_reducible refine pv_reg ?_; simp -implicitDefEqProofs only [cmpB]) | (fail) | ((with_reducible first | refine hK _ _ ?_ | (clear hK; refine hK _ _ ?_) | (clear hK; clear hK; refine hK _ _ ?_)); clear hK; try clear K) | (simp -implicitDefEqProofs only [true_and, true_and, go_sem, seval]) | (with_reducible intro b) | (with_reducible refine And.intro ?_ ?_; · first | assumption | omega | (unfold R64; omega)))
    rfl
  · have ht := tz_lt hn h0
    have hl0 : ((D32 (N64 w)).length = 0) = False := eq_false (by rw [D32_l0]; exact h0)
    have hnu := nuOf_dy (neg := neg) (e := e) h0
    have hover : 65536 < e ∨ e < -65536 - (tz (N64 w) : Int) → ¬ OkD (dy neg (N64 w) e) := by
      intro h hk
      have h2 : (nuOf (dy neg (N64 w) e)).exp ≤ 65536 := hk.hi
      have h3 : -65536 ≤ (nuOf (dy neg (N64 w) e)).exp := hk.lo
      rw [hnu] at h2 h3
      simp only at h2 h3
      omega
    refine PC.body (args := [bl neg, W64 w, i64 e]) (rs := [.cell 6 24, .tmp 7]) mixed Tryd.func19 rfl (by kernel_rfl) (by kernel_rfl) (Nat.le_of_ble_eq_true rfl) rfl ?_
    repeat (first | (with_reducible refine pv_seq fun K hK => ?_) | (with_reducible refine pv_reg ?_; simp -implicitDefEqProofs only [cmpB]) | (fail) | ((with_reducible first | refine hK _ _ ?_ | (clear hK; refine hK _ _ ?_) | (clear hK; clear hK; refine hK _ _ ?_)); clear hK; try clear K) | (simp -implicitDefEqProofs only [hl0, true_and, go_sem, seval]) | (with_reducible intro b) | (with_reducible refine And.intro ?_ ?_; · first | assumption | omega | (unfold R64; omega)))
    refine call_is pP ?_
    repeat (first | (with_reducible refine pv_seq fun K hK => ?_) | (with_reducible refine pv_reg ?_; simp -implicitDefEqProofs only [cmpB]) | (fail) | ((with_reducible first | refine hK _ _ ?_ | (clear hK; refine hK _ _ ?_) | (clear hK; clear hK; refine hK _ _ ?_)); clear hK; try clear K) | (simp -implicitDefEqProofs only [hl0, true_and, go_sem, seval]) | (with_reducible intro b) | (with_reducible refine And.intro ?_ ?_; · first | assumption | omega | (unfold R64; omega)))
    by_cases g1 : 65536 < e
    · repeat (first | (with_reducible refine pv_seq fun K hK => ?_) | (with_reducible refine pv_reg ?_; simp -implicitDefEqProofs only [cmpB]) | (fail) | ((with_reducible first | refine hK _ _ ?_ | (clear hK; refine hK _ _ ?_) | (clear hK; clear hK; refine hK _ _ ?_)); clear hK; try clear K) | (simp -implicitDefEqProofs only [eq_true g1, true_and, go_sem, seval]) | (with_reducible intro b) | (with_reducible refine And.intro ?_ ?_; · first | assumption | omega | (unfold R64; omega)))
      rw [numR_over (hover (.inl g1))]; try rfl
    · by_cases g2 : e < -65536 - (tz (N64 w) : Int)
      · repeat (first | (with_reducible refine pv_seq fun K hK => ?_) | (with_reducible refine pv_reg ?_; simp -implicitDefEqProofs only [cmpB]) | (fail) | ((with_reducible first | refine hK _ _ ?_ | (clear hK; refine hK _ _ ?_) | (clear hK; clear hK; refine hK _ _ ?_)); clear hK; try clear K) | (simp -implicitDefEqProofs only [eq_false g1, eq_true g2, true_and, go_sem, seval]) | (with_reducible intro b) | (with_reducible refine And.intro ?_ ?_; · first | assumption | omega | (unfold R64; omega)))
        refine call_is pZ ?_
        repeat (first | (with_reducible refine pv_seq fun K hK => ?_) | (with_reducible refine pv_reg ?_; simp -implicitDefEqProofs only [cmpB]) | (fail) | ((with_reducible first | refine hK _ _ ?_ | (clear hK; refine hK _ _ ?_) | (clear hK; clear hK; refine hK _ _ ?_)); clear hK; try clear K) | (simp -implicitDefEqProofs only [eq_false g1, eq_true g2, true_and, go_sem, seval]) | (with_reducible intro b) | (with_reducible refine And.intro ?_ ?_; · first | assumption | omega | (unfold R64; omega)))
        rw [numR_over (hover (.inr g2))]; try rfl
      · repeat (first | (with_reducible refine pv_seq fun K hK => ?_) | (with_reducible refine pv_reg ?_; simp -implicitDefEqProofs only [cmpB]) | (fail) | ((with_reducible first | refine hK _ _ ?_ | (clear hK; refine hK _ _ ?_) | (clear hK; clear hK; refine hK _ _ ?_)); clear hK; try clear K) | (simp -implicitDefEqProofs only [eq_false g1, eq_false g2, true_and, go_sem, seval]) | (with_reducible intro b) | (with_reducible refine And.intro ?_ ?_; · first | assumption | omega | (unfold R64; omega)))
        refine call_is pZ ?_
        repeat (first | (with_reducible refine pv_seq fun K hK => ?_) | (with_reducible refine pv_reg ?_; simp -implicitDefEqProofs only [cmpB]) | (fail) | ((with_reducible first | refine hK _ _ ?_ | (clear hK; refine hK _ _ ?_) | (clear hK; clear hK; refine hK _ _ ?_)); clear hK; try clear K) | (simp -implicitDefEqProofs only [eq_false g1, eq_false g2, true_and, go_sem, seval]) | (with_reducible intro b) | (with_reducible refine And.intro ?_ ?_; · first | assumption | omega | (unfold R64; omega)))
        refine call_is (p_rOdd (neg := neg) (e := e) hn (by omega) (by omega) (by omega)) ?_
        repeat (first | (with_reducible refine pv_seq fun K hK => ?_) | (with_reducible refine pv_reg ?_; simp -implicitDefEqProofs only [cmpB]) | (fail) | ((with_reducible first | refine hK _ _ ?_ | (clear hK; refine hK _ _ ?_) | (clear hK; clear hK; refine hK _ _ ?_)); clear hK; try clear K) | (simp -implicitDefEqProofs only [eq_false g1, eq_false g2, true_and, go_sem, seval]) | (with_reducible intro b) | (with_reducible refine And.intro ?_ ?_; · first | assumption | omega | (unfold R64; omega)))
        refine call_is (p_rNum (k := 65536 + 64 * k + 64 * k) ?_ (by omega)) ?_
        · refine Bd.mono (Bd.of (k := 65536 + 64 * k) hn (by omega) (by omega)) (by omega)
        · repeat (first | (with_reducible refine pv_seq fun K hK => ?_) | (with_reducible refine pv_reg ?_; simp -implicitDefEqProofs only [cmpB]) | (fail) | ((with_reducible first | refine hK _ _ ?_ | (clear hK; refine hK _ _ ?_) | (clear hK; clear hK; refine hK _ _ ?_)); clear hK; try clear K) | (simp -implicitDefEqProofs only [eq_false g1, eq_false g2, true_and, go_sem, seval]) | (with_reducible intro b) | (with_reducible refine And.intro ?_ ?_; · first | assumption | omega | (unfold R64; omega)))

theorem p_rTurned {d : Dyadic} : PC Tryd.prog 85 [VA d] fun r => r = VA (-d) := by
  by_cases h0 : d = 0
  · subst h0
    rw [show -(0 : Dyadic) = 0 from rfl, VA_0]
    refine PC.body (args := [.agg [bl false, W32 [], i64 0]]) (rs := [.cell 2 36]) mixed Tryd.func85 rfl (by kernel_rfl) (by kernel_rfl) (Nat.le_of_ble_eq_true rfl) rfl ?_
    repeat (first | (with_reducible refine pv_seq fun K hK => ?_) | (with_reducible refine pv_reg ?_; simp -implicitDefEqProofs only [cmpB]) | (fail) | ((with_reducible first | refine hK _ _ ?_ | (clear hK; refine hK _ _ ?_) | (clear hK; clear hK; refine hK _ _ ?_)); clear hK; try clear K) | (simp -implicitDefEqProofs only [true_and, true_and, go_sem, seval]) | (with_reducible intro b) | (with_reducible refine And.intro ?_ ?_; · first | assumption | omega | (unfold R64; omega)))
  · have hl0 : (0 < (D32 (fN d)).length) = True := eq_true (by
      rcases Nat.eq_zero_or_pos (D32 (fN d)).length with h | h
      · rw [D32_l0] at h; exact absurd (fN_eq_zero.1 h) h0
      · exact h)
    obtain ⟨a, b, c⟩ := f_neg d h0
    unfold VA
    rw [a, b, c]
    refine PC.body (args := [.agg [bl (fS d), W32 (D32 (fN d)), i64 (fE d)]]) (rs := [.cell 2 36]) mixed Tryd.func85 rfl (by kernel_rfl) (by kernel_rfl) (Nat.le_of_ble_eq_true rfl) rfl ?_
    repeat (first | (with_reducible refine pv_seq fun K hK => ?_) | (with_reducible refine pv_reg ?_; simp -implicitDefEqProofs only [cmpB]) | (fail) | ((with_reducible first | refine hK _ _ ?_ | (clear hK; refine hK _ _ ?_) | (clear hK; clear hK; refine hK _ _ ?_)); clear hK; try clear K) | (simp -implicitDefEqProofs only [hl0, true_and, go_sem, seval]) | (with_reducible intro b) | (with_reducible refine And.intro ?_ ?_; · first | assumption | omega | (unfold R64; omega)))

theorem p_rSign {d : Dyadic} : PC Tryd.prog 25 [VA d] fun r => r = i64 (sgnD d) := by
  by_cases h0 : d = 0
  · subst h0
    rw [show sgnD 0 = 0 from by decide, VA_0]
    refine PC.body (args := [.agg [bl false, W32 [], i64 0]]) (rs := [.tmp 2]) mixed Tryd.func25 rfl (by kernel_rfl) (by kernel_rfl) (Nat.le_of_ble_eq_true rfl) rfl ?_
    repeat (first | (with_reducible refine pv_seq fun K hK => ?_) | (with_reducible refine pv_reg ?_; simp -implicitDefEqProofs only [cmpB]) | (fail) | ((with_reducible first | refine hK _ _ ?_ | (clear hK; refine hK _ _ ?_) | (clear hK; clear hK; refine hK _ _ ?_)); clear hK; try clear K) | (simp -implicitDefEqProofs only [true_and, true_and, go_sem, seval]) | (with_reducible intro b) | (with_reducible refine And.intro ?_ ?_; · first | assumption | omega | (unfold R64; omega)))
  · have hl0 : ((D32 (fN d)).length = 0) = False := eq_false (by rw [D32_l0]; exact mt fN_eq_zero.1 h0)
    have hs : sgnD d = if fS d then -1 else 1 := by
      conv => lhs; rw [← dy_f d]
      rw [sgnD_dy, if_neg (mt fN_eq_zero.1 h0)]
    rw [hs]
    unfold VA
    cases fS d
    · refine PC.body (args := [.agg [bl false, W32 (D32 (fN d)), i64 (fE d)]]) (rs := [.tmp 2]) mixed Tryd.func25 rfl (by kernel_rfl) (by kernel_rfl) (Nat.le_of_ble_eq_true rfl) rfl ?_
      repeat (first | (with_reducible refine pv_seq fun K hK => ?_) | (with_reducible refine pv_reg ?_; simp -implicitDefEqProofs only [cmpB]) | (fail) | ((with_reducible first | refine hK _ _ ?_ | (clear hK; refine hK _ _ ?_) | (clear hK; clear hK; refine hK _ _ ?_)); clear hK; try clear K) | (simp -implicitDefEqProofs only [hl0, true_and, go_sem, seval]) | (with_reducible intro b) | (with_reducible refine And.intro ?_ ?_; · first | assumption | omega | (unfold R64; omega)))
      try rfl
    · refine PC.body (args := [.agg [bl true, W32 (D32 (fN d)), i64 (fE d)]]) (rs := [.tmp 2]) mixed Tryd.func25 rfl (by kernel_rfl) (by kernel_rfl) (Nat.le_of_ble_eq_true rfl) rfl ?_
      repeat (first | (with_reducible refine pv_seq fun K hK => ?_) | (with_reducible refine pv_reg ?_; simp -implicitDefEqProofs only [cmpB]) | (fail) | ((with_reducible first | refine hK _ _ ?_ | (clear hK; refine hK _ _ ?_) | (clear hK; clear hK; refine hK _ _ ?_)); clear hK; try clear K) | (simp -implicitDefEqProofs only [hl0, true_and, go_sem, seval]) | (with_reducible intro b) | (with_reducible refine And.intro ?_ ?_; · first | assumption | omega | (unfold R64; omega)))
      try rfl

theorem p_rBy {k : Nat} {a b : Dyadic} (ha : Bd k a) (hb : Bd k b) (hk : k ≤ 268435456) : PC Tryd.prog 79 [VA a, VA b] fun r => r = VA (a * b) := by
  have la : (D32 (fN a)).length ≤ k := digs32_le ha.1
  have lb : (D32 (fN b)).length ≤ k := digs32_le hb.1
  have pM := p_rMul (D32_b (fN a)) (D32_b (fN b)) (by omega) (by omega)
  rw [N32_D32, N32_D32] at pM
  have a1 := ha.2.1; have a2 := ha.2.2; have b1 := hb.2.1; have b2 := hb.2.2
  by_cases h0 : a = 0
  · subst h0
    rw [Dyadic.zero_mul, VA_0]
    unfold VA
    refine PC.body (args := [.agg [bl false, W32 [], i64 0], .agg [bl (fS b), W32 (D32 (fN b)), i64 (fE b)]]) (rs := [.cell 4 36]) mixed Tryd.func79 rfl (by kernel_rfl) (by kernel_rfl) (Nat.le_of_ble_eq_true rfl) rfl ?_
    repeat (first | (with_reducible refine pv_seq fun K hK => ?_) | (with_reducible refine pv_reg ?_; simp -implicitDefEqProofs only [cmpB]) | (with_reducible refine pv_draw (id := 3) [(0, 0), (1, 2), (2, 0), (3, 2), (4, 0), (5, 0), (6, 1), (7, 0), (8, 1), (10, 0), (11, 2), (12, 0), (13, 2), (14, 0), (9, 4), (15, 0), (16, 3)] (by kernel_rfl) ?_; simp -implicitDefEqProofs only [cmpB]) | ((with_reducible first | refine hK _ _ ?_ | (clear hK; refine hK _ _ ?_) | (clear hK; clear hK; refine hK _ _ ?_)); clear hK; try clear K) | (simp -implicitDefEqProofs only [true_and, true_and, go_sem, seval]) | (with_reducible intro b) | (with_reducible refine And.intro ?_ ?_; · first | assumption | omega | (unfold R64; omega)))
    try rfl
  · have hl0 : ((D32 (fN a)).length = 0) = False := eq_false (by rw [D32_l0]; exact mt fN_eq_zero.1 h0)
    by_cases h1 : b = 0
    · subst h1
      rw [Dyadic.mul_zero, VA_0]
      unfold VA
      refine PC.body (args := [.agg [bl (fS a), W32 (D32 (fN a)), i64 (fE a)], .agg [bl false, W32 [], i64 0]]) (rs := [.cell 4 36]) mixed Tryd.func79 rfl (by kernel_rfl) (by kernel_rfl) (Nat.le_of_ble_eq_true rfl) rfl ?_
      repeat (first | (with_reducible refine pv_seq fun K hK => ?_) | (with_reducible refine pv_reg ?_; simp -implicitDefEqProofs only [cmpB]) | (with_reducible refine pv_draw (id := 3) [(0, 0), (1, 2), (2, 0), (3, 2), (4, 0), (5, 0), (6, 1), (7, 0), (8, 1), (10, 0), (11, 2), (12, 0), (13, 2), (14, 0), (9, 4), (15, 0), (16, 3)] (by kernel_rfl) ?_; simp -implicitDefEqProofs only [cmpB]) | ((with_reducible first | refine hK _ _ ?_ | (clear hK; refine hK _ _ ?_) | (clear hK; clear hK; refine hK _ _ ?_)); clear hK; try clear K) | (simp -implicitDefEqProofs only [hl0, true_and, go_sem, seval]) | (with_reducible intro b) | (with_reducible refine And.intro ?_ ?_; · first | assumption | omega | (unfold R64; omega)))
      try rfl
    · have hl1 : ((D32 (fN b)).length = 0) = False := eq_false (by rw [D32_l0]; exact mt fN_eq_zero.1 h1)
      obtain ⟨x, y, z⟩ := mul_odd h0 h1
      unfold VA
      rw [x, y, z]
      refine PC.body (args := [.agg [bl (fS a), W32 (D32 (fN a)), i64 (fE a)], .agg [bl (fS b), W32 (D32 (fN b)), i64 (fE b)]]) (rs := [.cell 4 36]) mixed Tryd.func79 rfl (by kernel_rfl) (by kernel_rfl) (Nat.le_of_ble_eq_true rfl) rfl ?_
      repeat (first | (with_reducible refine pv_seq fun K hK => ?_) | (with_reducible refine pv_reg ?_; simp -implicitDefEqProofs only [cmpB]) | (with_reducible refine pv_draw (id := 3) [(0, 0), (1, 2), (2, 0), (3, 2), (4, 0), (5, 0), (6, 1), (7, 0), (8, 1), (10, 0), (11, 2), (12, 0), (13, 2), (14, 0), (9, 4), (15, 0), (16, 3)] (by kernel_rfl) ?_; simp -implicitDefEqProofs only [cmpB]) | ((with_reducible first | refine hK _ _ ?_ | (clear hK; refine hK _ _ ?_) | (clear hK; clear hK; refine hK _ _ ?_)); clear hK; try clear K) | (simp -implicitDefEqProofs only [hl0, hl1, true_and, go_sem, seval]) | (with_reducible intro b) | (with_reducible refine And.intro ?_ ?_; · first | assumption | omega | (unfold R64; omega)))
      refine ExtC_is ?_
      simp -implicitDefEqProofs only [hl0, hl1, true_and, go_sem, seval]
      refine ext_is pM ?_
      repeat (first | (with_reducible refine pv_seq fun K hK => ?_) | (with_reducible refine pv_reg ?_; simp -implicitDefEqProofs only [cmpB]) | (with_reducible refine pv_draw (id := 3) [(0, 0), (1, 2), (2, 0), (3, 2), (4, 0), (5, 0), (6, 1), (7, 0), (8, 1), (10, 0), (11, 2), (12, 0), (13, 2), (14, 0), (9, 4), (15, 0), (16, 3)] (by kernel_rfl) ?_; simp -implicitDefEqProofs only [cmpB]) | ((with_reducible first | refine hK _ _ ?_ | (clear hK; refine hK _ _ ?_) | (clear hK; clear hK; refine hK _ _ ?_)); clear hK; try clear K) | (simp -implicitDefEqProofs only [hl0, hl1, true_and, go_sem, seval]) | (with_reducible intro b) | (with_reducible refine And.intro ?_ ?_; · first | assumption | omega | (unfold R64; omega)))

set_option maxHeartbeats 1000000 in
theorem p_rPlus {k : Nat} {a c : Dyadic} (ha : Bd k a) (hb : Bd k c) (hk : k ≤ 67108864) : PC Tryd.prog 78 [VA a, VA c] fun r => r = VA (a + c) := by
  have la : (D32 (fN a)).length ≤ k := digs32_le ha.1
  have lb : (D32 (fN c)).length ≤ k := digs32_le hb.1
  have a1 := ha.2.1; have a2 := ha.2.2; have b1 := hb.2.1; have b2 := hb.2.2
  by_cases h0 : a = 0
  · subst h0
    rw [Dyadic.zero_add, VA_0]
    unfold VA
    refine PC.body (args := [.agg [bl false, W32 [], i64 0], .agg [bl (fS c), W32 (D32 (fN c)), i64 (fE c)]]) (rs := [.cell 4 36]) mixed Tryd.func78 rfl (by kernel_rfl) (by kernel_rfl) (Nat.le_of_ble_eq_true rfl) rfl ?_
    repeat (first | (with_reducible refine pv_seq fun K hK => ?_) | (with_reducible refine pv_reg ?_; simp -implicitDefEqProofs only [cmpB]) | (with_reducible refine pv_draw (id := 6) [(0, 0), (1, 1), (2, 0), (3, 1), (4, 0), (5, 0), (7, 0), (8, 2), (9, 0), (10, 2), (11, 0), (12, 0), (6, 4), (13, 3), (14, 0), (15, 0)] (by kernel_rfl) ?_; simp -implicitDefEqProofs only [cmpB]) | (with_reducible refine pv_draw (id := 8) [(0, 0), (1, 2), (2, 0), (3, 0), (5, 0), (4, 4), (6, 3), (7, 3)] (by kernel_rfl) ?_; simp -implicitDefEqProofs only [cmpB]) | (with_reducible refine pv_draw (id := 11) [(0, 0), (1, 2), (2, 0), (3, 0), (5, 0), (4, 4), (6, 3), (7, 3)] (by kernel_rfl) ?_; simp -implicitDefEqProofs only [cmpB]) | (with_reducible refine pv_draw (id := 13) [(0, 0), (1, 2), (2, 0), (3, 0), (5, 0), (4, 4), (6, 3), (7, 3)] (by kernel_rfl) ?_; simp -implicitDefEqProofs only [cmpB]) | ((with_reducible first | refine hK _ _ ?_ | (clear hK; refine hK _ _ ?_) | (clear hK; clear hK; refine hK _ _ ?_)); clear hK; try clear K) | (simp -implicitDefEqProofs only [true_and, true_and, go_sem, seval]) | (with_reducible intro b) | (with_reducible refine And.intro ?_ ?_; · first | assumption | omega | (unfold R64; omega)))
    try rfl
  · have hl0 : ((D32 (fN a)).length = 0) = False := eq_false (by rw [D32_l0]; exact mt fN_eq_zero.1 h0)
    by_cases h1 : c = 0
    · subst h1
      rw [Dyadic.add_zero, VA_0]
      unfold VA
      refine PC.body (args := [.agg [bl (fS a), W32 (D32 (fN a)), i64 (fE a)], .agg [bl false, W32 [], i64 0]]) (rs := [.cell 4 36]) mixed Tryd.func78 rfl (by kernel_rfl) (by kernel_rfl) (Nat.le_of_ble_eq_true rfl) rfl ?_
      repeat (first | (with_reducible refine pv_seq fun K hK => ?_) | (with_reducible refine pv_reg ?_; simp -implicitDefEqProofs only [cmpB]) | (with_reducible refine pv_draw (id := 6) [(0, 0), (1, 1), (2, 0), (3, 1), (4, 0), (5, 0), (7, 0), (8, 2), (9, 0), (10, 2), (11, 0), (12, 0), (6, 4), (13, 3), (14, 0), (15, 0)] (by kernel_rfl) ?_; simp -implicitDefEqProofs only [cmpB]) | (with_reducible refine pv_draw (id := 8) [(0, 0), (1, 2), (2, 0), (3, 0), (5, 0), (4, 4), (6, 3), (7, 3)] (by kernel_rfl) ?_; simp -implicitDefEqProofs only [cmpB]) | (with_reducible refine pv_draw (id := 11) [(0, 0), (1, 2), (2, 0), (3, 0), (5, 0), (4, 4), (6, 3), (7, 3)] (by kernel_rfl) ?_; simp -implicitDefEqProofs only [cmpB]) | (with_reducible refine pv_draw (id := 13) [(0, 0), (1, 2), (2, 0), (3, 0), (5, 0), (4, 4), (6, 3), (7, 3)] (by kernel_rfl) ?_; simp -implicitDefEqProofs only [cmpB]) | ((with_reducible first | refine hK _ _ ?_ | (clear hK; refine hK _ _ ?_) | (clear hK; clear hK; refine hK _ _ ?_)); clear hK; try clear K) | (simp -implicitDefEqProofs only [hl0, true_and, go_sem, seval]) | (with_reducible intro b) | (with_reducible refine And.intro ?_ ?_; · first | assumption | omega | (unfold R64; omega)))
      try rfl
    · have hl1 : ((D32 (fN c)).length = 0) = False := eq_false (by rw [D32_l0]; exact mt fN_eq_zero.1 h1)
      obtain ⟨e, i, j, hm, hi, hj⟩ := low_e a c
      have e1 : -(k : Int) ≤ e := by rw [← hm]; split <;> assumption
      have e2 : e ≤ k := by rw [← hm]; split <;> assumption
      have i1 : i ≤ 2 * k := by omega
      have j1 : j ≤ 2 * k := by omega
      have x := up_lt2 ha.1 i1
      have y := up_lt2 hb.1 j1
      have hp : (2 : Nat) ^ (k + 2 * k) + 2 ^ (k + 2 * k) = 2 ^ (3 * k + 1) := by rw [show k + 2 * k = 3 * k by omega, Nat.pow_succ]; omega
      have lx : (D32 (fN a * 2 ^ i)).length ≤ k + 2 * k := digs32_le x
      have ly : (D32 (fN c * 2 ^ j)).length ≤ k + 2 * k := digs32_le y
      have ea := up_f hi
      have eb := up_f hj
      have pA := p_rLeft (n := i) (D32_b (fN a)) (by omega) (by omega)
      have pB := p_rLeft (n := j) (D32_b (fN c)) (by omega) (by omega)
      rw [N32_D32] at pA pB
      generalize hX : fN a * 2 ^ i = X at *
      generalize hY : fN c * 2 ^ j = Y at *
      have hab : a + c = dy (fS a) X e + dy (fS c) Y e := by rw [← ea, ← eb]
      unfold VA
      refine PC.body (args := [.agg [bl (fS a), W32 (D32 (fN a)), i64 (fE a)], .agg [bl (fS c), W32 (D32 (fN c)), i64 (fE c)]]) (rs := [.cell 4 36]) mixed Tryd.func78 rfl (by kernel_rfl) (by kernel_rfl) (Nat.le_of_ble_eq_true rfl) rfl ?_
      repeat (first | (with_reducible refine pv_seq fun K hK => ?_) | (with_reducible refine pv_reg ?_; simp -implicitDefEqProofs only [cmpB]) | (with_reducible refine pv_draw (id := 6) [(0, 0), (1, 1), (2, 0), (3, 1), (4, 0), (5, 0), (7, 0), (8, 2), (9, 0), (10, 2), (11, 0), (12, 0), (6, 4), (13, 3), (14, 0), (15, 0)] (by kernel_rfl) ?_; simp -implicitDefEqProofs only [cmpB]) | (with_reducible refine pv_draw (id := 8) [(0, 0), (1, 2), (2, 0), (3, 0), (5, 0), (4, 4), (6, 3), (7, 3)] (by kernel_rfl) ?_; simp -implicitDefEqProofs only [cmpB]) | (with_reducible refine pv_draw (id := 11) [(0, 0), (1, 2), (2, 0), (3, 0), (5, 0), (4, 4), (6, 3), (7, 3)] (by kernel_rfl) ?_; simp -implicitDefEqProofs only [cmpB]) | (with_reducible refine pv_draw (id := 13) [(0, 0), (1, 2), (2, 0), (3, 0), (5, 0), (4, 4), (6, 3), (7, 3)] (by kernel_rfl) ?_; simp -implicitDefEqProofs only [cmpB]) | ((with_reducible first | refine hK _ _ ?_ | (clear hK; refine hK _ _ ?_) | (clear hK; clear hK; refine hK _ _ ?_)); clear hK; try clear K) | (simp -implicitDefEqProofs only [hl0, hl1, hm, hi, hj, true_and, go_sem, seval]) | (with_reducible intro b) | (with_reducible refine And.intro ?_ ?_; · first | assumption | omega | (unfold R64; omega)))
      refine ExtC_is ?_
      simp -implicitDefEqProofs only [hl0, hl1, hm, hi, hj, true_and, go_sem, seval]
      refine ext_is pA ?_
      repeat (first | (with_reducible refine pv_seq fun K hK => ?_) | (with_reducible refine pv_reg ?_; simp -implicitDefEqProofs only [cmpB]) | (with_reducible refine pv_draw (id := 6) [(0, 0), (1, 1), (2, 0), (3, 1), (4, 0), (5, 0), (7, 0), (8, 2), (9, 0), (10, 2), (11, 0), (12, 0), (6, 4), (13, 3), (14, 0), (15, 0)] (by kernel_rfl) ?_; simp -implicitDefEqProofs only [cmpB]) | (with_reducible refine pv_draw (id := 8) [(0, 0), (1, 2), (2, 0), (3, 0), (5, 0), (4, 4), (6, 3), (7, 3)] (by kernel_rfl) ?_; simp -implicitDefEqProofs only [cmpB]) | (with_reducible refine pv_draw (id := 11) [(0, 0), (1, 2), (2, 0), (3, 0), (5, 0), (4, 4), (6, 3), (7, 3)] (by kernel_rfl) ?_; simp -implicitDefEqProofs only [cmpB]) | (with_reducible refine pv_draw (id := 13) [(0, 0), (1, 2), (2, 0), (3, 0), (5, 0), (4, 4), (6, 3), (7, 3)] (by kernel_rfl) ?_; simp -implicitDefEqProofs only [cmpB]) | ((with_reducible first | refine hK _ _ ?_ | (clear hK; refine hK _ _ ?_) | (clear hK; clear hK; refine hK _ _ ?_)); clear hK; try clear K) | (simp -implicitDefEqProofs only [hl0, hl1, hm, hi, hj, true_and, go_sem, seval]) | (with_reducible intro b) | (with_reducible refine And.intro ?_ ?_; · first | assumption | omega | (unfold R64; omega)))
      refine call_is pB ?_
      repeat (first | (with_reducible refine pv_seq fun K hK => ?_) | (with_reducible refine pv_reg ?_; simp -implicitDefEqProofs only [cmpB]) | (with_reducible refine pv_draw (id := 6) [(0, 0), (1, 1), (2, 0), (3, 1), (4, 0), (5, 0), (7, 0), (8, 2), (9, 0), (10, 2), (11, 0), (12, 0), (6, 4), (13, 3), (14, 0), (15, 0)] (by kernel_rfl) ?_; simp -implicitDefEqProofs only [cmpB]) | (with_reducible refine pv_draw (id := 8) [(0, 0), (1, 2), (2, 0), (3, 0), (5, 0), (4, 4), (6, 3), (7, 3)] (by kernel_rfl) ?_; simp -implicitDefEqProofs only [cmpB]) | (with_reducible refine pv_draw (id := 11) [(0, 0), (1, 2), (2, 0), (3, 0), (5, 0), (4, 4), (6, 3), (7, 3)] (by kernel_rfl) ?_; simp -implicitDefEqProofs only [cmpB]) | (with_reducible refine pv_draw (id := 13) [(0, 0), (1, 2), (2, 0), (3, 0), (5, 0), (4, 4), (6, 3), (7, 3)] (by kernel_rfl) ?_; simp -implicitDefEqProofs only [cmpB]) | ((with_reducible first | refine hK _ _ ?_ | (clear hK; refine hK _ _ ?_) | (clear hK; clear hK; refine hK _ _ ?_)); clear hK; try clear K) | (simp -implicitDefEqProofs only [hl0, hl1, hm, hi, hj, true_and, go_sem, seval]) | (with_reducible intro b) | (with_reducible refine And.intro ?_ ?_; · first | assumption | omega | (unfold R64; omega)))
      by_cases hs : fS a = fS c
      · rw [← hs, dy_add] at hab
        have pS := p_rAdd (D32_b X) (D32_b Y) (by omega) (by omega)
        rw [N32_D32, N32_D32] at pS
        have hbq : (fS a == fS c) = true := by rw [hs]; exact beq_self_eq_true _
        repeat (first | (with_reducible refine pv_seq fun K hK => ?_) | (with_reducible refine pv_reg ?_; simp -implicitDefEqProofs only [cmpB]) | (with_reducible refine pv_draw (id := 6) [(0, 0), (1, 1), (2, 0), (3, 1), (4, 0), (5, 0), (7, 0), (8, 2), (9, 0), (10, 2), (11, 0), (12, 0), (6, 4), (13, 3), (14, 0), (15, 0)] (by kernel_rfl) ?_; simp -implicitDefEqProofs only [cmpB]) | (with_reducible refine pv_draw (id := 8) [(0, 0), (1, 2), (2, 0), (3, 0), (5, 0), (4, 4), (6, 3), (7, 3)] (by kernel_rfl) ?_; simp -implicitDefEqProofs only [cmpB]) | (with_reducible refine pv_draw (id := 11) [(0, 0), (1, 2), (2, 0), (3, 0), (5, 0), (4, 4), (6, 3), (7, 3)] (by kernel_rfl) ?_; simp -implicitDefEqProofs only [cmpB]) | (with_reducible refine pv_draw (id := 13) [(0, 0), (1, 2), (2, 0), (3, 0), (5, 0), (4, 4), (6, 3), (7, 3)] (by kernel_rfl) ?_; simp -implicitDefEqProofs only [cmpB]) | ((with_reducible first | refine hK _ _ ?_ | (clear hK; refine hK _ _ ?_) | (clear hK; clear hK; refine hK _ _ ?_)); clear hK; try clear K) | (simp -implicitDefEqProofs only [hbq, true_and, go_sem, seval]) | (with_reducible intro b) | (with_reducible refine And.intro ?_ ?_; · first | assumption | omega | (unfold R64; omega)))
        refine ExtC_is ?_
        simp -implicitDefEqProofs only [hbq, true_and, go_sem, seval]
        refine ext_is pS ?_
        repeat (first | (with_reducible refine pv_seq fun K hK => ?_) | (with_reducible refine pv_reg ?_; simp -implicitDefEqProofs only [cmpB]) | (with_reducible refine pv_draw (id := 6) [(0, 0), (1, 1), (2, 0), (3, 1), (4, 0), (5, 0), (7, 0), (8, 2), (9, 0), (10, 2), (11, 0), (12, 0), (6, 4), (13, 3), (14, 0), (15, 0)] (by kernel_rfl) ?_; simp -implicitDefEqProofs only [cmpB]) | (with_reducible refine pv_draw (id := 8) [(0, 0), (1, 2), (2, 0), (3, 0), (5, 0), (4, 4), (6, 3), (7, 3)] (by kernel_rfl) ?_; simp -implicitDefEqProofs only [cmpB]) | (with_reducible refine pv_draw (id := 11) [(0, 0), (1, 2), (2, 0), (3, 0), (5, 0), (4, 4), (6, 3), (7, 3)] (by kernel_rfl) ?_; simp -implicitDefEqProofs only [cmpB]) | (with_reducible refine pv_draw (id := 13) [(0, 0), (1, 2), (2, 0), (3, 0), (5, 0), (4, 4), (6, 3), (7, 3)] (by kernel_rfl) ?_; simp -implicitDefEqProofs only [cmpB]) | ((with_reducible first | refine hK _ _ ?_ | (clear hK; refine hK _ _ ?_) | (clear hK; clear hK; refine hK _ _ ?_)); clear hK; try clear K) | (simp -implicitDefEqProofs only [hbq, true_and, go_sem, seval]) | (with_reducible intro b) | (with_reducible refine And.intro ?_ ?_; · first | assumption | omega | (unfold R64; omega)))
        refine call_is (p_rOdd (neg := fS a) (n := X + Y) (e := e) (k := 3 * k + 1) (by omega) (by omega) (by omega) (by omega)) ?_
        rw [← hab]
        repeat (first | (with_reducible refine pv_seq fun K hK => ?_) | (with_reducible refine pv_reg ?_; simp -implicitDefEqProofs only [cmpB]) | (with_reducible refine pv_draw (id := 6) [(0, 0), (1, 1), (2, 0), (3, 1), (4, 0), (5, 0), (7, 0), (8, 2), (9, 0), (10, 2), (11, 0), (12, 0), (6, 4), (13, 3), (14, 0), (15, 0)] (by kernel_rfl) ?_; simp -implicitDefEqProofs only [cmpB]) | (with_reducible refine pv_draw (id := 8) [(0, 0), (1, 2), (2, 0), (3, 0), (5, 0), (4, 4), (6, 3), (7, 3)] (by kernel_rfl) ?_; simp -implicitDefEqProofs only [cmpB]) | (with_reducible refine pv_draw (id := 11) [(0, 0), (1, 2), (2, 0), (3, 0), (5, 0), (4, 4), (6, 3), (7, 3)] (by kernel_rfl) ?_; simp -implicitDefEqProofs only [cmpB]) | (with_reducible refine pv_draw (id := 13) [(0, 0), (1, 2), (2, 0), (3, 0), (5, 0), (4, 4), (6, 3), (7, 3)] (by kernel_rfl) ?_; simp -implicitDefEqProofs only [cmpB]) | ((with_reducible first | refine hK _ _ ?_ | (clear hK; refine hK _ _ ?_) | (clear hK; clear hK; refine hK _ _ ?_)); clear hK; try clear K) | (simp -implicitDefEqProofs only [hbq, true_and, go_sem, seval]) | (with_reducible intro b) | (with_reducible refine And.intro ?_ ?_; · first | assumption | omega | (unfold R64; omega)))
      · have hbq : (fS a == fS c) = false := by
          generalize fS a = p at *
          generalize fS c = q at *
          cases p <;> cases q <;> simp at hs ⊢
        have pC := p_rCmp (m := X) (n := Y) (by omega) (by omega)
        repeat (first | (with_reducible refine pv_seq fun K hK => ?_) | (with_reducible refine pv_reg ?_; simp -implicitDefEqProofs only [cmpB]) | (with_reducible refine pv_draw (id := 6) [(0, 0), (1, 1), (2, 0), (3, 1), (4, 0), (5, 0), (7, 0), (8, 2), (9, 0), (10, 2), (11, 0), (12, 0), (6, 4), (13, 3), (14, 0), (15, 0)] (by kernel_rfl) ?_; simp -implicitDefEqProofs only [cmpB]) | (with_reducible refine pv_draw (id := 8) [(0, 0), (1, 2), (2, 0), (3, 0), (5, 0), (4, 4), (6, 3), (7, 3)] (by kernel_rfl) ?_; simp -implicitDefEqProofs only [cmpB]) | (with_reducible refine pv_draw (id := 11) [(0, 0), (1, 2), (2, 0), (3, 0), (5, 0), (4, 4), (6, 3), (7, 3)] (by kernel_rfl) ?_; simp -implicitDefEqProofs only [cmpB]) | (with_reducible refine pv_draw (id := 13) [(0, 0), (1, 2), (2, 0), (3, 0), (5, 0), (4, 4), (6, 3), (7, 3)] (by kernel_rfl) ?_; simp -implicitDefEqProofs only [cmpB]) | ((with_reducible first | refine hK _ _ ?_ | (clear hK; refine hK _ _ ?_) | (clear hK; clear hK; refine hK _ _ ?_)); clear hK; try clear K) | (simp -implicitDefEqProofs only [hbq, true_and, go_sem, seval]) | (with_reducible intro b) | (with_reducible refine And.intro ?_ ?_; · first | assumption | omega | (unfold R64; omega)))
        refine call_is pC ?_
        rcases Nat.lt_trichotomy X Y with h | h | h
        · have hc : cmpI (X : Int) (Y : Int) = -1 := by unfold cmpI; rw [if_pos (by omega)]
          rw [hc]
          rw [Dyadic.add_comm (dy (fS a) X e), dy_sub (Ne.symm hs) (by omega)] at hab
          have pS := p_rSub (D32_b Y) (D32_b X) (by omega) (by rw [N32_D32, N32_D32]; omega)
          rw [N32_D32, N32_D32] at pS
          repeat (first | (with_reducible refine pv_seq fun K hK => ?_) | (with_reducible refine pv_reg ?_; simp -implicitDefEqProofs only [cmpB]) | (with_reducible refine pv_draw (id := 6) [(0, 0), (1, 1), (2, 0), (3, 1), (4, 0), (5, 0), (7, 0), (8, 2), (9, 0), (10, 2), (11, 0), (12, 0), (6, 4), (13, 3), (14, 0), (15, 0)] (by kernel_rfl) ?_; simp -implicitDefEqProofs only [cmpB]) | (with_reducible refine pv_draw (id := 8) [(0, 0), (1, 2), (2, 0), (3, 0), (5, 0), (4, 4), (6, 3), (7, 3)] (by kernel_rfl) ?_; simp -implicitDefEqProofs only [cmpB]) | (with_reducible refine pv_draw (id := 11) [(0, 0), (1, 2), (2, 0), (3, 0), (5, 0), (4, 4), (6, 3), (7, 3)] (by kernel_rfl) ?_; simp -implicitDefEqProofs only [cmpB]) | (with_reducible refine pv_draw (id := 13) [(0, 0), (1, 2), (2, 0), (3, 0), (5, 0), (4, 4), (6, 3), (7, 3)] (by kernel_rfl) ?_; simp -implicitDefEqProofs only [cmpB]) | ((with_reducible first | refine hK _ _ ?_ | (clear hK; refine hK _ _ ?_) | (clear hK; clear hK; refine hK _ _ ?_)); clear hK; try clear K) | (simp -implicitDefEqProofs only [true_and, true_and, go_sem, seval]) | (with_reducible intro b) | (with_reducible refine And.intro ?_ ?_; · first | assumption | omega | (unfold R64; omega)))
          refine ExtC_is ?_
          simp -implicitDefEqProofs only [true_and, true_and, go_sem, seval]
          refine ext_is pS ?_
          repeat (first | (with_reducible refine pv_seq fun K hK => ?_) | (with_reducible refine pv_reg ?_; simp -implicitDefEqProofs only [cmpB]) | (with_reducible refine pv_draw (id := 6) [(0, 0), (1, 1), (2, 0), (3, 1), (4, 0), (5, 0), (7, 0), (8, 2), (9, 0), (10, 2), (11, 0), (12, 0), (6, 4), (13, 3), (14, 0), (15, 0)] (by kernel_rfl) ?_; simp -implicitDefEqProofs only [cmpB]) | (with_reducible refine pv_draw (id := 8) [(0, 0), (1, 2), (2, 0), (3, 0), (5, 0), (4, 4), (6, 3), (7, 3)] (by kernel_rfl) ?_; simp -implicitDefEqProofs only [cmpB]) | (with_reducible refine pv_draw (id := 11) [(0, 0), (1, 2), (2, 0), (3, 0), (5, 0), (4, 4), (6, 3), (7, 3)] (by kernel_rfl) ?_; simp -implicitDefEqProofs only [cmpB]) | (with_reducible refine pv_draw (id := 13) [(0, 0), (1, 2), (2, 0), (3, 0), (5, 0), (4, 4), (6, 3), (7, 3)] (by kernel_rfl) ?_; simp -implicitDefEqProofs only [cmpB]) | ((with_reducible first | refine hK _ _ ?_ | (clear hK; refine hK _ _ ?_) | (clear hK; clear hK; refine hK _ _ ?_)); clear hK; try clear K) | (simp -implicitDefEqProofs only [true_and, true_and, go_sem, seval]) | (with_reducible intro b) | (with_reducible refine And.intro ?_ ?_; · first | assumption | omega | (unfold R64; omega)))
          refine call_is (p_rOdd (neg := fS c) (n := Y - X) (e := e) (k := 3 * k + 1) (by omega) (by omega) (by omega) (by omega)) ?_
          rw [← hab]
          repeat (first | (with_reducible refine pv_seq fun K hK => ?_) | (with_reducible refine pv_reg ?_; simp -implicitDefEqProofs only [cmpB]) | (with_reducible refine pv_draw (id := 6) [(0, 0), (1, 1), (2, 0), (3, 1), (4, 0), (5, 0), (7, 0), (8, 2), (9, 0), (10, 2), (11, 0), (12, 0), (6, 4), (13, 3), (14, 0), (15, 0)] (by kernel_rfl) ?_; simp -implicitDefEqProofs only [cmpB]) | (with_reducible refine pv_draw (id := 8) [(0, 0), (1, 2), (2, 0), (3, 0), (5, 0), (4, 4), (6, 3), (7, 3)] (by kernel_rfl) ?_; simp -implicitDefEqProofs only [cmpB]) | (with_reducible refine pv_draw (id := 11) [(0, 0), (1, 2), (2, 0), (3, 0), (5, 0), (4, 4), (6, 3), (7, 3)] (by kernel_rfl) ?_; simp -implicitDefEqProofs only [cmpB]) | (with_reducible refine pv_draw (id := 13) [(0, 0), (1, 2), (2, 0), (3, 0), (5, 0), (4, 4), (6, 3), (7, 3)] (by kernel_rfl) ?_; simp -implicitDefEqProofs only [cmpB]) | ((with_reducible first | refine hK _ _ ?_ | (clear hK; refine hK _ _ ?_) | (clear hK; clear hK; refine hK _ _ ?_)); clear hK; try clear K) | (simp -implicitDefEqProofs only [true_and, true_and, go_sem, seval]) | (with_reducible intro b) | (with_reducible refine And.intro ?_ ?_; · first | assumption | omega | (unfold R64; omega)))
        · have hc : cmpI (X : Int) (Y : Int) = 0 := by unfold cmpI; rw [if_neg (by omega), if_neg (by omega)]
          rw [hc]
          rw [dy_sub hs (by omega), h, Nat.sub_self, dy_zero.2 rfl] at hab
          repeat (first | (with_reducible refine pv_seq fun K hK => ?_) | (with_reducible refine pv_reg ?_; simp -implicitDefEqProofs only [cmpB]) | (with_reducible refine pv_draw (id := 6) [(0, 0), (1, 1), (2, 0), (3, 1), (4, 0), (5, 0), (7, 0), (8, 2), (9, 0), (10, 2), (11, 0), (12, 0), (6, 4), (13, 3), (14, 0), (15, 0)] (by kernel_rfl) ?_; simp -implicitDefEqProofs only [cmpB]) | (with_reducible refine pv_draw (id := 8) [(0, 0), (1, 2), (2, 0), (3, 0), (5, 0), (4, 4), (6, 3), (7, 3)] (by kernel_rfl) ?_; simp -implicitDefEqProofs only [cmpB]) | (with_reducible refine pv_draw (id := 11) [(0, 0), (1, 2), (2, 0), (3, 0), (5, 0), (4, 4), (6, 3), (7, 3)] (by kernel_rfl) ?_; simp -implicitDefEqProofs only [cmpB]) | (with_reducible refine pv_draw (id := 13) [(0, 0), (1, 2), (2, 0), (3, 0), (5, 0), (4, 4), (6, 3), (7, 3)] (by kernel_rfl) ?_; simp -implicitDefEqProofs only [cmpB]) | ((with_reducible first | refine hK _ _ ?_ | (clear hK; refine hK _ _ ?_) | (clear hK; clear hK; refine hK _ _ ?_)); clear hK; try clear K) | (simp -implicitDefEqProofs only [true_and, true_and, go_sem, seval]) | (with_reducible intro b) | (with_reducible refine And.intro ?_ ?_; · first | assumption | omega | (unfold R64; omega)))
          rw [hab]; exact VA_0.symm
        · have hc : cmpI (X : Int) (Y : Int) = 1 := by unfold cmpI; rw [if_neg (by omega), if_pos (by omega)]
          rw [hc]
          rw [dy_sub hs (by omega)] at hab
          have pS := p_rSub (D32_b X) (D32_b Y) (by omega) (by rw [N32_D32, N32_D32]; omega)
          rw [N32_D32, N32_D32] at pS
          repeat (first | (with_reducible refine pv_seq fun K hK => ?_) | (with_reducible refine pv_reg ?_; simp -implicitDefEqProofs only [cmpB]) | (with_reducible refine pv_draw (id := 6) [(0, 0), (1, 1), (2, 0), (3, 1), (4, 0), (5, 0), (7, 0), (8, 2), (9, 0), (10, 2), (11, 0), (12, 0), (6, 4), (13, 3), (14, 0), (15, 0)] (by kernel_rfl) ?_; simp -implicitDefEqProofs only [cmpB]) | (with_reducible refine pv_draw (id := 8) [(0, 0), (1, 2), (2, 0), (3, 0), (5, 0), (4, 4), (6, 3), (7, 3)] (by kernel_rfl) ?_; simp -implicitDefEqProofs only [cmpB]) | (with_reducible refine pv_draw (id := 11) [(0, 0), (1, 2), (2, 0), (3, 0), (5, 0), (4, 4), (6, 3), (7, 3)] (by kernel_rfl) ?_; simp -implicitDefEqProofs only [cmpB]) | (with_reducible refine pv_draw (id := 13) [(0, 0), (1, 2), (2, 0), (3, 0), (5, 0), (4, 4), (6, 3), (7, 3)] (by kernel_rfl) ?_; simp -implicitDefEqProofs only [cmpB]) | ((with_reducible first | refine hK _ _ ?_ | (clear hK; refine hK _ _ ?_) | (clear hK; clear hK; refine hK _ _ ?_)); clear hK; try clear K) | (simp -implicitDefEqProofs only [true_and, true_and, go_sem, seval]) | (with_reducible intro b) | (with_reducible refine And.intro ?_ ?_; · first | assumption | omega | (unfold R64; omega)))
          refine ExtC_is ?_
          simp -implicitDefEqProofs only [true_and, true_and, go_sem, seval]
          refine ext_is pS ?_
          repeat (first | (with_reducible refine pv_seq fun K hK => ?_) | (with_reducible refine pv_reg ?_; simp -implicitDefEqProofs only [cmpB]) | (with_reducible refine pv_draw (id := 6) [(0, 0), (1, 1), (2, 0), (3, 1), (4, 0), (5, 0), (7, 0), (8, 2), (9, 0), (10, 2), (11, 0), (12, 0), (6, 4), (13, 3), (14, 0), (15, 0)] (by kernel_rfl) ?_; simp -implicitDefEqProofs only [cmpB]) | (with_reducible refine pv_draw (id := 8) [(0, 0), (1, 2), (2, 0), (3, 0), (5, 0), (4, 4), (6, 3), (7, 3)] (by kernel_rfl) ?_; simp -implicitDefEqProofs only [cmpB]) | (with_reducible refine pv_draw (id := 11) [(0, 0), (1, 2), (2, 0), (3, 0), (5, 0), (4, 4), (6, 3), (7, 3)] (by kernel_rfl) ?_; simp -implicitDefEqProofs only [cmpB]) | (with_reducible refine pv_draw (id := 13) [(0, 0), (1, 2), (2, 0), (3, 0), (5, 0), (4, 4), (6, 3), (7, 3)] (by kernel_rfl) ?_; simp -implicitDefEqProofs only [cmpB]) | ((with_reducible first | refine hK _ _ ?_ | (clear hK; refine hK _ _ ?_) | (clear hK; clear hK; refine hK _ _ ?_)); clear hK; try clear K) | (simp -implicitDefEqProofs only [true_and, true_and, go_sem, seval]) | (with_reducible intro b) | (with_reducible refine And.intro ?_ ?_; · first | assumption | omega | (unfold R64; omega)))
          refine call_is (p_rOdd (neg := fS a) (n := X - Y) (e := e) (k := 3 * k + 1) (by omega) (by omega) (by omega) (by omega)) ?_
          rw [← hab]
          repeat (first | (with_reducible refine pv_seq fun K hK => ?_) | (with_reducible refine pv_reg ?_; simp -implicitDefEqProofs only [cmpB]) | (with_reducible refine pv_draw (id := 6) [(0, 0), (1, 1), (2, 0), (3, 1), (4, 0), (5, 0), (7, 0), (8, 2), (9, 0), (10, 2), (11, 0), (12, 0), (6, 4), (13, 3), (14, 0), (15, 0)] (by kernel_rfl) ?_; simp -implicitDefEqProofs only [cmpB]) | (with_reducible refine pv_draw (id := 8) [(0, 0), (1, 2), (2, 0), (3, 0), (5, 0), (4, 4), (6, 3), (7, 3)] (by kernel_rfl) ?_; simp -implicitDefEqProofs only [cmpB]) | (with_reducible refine pv_draw (id := 11) [(0, 0), (1, 2), (2, 0), (3, 0), (5, 0), (4, 4), (6, 3), (7, 3)] (by kernel_rfl) ?_; simp -implicitDefEqProofs only [cmpB]) | (with_reducible refine pv_draw (id := 13) [(0, 0), (1, 2), (2, 0), (3, 0), (5, 0), (4, 4), (6, 3), (7, 3)] (by kernel_rfl) ?_; simp -implicitDefEqProofs only [cmpB]) | ((with_reducible first | refine hK _ _ ?_ | (clear hK; refine hK _ _ ?_) | (clear hK; clear hK; refine hK _ _ ?_)); clear hK; try clear K) | (simp -implicitDefEqProofs only [true_and, true_and, go_sem, seval]) | (with_reducible intro b) | (with_reducible refine And.intro ?_ ?_; · first | assumption | omega | (unfold R64; omega)))

end Go.V

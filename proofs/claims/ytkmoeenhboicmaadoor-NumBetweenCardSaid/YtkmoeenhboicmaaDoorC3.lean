/- Numbers over values as data: package num. -/
import Derived.Test.YtkmoeenhboicmaaDoorC2
set_option linter.unusedSimpArgs false
set_option linter.unusedVariables false
set_option maxRecDepth 100000
namespace Go.V
open Go Go.RowKit Go.Proofs

theorem numR_dy0 {neg : Bool} {e : Int} : numR (dy neg 0 e) = (nu0, 0) := by rw [dy_zero.2 rfl, numR_zero]

theorem p_nMake {neg : Bool} {w : List Nat} {e : Int} (hb : B64 w) (hl : w.length ≤ 1073741824) (he : R64 e) : PC Tryd.prog 18 [bl neg, W64 w, i64 e] fun d => d = NE (numR (dy neg (N64 w) e)) := by
  refine PC.body (args := [bl neg, W64 w, i64 e]) (rs := [.cell 6 24, .tmp 7]) mixed Tryd.func18 rfl (by kernel_rfl) (by kernel_rfl) (Nat.le_of_ble_eq_true rfl) rfl ?_
  repeat (first | (with_reducible refine pv_seq fun K hK => ?_) | (with_reducible refine pv_reg ?_; simp -implicitDefEqProofs only [cmpB]) | (fail) | ((with_reducible first | refine hK _ _ ?_ | (clear hK; refine hK _ _ ?_) | (clear hK; clear hK; refine hK _ _ ?_)); clear hK; try clear K) | (simp -implicitDefEqProofs only [true_and, true_and, go_sem, seval]) | (with_reducible intro b) | (with_reducible refine And.intro ?_ ?_; · first | assumption | omega | (unfold R64; omega)))
  refine call_is (p_Bits hb (by omega)) ?_
  repeat (first | (with_reducible refine pv_seq fun K hK => ?_) | (with_reducible refine pv_reg ?_; simp -implicitDefEqProofs only [cmpB]) | (fail) | ((with_reducible first | refine hK _ _ ?_ | (clear hK; refine hK _ _ ?_) | (clear hK; clear hK; refine hK _ _ ?_)); clear hK; try clear K) | (simp -implicitDefEqProofs only [true_and, true_and, go_sem, seval]) | (with_reducible intro b) | (with_reducible refine And.intro ?_ ?_; · first | assumption | omega | (unfold R64; omega)))
  refine pv_cdD (fun h1 => ?_) (fun h1 => ?_)
  · have h0 : N64 w = 0 := by
      rcases Nat.eq_zero_or_pos (N64 w) with h0 | h0
      · exact h0
      · have := bitLen_pos (n := N64 w) (by omega); omega
    repeat (first | (with_reducible refine pv_seq fun K hK => ?_) | (with_reducible refine pv_reg ?_; simp -implicitDefEqProofs only [cmpB]) | (fail) | ((with_reducible first | refine hK _ _ ?_ | (clear hK; refine hK _ _ ?_) | (clear hK; clear hK; refine hK _ _ ?_)); clear hK; try clear K) | (simp -implicitDefEqProofs only [true_and, true_and, go_sem, seval]) | (with_reducible intro b) | (with_reducible refine And.intro ?_ ?_; · first | assumption | omega | (unfold R64; omega)))
    rw [h0, numR_dy0]; try rfl
  · have h0 : N64 w ≠ 0 := fun h0 => h1 (by rw [h0]; rfl)
    obtain ⟨f1, f2, f3⟩ := f_of (neg := neg) (e := e) h0
    have hnu := nuOf_dy (neg := neg) (e := e) h0
    have htz := tz_words hb hl h0
    have pR := p_nRight (x := ⟨neg, e + tz (N64 w), D64 (N64 w / 2 ^ tz (N64 w))⟩) (digs_lt (by decide) _)
    rw [← hnu, rightB_nuOf, hnu] at pR
    have hover : 65536 < e ∨ e < -65536 - (tz (N64 w) : Int) → ¬ OkD (dy neg (N64 w) e) := by
      intro h hk
      have h2 : (nuOf (dy neg (N64 w) e)).exp ≤ 65536 := hk.hi
      have h3 : -65536 ≤ (nuOf (dy neg (N64 w) e)).exp := hk.lo
      rw [hnu] at h2 h3
      simp only at h2 h3
      omega
    generalize hd : dy neg (N64 w) e = d at *
    generalize ht : tz (N64 w) = t at *
    unfold R64 at he
    repeat (first | (with_reducible refine pv_seq fun K hK => ?_) | (with_reducible refine pv_reg ?_; simp -implicitDefEqProofs only [cmpB]) | (fail) | ((with_reducible first | refine hK _ _ ?_ | (clear hK; refine hK _ _ ?_) | (clear hK; clear hK; refine hK _ _ ?_)); clear hK; try clear K) | (simp -implicitDefEqProofs only [true_and, true_and, go_sem, seval]) | (with_reducible intro b) | (with_reducible refine And.intro ?_ ?_; · first | assumption | omega | (unfold R64; omega)))
    refine call_is (p_Zeros hb (by omega)) ?_
    rw [ht]
    repeat (first | (with_reducible refine pv_seq fun K hK => ?_) | (with_reducible refine pv_reg ?_; simp -implicitDefEqProofs only [cmpB]) | (fail) | ((with_reducible first | refine hK _ _ ?_ | (clear hK; refine hK _ _ ?_) | (clear hK; clear hK; refine hK _ _ ?_)); clear hK; try clear K) | (simp -implicitDefEqProofs only [true_and, true_and, go_sem, seval]) | (with_reducible intro b) | (with_reducible refine And.intro ?_ ?_; · first | assumption | omega | (unfold R64; omega)))
    by_cases g1 : 65536 < e
    · repeat (first | (with_reducible refine pv_seq fun K hK => ?_) | (with_reducible refine pv_reg ?_; simp -implicitDefEqProofs only [cmpB]) | (fail) | ((with_reducible first | refine hK _ _ ?_ | (clear hK; refine hK _ _ ?_) | (clear hK; clear hK; refine hK _ _ ?_)); clear hK; try clear K) | (simp -implicitDefEqProofs only [eq_true g1, true_and, go_sem, seval]) | (with_reducible intro b) | (with_reducible refine And.intro ?_ ?_; · first | assumption | omega | (unfold R64; omega)))
      rw [numR_over (hover (.inl g1))]; try rfl
    · by_cases g2 : e < -65536 - (t : Int)
      · repeat (first | (with_reducible refine pv_seq fun K hK => ?_) | (with_reducible refine pv_reg ?_; simp -implicitDefEqProofs only [cmpB]) | (fail) | ((with_reducible first | refine hK _ _ ?_ | (clear hK; refine hK _ _ ?_) | (clear hK; clear hK; refine hK _ _ ?_)); clear hK; try clear K) | (simp -implicitDefEqProofs only [eq_false g1, eq_true g2, true_and, go_sem, seval]) | (with_reducible intro b) | (with_reducible refine And.intro ?_ ?_; · first | assumption | omega | (unfold R64; omega)))
        rw [numR_over (hover (.inr g2))]; try rfl
      · repeat (first | (with_reducible refine pv_seq fun K hK => ?_) | (with_reducible refine pv_reg ?_; simp -implicitDefEqProofs only [cmpB]) | (fail) | ((with_reducible first | refine hK _ _ ?_ | (clear hK; refine hK _ _ ?_) | (clear hK; clear hK; refine hK _ _ ?_)); clear hK; try clear K) | (simp -implicitDefEqProofs only [eq_false g1, eq_false g2, true_and, go_sem, seval]) | (with_reducible intro b) | (with_reducible refine And.intro ?_ ?_; · first | assumption | omega | (unfold R64; omega)))
        refine call_is (p_Down (n := t) hb (by omega) (by omega)) ?_
        repeat (first | (with_reducible refine pv_seq fun K hK => ?_) | (with_reducible refine pv_reg ?_; simp -implicitDefEqProofs only [cmpB]) | (fail) | ((with_reducible first | refine hK _ _ ?_ | (clear hK; refine hK _ _ ?_) | (clear hK; clear hK; refine hK _ _ ?_)); clear hK; try clear K) | (simp -implicitDefEqProofs only [eq_false g1, eq_false g2, true_and, go_sem, seval]) | (with_reducible intro b) | (with_reducible refine And.intro ?_ ?_; · first | assumption | omega | (unfold R64; omega)))
        refine call_is pR ?_
        by_cases hk : OkD d
        · rw [decide_eq_true hk]
          repeat (first | (with_reducible refine pv_seq fun K hK => ?_) | (with_reducible refine pv_reg ?_; simp -implicitDefEqProofs only [cmpB]) | (fail) | ((with_reducible first | refine hK _ _ ?_ | (clear hK; refine hK _ _ ?_) | (clear hK; clear hK; refine hK _ _ ?_)); clear hK; try clear K) | (simp -implicitDefEqProofs only [eq_false g1, eq_false g2, true_and, go_sem, seval]) | (with_reducible intro b) | (with_reducible refine And.intro ?_ ?_; · first | assumption | omega | (unfold R64; omega)))
          rw [numR_ok hk, hnu]; try rfl
        · rw [decide_eq_false hk]
          repeat (first | (with_reducible refine pv_seq fun K hK => ?_) | (with_reducible refine pv_reg ?_; simp -implicitDefEqProofs only [cmpB]) | (fail) | ((with_reducible first | refine hK _ _ ?_ | (clear hK; refine hK _ _ ?_) | (clear hK; clear hK; refine hK _ _ ?_)); clear hK; try clear K) | (simp -implicitDefEqProofs only [eq_false g1, eq_false g2, true_and, go_sem, seval]) | (with_reducible intro b) | (with_reducible refine And.intro ?_ ?_; · first | assumption | omega | (unfold R64; omega)))
          rw [numR_over hk]; try rfl

theorem p_nMade {k : Nat} {x : Nu} (h : Sz k x) (hk : k ≤ 1073741824) : PC Tryd.prog 63 [NU x] fun d => d = NE (numR x.val) := by
  obtain ⟨neg, exp, w⟩ := x
  have hlo := h.lo; have hhi := h.hi; have hl := h.len; have hb := h.b
  simp only at hlo hhi hl hb
  refine PC.body (args := [NU ⟨neg, exp, w⟩]) (rs := [.cell 2 24, .tmp 3]) mixed Tryd.func63 rfl (by kernel_rfl) (by kernel_rfl) (Nat.le_of_ble_eq_true rfl) rfl ?_
  repeat (first | (with_reducible refine pv_seq fun K hK => ?_) | (with_reducible refine pv_reg ?_; simp -implicitDefEqProofs only [cmpB]) | (fail) | ((with_reducible first | refine hK _ _ ?_ | (clear hK; refine hK _ _ ?_) | (clear hK; clear hK; refine hK _ _ ?_)); clear hK; try clear K) | (simp -implicitDefEqProofs only [true_and, true_and, go_sem, seval]) | (with_reducible intro b) | (with_reducible refine And.intro ?_ ?_; · first | assumption | omega | (unfold R64; omega)))
  refine call_is (p_nMake hb (by omega) (by unfold R64; omega)) ?_
  repeat (first | (with_reducible refine pv_seq fun K hK => ?_) | (with_reducible refine pv_reg ?_; simp -implicitDefEqProofs only [cmpB]) | (fail) | ((with_reducible first | refine hK _ _ ?_ | (clear hK; refine hK _ _ ?_) | (clear hK; clear hK; refine hK _ _ ?_)); clear hK; try clear K) | (simp -implicitDefEqProofs only [true_and, true_and, go_sem, seval]) | (with_reducible intro b) | (with_reducible refine And.intro ?_ ?_; · first | assumption | omega | (unfold R64; omega)))
  rfl

theorem p_nInt {n : Int} (hn : R64 n) : PC Tryd.prog 20 [i64 n] fun d => d = NU (nuOf (dy (decide (n < 0)) n.natAbs 0)) := by
  unfold R64 at hn
  refine PC.body (args := [i64 n]) (rs := [.cell 2 24]) mixed Tryd.func20 rfl (by kernel_rfl) (by kernel_rfl) (Nat.le_of_ble_eq_true rfl) rfl ?_
  have hk : OkD (dy (decide (n < 0)) n.natAbs 0) := OkD_word (by omega) (by decide) (by decide)
  have hwl : B64 [n.natAbs] := by intro x hx; rw [List.mem_singleton.1 hx]; omega
  have pM := p_nMake (neg := decide (n < 0)) (w := [n.natAbs]) (e := 0) hwl (by simp) (by unfold R64; omega)
  rw [show N64 [n.natAbs] = n.natAbs by simp [nval], numR_ok hk] at pM
  by_cases hn0 : n < 0
  · have e1 : IntKind.u64.wrap n = ((18446744073709551616 - n.natAbs : Nat) : Int) := by simp [IntKind.wrap, IntKind.signed, IntKind.bits]; omega
    have e2 : IntKind.u64.wrap (0 - ((18446744073709551616 - n.natAbs : Nat) : Int)) = (n.natAbs : Int) := by simp [IntKind.wrap, IntKind.signed, IntKind.bits]; omega
    have e3 : IntKind.u64.wrap (- ((18446744073709551616 - n.natAbs : Nat) : Int)) = (n.natAbs : Int) := by simp [IntKind.wrap, IntKind.signed, IntKind.bits]; omega
    have hd : decide (n < 0) = true := decide_eq_true hn0
    rw [hd] at pM ⊢
    repeat (first | (with_reducible refine pv_seq fun K hK => ?_) | (with_reducible refine pv_reg ?_; simp -implicitDefEqProofs only [cmpB]) | (fail) | ((with_reducible first | refine hK _ _ ?_ | (clear hK; refine hK _ _ ?_) | (clear hK; clear hK; refine hK _ _ ?_)); clear hK; try clear K) | (simp -implicitDefEqProofs only [e1, e2, e3, eq_true hn0, true_and, go_sem, seval]) | (with_reducible intro b) | (with_reducible refine And.intro ?_ ?_; · first | assumption | omega | (unfold R64; omega)))
    refine PFC.coe ?_
    simp -implicitDefEqProofs only [e1, e2, e3, eq_true hn0, true_and, go_sem, seval]
    refine call_is pM ?_
    repeat (first | (with_reducible refine pv_seq fun K hK => ?_) | (with_reducible refine pv_reg ?_; simp -implicitDefEqProofs only [cmpB]) | (fail) | ((with_reducible first | refine hK _ _ ?_ | (clear hK; refine hK _ _ ?_) | (clear hK; clear hK; refine hK _ _ ?_)); clear hK; try clear K) | (simp -implicitDefEqProofs only [e1, e2, e3, eq_true hn0, true_and, go_sem, seval]) | (with_reducible intro b) | (with_reducible refine And.intro ?_ ?_; · first | assumption | omega | (unfold R64; omega)))
  · have e1 : IntKind.u64.wrap n = (n.natAbs : Int) := by simp [IntKind.wrap, IntKind.signed, IntKind.bits]; omega
    have hd : decide (n < 0) = false := decide_eq_false hn0
    rw [hd] at pM ⊢
    repeat (first | (with_reducible refine pv_seq fun K hK => ?_) | (with_reducible refine pv_reg ?_; simp -implicitDefEqProofs only [cmpB]) | (fail) | ((with_reducible first | refine hK _ _ ?_ | (clear hK; refine hK _ _ ?_) | (clear hK; clear hK; refine hK _ _ ?_)); clear hK; try clear K) | (simp -implicitDefEqProofs only [e1, eq_false hn0, true_and, go_sem, seval]) | (with_reducible intro b) | (with_reducible refine And.intro ?_ ?_; · first | assumption | omega | (unfold R64; omega)))
    refine PFC.coe ?_
    simp -implicitDefEqProofs only [e1, eq_false hn0, true_and, go_sem, seval]
    refine call_is pM ?_
    repeat (first | (with_reducible refine pv_seq fun K hK => ?_) | (with_reducible refine pv_reg ?_; simp -implicitDefEqProofs only [cmpB]) | (fail) | ((with_reducible first | refine hK _ _ ?_ | (clear hK; refine hK _ _ ?_) | (clear hK; clear hK; refine hK _ _ ?_)); clear hK; try clear K) | (simp -implicitDefEqProofs only [e1, eq_false hn0, true_and, go_sem, seval]) | (with_reducible intro b) | (with_reducible refine And.intro ?_ ?_; · first | assumption | omega | (unfold R64; omega)))

theorem p_nOwn {k : Nat} {x : Nu} (h : Wl k x) (hk : k ≤ 1073741824) : PC Tryd.prog 53 [NU x] fun d => d = NU (if rightB x then x else nu0) := by
  have hl := h.len; have hb := h.b
  by_cases hr : rightB x = true
  · obtain ⟨d, hd, rfl⟩ := right_is hb hr
    have hN : D64 (N64 (nuOf d).w) = (nuOf d).w := by rw [nuOf_f]; exact congrArg D64 (nval_digs (by decide) _)
    rw [if_pos hr]
    have pR := p_nRight hb
    rw [hr] at pR
    have pT := p_Trim hb (by omega)
    rw [hN] at pT
    generalize nuOf d = x at *
    obtain ⟨neg, exp, w⟩ := x
    refine PC.body (args := [NU ⟨neg, exp, w⟩]) (rs := [.cell 2 24]) mixed Tryd.func53 rfl (by kernel_rfl) (by kernel_rfl) (Nat.le_of_ble_eq_true rfl) rfl ?_
    repeat (first | (with_reducible refine pv_seq fun K hK => ?_) | (with_reducible refine pv_reg ?_; simp -implicitDefEqProofs only [cmpB]) | (fail) | ((with_reducible first | refine hK _ _ ?_ | (clear hK; refine hK _ _ ?_) | (clear hK; clear hK; refine hK _ _ ?_)); clear hK; try clear K) | (simp -implicitDefEqProofs only [true_and, true_and, go_sem, seval]) | (with_reducible intro b) | (with_reducible refine And.intro ?_ ?_; · first | assumption | omega | (unfold R64; omega)))
    refine call_is pR ?_
    repeat (first | (with_reducible refine pv_seq fun K hK => ?_) | (with_reducible refine pv_reg ?_; simp -implicitDefEqProofs only [cmpB]) | (fail) | ((with_reducible first | refine hK _ _ ?_ | (clear hK; refine hK _ _ ?_) | (clear hK; clear hK; refine hK _ _ ?_)); clear hK; try clear K) | (simp -implicitDefEqProofs only [true_and, true_and, go_sem, seval]) | (with_reducible intro b) | (with_reducible refine And.intro ?_ ?_; · first | assumption | omega | (unfold R64; omega)))
    refine call_is pT ?_
    repeat (first | (with_reducible refine pv_seq fun K hK => ?_) | (with_reducible refine pv_reg ?_; simp -implicitDefEqProofs only [cmpB]) | (fail) | ((with_reducible first | refine hK _ _ ?_ | (clear hK; refine hK _ _ ?_) | (clear hK; clear hK; refine hK _ _ ?_)); clear hK; try clear K) | (simp -implicitDefEqProofs only [true_and, true_and, go_sem, seval]) | (with_reducible intro b) | (with_reducible refine And.intro ?_ ?_; · first | assumption | omega | (unfold R64; omega)))
  · rw [if_neg hr]
    have pR := p_nRight hb
    rw [Bool.not_eq_true] at hr
    rw [hr] at pR
    obtain ⟨neg, exp, w⟩ := x
    refine PC.body (args := [NU ⟨neg, exp, w⟩]) (rs := [.cell 2 24]) mixed Tryd.func53 rfl (by kernel_rfl) (by kernel_rfl) (Nat.le_of_ble_eq_true rfl) rfl ?_
    repeat (first | (with_reducible refine pv_seq fun K hK => ?_) | (with_reducible refine pv_reg ?_; simp -implicitDefEqProofs only [cmpB]) | (fail) | ((with_reducible first | refine hK _ _ ?_ | (clear hK; refine hK _ _ ?_) | (clear hK; clear hK; refine hK _ _ ?_)); clear hK; try clear K) | (simp -implicitDefEqProofs only [true_and, true_and, go_sem, seval]) | (with_reducible intro b) | (with_reducible refine And.intro ?_ ?_; · first | assumption | omega | (unfold R64; omega)))
    refine call_is pR ?_
    repeat (first | (with_reducible refine pv_seq fun K hK => ?_) | (with_reducible refine pv_reg ?_; simp -implicitDefEqProofs only [cmpB]) | (fail) | ((with_reducible first | refine hK _ _ ?_ | (clear hK; refine hK _ _ ?_) | (clear hK; clear hK; refine hK _ _ ?_)); clear hK; try clear K) | (simp -implicitDefEqProofs only [true_and, true_and, go_sem, seval]) | (with_reducible intro b) | (with_reducible refine And.intro ?_ ?_; · first | assumption | omega | (unfold R64; omega)))
    rfl

theorem own_rv {x : Nu} (hb : B64 x.w) : (if rightB x then x else nu0) = nuOf (rv x) := by
  unfold rv
  by_cases hr : rightB x = true
  · rw [if_pos hr, if_pos hr]; exact ((rightB_iff hb).1 hr).1
  · rw [if_neg hr, if_neg hr]; try rfl
theorem rv_ok {x : Nu} (hb : B64 x.w) : OkD (rv x) := by
  unfold rv
  by_cases hr : rightB x = true
  · rw [if_pos hr]; have := (rightB_iff hb).1 hr; unfold OkD; rw [← this.1]; exact this.2
  · rw [if_neg hr]; exact OkD.zero

theorem p_nSign {k : Nat} {x : Nu} (h : Wl k x) (hk : k ≤ 1073741824) : PC Tryd.prog 26 [NU x] fun d => d = i64 (sgnD (rv x)) := by
  have pO := p_nOwn h hk
  rw [own_rv h.b] at pO
  have pS := p_eSign (rv_ok h.b).sz (by decide)
  rw [val_nuOf] at pS
  obtain ⟨neg, exp, w⟩ := x
  refine PC.body (args := [NU ⟨neg, exp, w⟩]) (rs := [.tmp 2]) mixed Tryd.func26 rfl (by kernel_rfl) (by kernel_rfl) (Nat.le_of_ble_eq_true rfl) rfl ?_
  repeat (first | (with_reducible refine pv_seq fun K hK => ?_) | (with_reducible refine pv_reg ?_; simp -implicitDefEqProofs only [cmpB]) | (fail) | ((with_reducible first | refine hK _ _ ?_ | (clear hK; refine hK _ _ ?_) | (clear hK; clear hK; refine hK _ _ ?_)); clear hK; try clear K) | (simp -implicitDefEqProofs only [true_and, true_and, go_sem, seval]) | (with_reducible intro b) | (with_reducible refine And.intro ?_ ?_; · first | assumption | omega | (unfold R64; omega)))
  refine call_is pO ?_
  repeat (first | (with_reducible refine pv_seq fun K hK => ?_) | (with_reducible refine pv_reg ?_; simp -implicitDefEqProofs only [cmpB]) | (fail) | ((with_reducible first | refine hK _ _ ?_ | (clear hK; refine hK _ _ ?_) | (clear hK; clear hK; refine hK _ _ ?_)); clear hK; try clear K) | (simp -implicitDefEqProofs only [true_and, true_and, go_sem, seval]) | (with_reducible intro b) | (with_reducible refine And.intro ?_ ?_; · first | assumption | omega | (unfold R64; omega)))
  refine call_is pS ?_
  repeat (first | (with_reducible refine pv_seq fun K hK => ?_) | (with_reducible refine pv_reg ?_; simp -implicitDefEqProofs only [cmpB]) | (fail) | ((with_reducible first | refine hK _ _ ?_ | (clear hK; refine hK _ _ ?_) | (clear hK; clear hK; refine hK _ _ ?_)); clear hK; try clear K) | (simp -implicitDefEqProofs only [true_and, true_and, go_sem, seval]) | (with_reducible intro b) | (with_reducible refine And.intro ?_ ?_; · first | assumption | omega | (unfold R64; omega)))

theorem p_nAbs {k : Nat} {x : Nu} (h : Wl k x) (hk : k ≤ 1073741824) : PC Tryd.prog 29 [NU x] fun d => d = NU (nuOf (dy false (fN (rv x)) (fE (rv x)))) := by
  have pO := p_nOwn h hk
  rw [own_rv h.b] at pO
  have hz : nuOf (dy false (fN (rv x)) (fE (rv x))) = ⟨false, (nuOf (rv x)).exp, (nuOf (rv x)).w⟩ := by
    generalize rv x = d
    by_cases h0 : d = 0
    · subst h0; rfl
    · rw [nuOf_odd (fN_mod h0), nuOf_f d]
  rw [hz]
  obtain ⟨neg, exp, w⟩ := x
  refine PC.body (args := [NU ⟨neg, exp, w⟩]) (rs := [.cell 2 24]) mixed Tryd.func29 rfl (by kernel_rfl) (by kernel_rfl) (Nat.le_of_ble_eq_true rfl) rfl ?_
  repeat (first | (with_reducible refine pv_seq fun K hK => ?_) | (with_reducible refine pv_reg ?_; simp -implicitDefEqProofs only [cmpB]) | (fail) | ((with_reducible first | refine hK _ _ ?_ | (clear hK; refine hK _ _ ?_) | (clear hK; clear hK; refine hK _ _ ?_)); clear hK; try clear K) | (simp -implicitDefEqProofs only [true_and, true_and, go_sem, seval]) | (with_reducible intro b) | (with_reducible refine And.intro ?_ ?_; · first | assumption | omega | (unfold R64; omega)))
  refine call_is pO ?_
  repeat (first | (with_reducible refine pv_seq fun K hK => ?_) | (with_reducible refine pv_reg ?_; simp -implicitDefEqProofs only [cmpB]) | (fail) | ((with_reducible first | refine hK _ _ ?_ | (clear hK; refine hK _ _ ?_) | (clear hK; clear hK; refine hK _ _ ?_)); clear hK; try clear K) | (simp -implicitDefEqProofs only [true_and, true_and, go_sem, seval]) | (with_reducible intro b) | (with_reducible refine And.intro ?_ ?_; · first | assumption | omega | (unfold R64; omega)))
  refine call_is (p_eAbs (x := nuOf _)) ?_
  repeat (first | (with_reducible refine pv_seq fun K hK => ?_) | (with_reducible refine pv_reg ?_; simp -implicitDefEqProofs only [cmpB]) | (fail) | ((with_reducible first | refine hK _ _ ?_ | (clear hK; refine hK _ _ ?_) | (clear hK; clear hK; refine hK _ _ ?_)); clear hK; try clear K) | (simp -implicitDefEqProofs only [true_and, true_and, go_sem, seval]) | (with_reducible intro b) | (with_reducible refine And.intro ?_ ?_; · first | assumption | omega | (unfold R64; omega)))

theorem p_nNeg {k : Nat} {x : Nu} (h : Wl k x) (hk : k ≤ 1073741824) : PC Tryd.prog 27 [NU x] fun d => d = NU (nuOf (- rv x)) := by
  have pO := p_nOwn h hk
  rw [own_rv h.b] at pO
  generalize rv x = d at *
  obtain ⟨neg, exp, w⟩ := x
  by_cases h0 : d = 0
  · subst h0
    refine PC.body (args := [NU ⟨neg, exp, w⟩]) (rs := [.cell 2 24]) mixed Tryd.func27 rfl (by kernel_rfl) (by kernel_rfl) (Nat.le_of_ble_eq_true rfl) rfl ?_
    repeat (first | (with_reducible refine pv_seq fun K hK => ?_) | (with_reducible refine pv_reg ?_; simp -implicitDefEqProofs only [cmpB]) | (fail) | ((with_reducible first | refine hK _ _ ?_ | (clear hK; refine hK _ _ ?_) | (clear hK; clear hK; refine hK _ _ ?_)); clear hK; try clear K) | (simp -implicitDefEqProofs only [true_and, true_and, go_sem, seval]) | (with_reducible intro b) | (with_reducible refine And.intro ?_ ?_; · first | assumption | omega | (unfold R64; omega)))
    refine call_is pO ?_
    rw [nuOf_zero]
    unfold nu0
    repeat (first | (with_reducible refine pv_seq fun K hK => ?_) | (with_reducible refine pv_reg ?_; simp -implicitDefEqProofs only [cmpB]) | (fail) | ((with_reducible first | refine hK _ _ ?_ | (clear hK; refine hK _ _ ?_) | (clear hK; clear hK; refine hK _ _ ?_)); clear hK; try clear K) | (simp -implicitDefEqProofs only [true_and, true_and, go_sem, seval]) | (with_reducible intro b) | (with_reducible refine And.intro ?_ ?_; · first | assumption | omega | (unfold R64; omega)))
    rfl
  · have hz : nuOf (-d) = ⟨!fS d, fE d, D64 (fN d)⟩ := by
      conv => lhs; rw [← dy_f d, dy_neg]
      exact nuOf_odd (fN_mod h0)
    have hl : (0 < (D64 (fN d)).length) = True := eq_true (by
      rcases Nat.eq_zero_or_pos (D64 (fN d)).length with h | h
      · exact absurd (fN_eq_zero.1 ((digs_eq_nil (by decide)).1 (List.eq_nil_of_length_eq_zero h))) h0
      · exact h)
    rw [hz]
    rw [nuOf_f] at pO
    generalize fN d = n at *
    generalize fE d = e at *
    cases hs : fS d
    · rw [hs] at pO
      refine PC.body (args := [NU ⟨neg, exp, w⟩]) (rs := [.cell 2 24]) mixed Tryd.func27 rfl (by kernel_rfl) (by kernel_rfl) (Nat.le_of_ble_eq_true rfl) rfl ?_
      repeat (first | (with_reducible refine pv_seq fun K hK => ?_) | (with_reducible refine pv_reg ?_; simp -implicitDefEqProofs only [cmpB]) | (fail) | ((with_reducible first | refine hK _ _ ?_ | (clear hK; refine hK _ _ ?_) | (clear hK; clear hK; refine hK _ _ ?_)); clear hK; try clear K) | (simp -implicitDefEqProofs only [true_and, true_and, go_sem, seval]) | (with_reducible intro b) | (with_reducible refine And.intro ?_ ?_; · first | assumption | omega | (unfold R64; omega)))
      refine call_is pO ?_
      repeat (first | (with_reducible refine pv_seq fun K hK => ?_) | (with_reducible refine pv_reg ?_; simp -implicitDefEqProofs only [cmpB]) | (fail) | ((with_reducible first | refine hK _ _ ?_ | (clear hK; refine hK _ _ ?_) | (clear hK; clear hK; refine hK _ _ ?_)); clear hK; try clear K) | (simp -implicitDefEqProofs only [hl, true_and, go_sem, seval]) | (with_reducible intro b) | (with_reducible refine And.intro ?_ ?_; · first | assumption | omega | (unfold R64; omega)))
    · rw [hs] at pO
      refine PC.body (args := [NU ⟨neg, exp, w⟩]) (rs := [.cell 2 24]) mixed Tryd.func27 rfl (by kernel_rfl) (by kernel_rfl) (Nat.le_of_ble_eq_true rfl) rfl ?_
      repeat (first | (with_reducible refine pv_seq fun K hK => ?_) | (with_reducible refine pv_reg ?_; simp -implicitDefEqProofs only [cmpB]) | (fail) | ((with_reducible first | refine hK _ _ ?_ | (clear hK; refine hK _ _ ?_) | (clear hK; clear hK; refine hK _ _ ?_)); clear hK; try clear K) | (simp -implicitDefEqProofs only [hl, true_and, go_sem, seval]) | (with_reducible intro b) | (with_reducible refine And.intro ?_ ?_; · first | assumption | omega | (unfold R64; omega)))
      refine call_is pO ?_
      repeat (first | (with_reducible refine pv_seq fun K hK => ?_) | (with_reducible refine pv_reg ?_; simp -implicitDefEqProofs only [cmpB]) | (fail) | ((with_reducible first | refine hK _ _ ?_ | (clear hK; refine hK _ _ ?_) | (clear hK; clear hK; refine hK _ _ ?_)); clear hK; try clear K) | (simp -implicitDefEqProofs only [hl, true_and, go_sem, seval]) | (with_reducible intro b) | (with_reducible refine And.intro ?_ ?_; · first | assumption | omega | (unfold R64; omega)))

theorem p_nCmp {k : Nat} {x y : Nu} (hx : Wl k x) (hy : Wl k y) (hk : k ≤ 67108864) : PC Tryd.prog 23 [NU x, NU y] fun d => d = i64 (if rightB x && rightB y then cmpD x.val y.val else 0) := by
  have pX := p_nRight hx.b
  have pY := p_nRight hy.b
  have pC : rightB x = true → rightB y = true → PC Tryd.prog 51 [NU x, NU y] fun d => d = i64 (cmpD x.val y.val) := fun h1 h2 => p_eCmp (right_sz hx.b h1) (right_sz hy.b h2) (by decide)
  generalize rightB x = r at *
  generalize rightB y = s at *
  obtain ⟨neg, exp, w⟩ := x
  obtain ⟨neg', exp', w'⟩ := y
  refine PC.body (args := [NU ⟨neg, exp, w⟩, NU ⟨neg', exp', w'⟩]) (rs := [.tmp 4]) mixed Tryd.func23 rfl (by kernel_rfl) (by kernel_rfl) (Nat.le_of_ble_eq_true rfl) rfl ?_
  cases r
  · repeat (first | (with_reducible refine pv_seq fun K hK => ?_) | (with_reducible refine pv_reg ?_; simp -implicitDefEqProofs only [cmpB]) | (fail) | ((with_reducible first | refine hK _ _ ?_ | (clear hK; refine hK _ _ ?_) | (clear hK; clear hK; refine hK _ _ ?_)); clear hK; try clear K) | (simp -implicitDefEqProofs only [true_and, true_and, go_sem, seval]) | (with_reducible intro b) | (with_reducible refine And.intro ?_ ?_; · first | assumption | omega | (unfold R64; omega)))
    refine call_is pX ?_
    repeat (first | (with_reducible refine pv_seq fun K hK => ?_) | (with_reducible refine pv_reg ?_; simp -implicitDefEqProofs only [cmpB]) | (fail) | ((with_reducible first | refine hK _ _ ?_ | (clear hK; refine hK _ _ ?_) | (clear hK; clear hK; refine hK _ _ ?_)); clear hK; try clear K) | (simp -implicitDefEqProofs only [true_and, true_and, go_sem, seval]) | (with_reducible intro b) | (with_reducible refine And.intro ?_ ?_; · first | assumption | omega | (unfold R64; omega)))
    rfl
  · cases s
    · repeat (first | (with_reducible refine pv_seq fun K hK => ?_) | (with_reducible refine pv_reg ?_; simp -implicitDefEqProofs only [cmpB]) | (fail) | ((with_reducible first | refine hK _ _ ?_ | (clear hK; refine hK _ _ ?_) | (clear hK; clear hK; refine hK _ _ ?_)); clear hK; try clear K) | (simp -implicitDefEqProofs only [true_and, true_and, go_sem, seval]) | (with_reducible intro b) | (with_reducible refine And.intro ?_ ?_; · first | assumption | omega | (unfold R64; omega)))
      refine call_is pX ?_
      repeat (first | (with_reducible refine pv_seq fun K hK => ?_) | (with_reducible refine pv_reg ?_; simp -implicitDefEqProofs only [cmpB]) | (fail) | ((with_reducible first | refine hK _ _ ?_ | (clear hK; refine hK _ _ ?_) | (clear hK; clear hK; refine hK _ _ ?_)); clear hK; try clear K) | (simp -implicitDefEqProofs only [true_and, true_and, go_sem, seval]) | (with_reducible intro b) | (with_reducible refine And.intro ?_ ?_; · first | assumption | omega | (unfold R64; omega)))
      refine call_is pY ?_
      repeat (first | (with_reducible refine pv_seq fun K hK => ?_) | (with_reducible refine pv_reg ?_; simp -implicitDefEqProofs only [cmpB]) | (fail) | ((with_reducible first | refine hK _ _ ?_ | (clear hK; refine hK _ _ ?_) | (clear hK; clear hK; refine hK _ _ ?_)); clear hK; try clear K) | (simp -implicitDefEqProofs only [true_and, true_and, go_sem, seval]) | (with_reducible intro b) | (with_reducible refine And.intro ?_ ?_; · first | assumption | omega | (unfold R64; omega)))
      rfl
    · repeat (first | (with_reducible refine pv_seq fun K hK => ?_) | (with_reducible refine pv_reg ?_; simp -implicitDefEqProofs only [cmpB]) | (fail) | ((with_reducible first | refine hK _ _ ?_ | (clear hK; refine hK _ _ ?_) | (clear hK; clear hK; refine hK _ _ ?_)); clear hK; try clear K) | (simp -implicitDefEqProofs only [true_and, true_and, go_sem, seval]) | (with_reducible intro b) | (with_reducible refine And.intro ?_ ?_; · first | assumption | omega | (unfold R64; omega)))
      refine call_is pX ?_
      repeat (first | (with_reducible refine pv_seq fun K hK => ?_) | (with_reducible refine pv_reg ?_; simp -implicitDefEqProofs only [cmpB]) | (fail) | ((with_reducible first | refine hK _ _ ?_ | (clear hK; refine hK _ _ ?_) | (clear hK; clear hK; refine hK _ _ ?_)); clear hK; try clear K) | (simp -implicitDefEqProofs only [true_and, true_and, go_sem, seval]) | (with_reducible intro b) | (with_reducible refine And.intro ?_ ?_; · first | assumption | omega | (unfold R64; omega)))
      refine call_is pY ?_
      repeat (first | (with_reducible refine pv_seq fun K hK => ?_) | (with_reducible refine pv_reg ?_; simp -implicitDefEqProofs only [cmpB]) | (fail) | ((with_reducible first | refine hK _ _ ?_ | (clear hK; refine hK _ _ ?_) | (clear hK; clear hK; refine hK _ _ ?_)); clear hK; try clear K) | (simp -implicitDefEqProofs only [true_and, true_and, go_sem, seval]) | (with_reducible intro b) | (with_reducible refine And.intro ?_ ?_; · first | assumption | omega | (unfold R64; omega)))
      refine call_is (pC rfl rfl) ?_
      repeat (first | (with_reducible refine pv_seq fun K hK => ?_) | (with_reducible refine pv_reg ?_; simp -implicitDefEqProofs only [cmpB]) | (fail) | ((with_reducible first | refine hK _ _ ?_ | (clear hK; refine hK _ _ ?_) | (clear hK; clear hK; refine hK _ _ ?_)); clear hK; try clear K) | (simp -implicitDefEqProofs only [true_and, true_and, go_sem, seval]) | (with_reducible intro b) | (with_reducible refine And.intro ?_ ?_; · first | assumption | omega | (unfold R64; omega)))

theorem p_nBothOk {k m : Nat} {x y : Nu} {f : FuncId} {v : Dyadic} (hx : Wl k x) (hy : Wl k y) (rx : rightB x = true) (ry : rightB y = true) (hf : PC Tryd.prog f [NU x, NU y] fun d => ∃ z, d = NU z ∧ Sz m z ∧ z.val = v) (hm : m ≤ 1073741824) :
    PC Tryd.prog 56 [NU x, NU y, .fn f [] []] fun d => d = NE (numR v) := by
  have pX := p_nRight hx.b
  have pY := p_nRight hy.b
  rw [rx] at pX
  rw [ry] at pY
  obtain ⟨neg, exp, w⟩ := x
  obtain ⟨neg', exp', w'⟩ := y
  refine PC.body (args := [NU ⟨neg, exp, w⟩, NU ⟨neg', exp', w'⟩, .fn f [] []]) (rs := [.cell 6 24, .tmp 7]) mixed Tryd.func56 rfl (by kernel_rfl) (by kernel_rfl) (Nat.le_of_ble_eq_true rfl) rfl ?_
  repeat (first | (with_reducible refine pv_seq fun K hK => ?_) | (with_reducible refine pv_reg ?_; simp -implicitDefEqProofs only [cmpB]) | (fail) | ((with_reducible first | refine hK _ _ ?_ | (clear hK; refine hK _ _ ?_) | (clear hK; clear hK; refine hK _ _ ?_)); clear hK; try clear K) | (simp -implicitDefEqProofs only [true_and, true_and, go_sem, seval]) | (with_reducible intro b) | (with_reducible refine And.intro ?_ ?_; · first | assumption | omega | (unfold R64; omega)))
  refine call_is pX ?_
  repeat (first | (with_reducible refine pv_seq fun K hK => ?_) | (with_reducible refine pv_reg ?_; simp -implicitDefEqProofs only [cmpB]) | (fail) | ((with_reducible first | refine hK _ _ ?_ | (clear hK; refine hK _ _ ?_) | (clear hK; clear hK; refine hK _ _ ?_)); clear hK; try clear K) | (simp -implicitDefEqProofs only [true_and, true_and, go_sem, seval]) | (with_reducible intro b) | (with_reducible refine And.intro ?_ ?_; · first | assumption | omega | (unfold R64; omega)))
  refine call_is pY ?_
  repeat (first | (with_reducible refine pv_seq fun K hK => ?_) | (with_reducible refine pv_reg ?_; simp -implicitDefEqProofs only [cmpB]) | (fail) | ((with_reducible first | refine hK _ _ ?_ | (clear hK; refine hK _ _ ?_) | (clear hK; clear hK; refine hK _ _ ?_)); clear hK; try clear K) | (simp -implicitDefEqProofs only [true_and, true_and, go_sem, seval]) | (with_reducible intro b) | (with_reducible refine And.intro ?_ ?_; · first | assumption | omega | (unfold R64; omega)))
  refine call_pc hf ?_
  rintro d ⟨z, rfl, hz, rfl⟩
  repeat (first | (with_reducible refine pv_seq fun K hK => ?_) | (with_reducible refine pv_reg ?_; simp -implicitDefEqProofs only [cmpB]) | (fail) | ((with_reducible first | refine hK _ _ ?_ | (clear hK; refine hK _ _ ?_) | (clear hK; clear hK; refine hK _ _ ?_)); clear hK; try clear K) | (simp -implicitDefEqProofs only [true_and, true_and, go_sem, seval]) | (with_reducible intro b) | (with_reducible refine And.intro ?_ ?_; · first | assumption | omega | (unfold R64; omega)))
  refine call_is (p_nMade hz hm) ?_
  repeat (first | (with_reducible refine pv_seq fun K hK => ?_) | (with_reducible refine pv_reg ?_; simp -implicitDefEqProofs only [cmpB]) | (fail) | ((with_reducible first | refine hK _ _ ?_ | (clear hK; refine hK _ _ ?_) | (clear hK; clear hK; refine hK _ _ ?_)); clear hK; try clear K) | (simp -implicitDefEqProofs only [true_and, true_and, go_sem, seval]) | (with_reducible intro b) | (with_reducible refine And.intro ?_ ?_; · first | assumption | omega | (unfold R64; omega)))
theorem p_nBothNo {k : Nat} {x y : Nu} {f : FuncId} (hx : Wl k x) (hy : Wl k y) (h : (rightB x && rightB y) = false) : PC Tryd.prog 56 [NU x, NU y, .fn f [] []] fun d => d = NE (nu0, 1) := by
  have pX := p_nRight hx.b
  have pY := p_nRight hy.b
  generalize rightB x = r at *
  generalize rightB y = s at *
  obtain ⟨neg, exp, w⟩ := x
  obtain ⟨neg', exp', w'⟩ := y
  refine PC.body (args := [NU ⟨neg, exp, w⟩, NU ⟨neg', exp', w'⟩, .fn f [] []]) (rs := [.cell 6 24, .tmp 7]) mixed Tryd.func56 rfl (by kernel_rfl) (by kernel_rfl) (Nat.le_of_ble_eq_true rfl) rfl ?_
  repeat (first | (with_reducible refine pv_seq fun K hK => ?_) | (with_reducible refine pv_reg ?_; simp -implicitDefEqProofs only [cmpB]) | (fail) | ((with_reducible first | refine hK _ _ ?_ | (clear hK; refine hK _ _ ?_) | (clear hK; clear hK; refine hK _ _ ?_)); clear hK; try clear K) | (simp -implicitDefEqProofs only [true_and, true_and, go_sem, seval]) | (with_reducible intro b) | (with_reducible refine And.intro ?_ ?_; · first | assumption | omega | (unfold R64; omega)))
  refine call_is pX ?_
  cases r
  · repeat (first | (with_reducible refine pv_seq fun K hK => ?_) | (with_reducible refine pv_reg ?_; simp -implicitDefEqProofs only [cmpB]) | (fail) | ((with_reducible first | refine hK _ _ ?_ | (clear hK; refine hK _ _ ?_) | (clear hK; clear hK; refine hK _ _ ?_)); clear hK; try clear K) | (simp -implicitDefEqProofs only [true_and, true_and, go_sem, seval]) | (with_reducible intro b) | (with_reducible refine And.intro ?_ ?_; · first | assumption | omega | (unfold R64; omega)))
    rfl
  · obtain rfl : s = false := h
    repeat (first | (with_reducible refine pv_seq fun K hK => ?_) | (with_reducible refine pv_reg ?_; simp -implicitDefEqProofs only [cmpB]) | (fail) | ((with_reducible first | refine hK _ _ ?_ | (clear hK; refine hK _ _ ?_) | (clear hK; clear hK; refine hK _ _ ?_)); clear hK; try clear K) | (simp -implicitDefEqProofs only [true_and, true_and, go_sem, seval]) | (with_reducible intro b) | (with_reducible refine And.intro ?_ ?_; · first | assumption | omega | (unfold R64; omega)))
    refine call_is pY ?_
    repeat (first | (with_reducible refine pv_seq fun K hK => ?_) | (with_reducible refine pv_reg ?_; simp -implicitDefEqProofs only [cmpB]) | (fail) | ((with_reducible first | refine hK _ _ ?_ | (clear hK; refine hK _ _ ?_) | (clear hK; clear hK; refine hK _ _ ?_)); clear hK; try clear K) | (simp -implicitDefEqProofs only [true_and, true_and, go_sem, seval]) | (with_reducible intro b) | (with_reducible refine And.intro ?_ ?_; · first | assumption | omega | (unfold R64; omega)))
    rfl
theorem p_nAdd {k : Nat} {x y : Nu} (hx : Wl k x) (hy : Wl k y) (hk : k ≤ 67108864) : PC Tryd.prog 32 [NU x, NU y] fun d => d = NE (opR x y (x.val + y.val)) := by
  have pB : PC Tryd.prog 56 [NU x, NU y, .fn 57 [] []] fun d => d = NE (opR x y (x.val + y.val)) := by
    unfold opR
    by_cases h : (rightB x && rightB y) = true
    · rw [if_pos h]
      rw [Bool.and_eq_true] at h
      exact p_nBothOk hx hy h.1 h.2 (p_eAdd (right_sz hx.b h.1) (right_sz hy.b h.2) (by decide)) (by decide)
    · rw [if_neg h]
      exact p_nBothNo hx hy (by simpa using h)
  obtain ⟨neg, exp, w⟩ := x
  obtain ⟨neg', exp', w'⟩ := y
  refine PC.body (args := [NU ⟨neg, exp, w⟩, NU ⟨neg', exp', w'⟩]) (rs := [.cell 4 24, .tmp 5]) mixed Tryd.func32 rfl (by kernel_rfl) (by kernel_rfl) (Nat.le_of_ble_eq_true rfl) rfl ?_
  repeat (first | (with_reducible refine pv_seq fun K hK => ?_) | (with_reducible refine pv_reg ?_; simp -implicitDefEqProofs only [cmpB]) | (fail) | ((with_reducible first | refine hK _ _ ?_ | (clear hK; refine hK _ _ ?_) | (clear hK; clear hK; refine hK _ _ ?_)); clear hK; try clear K) | (simp -implicitDefEqProofs only [true_and, true_and, go_sem, seval]) | (with_reducible intro b) | (with_reducible refine And.intro ?_ ?_; · first | assumption | omega | (unfold R64; omega)))
  refine call_is pB ?_
  repeat (first | (with_reducible refine pv_seq fun K hK => ?_) | (with_reducible refine pv_reg ?_; simp -implicitDefEqProofs only [cmpB]) | (fail) | ((with_reducible first | refine hK _ _ ?_ | (clear hK; refine hK _ _ ?_) | (clear hK; clear hK; refine hK _ _ ?_)); clear hK; try clear K) | (simp -implicitDefEqProofs only [true_and, true_and, go_sem, seval]) | (with_reducible intro b) | (with_reducible refine And.intro ?_ ?_; · first | assumption | omega | (unfold R64; omega)))
theorem p_nSub {k : Nat} {x y : Nu} (hx : Wl k x) (hy : Wl k y) (hk : k ≤ 67108864) : PC Tryd.prog 33 [NU x, NU y] fun d => d = NE (opR x y (x.val - y.val)) := by
  have pB : PC Tryd.prog 56 [NU x, NU y, .fn 58 [] []] fun d => d = NE (opR x y (x.val - y.val)) := by
    unfold opR
    by_cases h : (rightB x && rightB y) = true
    · rw [if_pos h]
      rw [Bool.and_eq_true] at h
      exact p_nBothOk hx hy h.1 h.2 (p_eSub (right_sz hx.b h.1) (right_sz hy.b h.2) (by decide)) (by decide)
    · rw [if_neg h]
      exact p_nBothNo hx hy (by simpa using h)
  obtain ⟨neg, exp, w⟩ := x
  obtain ⟨neg', exp', w'⟩ := y
  refine PC.body (args := [NU ⟨neg, exp, w⟩, NU ⟨neg', exp', w'⟩]) (rs := [.cell 4 24, .tmp 5]) mixed Tryd.func33 rfl (by kernel_rfl) (by kernel_rfl) (Nat.le_of_ble_eq_true rfl) rfl ?_
  repeat (first | (with_reducible refine pv_seq fun K hK => ?_) | (with_reducible refine pv_reg ?_; simp -implicitDefEqProofs only [cmpB]) | (fail) | ((with_reducible first | refine hK _ _ ?_ | (clear hK; refine hK _ _ ?_) | (clear hK; clear hK; refine hK _ _ ?_)); clear hK; try clear K) | (simp -implicitDefEqProofs only [true_and, true_and, go_sem, seval]) | (with_reducible intro b) | (with_reducible refine And.intro ?_ ?_; · first | assumption | omega | (unfold R64; omega)))
  refine call_is pB ?_
  repeat (first | (with_reducible refine pv_seq fun K hK => ?_) | (with_reducible refine pv_reg ?_; simp -implicitDefEqProofs only [cmpB]) | (fail) | ((with_reducible first | refine hK _ _ ?_ | (clear hK; refine hK _ _ ?_) | (clear hK; clear hK; refine hK _ _ ?_)); clear hK; try clear K) | (simp -implicitDefEqProofs only [true_and, true_and, go_sem, seval]) | (with_reducible intro b) | (with_reducible refine And.intro ?_ ?_; · first | assumption | omega | (unfold R64; omega)))
theorem p_nMul {k : Nat} {x y : Nu} (hx : Wl k x) (hy : Wl k y) (hk : k ≤ 67108864) : PC Tryd.prog 34 [NU x, NU y] fun d => d = NE (opR x y (x.val * y.val)) := by
  have pB : PC Tryd.prog 56 [NU x, NU y, .fn 59 [] []] fun d => d = NE (opR x y (x.val * y.val)) := by
    unfold opR
    by_cases h : (rightB x && rightB y) = true
    · rw [if_pos h]
      rw [Bool.and_eq_true] at h
      exact p_nBothOk hx hy h.1 h.2 (p_eMul (right_sz hx.b h.1) (right_sz hy.b h.2) (by decide)) (by decide)
    · rw [if_neg h]
      exact p_nBothNo hx hy (by simpa using h)
  obtain ⟨neg, exp, w⟩ := x
  obtain ⟨neg', exp', w'⟩ := y
  refine PC.body (args := [NU ⟨neg, exp, w⟩, NU ⟨neg', exp', w'⟩]) (rs := [.cell 4 24, .tmp 5]) mixed Tryd.func34 rfl (by kernel_rfl) (by kernel_rfl) (Nat.le_of_ble_eq_true rfl) rfl ?_
  repeat (first | (with_reducible refine pv_seq fun K hK => ?_) | (with_reducible refine pv_reg ?_; simp -implicitDefEqProofs only [cmpB]) | (fail) | ((with_reducible first | refine hK _ _ ?_ | (clear hK; refine hK _ _ ?_) | (clear hK; clear hK; refine hK _ _ ?_)); clear hK; try clear K) | (simp -implicitDefEqProofs only [true_and, true_and, go_sem, seval]) | (with_reducible intro b) | (with_reducible refine And.intro ?_ ?_; · first | assumption | omega | (unfold R64; omega)))
  refine call_is pB ?_
  repeat (first | (with_reducible refine pv_seq fun K hK => ?_) | (with_reducible refine pv_reg ?_; simp -implicitDefEqProofs only [cmpB]) | (fail) | ((with_reducible first | refine hK _ _ ?_ | (clear hK; refine hK _ _ ?_) | (clear hK; clear hK; refine hK _ _ ?_)); clear hK; try clear K) | (simp -implicitDefEqProofs only [true_and, true_and, go_sem, seval]) | (with_reducible intro b) | (with_reducible refine And.intro ?_ ?_; · first | assumption | omega | (unfold R64; omega)))

theorem p_nScale {k : Nat} {x : Nu} {j : Int} (hx : Wl k x) (hk : k ≤ 67108864) (hj : R64 j) : PC Tryd.prog 38 [NU x, i64 j] fun d => d = NE (scR x j) := by
  have pX := p_nRight hx.b
  have hlen := hx.len; have hb := hx.b
  have hsz := right_sz hb
  obtain ⟨neg, exp, w⟩ := x
  simp only at hlen hb
  refine PC.body (args := [NU ⟨neg, exp, w⟩, i64 j]) (rs := [.cell 4 24, .tmp 5]) mixed Tryd.func38 rfl (by kernel_rfl) (by kernel_rfl) (Nat.le_of_ble_eq_true rfl) rfl ?_
  by_cases hr : rightB ⟨neg, exp, w⟩ = true
  · have hlo := (hsz hr).lo; have hhi := (hsz hr).hi
    simp only at hlo hhi
    have sr : scR ⟨neg, exp, w⟩ j = if w.length = 0 then (nu0, 0) else if 131072 < j ∨ j < -131072 then (nu0, 2) else numR (dy neg (N64 w) (exp + j)) := if_pos hr
    rw [hr] at pX
    repeat (first | (with_reducible refine pv_seq fun K hK => ?_) | (with_reducible refine pv_reg ?_; simp -implicitDefEqProofs only [cmpB]) | (fail) | ((with_reducible first | refine hK _ _ ?_ | (clear hK; refine hK _ _ ?_) | (clear hK; clear hK; refine hK _ _ ?_)); clear hK; try clear K) | (simp -implicitDefEqProofs only [true_and, true_and, go_sem, seval]) | (with_reducible intro b) | (with_reducible refine And.intro ?_ ?_; · first | assumption | omega | (unfold R64; omega)))
    refine call_is pX ?_
    repeat (first | (with_reducible refine pv_seq fun K hK => ?_) | (with_reducible refine pv_reg ?_; simp -implicitDefEqProofs only [cmpB]) | (fail) | ((with_reducible first | refine hK _ _ ?_ | (clear hK; refine hK _ _ ?_) | (clear hK; clear hK; refine hK _ _ ?_)); clear hK; try clear K) | (simp -implicitDefEqProofs only [true_and, true_and, go_sem, seval]) | (with_reducible intro b) | (with_reducible refine And.intro ?_ ?_; · first | assumption | omega | (unfold R64; omega)))
    refine pv_cdD (fun h1 => ?_) (fun h1 => ?_)
    · repeat (first | (with_reducible refine pv_seq fun K hK => ?_) | (with_reducible refine pv_reg ?_; simp -implicitDefEqProofs only [cmpB]) | (fail) | ((with_reducible first | refine hK _ _ ?_ | (clear hK; refine hK _ _ ?_) | (clear hK; clear hK; refine hK _ _ ?_)); clear hK; try clear K) | (simp -implicitDefEqProofs only [true_and, true_and, go_sem, seval]) | (with_reducible intro b) | (with_reducible refine And.intro ?_ ?_; · first | assumption | omega | (unfold R64; omega)))
      rw [sr, if_pos h1]; try rfl
    · rw [if_neg h1] at sr
      by_cases g1 : 131072 < j
      · rw [if_pos (.inl g1)] at sr
        repeat (first | (with_reducible refine pv_seq fun K hK => ?_) | (with_reducible refine pv_reg ?_; simp -implicitDefEqProofs only [cmpB]) | (fail) | ((with_reducible first | refine hK _ _ ?_ | (clear hK; refine hK _ _ ?_) | (clear hK; clear hK; refine hK _ _ ?_)); clear hK; try clear K) | (simp -implicitDefEqProofs only [eq_true g1, true_and, go_sem, seval]) | (with_reducible intro b) | (with_reducible refine And.intro ?_ ?_; · first | assumption | omega | (unfold R64; omega)))
        rw [sr]; try rfl
      · by_cases g2 : j < -131072
        · rw [if_pos (.inr g2)] at sr
          repeat (first | (with_reducible refine pv_seq fun K hK => ?_) | (with_reducible refine pv_reg ?_; simp -implicitDefEqProofs only [cmpB]) | (fail) | ((with_reducible first | refine hK _ _ ?_ | (clear hK; refine hK _ _ ?_) | (clear hK; clear hK; refine hK _ _ ?_)); clear hK; try clear K) | (simp -implicitDefEqProofs only [eq_false g1, eq_true g2, true_and, go_sem, seval]) | (with_reducible intro b) | (with_reducible refine And.intro ?_ ?_; · first | assumption | omega | (unfold R64; omega)))
          rw [sr]; try rfl
        · rw [if_neg (by omega)] at sr
          repeat (first | (with_reducible refine pv_seq fun K hK => ?_) | (with_reducible refine pv_reg ?_; simp -implicitDefEqProofs only [cmpB]) | (fail) | ((with_reducible first | refine hK _ _ ?_ | (clear hK; refine hK _ _ ?_) | (clear hK; clear hK; refine hK _ _ ?_)); clear hK; try clear K) | (simp -implicitDefEqProofs only [eq_false g1, eq_false g2, true_and, go_sem, seval]) | (with_reducible intro b) | (with_reducible refine And.intro ?_ ?_; · first | assumption | omega | (unfold R64; omega)))
          refine call_is (p_nMade (k := k + 65536 + 131072) (x := ⟨neg, exp + j, w⟩) ⟨hb, by simp only; omega, by simp only; omega, by simp only; omega⟩ (by omega)) ?_
          repeat (first | (with_reducible refine pv_seq fun K hK => ?_) | (with_reducible refine pv_reg ?_; simp -implicitDefEqProofs only [cmpB]) | (fail) | ((with_reducible first | refine hK _ _ ?_ | (clear hK; refine hK _ _ ?_) | (clear hK; clear hK; refine hK _ _ ?_)); clear hK; try clear K) | (simp -implicitDefEqProofs only [eq_false g1, eq_false g2, true_and, go_sem, seval]) | (with_reducible intro b) | (with_reducible refine And.intro ?_ ?_; · first | assumption | omega | (unfold R64; omega)))
          rw [sr]; try rfl
  · have sr : scR ⟨neg, exp, w⟩ j = (nu0, 1) := if_neg hr
    rw [Bool.not_eq_true] at hr
    rw [hr] at pX
    repeat (first | (with_reducible refine pv_seq fun K hK => ?_) | (with_reducible refine pv_reg ?_; simp -implicitDefEqProofs only [cmpB]) | (fail) | ((with_reducible first | refine hK _ _ ?_ | (clear hK; refine hK _ _ ?_) | (clear hK; clear hK; refine hK _ _ ?_)); clear hK; try clear K) | (simp -implicitDefEqProofs only [true_and, true_and, go_sem, seval]) | (with_reducible intro b) | (with_reducible refine And.intro ?_ ?_; · first | assumption | omega | (unfold R64; omega)))
    refine call_is pX ?_
    repeat (first | (with_reducible refine pv_seq fun K hK => ?_) | (with_reducible refine pv_reg ?_; simp -implicitDefEqProofs only [cmpB]) | (fail) | ((with_reducible first | refine hK _ _ ?_ | (clear hK; refine hK _ _ ?_) | (clear hK; clear hK; refine hK _ _ ?_)); clear hK; try clear K) | (simp -implicitDefEqProofs only [true_and, true_and, go_sem, seval]) | (with_reducible intro b) | (with_reducible refine And.intro ?_ ?_; · first | assumption | omega | (unfold R64; omega)))
    rw [sr]; try rfl

end Go.V

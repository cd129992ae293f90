/- Numbers over values as data: which are right, which are the same: package num's and the document's. -/
import Derived.Test.YtkmoeenhboicmaaDoorB2
import Derived.Test.YtkmoeenhboicmaaDoorDN2
set_option linter.unusedSimpArgs false
set_option linter.unusedVariables false
set_option maxRecDepth 100000
namespace Go.V
open Go Go.RowKit Go.Proofs

/-- A number as data. -/
def NU (x : Nu) : D := .agg [bl x.neg, i64 x.exp, W64 x.w]
theorem rnD_W64 {σ : Nm → Nm} {xs : List Nat} : rnD σ (W64 xs) = W64 xs := rfl
theorem rnD_W32 {σ : Nm → Nm} {xs : List Nat} : rnD σ (W32 xs) = W32 xs := rfl
theorem rnC_W64 {σ : Nm → Nm} {xs : List Nat} : rnC σ (W64 xs) = W64 xs := rfl
theorem rnC_W32 {σ : Nm → Nm} {xs : List Nat} : rnC σ (W32 xs) = W32 xs := rfl
attribute [go_sem] NU rnD_W64 rnD_W32 rnC_W64 rnC_W32

/-- A number and an error's number. -/
def NE (p : Nu × Int) : D := .tup [NU p.1, i64 p.2]
theorem ar_u64 {n : Int} {K : Value → Prop} : arith .u64 n K = K (.int .u64 (IntKind.u64.wrap n)) := rfl
theorem ar_i64 {n : Int} {K : Value → Prop} : arith .i64 n K = (R64 n ∧ K (.int .i64 n)) := rfl
attribute [go_sem] NE ar_u64 ar_i64
theorem numR_zero : numR 0 = (nu0, 0) := numR_ok OkD.zero
/-- What an exact operation of two right numbers comes to, or why there is none: 1 is ErrForm. -/
def opR (x y : Nu) (v : Dyadic) : Nu × Int := if rightB x && rightB y then numR v else (nu0, 1)
/-- A number's value, if it is right; else 0. -/
def rv (x : Nu) : Dyadic := if rightB x then x.val else 0
/-- A number by a power of two. -/
def scR (x : Nu) (j : Int) : Nu × Int := if rightB x then (if x.w.length = 0 then (nu0, 0) else if 131072 < j ∨ j < -131072 then (nu0, 2) else numR (dy x.neg (N64 x.w) (x.exp + j))) else (nu0, 1)

theorem and1_64 {x : Nat} (h : x < 18446744073709551616) : bitsV .and .u64 (x : Int) 1 = ((x % 2 : Nat) : Int) := by
  have := and64_nat x 1 h (by decide)
  rw [show ((1 : Nat) : Int) = 1 from rfl, Nat.and_one_is_mod] at this
  exact this

theorem rightB_ne {neg : Bool} {exp : Int} {w : List Nat} (h : ¬ w.length = 0) : rightB ⟨neg, exp, w⟩ = (decide ((D64 (N64 w)).length = w.length) && decide (w.length ≤ 64) && decide (w.getD 0 0 % 2 = 1) && decide (-65536 ≤ exp) && decide (exp ≤ 65536)) := if_neg h
theorem rightB_nil {neg : Bool} {exp : Int} {w : List Nat} (h : w.length = 0) : rightB ⟨neg, exp, w⟩ = (!neg && decide (exp = 0)) := if_pos h

theorem p_nRight {x : Nu} (hb : B64 x.w) : PC Tryd.prog 14 [NU x] fun d => d = bl (rightB x) := by
  obtain ⟨neg, exp, w⟩ := x
  have hb : B64 w := hb
  refine PC.body (args := [NU ⟨neg, exp, w⟩]) (rs := [.tmp 2]) mixed Tryd.func14 rfl (by kernel_rfl) (by kernel_rfl) (Nat.le_of_ble_eq_true rfl) rfl ?_
  repeat (first | (with_reducible refine pv_seq fun K hK => ?_) | (with_reducible refine pv_reg ?_; simp -implicitDefEqProofs only [cmpB]) | (fail) | ((with_reducible first | refine hK _ _ ?_ | (clear hK; refine hK _ _ ?_) | (clear hK; clear hK; refine hK _ _ ?_)); clear hK; try clear K) | (simp -implicitDefEqProofs only [true_and, true_and, go_sem, seval]) | (with_reducible intro b) | (with_reducible refine And.intro ?_ ?_; · first | assumption | omega | (unfold R64; omega)))
  refine pv_cdD (fun ht => ?_) (fun ht => ?_)
  · cases neg
    · repeat (first | (with_reducible refine pv_seq fun K hK => ?_) | (with_reducible refine pv_reg ?_; simp -implicitDefEqProofs only [cmpB]) | (fail) | ((with_reducible first | refine hK _ _ ?_ | (clear hK; refine hK _ _ ?_) | (clear hK; clear hK; refine hK _ _ ?_)); clear hK; try clear K) | (simp -implicitDefEqProofs only [true_and, true_and, go_sem, seval]) | (with_reducible intro b) | (with_reducible refine And.intro ?_ ?_; · first | assumption | omega | (unfold R64; omega)))
      simp [rightB, ht]
    · repeat (first | (with_reducible refine pv_seq fun K hK => ?_) | (with_reducible refine pv_reg ?_; simp -implicitDefEqProofs only [cmpB]) | (fail) | ((with_reducible first | refine hK _ _ ?_ | (clear hK; refine hK _ _ ?_) | (clear hK; clear hK; refine hK _ _ ?_)); clear hK; try clear K) | (simp -implicitDefEqProofs only [true_and, true_and, go_sem, seval]) | (with_reducible intro b) | (with_reducible refine And.intro ?_ ?_; · first | assumption | omega | (unfold R64; omega)))
      simp [rightB, ht]
  · by_cases h1 : (D64 (N64 w)).length = w.length
    · have a1 := and1_64 (get_lt hb (by decide) 0)
      repeat (first | (with_reducible refine pv_seq fun K hK => ?_) | (with_reducible refine pv_reg ?_; simp -implicitDefEqProofs only [cmpB]) | (fail) | ((with_reducible first | refine hK _ _ ?_ | (clear hK; refine hK _ _ ?_) | (clear hK; clear hK; refine hK _ _ ?_)); clear hK; try clear K) | (simp -implicitDefEqProofs only [h1, a1, true_and, go_sem, seval]) | (with_reducible intro b) | (with_reducible refine And.intro ?_ ?_; · first | assumption | omega | (unfold R64; omega)))
      refine call_is (p_Right hb) ?_
      repeat (first | (with_reducible refine pv_seq fun K hK => ?_) | (with_reducible refine pv_reg ?_; simp -implicitDefEqProofs only [cmpB]) | (fail) | ((with_reducible first | refine hK _ _ ?_ | (clear hK; refine hK _ _ ?_) | (clear hK; clear hK; refine hK _ _ ?_)); clear hK; try clear K) | (simp -implicitDefEqProofs only [h1, a1, true_and, go_sem, seval]) | (with_reducible intro b) | (with_reducible refine And.intro ?_ ?_; · first | assumption | omega | (unfold R64; omega)))
      refine pv_cdD (fun ht2 => ?_) (fun ht2 => ?_)
      · repeat (first | (with_reducible refine pv_seq fun K hK => ?_) | (with_reducible refine pv_reg ?_; simp -implicitDefEqProofs only [cmpB]) | (fail) | ((with_reducible first | refine hK _ _ ?_ | (clear hK; refine hK _ _ ?_) | (clear hK; clear hK; refine hK _ _ ?_)); clear hK; try clear K) | (simp -implicitDefEqProofs only [h1, a1, true_and, go_sem, seval]) | (with_reducible intro b) | (with_reducible refine And.intro ?_ ?_; · first | assumption | omega | (unfold R64; omega)))
        have : (w.length ≤ 64) = False := eq_false (by omega)
        simp only [rightB_ne ht, this, eq_self, decide_true, decide_false, Bool.true_and, Bool.and_true, Bool.false_and, Bool.and_false]
      · have i0 : 0 < w.length := by omega
        have hl : w.length ≤ 64 := by omega
        by_cases h3 : w.getD 0 0 % 2 = 1
        · by_cases h4 : -65536 ≤ exp
          · have k3 : (((w.getD 0 0 % 2 : Nat) : Int) = 1) = True := eq_true (by omega)
            have k4 : (-65536 ≤ exp) = True := eq_true h4
            repeat (first | (with_reducible refine pv_seq fun K hK => ?_) | (with_reducible refine pv_reg ?_; simp -implicitDefEqProofs only [cmpB]) | (fail) | ((with_reducible first | refine hK _ _ ?_ | (clear hK; refine hK _ _ ?_) | (clear hK; clear hK; refine hK _ _ ?_)); clear hK; try clear K) | (simp -implicitDefEqProofs only [h1, a1, k3, k4, i0, true_and, go_sem, seval]) | (with_reducible intro b) | (with_reducible refine And.intro ?_ ?_; · first | assumption | omega | (unfold R64; omega)))
            simp only [rightB_ne ht, h1, eq_true hl, h3, eq_true h4, eq_self, decide_true, decide_false, Bool.true_and, Bool.and_true, Bool.false_and, Bool.and_false]
          · have k3 : (((w.getD 0 0 % 2 : Nat) : Int) = 1) = True := eq_true (by omega)
            have k4 : (-65536 ≤ exp) = False := eq_false h4
            repeat (first | (with_reducible refine pv_seq fun K hK => ?_) | (with_reducible refine pv_reg ?_; simp -implicitDefEqProofs only [cmpB]) | (fail) | ((with_reducible first | refine hK _ _ ?_ | (clear hK; refine hK _ _ ?_) | (clear hK; clear hK; refine hK _ _ ?_)); clear hK; try clear K) | (simp -implicitDefEqProofs only [h1, a1, k3, k4, i0, true_and, go_sem, seval]) | (with_reducible intro b) | (with_reducible refine And.intro ?_ ?_; · first | assumption | omega | (unfold R64; omega)))
            simp only [rightB_ne ht, eq_false h4, eq_self, decide_true, decide_false, Bool.true_and, Bool.and_true, Bool.false_and, Bool.and_false]
        · have k3 : (((w.getD 0 0 % 2 : Nat) : Int) = 1) = False := eq_false (by omega)
          repeat (first | (with_reducible refine pv_seq fun K hK => ?_) | (with_reducible refine pv_reg ?_; simp -implicitDefEqProofs only [cmpB]) | (fail) | ((with_reducible first | refine hK _ _ ?_ | (clear hK; refine hK _ _ ?_) | (clear hK; clear hK; refine hK _ _ ?_)); clear hK; try clear K) | (simp -implicitDefEqProofs only [h1, a1, k3, i0, true_and, go_sem, seval]) | (with_reducible intro b) | (with_reducible refine And.intro ?_ ?_; · first | assumption | omega | (unfold R64; omega)))
          simp only [rightB_ne ht, eq_false h3, eq_self, decide_true, decide_false, Bool.true_and, Bool.and_true, Bool.false_and, Bool.and_false]
    · repeat (first | (with_reducible refine pv_seq fun K hK => ?_) | (with_reducible refine pv_reg ?_; simp -implicitDefEqProofs only [cmpB]) | (fail) | ((with_reducible first | refine hK _ _ ?_ | (clear hK; refine hK _ _ ?_) | (clear hK; clear hK; refine hK _ _ ?_)); clear hK; try clear K) | (simp -implicitDefEqProofs only [true_and, true_and, go_sem, seval]) | (with_reducible intro b) | (with_reducible refine And.intro ?_ ?_; · first | assumption | omega | (unfold R64; omega)))
      refine call_is (p_Right hb) ?_
      rw [decide_eq_false h1]
      repeat (first | (with_reducible refine pv_seq fun K hK => ?_) | (with_reducible refine pv_reg ?_; simp -implicitDefEqProofs only [cmpB]) | (fail) | ((with_reducible first | refine hK _ _ ?_ | (clear hK; refine hK _ _ ?_) | (clear hK; clear hK; refine hK _ _ ?_)); clear hK; try clear K) | (simp -implicitDefEqProofs only [true_and, true_and, go_sem, seval]) | (with_reducible intro b) | (with_reducible refine And.intro ?_ ?_; · first | assumption | omega | (unfold R64; omega)))
      simp only [rightB_ne ht, eq_false h1, eq_self, decide_true, decide_false, Bool.true_and, Bool.and_true, Bool.false_and, Bool.and_false]

theorem p_rRight {x : Nu} (hb : B64 x.w) : PC Tryd.prog 15 [NU x] fun d => d = bl (rightB x) := by
  obtain ⟨neg, exp, w⟩ := x
  have hb : B64 w := hb
  refine PC.body (args := [NU ⟨neg, exp, w⟩]) (rs := [.tmp 2]) mixed Tryd.func15 rfl (by kernel_rfl) (by kernel_rfl) (Nat.le_of_ble_eq_true rfl) rfl ?_
  repeat (first | (with_reducible refine pv_seq fun K hK => ?_) | (with_reducible refine pv_reg ?_; simp -implicitDefEqProofs only [cmpB]) | (fail) | ((with_reducible first | refine hK _ _ ?_ | (clear hK; refine hK _ _ ?_) | (clear hK; clear hK; refine hK _ _ ?_)); clear hK; try clear K) | (simp -implicitDefEqProofs only [true_and, true_and, go_sem, seval]) | (with_reducible intro b) | (with_reducible refine And.intro ?_ ?_; · first | assumption | omega | (unfold R64; omega)))
  refine pv_cdD (fun ht => ?_) (fun ht => ?_)
  · cases neg
    · repeat (first | (with_reducible refine pv_seq fun K hK => ?_) | (with_reducible refine pv_reg ?_; simp -implicitDefEqProofs only [cmpB]) | (fail) | ((with_reducible first | refine hK _ _ ?_ | (clear hK; refine hK _ _ ?_) | (clear hK; clear hK; refine hK _ _ ?_)); clear hK; try clear K) | (simp -implicitDefEqProofs only [true_and, true_and, go_sem, seval]) | (with_reducible intro b) | (with_reducible refine And.intro ?_ ?_; · first | assumption | omega | (unfold R64; omega)))
      simp [rightB, ht]
    · repeat (first | (with_reducible refine pv_seq fun K hK => ?_) | (with_reducible refine pv_reg ?_; simp -implicitDefEqProofs only [cmpB]) | (fail) | ((with_reducible first | refine hK _ _ ?_ | (clear hK; refine hK _ _ ?_) | (clear hK; clear hK; refine hK _ _ ?_)); clear hK; try clear K) | (simp -implicitDefEqProofs only [true_and, true_and, go_sem, seval]) | (with_reducible intro b) | (with_reducible refine And.intro ?_ ?_; · first | assumption | omega | (unfold R64; omega)))
      simp [rightB, ht]
  · have a1 := and1_64 (get_lt hb (by decide) 0)
    have i0 : 0 < w.length := by omega
    have e1 : (w.length : Int) - 1 = ((w.length - 1 : Nat) : Int) := by omega
    have i1 : w.length - 1 < w.length := by omega
    have hnt : (D64 (N64 w)).length = w.length ↔ w.getD (w.length - 1) 0 ≠ 0 := by
      rw [digs_len_eq (by decide) hb]
      unfold NoTail
      rw [List.getLast?_eq_getElem?, getD_some i1]
      exact ⟨fun h => h _ rfl, fun h y hy => by injection hy with hy; rw [← hy]; exact h⟩
    by_cases hl : w.length ≤ 64
    · have kl : ((w.length : Int) ≤ 64) = True := eq_true (by omega)
      by_cases h1 : w.getD (w.length - 1) 0 = 0
      · repeat (first | (with_reducible refine pv_seq fun K hK => ?_) | (with_reducible refine pv_reg ?_; simp -implicitDefEqProofs only [cmpB]) | (fail) | ((with_reducible first | refine hK _ _ ?_ | (clear hK; refine hK _ _ ?_) | (clear hK; clear hK; refine hK _ _ ?_)); clear hK; try clear K) | (simp -implicitDefEqProofs only [kl, h1, e1, i1, true_and, go_sem, seval]) | (with_reducible intro b) | (with_reducible refine And.intro ?_ ?_; · first | assumption | omega | (unfold R64; omega)))
        simp only [rightB_ne ht, eq_false (fun h => hnt.1 h h1), decide_true, decide_false, Bool.true_and, Bool.and_true, Bool.false_and, Bool.and_false]
      · have h2 := hnt.2 h1
        by_cases h3 : w.getD 0 0 % 2 = 1
        · have k3 : (((w.getD 0 0 % 2 : Nat) : Int) = 1) = True := eq_true (by omega)
          by_cases h4 : -65536 ≤ exp
          · repeat (first | (with_reducible refine pv_seq fun K hK => ?_) | (with_reducible refine pv_reg ?_; simp -implicitDefEqProofs only [cmpB]) | (fail) | ((with_reducible first | refine hK _ _ ?_ | (clear hK; refine hK _ _ ?_) | (clear hK; clear hK; refine hK _ _ ?_)); clear hK; try clear K) | (simp -implicitDefEqProofs only [kl, eq_false h1, e1, i1, a1, k3, eq_true h4, i0, true_and, go_sem, seval]) | (with_reducible intro b) | (with_reducible refine And.intro ?_ ?_; · first | assumption | omega | (unfold R64; omega)))
            simp only [rightB_ne ht, h2, eq_true hl, h3, eq_true h4, eq_self, decide_true, decide_false, Bool.true_and, Bool.and_true, Bool.false_and, Bool.and_false]
          · repeat (first | (with_reducible refine pv_seq fun K hK => ?_) | (with_reducible refine pv_reg ?_; simp -implicitDefEqProofs only [cmpB]) | (fail) | ((with_reducible first | refine hK _ _ ?_ | (clear hK; refine hK _ _ ?_) | (clear hK; clear hK; refine hK _ _ ?_)); clear hK; try clear K) | (simp -implicitDefEqProofs only [kl, eq_false h1, e1, i1, a1, k3, eq_false h4, i0, true_and, go_sem, seval]) | (with_reducible intro b) | (with_reducible refine And.intro ?_ ?_; · first | assumption | omega | (unfold R64; omega)))
            simp only [rightB_ne ht, eq_false h4, eq_self, decide_true, decide_false, Bool.true_and, Bool.and_true, Bool.false_and, Bool.and_false]
        · have k3 : (((w.getD 0 0 % 2 : Nat) : Int) = 1) = False := eq_false (by omega)
          repeat (first | (with_reducible refine pv_seq fun K hK => ?_) | (with_reducible refine pv_reg ?_; simp -implicitDefEqProofs only [cmpB]) | (fail) | ((with_reducible first | refine hK _ _ ?_ | (clear hK; refine hK _ _ ?_) | (clear hK; clear hK; refine hK _ _ ?_)); clear hK; try clear K) | (simp -implicitDefEqProofs only [kl, eq_false h1, e1, i1, a1, k3, i0, true_and, go_sem, seval]) | (with_reducible intro b) | (with_reducible refine And.intro ?_ ?_; · first | assumption | omega | (unfold R64; omega)))
          simp only [rightB_ne ht, eq_false h3, eq_self, decide_true, decide_false, Bool.true_and, Bool.and_true, Bool.false_and, Bool.and_false]
    · have kl : ((w.length : Int) ≤ 64) = False := eq_false (by omega)
      repeat (first | (with_reducible refine pv_seq fun K hK => ?_) | (with_reducible refine pv_reg ?_; simp -implicitDefEqProofs only [cmpB]) | (fail) | ((with_reducible first | refine hK _ _ ?_ | (clear hK; refine hK _ _ ?_) | (clear hK; clear hK; refine hK _ _ ?_)); clear hK; try clear K) | (simp -implicitDefEqProofs only [kl, true_and, go_sem, seval]) | (with_reducible intro b) | (with_reducible refine And.intro ?_ ?_; · first | assumption | omega | (unfold R64; omega)))
      simp only [rightB_ne ht, eq_false hl, eq_self, decide_true, decide_false, Bool.true_and, Bool.and_true, Bool.false_and, Bool.and_false]

theorem p_nSame {x y : Nu} (hl : x.w.length ≤ 1099511627776) : PC Tryd.prog 16 [NU x, NU y] fun d => d = bl (decide (x = y)) := by
  obtain ⟨neg, exp, w⟩ := x
  obtain ⟨neg', exp', w'⟩ := y
  have hl : w.length ≤ 1099511627776 := hl
  refine PC.body (args := [NU ⟨neg, exp, w⟩, NU ⟨neg', exp', w'⟩]) (rs := [.tmp 4]) mixed Tryd.func16 rfl (by kernel_rfl) (by kernel_rfl) (Nat.le_of_ble_eq_true rfl) rfl ?_
  by_cases h1 : neg = neg'
  · subst h1
    have k1 : (!neg == neg) = false := by cases neg <;> rfl
    have k1' : (neg != neg) = false := by cases neg <;> rfl
    by_cases h2 : exp = exp'
    · subst h2
      by_cases h3 : w.length = w'.length
      · have k3 : ((w.length : Int) = (w'.length : Int)) = True := eq_true (by omega)
        repeat (first | (with_reducible refine pv_seq fun K hK => ?_) | (with_reducible refine pv_reg ?_; simp -implicitDefEqProofs only [cmpB]) | (with_reducible refine pv_draw (id := 6) [(0, 0), (1, 1), (2, 0), (3, 0), (4, 1), (5, 0), (6, 1), (7, 0), (8, 0), (9, 1), (10, 0)] (by kernel_rfl) ?_; simp -implicitDefEqProofs only [cmpB]) | ((with_reducible first | refine hK _ _ ?_ | (clear hK; refine hK _ _ ?_) | (clear hK; clear hK; refine hK _ _ ?_)); clear hK; try clear K) | (simp -implicitDefEqProofs only [k1, k1', h3, true_and, go_sem, seval]) | (with_reducible intro b) | (with_reducible refine And.intro ?_ ?_; · first | assumption | omega | (unfold R64; omega)))
        have J : ∀ (e : DEnv) (S : Store), w = w' → K e S := by
          intro e S h
          repeat (first | (with_reducible refine pv_seq fun K hK => ?_) | (with_reducible refine pv_reg ?_; simp -implicitDefEqProofs only [cmpB]) | (with_reducible refine pv_draw (id := 6) [(0, 0), (1, 1), (2, 0), (3, 0), (4, 1), (5, 0), (6, 1), (7, 0), (8, 0), (9, 1), (10, 0)] (by kernel_rfl) ?_; simp -implicitDefEqProofs only [cmpB]) | ((with_reducible first | refine hK _ _ ?_ | (clear hK; refine hK _ _ ?_) | (clear hK; clear hK; refine hK _ _ ?_)); clear hK; try clear K) | (simp -implicitDefEqProofs only [k1, k1', h3, true_and, go_sem, seval]) | (with_reducible intro b) | (with_reducible refine And.intro ?_ ?_; · first | assumption | omega | (unfold R64; omega)))
          subst h; simp
        clear hK
        refine pv_loop (fun e S => ∃ (i b2 b3 : Nat), i ≤ w'.length ∧ (∀ j, j < i → w.getD j 0 = w'.getD j 0) ∧ e 2 = .ptr (.l 2) b2 0 0 3 ∧ e 3 = .ptr (.l 3) b3 0 0 3 ∧ e 29 = i64 w'.length ∧ e 30 = i64 i ∧ S (.l 2) = some ⟨b2, 3, 0, [[bl neg, i64 exp, W64 w]]⟩ ∧ S (.l 3) = some ⟨b3, 3, 0, [[bl neg, i64 exp, W64 w']]⟩) (fun e _ => w'.length - (intD (e 30)).toNat) ?_ ?_
        · exact ⟨0, _, _, Nat.zero_le _, fun j hj => by omega, rfl, rfl, (by simp -implicitDefEqProofs only [k1, k1', h3, true_and, go_sem, seval]), (by simp -implicitDefEqProofs only [k1, k1', h3, true_and, go_sem, seval]), rfl, rfl⟩
        · rintro e S ⟨i, b2, b3, hi, hz, g2, g3, g29, g5, hS2, hS3⟩
          repeat (first | (with_reducible refine pv_seq fun K hK => ?_) | (with_reducible refine pv_reg ?_; simp -implicitDefEqProofs only [cmpB]) | (with_reducible refine pv_draw (id := 6) [(0, 0), (1, 1), (2, 0), (3, 0), (4, 1), (5, 0), (6, 1), (7, 0), (8, 0), (9, 1), (10, 0)] (by kernel_rfl) ?_; simp -implicitDefEqProofs only [cmpB]) | ((with_reducible first | refine hK _ _ ?_ | (clear hK; refine hK _ _ ?_) | (clear hK; clear hK; refine hK _ _ ?_)); clear hK; try clear K) | (simp -implicitDefEqProofs only [g2, g3, g29, g5, hS2, hS3, h3, true_and, go_sem, seval]) | (with_reducible intro b) | (with_reducible refine And.intro ?_ ?_; · first | assumption | omega | (unfold R64; omega)))
          refine pv_cdD (fun ht => ?_) (fun ht => ?_)
          · have hi2 : i < w.length := by omega
            repeat (first | (with_reducible refine pv_seq fun K hK => ?_) | (with_reducible refine pv_reg ?_; simp -implicitDefEqProofs only [cmpB]) | (with_reducible refine pv_draw (id := 6) [(0, 0), (1, 1), (2, 0), (3, 0), (4, 1), (5, 0), (6, 1), (7, 0), (8, 0), (9, 1), (10, 0)] (by kernel_rfl) ?_; simp -implicitDefEqProofs only [cmpB]) | ((with_reducible first | refine hK _ _ ?_ | (clear hK; refine hK _ _ ?_) | (clear hK; clear hK; refine hK _ _ ?_)); clear hK; try clear K) | (simp -implicitDefEqProofs only [g2, g3, g29, g5, hS2, hS3, eq_true hi2, eq_true ht, true_and, go_sem, seval]) | (with_reducible intro b) | (with_reducible refine And.intro ?_ ?_; · first | assumption | omega | (unfold R64; omega)))
            refine pv_cdD (fun ht2 => ?_) (fun ht2 => ?_)
            · repeat (first | (with_reducible refine pv_seq fun K hK => ?_) | (with_reducible refine pv_reg ?_; simp -implicitDefEqProofs only [cmpB]) | (with_reducible refine pv_draw (id := 6) [(0, 0), (1, 1), (2, 0), (3, 0), (4, 1), (5, 0), (6, 1), (7, 0), (8, 0), (9, 1), (10, 0)] (by kernel_rfl) ?_; simp -implicitDefEqProofs only [cmpB]) | ((with_reducible first | refine hK _ _ ?_ | (clear hK; refine hK _ _ ?_) | (clear hK; clear hK; refine hK _ _ ?_)); clear hK; try clear K) | (simp -implicitDefEqProofs only [g2, g3, g29, g5, hS2, hS3, eq_true hi2, eq_true ht, true_and, go_sem, seval]) | (with_reducible intro b) | (with_reducible refine And.intro ?_ ?_; · first | assumption | omega | (unfold R64; omega)))
              rw [decide_eq_false]
              intro h
              injection h with _ _ h
              subst h; exact ht2 rfl
            · repeat (first | (with_reducible refine pv_seq fun K hK => ?_) | (with_reducible refine pv_reg ?_; simp -implicitDefEqProofs only [cmpB]) | (with_reducible refine pv_draw (id := 6) [(0, 0), (1, 1), (2, 0), (3, 0), (4, 1), (5, 0), (6, 1), (7, 0), (8, 0), (9, 1), (10, 0)] (by kernel_rfl) ?_; simp -implicitDefEqProofs only [cmpB]) | ((with_reducible first | refine hK _ _ ?_ | (clear hK; refine hK _ _ ?_) | (clear hK; clear hK; refine hK _ _ ?_)); clear hK; try clear K) | (simp -implicitDefEqProofs only [g2, g3, g29, g5, hS2, hS3, eq_true hi2, eq_true ht, true_and, go_sem, seval]) | (with_reducible intro b) | (with_reducible refine And.intro ?_ ?_; · first | assumption | omega | (unfold R64; omega)))
              refine ⟨⟨i + 1, b2, b3, by omega, fun j hj => ?_, rfl, rfl, rfl, rfl, rfl⟩, by simp only [intD]; omega⟩
              rcases Nat.lt_or_ge j i with h | h
              · exact hz j h
              · obtain rfl : j = i := by omega
                exact Decidable.not_not.1 ht2
          · repeat (first | (with_reducible refine pv_seq fun K hK => ?_) | (with_reducible refine pv_reg ?_; simp -implicitDefEqProofs only [cmpB]) | (with_reducible refine pv_draw (id := 6) [(0, 0), (1, 1), (2, 0), (3, 0), (4, 1), (5, 0), (6, 1), (7, 0), (8, 0), (9, 1), (10, 0)] (by kernel_rfl) ?_; simp -implicitDefEqProofs only [cmpB]) | ((with_reducible first | refine hK _ _ ?_ | (clear hK; refine hK _ _ ?_) | (clear hK; clear hK; refine hK _ _ ?_)); clear hK; try clear K) | (simp -implicitDefEqProofs only [g2, g3, g29, g5, hS2, hS3, eq_true hi2, eq_true ht, true_and, go_sem, seval]) | (with_reducible intro b) | (with_reducible refine And.intro ?_ ?_; · first | assumption | omega | (unfold R64; omega)))
            refine J _ _ (list_ext_getD h3 fun j => ?_)
            rcases Nat.lt_or_ge j i with h | h
            · exact hz j h
            · simp [List.getD, List.getElem?_eq_none (show w.length ≤ j by omega), List.getElem?_eq_none (show w'.length ≤ j by omega)]
      · repeat (first | (with_reducible refine pv_seq fun K hK => ?_) | (with_reducible refine pv_reg ?_; simp -implicitDefEqProofs only [cmpB]) | (with_reducible refine pv_draw (id := 6) [(0, 0), (1, 1), (2, 0), (3, 0), (4, 1), (5, 0), (6, 1), (7, 0), (8, 0), (9, 1), (10, 0)] (by kernel_rfl) ?_; simp -implicitDefEqProofs only [cmpB]) | ((with_reducible first | refine hK _ _ ?_ | (clear hK; refine hK _ _ ?_) | (clear hK; clear hK; refine hK _ _ ?_)); clear hK; try clear K) | (simp -implicitDefEqProofs only [k1, k1', eq_false h3, true_and, go_sem, seval]) | (with_reducible intro b) | (with_reducible refine And.intro ?_ ?_; · first | assumption | omega | (unfold R64; omega)))
        rw [decide_eq_false]
        intro h; injection h with _ _ h; subst h; exact h3 rfl
    · repeat (first | (with_reducible refine pv_seq fun K hK => ?_) | (with_reducible refine pv_reg ?_; simp -implicitDefEqProofs only [cmpB]) | (with_reducible refine pv_draw (id := 6) [(0, 0), (1, 1), (2, 0), (3, 0), (4, 1), (5, 0), (6, 1), (7, 0), (8, 0), (9, 1), (10, 0)] (by kernel_rfl) ?_; simp -implicitDefEqProofs only [cmpB]) | ((with_reducible first | refine hK _ _ ?_ | (clear hK; refine hK _ _ ?_) | (clear hK; clear hK; refine hK _ _ ?_)); clear hK; try clear K) | (simp -implicitDefEqProofs only [k1, k1', eq_false h2, true_and, go_sem, seval]) | (with_reducible intro b) | (with_reducible refine And.intro ?_ ?_; · first | assumption | omega | (unfold R64; omega)))
      rw [decide_eq_false]
      intro h; injection h with _ h; exact h2 h
  · have k1 : (!neg == neg') = true := by cases neg <;> cases neg' <;> simp at h1 ⊢
    have k1' : (neg != neg') = true := by cases neg <;> cases neg' <;> simp at h1 ⊢
    repeat (first | (with_reducible refine pv_seq fun K hK => ?_) | (with_reducible refine pv_reg ?_; simp -implicitDefEqProofs only [cmpB]) | (with_reducible refine pv_draw (id := 6) [(0, 0), (1, 1), (2, 0), (3, 0), (4, 1), (5, 0), (6, 1), (7, 0), (8, 0), (9, 1), (10, 0)] (by kernel_rfl) ?_; simp -implicitDefEqProofs only [cmpB]) | ((with_reducible first | refine hK _ _ ?_ | (clear hK; refine hK _ _ ?_) | (clear hK; clear hK; refine hK _ _ ?_)); clear hK; try clear K) | (simp -implicitDefEqProofs only [k1, k1', true_and, go_sem, seval]) | (with_reducible intro b) | (with_reducible refine And.intro ?_ ?_; · first | assumption | omega | (unfold R64; omega)))
    rw [decide_eq_false]
    intro h; injection h with h; exact h1 h

theorem p_rSame {x y : Nu} (hl : x.w.length ≤ 1099511627776) : PC Tryd.prog 17 [NU x, NU y] fun d => d = bl (decide (x = y)) := by
  obtain ⟨neg, exp, w⟩ := x
  obtain ⟨neg', exp', w'⟩ := y
  have hl : w.length ≤ 1099511627776 := hl
  refine PC.body (args := [NU ⟨neg, exp, w⟩, NU ⟨neg', exp', w'⟩]) (rs := [.tmp 4]) mixed Tryd.func17 rfl (by kernel_rfl) (by kernel_rfl) (Nat.le_of_ble_eq_true rfl) rfl ?_
  by_cases h1 : neg = neg'
  · subst h1
    have k1 : (!neg == neg) = false := by cases neg <;> rfl
    have k1' : (neg != neg) = false := by cases neg <;> rfl
    by_cases h2 : exp = exp'
    · subst h2
      by_cases h3 : w.length = w'.length
      · have k3 : ((w.length : Int) = (w'.length : Int)) = True := eq_true (by omega)
        repeat (first | (with_reducible refine pv_seq fun K hK => ?_) | (with_reducible refine pv_reg ?_; simp -implicitDefEqProofs only [cmpB]) | (with_reducible refine pv_draw (id := 6) [(0, 0), (1, 1), (2, 0), (3, 0), (4, 1), (5, 0), (6, 1), (7, 0), (8, 0), (9, 1), (10, 0)] (by kernel_rfl) ?_; simp -implicitDefEqProofs only [cmpB]) | ((with_reducible first | refine hK _ _ ?_ | (clear hK; refine hK _ _ ?_) | (clear hK; clear hK; refine hK _ _ ?_)); clear hK; try clear K) | (simp -implicitDefEqProofs only [k1, k1', h3, true_and, go_sem, seval]) | (with_reducible intro b) | (with_reducible refine And.intro ?_ ?_; · first | assumption | omega | (unfold R64; omega)))
        have J : ∀ (e : DEnv) (S : Store), w = w' → K e S := by
          intro e S h
          repeat (first | (with_reducible refine pv_seq fun K hK => ?_) | (with_reducible refine pv_reg ?_; simp -implicitDefEqProofs only [cmpB]) | (with_reducible refine pv_draw (id := 6) [(0, 0), (1, 1), (2, 0), (3, 0), (4, 1), (5, 0), (6, 1), (7, 0), (8, 0), (9, 1), (10, 0)] (by kernel_rfl) ?_; simp -implicitDefEqProofs only [cmpB]) | ((with_reducible first | refine hK _ _ ?_ | (clear hK; refine hK _ _ ?_) | (clear hK; clear hK; refine hK _ _ ?_)); clear hK; try clear K) | (simp -implicitDefEqProofs only [k1, k1', h3, true_and, go_sem, seval]) | (with_reducible intro b) | (with_reducible refine And.intro ?_ ?_; · first | assumption | omega | (unfold R64; omega)))
          subst h; simp
        clear hK
        refine pv_loop (fun e S => ∃ (i b2 b3 : Nat), i ≤ w'.length ∧ (∀ j, j < i → w.getD j 0 = w'.getD j 0) ∧ e 2 = .ptr (.l 2) b2 0 0 3 ∧ e 3 = .ptr (.l 3) b3 0 0 3 ∧  e 5 = i64 i ∧ S (.l 2) = some ⟨b2, 3, 0, [[bl neg, i64 exp, W64 w]]⟩ ∧ S (.l 3) = some ⟨b3, 3, 0, [[bl neg, i64 exp, W64 w']]⟩) (fun e _ => w'.length - (intD (e 5)).toNat) ?_ ?_
        · exact ⟨0, _, _, Nat.zero_le _, fun j hj => by omega, rfl, rfl, (by simp -implicitDefEqProofs only [k1, k1', h3, true_and, go_sem, seval]), rfl, rfl⟩
        · rintro e S ⟨i, b2, b3, hi, hz, g2, g3,  g5, hS2, hS3⟩
          repeat (first | (with_reducible refine pv_seq fun K hK => ?_) | (with_reducible refine pv_reg ?_; simp -implicitDefEqProofs only [cmpB]) | (with_reducible refine pv_draw (id := 6) [(0, 0), (1, 1), (2, 0), (3, 0), (4, 1), (5, 0), (6, 1), (7, 0), (8, 0), (9, 1), (10, 0)] (by kernel_rfl) ?_; simp -implicitDefEqProofs only [cmpB]) | ((with_reducible first | refine hK _ _ ?_ | (clear hK; refine hK _ _ ?_) | (clear hK; clear hK; refine hK _ _ ?_)); clear hK; try clear K) | (simp -implicitDefEqProofs only [g2, g3,  g5, hS2, hS3, h3, true_and, go_sem, seval]) | (with_reducible intro b) | (with_reducible refine And.intro ?_ ?_; · first | assumption | omega | (unfold R64; omega)))
          refine pv_cdD (fun ht => ?_) (fun ht => ?_)
          · have hi2 : i < w.length := by omega
            repeat (first | (with_reducible refine pv_seq fun K hK => ?_) | (with_reducible refine pv_reg ?_; simp -implicitDefEqProofs only [cmpB]) | (with_reducible refine pv_draw (id := 6) [(0, 0), (1, 1), (2, 0), (3, 0), (4, 1), (5, 0), (6, 1), (7, 0), (8, 0), (9, 1), (10, 0)] (by kernel_rfl) ?_; simp -implicitDefEqProofs only [cmpB]) | ((with_reducible first | refine hK _ _ ?_ | (clear hK; refine hK _ _ ?_) | (clear hK; clear hK; refine hK _ _ ?_)); clear hK; try clear K) | (simp -implicitDefEqProofs only [g2, g3,  g5, hS2, hS3, eq_true hi2, eq_true ht, true_and, go_sem, seval]) | (with_reducible intro b) | (with_reducible refine And.intro ?_ ?_; · first | assumption | omega | (unfold R64; omega)))
            refine pv_cdD (fun ht2 => ?_) (fun ht2 => ?_)
            · repeat (first | (with_reducible refine pv_seq fun K hK => ?_) | (with_reducible refine pv_reg ?_; simp -implicitDefEqProofs only [cmpB]) | (with_reducible refine pv_draw (id := 6) [(0, 0), (1, 1), (2, 0), (3, 0), (4, 1), (5, 0), (6, 1), (7, 0), (8, 0), (9, 1), (10, 0)] (by kernel_rfl) ?_; simp -implicitDefEqProofs only [cmpB]) | ((with_reducible first | refine hK _ _ ?_ | (clear hK; refine hK _ _ ?_) | (clear hK; clear hK; refine hK _ _ ?_)); clear hK; try clear K) | (simp -implicitDefEqProofs only [g2, g3,  g5, hS2, hS3, eq_true hi2, eq_true ht, true_and, go_sem, seval]) | (with_reducible intro b) | (with_reducible refine And.intro ?_ ?_; · first | assumption | omega | (unfold R64; omega)))
              rw [decide_eq_false]
              intro h
              injection h with _ _ h
              subst h; exact ht2 rfl
            · repeat (first | (with_reducible refine pv_seq fun K hK => ?_) | (with_reducible refine pv_reg ?_; simp -implicitDefEqProofs only [cmpB]) | (with_reducible refine pv_draw (id := 6) [(0, 0), (1, 1), (2, 0), (3, 0), (4, 1), (5, 0), (6, 1), (7, 0), (8, 0), (9, 1), (10, 0)] (by kernel_rfl) ?_; simp -implicitDefEqProofs only [cmpB]) | ((with_reducible first | refine hK _ _ ?_ | (clear hK; refine hK _ _ ?_) | (clear hK; clear hK; refine hK _ _ ?_)); clear hK; try clear K) | (simp -implicitDefEqProofs only [g2, g3,  g5, hS2, hS3, eq_true hi2, eq_true ht, true_and, go_sem, seval]) | (with_reducible intro b) | (with_reducible refine And.intro ?_ ?_; · first | assumption | omega | (unfold R64; omega)))
              refine ⟨⟨i + 1, b2, b3, by omega, fun j hj => ?_, rfl, rfl, rfl, rfl, rfl⟩, by simp only [intD]; omega⟩
              rcases Nat.lt_or_ge j i with h | h
              · exact hz j h
              · obtain rfl : j = i := by omega
                exact Decidable.not_not.1 ht2
          · repeat (first | (with_reducible refine pv_seq fun K hK => ?_) | (with_reducible refine pv_reg ?_; simp -implicitDefEqProofs only [cmpB]) | (with_reducible refine pv_draw (id := 6) [(0, 0), (1, 1), (2, 0), (3, 0), (4, 1), (5, 0), (6, 1), (7, 0), (8, 0), (9, 1), (10, 0)] (by kernel_rfl) ?_; simp -implicitDefEqProofs only [cmpB]) | ((with_reducible first | refine hK _ _ ?_ | (clear hK; refine hK _ _ ?_) | (clear hK; clear hK; refine hK _ _ ?_)); clear hK; try clear K) | (simp -implicitDefEqProofs only [g2, g3,  g5, hS2, hS3, eq_true hi2, eq_true ht, true_and, go_sem, seval]) | (with_reducible intro b) | (with_reducible refine And.intro ?_ ?_; · first | assumption | omega | (unfold R64; omega)))
            refine J _ _ (list_ext_getD h3 fun j => ?_)
            rcases Nat.lt_or_ge j i with h | h
            · exact hz j h
            · simp [List.getD, List.getElem?_eq_none (show w.length ≤ j by omega), List.getElem?_eq_none (show w'.length ≤ j by omega)]
      · repeat (first | (with_reducible refine pv_seq fun K hK => ?_) | (with_reducible refine pv_reg ?_; simp -implicitDefEqProofs only [cmpB]) | (with_reducible refine pv_draw (id := 6) [(0, 0), (1, 1), (2, 0), (3, 0), (4, 1), (5, 0), (6, 1), (7, 0), (8, 0), (9, 1), (10, 0)] (by kernel_rfl) ?_; simp -implicitDefEqProofs only [cmpB]) | ((with_reducible first | refine hK _ _ ?_ | (clear hK; refine hK _ _ ?_) | (clear hK; clear hK; refine hK _ _ ?_)); clear hK; try clear K) | (simp -implicitDefEqProofs only [k1, k1', eq_false h3, true_and, go_sem, seval]) | (with_reducible intro b) | (with_reducible refine And.intro ?_ ?_; · first | assumption | omega | (unfold R64; omega)))
        rw [decide_eq_false]
        intro h; injection h with _ _ h; subst h; exact h3 rfl
    · repeat (first | (with_reducible refine pv_seq fun K hK => ?_) | (with_reducible refine pv_reg ?_; simp -implicitDefEqProofs only [cmpB]) | (with_reducible refine pv_draw (id := 6) [(0, 0), (1, 1), (2, 0), (3, 0), (4, 1), (5, 0), (6, 1), (7, 0), (8, 0), (9, 1), (10, 0)] (by kernel_rfl) ?_; simp -implicitDefEqProofs only [cmpB]) | ((with_reducible first | refine hK _ _ ?_ | (clear hK; refine hK _ _ ?_) | (clear hK; clear hK; refine hK _ _ ?_)); clear hK; try clear K) | (simp -implicitDefEqProofs only [k1, k1', eq_false h2, true_and, go_sem, seval]) | (with_reducible intro b) | (with_reducible refine And.intro ?_ ?_; · first | assumption | omega | (unfold R64; omega)))
      rw [decide_eq_false]
      intro h; injection h with _ h; exact h2 h
  · have k1 : (!neg == neg') = true := by cases neg <;> cases neg' <;> simp at h1 ⊢
    have k1' : (neg != neg') = true := by cases neg <;> cases neg' <;> simp at h1 ⊢
    repeat (first | (with_reducible refine pv_seq fun K hK => ?_) | (with_reducible refine pv_reg ?_; simp -implicitDefEqProofs only [cmpB]) | (with_reducible refine pv_draw (id := 6) [(0, 0), (1, 1), (2, 0), (3, 0), (4, 1), (5, 0), (6, 1), (7, 0), (8, 0), (9, 1), (10, 0)] (by kernel_rfl) ?_; simp -implicitDefEqProofs only [cmpB]) | ((with_reducible first | refine hK _ _ ?_ | (clear hK; refine hK _ _ ?_) | (clear hK; clear hK; refine hK _ _ ?_)); clear hK; try clear K) | (simp -implicitDefEqProofs only [k1, k1', true_and, go_sem, seval]) | (with_reducible intro b) | (with_reducible refine And.intro ?_ ?_; · first | assumption | omega | (unfold R64; omega)))
    rw [decide_eq_false]
    intro h; injection h with h; exact h1 h

end Go.V

/- The seat's deck: numbers drawn from a list of words. -/
import Derived.Test.YtkmoeenhboicmaaDoorC3
import Derived.Test.YtkmoeenhboicmaaDoorC5
set_option linter.unusedSimpArgs false
set_option linter.unusedVariables false
set_option maxRecDepth 100000
namespace Go.V
open Go Go.RowKit Go.Proofs

theorem p_next {k : Nm} {S : Store} {Q : D → Store → Prop} {b i : Nat} {w : List Nat} (hS : S k = some ⟨b, 2, 0, [[W64 w, i64 i]]⟩) (hb : B64 w) (hi : i ≤ 1099511627776)
    (hQ : Q (.g (.lit (.int .u64 ((w.getD i 0 : Nat) : Int)))) (updS S k (some ⟨b, 2, 0, [[W64 w, i64 ((i + 1 : Nat) : Int)]]⟩))) : PFC Tryd.prog 61 [.ptr k b 0 0 2] S Q := by
  refine PFC.body (args := [.ptr k b 0 0 2]) (rs := [.tmp 2]) mixed Tryd.func61 rfl (by kernel_rfl) (by kernel_rfl) (Nat.le_of_ble_eq_true rfl) rfl ?_
  by_cases h : i < w.length
  · have k1 : ((i : Int) < (w.length : Int)) = True := eq_true (by omega)
    repeat (first | (with_reducible refine pv_seq fun K hK => ?_) | (with_reducible refine pv_reg ?_; simp -implicitDefEqProofs only [cmpB]) | (with_reducible refine pv_draw (id := 2) [(0, 0), (1, 0), (2, 0), (3, 1), (4, 0), (5, 0), (6, 0), (7, 1), (8, 0), (9, 0)] (by kernel_rfl) ?_; simp -implicitDefEqProofs only [cmpB]) | (with_reducible refine pv_draw (id := 3) [(0, 0), (1, 0), (2, 0), (3, 1), (4, 0), (5, 0), (6, 0), (7, 1), (8, 0), (9, 1), (10, 0)] (by kernel_rfl) ?_; simp -implicitDefEqProofs only [cmpB]) | ((with_reducible first | refine hK _ _ ?_ | (clear hK; refine hK _ _ ?_) | (clear hK; clear hK; refine hK _ _ ?_)); clear hK; try clear K) | (simp -implicitDefEqProofs only [hS, k1, true_and, go_sem, seval]) | (with_reducible intro b) | (with_reducible refine And.intro ?_ ?_; · first | assumption | omega | (unfold R64; omega)))
    exact hQ
  · have k1 : ((i : Int) < (w.length : Int)) = False := eq_false (by omega)
    repeat (first | (with_reducible refine pv_seq fun K hK => ?_) | (with_reducible refine pv_reg ?_; simp -implicitDefEqProofs only [cmpB]) | (with_reducible refine pv_draw (id := 2) [(0, 0), (1, 0), (2, 0), (3, 1), (4, 0), (5, 0), (6, 0), (7, 1), (8, 0), (9, 0)] (by kernel_rfl) ?_; simp -implicitDefEqProofs only [cmpB]) | (with_reducible refine pv_draw (id := 3) [(0, 0), (1, 0), (2, 0), (3, 1), (4, 0), (5, 0), (6, 0), (7, 1), (8, 0), (9, 1), (10, 0)] (by kernel_rfl) ?_; simp -implicitDefEqProofs only [cmpB]) | ((with_reducible first | refine hK _ _ ?_ | (clear hK; refine hK _ _ ?_) | (clear hK; clear hK; refine hK _ _ ?_)); clear hK; try clear K) | (simp -implicitDefEqProofs only [hS, k1, true_and, go_sem, seval]) | (with_reducible intro b) | (with_reducible refine And.intro ?_ ?_; · first | assumption | omega | (unfold R64; omega)))
    have g : w.getD i 0 = 0 := by simp [List.getD, h]
    rw [g] at hQ
    exact hQ

theorem p_snum {neg : Bool} {w : List Nat} {e : Int} (hb : B64 w) (hl : w.length ≤ 100) (he : R64 e) : PC Tryd.prog 62 [bl neg, W64 w, i64 e] fun d => d = NU (numR (dy neg (N64 w) e)).1 := by
  have pM := p_rMake (neg := neg) (e := e) (k := 100) hb hl (by decide) he
  generalize numR (dy neg (N64 w) e) = q at *
  obtain ⟨⟨s, x, y⟩, r⟩ := q
  refine PC.body (args := [bl neg, W64 w, i64 e]) (rs := [.cell 6 24]) mixed Tryd.func62 rfl (by kernel_rfl) (by kernel_rfl) (Nat.le_of_ble_eq_true rfl) rfl ?_
  repeat (first | (with_reducible refine pv_seq fun K hK => ?_) | (with_reducible refine pv_reg ?_; simp -implicitDefEqProofs only [cmpB]) | (fail) | ((with_reducible first | refine hK _ _ ?_ | (clear hK; refine hK _ _ ?_) | (clear hK; clear hK; refine hK _ _ ?_)); clear hK; try clear K) | (simp -implicitDefEqProofs only [true_and, true_and, go_sem, seval]) | (with_reducible intro b) | (with_reducible refine And.intro ?_ ?_; · first | assumption | omega | (unfold R64; omega)))
  refine call_is pM ?_
  repeat (first | (with_reducible refine pv_seq fun K hK => ?_) | (with_reducible refine pv_reg ?_; simp -implicitDefEqProofs only [cmpB]) | (fail) | ((with_reducible first | refine hK _ _ ?_ | (clear hK; refine hK _ _ ?_) | (clear hK; clear hK; refine hK _ _ ?_)); clear hK; try clear K) | (simp -implicitDefEqProofs only [true_and, true_and, go_sem, seval]) | (with_reducible intro b) | (with_reducible refine And.intro ?_ ?_; · first | assumption | omega | (unfold R64; omega)))

def rOf (k : Nm) : Nm := if k = .r 0 0 then .l 5 else .up k
theorem rOf_inj (k k' : Nm) (h : rOf k = rOf k') : k = k' := by
  unfold rOf at h
  by_cases h1 : k = .r 0 0 <;> by_cases h2 : k' = .r 0 0
  · rw [h1, h2]
  · rw [if_pos h1, if_neg h2] at h; cases h
  · rw [if_neg h1, if_pos h2] at h; cases h
  · rw [if_neg h1, if_neg h2] at h; injection h
theorem p_Of {S : Store} {Q : D → Store → Prop} {w : List Nat} (hQ : ∀ b, Q (.ptr (.r 0 0) b 0 0 2) (updS S (.r 0 0) (some ⟨b, 2, 0, [[W64 w, i64 0]]⟩))) : PFC Tryd.prog 36 [W64 w] S Q := by
  refine PFC.bodyR rOf (fun _ => .r 0 0) rOf_inj (args := [W64 w]) (rs := [.tmp 2]) mixed Tryd.func36 rfl (by kernel_rfl) (by kernel_rfl) (Nat.le_of_ble_eq_true rfl) rfl ?_
  repeat (first | (with_reducible refine pv_seq fun K hK => ?_) | (with_reducible refine pv_reg ?_; simp -implicitDefEqProofs only [cmpB]) | (fail) | ((with_reducible first | refine hK _ _ ?_ | (clear hK; refine hK _ _ ?_) | (clear hK; clear hK; refine hK _ _ ?_)); clear hK; try clear K) | (simp -implicitDefEqProofs only [true_and, true_and, go_sem, seval]) | (with_reducible intro b) | (with_reducible refine And.intro ?_ ?_; · first | assumption | omega | (unfold R64; omega)))
  refine (congrArg (Q _) (funext fun k => ?_)).mpr (hQ _)
  by_cases h : k = .r 0 0
  · subst h; simp [rOf, updS]; rfl
  · have h2 : rOf k = .up k := if_neg h
    rw [h2]; simp [updS, upS, h]

theorem R64_small {n : Nat} (h : n < 1000000) : R64 ((n : Int) - 6) := by unfold R64; omega
theorem p_small {k : Nm} {S : Store} {Q : D → Store → Prop} {b i : Nat} {w : List Nat} (hS : S k = some ⟨b, 2, 0, [[W64 w, i64 i]]⟩) (hb : B64 w) (hi : i ≤ 1099511627776)
    (hQ : ∀ neg n e, n < 64 → -6 ≤ e → e ≤ 2 → Q (NU (numR (dy neg n e)).1) (updS S k (some ⟨b, 2, 0, [[W64 w, i64 ((i + 1 : Nat) : Int)]]⟩))) : PFC Tryd.prog 40 [.ptr k b 0 0 2] S Q := by
  refine PFC.body (args := [.ptr k b 0 0 2]) (rs := [.cell 2 24]) mixed Tryd.func40 rfl (by kernel_rfl) (by kernel_rfl) (Nat.le_of_ble_eq_true rfl) rfl ?_
  repeat (first | (with_reducible refine pv_seq fun K hK => ?_) | (with_reducible refine pv_reg ?_; simp -implicitDefEqProofs only [cmpB]) | (fail) | ((with_reducible first | refine hK _ _ ?_ | (clear hK; refine hK _ _ ?_) | (clear hK; clear hK; refine hK _ _ ?_)); clear hK; try clear K) | (simp -implicitDefEqProofs only [hS, true_and, true_and, go_sem, seval]) | (with_reducible intro b) | (with_reducible refine And.intro ?_ ?_; · first | assumption | omega | (unfold R64; omega)))
  refine p_next (i := i) (by simp -implicitDefEqProofs only [updS, upS]; exact hS) hb hi ?_
  repeat (first | (with_reducible refine pv_seq fun K hK => ?_) | (with_reducible refine pv_reg ?_; simp -implicitDefEqProofs only [cmpB]) | (fail) | ((with_reducible first | refine hK _ _ ?_ | (clear hK; refine hK _ _ ?_) | (clear hK; clear hK; refine hK _ _ ?_)); clear hK; try clear K) | (simp -implicitDefEqProofs only [hS, true_and, true_and, go_sem, seval]) | (with_reducible intro b) | (with_reducible refine And.intro ?_ ?_; · first | assumption | omega | (unfold R64; omega)))
  have hx : w.getD i 0 < 18446744073709551616 := get_lt hb (by decide) i
  generalize w.getD i 0 = x at *
  obtain ⟨e, he, h1, h2⟩ : ∃ e : Int, IntKind.i64.wrap (((x : Int).fdiv 128).tmod 9) - 6 = e ∧ -6 ≤ e ∧ e ≤ 2 := by
    refine ⟨_, rfl, ?_⟩
    have h3 : ((x : Int).fdiv 128).tmod 9 = ((x / 128 % 9 : Nat) : Int) := by
      rw [Int.fdiv_eq_ediv_of_nonneg _ (by decide), Int.tmod_eq_emod_of_nonneg (by omega)]; omega
    have h4 : x / 128 % 9 < 9 := Nat.mod_lt _ (by decide)
    rw [h3, show IntKind.i64.wrap ((x / 128 % 9 : Nat) : Int) = ((x / 128 % 9 : Nat) : Int) by simp [IntKind.wrap, IntKind.signed, IntKind.bits]; omega]
    omega
  rw [he]
  obtain ⟨m, hm, hm2⟩ : ∃ m : Nat, bitsV BinOp.and IntKind.u64 ((x / 2 : Nat) : Int) 63 = (m : Int) ∧ m < 64 := by
    exact ⟨(x / 2) &&& 63, and64_nat (x / 2) 63 (by omega) (by decide), Nat.lt_of_le_of_lt Nat.and_le_right (by decide)⟩
  rw [hm]
  refine ⟨by unfold R64; omega, ?_⟩
  refine PFC.coe ?_
  simp -implicitDefEqProofs only [hS, true_and, true_and, go_sem, seval]
  generalize decide (bitsV BinOp.and IntKind.u64 (x : Int) 1 = 1) = neg
  have pN := p_snum (neg := neg) (w := [m]) (e := e) (by intro z hz; rw [List.mem_singleton.1 hz]; omega) (by simp) (by unfold R64; omega)
  rw [show N64 [m] = m by simp [N64, nval]] at pN
  have hq := hQ neg m e hm2 h1 h2
  generalize numR (dy neg m e) = q at pN hq
  obtain ⟨⟨s, y, v⟩, r⟩ := q
  refine call_is pN ?_
  repeat (first | (with_reducible refine pv_seq fun K hK => ?_) | (with_reducible refine pv_reg ?_; simp -implicitDefEqProofs only [cmpB]) | (fail) | ((with_reducible first | refine hK _ _ ?_ | (clear hK; refine hK _ _ ?_) | (clear hK; clear hK; refine hK _ _ ?_)); clear hK; try clear K) | (simp -implicitDefEqProofs only [hS, true_and, true_and, go_sem, seval]) | (with_reducible intro b) | (with_reducible refine And.intro ?_ ?_; · first | assumption | omega | (unfold R64; omega)))
  exact hq
theorem numR_is (d : Dyadic) : ∃ d', OkD d' ∧ (numR d).1 = nuOf d' := by
  by_cases h : OkD d
  · exact ⟨d, h, by rw [numR_ok h]⟩
  · exact ⟨0, OkD.zero, by rw [numR_over h]; rfl⟩
theorem p_snumE {neg : Bool} {w : List Nat} {e : Int} (hb : B64 w) (hl : w.length ≤ 100) (he : R64 e) : ∃ d', OkD d' ∧ PC Tryd.prog 62 [bl neg, W64 w, i64 e] fun d => d = NU (nuOf d') := by
  obtain ⟨d', h1, h2⟩ := numR_is (dy neg (N64 w) e)
  exact ⟨d', h1, h2 ▸ p_snum hb hl he⟩
theorem wrap_is (z : Int) : ∃ n : Nat, IntKind.u64.wrap z = (n : Int) ∧ n < 18446744073709551616 := by
  refine ⟨(IntKind.u64.wrap z).toNat, ?_, ?_⟩ <;> simp [IntKind.wrap, IntKind.signed, IntKind.bits] <;> omega
theorem bv_is (op : BinOp) (a b : Int) : ∃ n : Nat, bitsV op .u64 a b = (n : Int) ∧ n < 18446744073709551616 := by
  unfold bitsV; split <;> exact wrap_is _
theorem wr9 (x : Nat) : ∃ f : Int, IntKind.i64.wrap (((x : Int).fdiv 1073741824).tmod 9) = f ∧ 0 ≤ f ∧ f ≤ 8 := by
  refine ⟨_, rfl, ?_⟩
  have h3 : ((x : Int).fdiv 1073741824).tmod 9 = ((x / 1073741824 % 9 : Nat) : Int) := by
    rw [Int.fdiv_eq_ediv_of_nonneg _ (by decide), Int.tmod_eq_emod_of_nonneg (by omega)]; omega
  have h4 : x / 1073741824 % 9 < 9 := Nat.mod_lt _ (by decide)
  rw [h3, show IntKind.i64.wrap ((x / 1073741824 % 9 : Nat) : Int) = ((x / 1073741824 % 9 : Nat) : Int) by simp [IntKind.wrap, IntKind.signed, IntKind.bits]; omega]
  omega
theorem p_dnum {k : Nm} {S : Store} {Q : D → Store → Prop} {b i : Nat} {w : List Nat} (hS : S k = some ⟨b, 2, 0, [[W64 w, i64 i]]⟩) (hb : B64 w) (hi : i ≤ 1000000000)
    (hQ : ∀ (d : Dyadic) (j : Nat), OkD d → j ≤ i + 4 → Q (NU (nuOf d)) (updS S k (some ⟨b, 2, 0, [[W64 w, i64 (j : Int)]]⟩))) : PFC Tryd.prog 37 [.ptr k b 0 0 2] S Q := by
  refine PFC.body (args := [.ptr k b 0 0 2]) (rs := [.cell 2 24]) mixed Tryd.func37 rfl (by kernel_rfl) (by kernel_rfl) (Nat.le_of_ble_eq_true rfl) rfl ?_
  repeat (first | (with_reducible refine pv_seq fun K hK => ?_) | (with_reducible refine pv_reg ?_; simp -implicitDefEqProofs only [cmpB]) | (fail) | ((with_reducible first | refine hK _ _ ?_ | (clear hK; refine hK _ _ ?_) | (clear hK; clear hK; refine hK _ _ ?_)); clear hK; try clear K) | (simp -implicitDefEqProofs only [hS, true_and, true_and, go_sem, seval]) | (with_reducible intro b) | (with_reducible refine And.intro ?_ ?_; · first | assumption | omega | (unfold R64; omega)))
  refine p_next (i := i) (by simp -implicitDefEqProofs only [updS, upS]; exact hS) hb (by omega) ?_
  repeat (first | (with_reducible refine pv_seq fun K hK => ?_) | (with_reducible refine pv_reg ?_; simp -implicitDefEqProofs only [cmpB]) | (fail) | ((with_reducible first | refine hK _ _ ?_ | (clear hK; refine hK _ _ ?_) | (clear hK; clear hK; refine hK _ _ ?_)); clear hK; try clear K) | (simp -implicitDefEqProofs only [hS, true_and, true_and, go_sem, seval]) | (with_reducible intro b) | (with_reducible refine And.intro ?_ ?_; · first | assumption | omega | (unfold R64; omega)))
  have hx : w.getD i 0 < 18446744073709551616 := get_lt hb (by decide) i
  generalize w.getD i 0 = x at *
  obtain ⟨e, he, h1, h2⟩ : ∃ e : Int, IntKind.i64.wrap (((x / 2 : Nat) : Int).tmod 41) - 32 = e ∧ -32 ≤ e ∧ e ≤ 8 := by
    refine ⟨_, rfl, ?_⟩
    have h3 : ((x / 2 : Nat) : Int).tmod 41 = ((x / 2 % 41 : Nat) : Int) := by
      rw [Int.tmod_eq_emod_of_nonneg (by omega)]; omega
    have h4 : x / 2 % 41 < 41 := Nat.mod_lt _ (by decide)
    rw [h3, show IntKind.i64.wrap ((x / 2 % 41 : Nat) : Int) = ((x / 2 % 41 : Nat) : Int) by simp [IntKind.wrap, IntKind.signed, IntKind.bits]; omega]
    omega
  rw [he]
  generalize decide (bitsV BinOp.and IntKind.u64 (x : Int) 1 = 1) = neg
  refine ⟨by unfold R64; omega, ?_⟩
  repeat (first | (with_reducible refine pv_seq fun K hK => ?_) | (with_reducible refine pv_reg ?_; simp -implicitDefEqProofs only [cmpB]) | (fail) | ((with_reducible first | refine hK _ _ ?_ | (clear hK; refine hK _ _ ?_) | (clear hK; clear hK; refine hK _ _ ?_)); clear hK; try clear K) | (simp -implicitDefEqProofs only [hS, true_and, true_and, go_sem, seval]) | (with_reducible intro b) | (with_reducible refine And.intro ?_ ?_; · first | assumption | omega | (unfold R64; omega)))
  refine pv_cdD (fun ht => ?_) (fun ht => ?_)
  · repeat (first | (with_reducible refine pv_seq fun K hK => ?_) | (with_reducible refine pv_reg ?_; simp -implicitDefEqProofs only [cmpB]) | (fail) | ((with_reducible first | refine hK _ _ ?_ | (clear hK; refine hK _ _ ?_) | (clear hK; clear hK; refine hK _ _ ?_)); clear hK; try clear K) | (simp -implicitDefEqProofs only [hS, true_and, true_and, go_sem, seval]) | (with_reducible intro b) | (with_reducible refine And.intro ?_ ?_; · first | assumption | omega | (unfold R64; omega)))
    obtain ⟨n, hn, gn⟩ := bv_is .and ((x : Int).fdiv 1024) 31
    rw [hn]
    refine PFC.coe ?_
    simp -implicitDefEqProofs only [hS, true_and, true_and, go_sem, seval]
    obtain ⟨d, hd, pN⟩ := p_snumE (neg := neg) (w := [n]) (e := e) (by intro z hz; simp at hz; omega) (by simp) (by unfold R64; omega)
    have hq := hQ d (i + 1) hd (by omega)
    generalize nuOf d = q at pN hq
    obtain ⟨s, y, v⟩ := q
    refine call_is pN ?_
    repeat (first | (with_reducible refine pv_seq fun K hK => ?_) | (with_reducible refine pv_reg ?_; simp -implicitDefEqProofs only [cmpB]) | (fail) | ((with_reducible first | refine hK _ _ ?_ | (clear hK; refine hK _ _ ?_) | (clear hK; clear hK; refine hK _ _ ?_)); clear hK; try clear K) | (simp -implicitDefEqProofs only [hS, true_and, true_and, go_sem, seval]) | (with_reducible intro b) | (with_reducible refine And.intro ?_ ?_; · first | assumption | omega | (unfold R64; omega)))
    exact hq
  · repeat (first | (with_reducible refine pv_seq fun K hK => ?_) | (with_reducible refine pv_reg ?_; simp -implicitDefEqProofs only [cmpB]) | (fail) | ((with_reducible first | refine hK _ _ ?_ | (clear hK; refine hK _ _ ?_) | (clear hK; clear hK; refine hK _ _ ?_)); clear hK; try clear K) | (simp -implicitDefEqProofs only [hS, true_and, true_and, go_sem, seval]) | (with_reducible intro b) | (with_reducible refine And.intro ?_ ?_; · first | assumption | omega | (unfold R64; omega)))
    refine pv_cdD (fun ht => ?_) (fun ht => ?_)
    · repeat (first | (with_reducible refine pv_seq fun K hK => ?_) | (with_reducible refine pv_reg ?_; simp -implicitDefEqProofs only [cmpB]) | (fail) | ((with_reducible first | refine hK _ _ ?_ | (clear hK; refine hK _ _ ?_) | (clear hK; clear hK; refine hK _ _ ?_)); clear hK; try clear K) | (simp -implicitDefEqProofs only [hS, true_and, true_and, go_sem, seval]) | (with_reducible intro b) | (with_reducible refine And.intro ?_ ?_; · first | assumption | omega | (unfold R64; omega)))
      refine p_next (i := i + 1) (by simp -implicitDefEqProofs only [updS, upS, if_true]; rfl) hb (by omega) ?_
      repeat (first | (with_reducible refine pv_seq fun K hK => ?_) | (with_reducible refine pv_reg ?_; simp -implicitDefEqProofs only [cmpB]) | (fail) | ((with_reducible first | refine hK _ _ ?_ | (clear hK; refine hK _ _ ?_) | (clear hK; clear hK; refine hK _ _ ?_)); clear hK; try clear K) | (simp -implicitDefEqProofs only [hS, true_and, true_and, go_sem, seval]) | (with_reducible intro b) | (with_reducible refine And.intro ?_ ?_; · first | assumption | omega | (unfold R64; omega)))
      refine p_next (i := i + 2) (by simp -implicitDefEqProofs only [updS, upS, if_true]; rfl) hb (by omega) ?_
      repeat (first | (with_reducible refine pv_seq fun K hK => ?_) | (with_reducible refine pv_reg ?_; simp -implicitDefEqProofs only [cmpB]) | (fail) | ((with_reducible first | refine hK _ _ ?_ | (clear hK; refine hK _ _ ?_) | (clear hK; clear hK; refine hK _ _ ?_)); clear hK; try clear K) | (simp -implicitDefEqProofs only [hS, true_and, true_and, go_sem, seval]) | (with_reducible intro b) | (with_reducible refine And.intro ?_ ?_; · first | assumption | omega | (unfold R64; omega)))
      refine p_next (i := i + 3) (by simp -implicitDefEqProofs only [updS, upS, if_true]; rfl) hb (by omega) ?_
      repeat (first | (with_reducible refine pv_seq fun K hK => ?_) | (with_reducible refine pv_reg ?_; simp -implicitDefEqProofs only [cmpB]) | (fail) | ((with_reducible first | refine hK _ _ ?_ | (clear hK; refine hK _ _ ?_) | (clear hK; clear hK; refine hK _ _ ?_)); clear hK; try clear K) | (simp -implicitDefEqProofs only [hS, true_and, true_and, go_sem, seval]) | (with_reducible intro b) | (with_reducible refine And.intro ?_ ?_; · first | assumption | omega | (unfold R64; omega)))
      have g1 := get_lt hb (by decide) (i + 1)
      have g2 := get_lt hb (by decide) (i + 2)
      have g3 := get_lt hb (by decide) (i + 3)
      refine PFC.coe ?_
      simp -implicitDefEqProofs only [hS, true_and, true_and, go_sem, seval]
      obtain ⟨d, hd, pN⟩ := p_snumE (neg := neg) (w := [w.getD (i + 1) 0, w.getD (i + 2) 0, w.getD (i + 3) 0]) (e := e - 100) (by intro z hz; simp only [List.mem_cons, List.not_mem_nil, or_false] at hz; rcases hz with rfl | rfl | rfl <;> assumption) (by simp) (by unfold R64; omega)
      have hq := hQ d (i + 4) hd (by omega)
      generalize nuOf d = q at pN hq
      obtain ⟨s, y, v⟩ := q
      refine call_is pN ?_
      repeat (first | (with_reducible refine pv_seq fun K hK => ?_) | (with_reducible refine pv_reg ?_; simp -implicitDefEqProofs only [cmpB]) | (fail) | ((with_reducible first | refine hK _ _ ?_ | (clear hK; refine hK _ _ ?_) | (clear hK; clear hK; refine hK _ _ ?_)); clear hK; try clear K) | (simp -implicitDefEqProofs only [hS, true_and, true_and, go_sem, seval]) | (with_reducible intro b) | (with_reducible refine And.intro ?_ ?_; · first | assumption | omega | (unfold R64; omega)))
      simp only [updS_updS]
      exact hq
    · repeat (first | (with_reducible refine pv_seq fun K hK => ?_) | (with_reducible refine pv_reg ?_; simp -implicitDefEqProofs only [cmpB]) | (fail) | ((with_reducible first | refine hK _ _ ?_ | (clear hK; refine hK _ _ ?_) | (clear hK; clear hK; refine hK _ _ ?_)); clear hK; try clear K) | (simp -implicitDefEqProofs only [hS, true_and, true_and, go_sem, seval]) | (with_reducible intro b) | (with_reducible refine And.intro ?_ ?_; · first | assumption | omega | (unfold R64; omega)))
      refine pv_cdD (fun ht => ?_) (fun ht => ?_)
      · repeat (first | (with_reducible refine pv_seq fun K hK => ?_) | (with_reducible refine pv_reg ?_; simp -implicitDefEqProofs only [cmpB]) | (fail) | ((with_reducible first | refine hK _ _ ?_ | (clear hK; refine hK _ _ ?_) | (clear hK; clear hK; refine hK _ _ ?_)); clear hK; try clear K) | (simp -implicitDefEqProofs only [hS, true_and, true_and, go_sem, seval]) | (with_reducible intro b) | (with_reducible refine And.intro ?_ ?_; · first | assumption | omega | (unfold R64; omega)))
        obtain ⟨n, hn, gn⟩ := bv_is .or 9223372036854775808 ((x : Int).fdiv 2048)
        rw [hn]
        obtain ⟨m, hm, gm⟩ := bv_is .or 9223372036854775808 (x : Int)
        rw [hm]
        refine PFC.coe ?_
        simp -implicitDefEqProofs only [hS, true_and, true_and, go_sem, seval]
        obtain ⟨d, hd, pN⟩ := p_snumE (neg := neg) (w := [n, m]) (e := e) (by intro z hz; simp at hz; omega) (by simp) (by unfold R64; omega)
        have hq := hQ d (i + 1) hd (by omega)
        generalize nuOf d = q at pN hq
        obtain ⟨s, y, v⟩ := q
        refine call_is pN ?_
        repeat (first | (with_reducible refine pv_seq fun K hK => ?_) | (with_reducible refine pv_reg ?_; simp -implicitDefEqProofs only [cmpB]) | (fail) | ((with_reducible first | refine hK _ _ ?_ | (clear hK; refine hK _ _ ?_) | (clear hK; clear hK; refine hK _ _ ?_)); clear hK; try clear K) | (simp -implicitDefEqProofs only [hS, true_and, true_and, go_sem, seval]) | (with_reducible intro b) | (with_reducible refine And.intro ?_ ?_; · first | assumption | omega | (unfold R64; omega)))
        exact hq
      · repeat (first | (with_reducible refine pv_seq fun K hK => ?_) | (with_reducible refine pv_reg ?_; simp -implicitDefEqProofs only [cmpB]) | (fail) | ((with_reducible first | refine hK _ _ ?_ | (clear hK; refine hK _ _ ?_) | (clear hK; clear hK; refine hK _ _ ?_)); clear hK; try clear K) | (simp -implicitDefEqProofs only [hS, true_and, true_and, go_sem, seval]) | (with_reducible intro b) | (with_reducible refine And.intro ?_ ?_; · first | assumption | omega | (unfold R64; omega)))
        refine pv_cdD (fun ht => ?_) (fun ht => ?_)
        · repeat (first | (with_reducible refine pv_seq fun K hK => ?_) | (with_reducible refine pv_reg ?_; simp -implicitDefEqProofs only [cmpB]) | (fail) | ((with_reducible first | refine hK _ _ ?_ | (clear hK; refine hK _ _ ?_) | (clear hK; clear hK; refine hK _ _ ?_)); clear hK; try clear K) | (simp -implicitDefEqProofs only [hS, true_and, true_and, go_sem, seval]) | (with_reducible intro b) | (with_reducible refine And.intro ?_ ?_; · first | assumption | omega | (unfold R64; omega)))
          refine pv_cdD (fun ht => ?_) (fun ht => ?_)
          · repeat (first | (with_reducible refine pv_seq fun K hK => ?_) | (with_reducible refine pv_reg ?_; simp -implicitDefEqProofs only [cmpB]) | (fail) | ((with_reducible first | refine hK _ _ ?_ | (clear hK; refine hK _ _ ?_) | (clear hK; clear hK; refine hK _ _ ?_)); clear hK; try clear K) | (simp -implicitDefEqProofs only [hS, true_and, true_and, go_sem, seval]) | (with_reducible intro b) | (with_reducible refine And.intro ?_ ?_; · first | assumption | omega | (unfold R64; omega)))
            obtain ⟨f, hf, f1, f2⟩ : ∃ f : Int, IntKind.i64.wrap (((x : Int).fdiv 1073741824).tmod 9) = f ∧ 0 ≤ f ∧ f ≤ 8 := wr9 x
            rw [hf]
            obtain ⟨n, hn, gn⟩ := bv_is .and ((x : Int).fdiv 1048576) 15
            rw [hn]
            obtain ⟨m, hm, gm⟩ := bv_is .or 1 (n : Int)
            rw [hm]
            refine ⟨by unfold R64; omega, ?_⟩
            refine PFC.coe ?_
            simp -implicitDefEqProofs only [hS, true_and, true_and, go_sem, seval]
            obtain ⟨d, hd, pN⟩ := p_snumE (neg := neg) (w := [m]) (e := 65536 - f) (by intro z hz; simp at hz; omega) (by simp) (by unfold R64; omega)
            have hq := hQ d (i + 1) hd (by omega)
            generalize nuOf d = q at pN hq
            obtain ⟨s, y, v⟩ := q
            refine call_is pN ?_
            repeat (first | (with_reducible refine pv_seq fun K hK => ?_) | (with_reducible refine pv_reg ?_; simp -implicitDefEqProofs only [cmpB]) | (fail) | ((with_reducible first | refine hK _ _ ?_ | (clear hK; refine hK _ _ ?_) | (clear hK; clear hK; refine hK _ _ ?_)); clear hK; try clear K) | (simp -implicitDefEqProofs only [hS, true_and, true_and, go_sem, seval]) | (with_reducible intro b) | (with_reducible refine And.intro ?_ ?_; · first | assumption | omega | (unfold R64; omega)))
            exact hq
          · repeat (first | (with_reducible refine pv_seq fun K hK => ?_) | (with_reducible refine pv_reg ?_; simp -implicitDefEqProofs only [cmpB]) | (fail) | ((with_reducible first | refine hK _ _ ?_ | (clear hK; refine hK _ _ ?_) | (clear hK; clear hK; refine hK _ _ ?_)); clear hK; try clear K) | (simp -implicitDefEqProofs only [hS, true_and, true_and, go_sem, seval]) | (with_reducible intro b) | (with_reducible refine And.intro ?_ ?_; · first | assumption | omega | (unfold R64; omega)))
            refine pv_cdD (fun ht => ?_) (fun ht => ?_)
            · repeat (first | (with_reducible refine pv_seq fun K hK => ?_) | (with_reducible refine pv_reg ?_; simp -implicitDefEqProofs only [cmpB]) | (fail) | ((with_reducible first | refine hK _ _ ?_ | (clear hK; refine hK _ _ ?_) | (clear hK; clear hK; refine hK _ _ ?_)); clear hK; try clear K) | (simp -implicitDefEqProofs only [hS, true_and, true_and, go_sem, seval]) | (with_reducible intro b) | (with_reducible refine And.intro ?_ ?_; · first | assumption | omega | (unfold R64; omega)))
              obtain ⟨f, hf, f1, f2⟩ : ∃ f : Int, IntKind.i64.wrap (((x : Int).fdiv 1073741824).tmod 9) = f ∧ 0 ≤ f ∧ f ≤ 8 := wr9 x
              rw [hf]
              obtain ⟨n, hn, gn⟩ := bv_is .and ((x : Int).fdiv 1048576) 15
              rw [hn]
              obtain ⟨m, hm, gm⟩ := bv_is .or 1 (n : Int)
              rw [hm]
              refine ⟨by unfold R64; omega, ?_⟩
              refine PFC.coe ?_
              simp -implicitDefEqProofs only [hS, true_and, true_and, go_sem, seval]
              obtain ⟨d, hd, pN⟩ := p_snumE (neg := neg) (w := [m]) (e := f - 65536) (by intro z hz; simp at hz; omega) (by simp) (by unfold R64; omega)
              have hq := hQ d (i + 1) hd (by omega)
              generalize nuOf d = q at pN hq
              obtain ⟨s, y, v⟩ := q
              refine call_is pN ?_
              repeat (first | (with_reducible refine pv_seq fun K hK => ?_) | (with_reducible refine pv_reg ?_; simp -implicitDefEqProofs only [cmpB]) | (fail) | ((with_reducible first | refine hK _ _ ?_ | (clear hK; refine hK _ _ ?_) | (clear hK; clear hK; refine hK _ _ ?_)); clear hK; try clear K) | (simp -implicitDefEqProofs only [hS, true_and, true_and, go_sem, seval]) | (with_reducible intro b) | (with_reducible refine And.intro ?_ ?_; · first | assumption | omega | (unfold R64; omega)))
              exact hq
            · repeat (first | (with_reducible refine pv_seq fun K hK => ?_) | (with_reducible refine pv_reg ?_; simp -implicitDefEqProofs only [cmpB]) | (fail) | ((with_reducible first | refine hK _ _ ?_ | (clear hK; refine hK _ _ ?_) | (clear hK; clear hK; refine hK _ _ ?_)); clear hK; try clear K) | (simp -implicitDefEqProofs only [hS, true_and, true_and, go_sem, seval]) | (with_reducible intro b) | (with_reducible refine And.intro ?_ ?_; · first | assumption | omega | (unfold R64; omega)))
              refine ⟨Int.tmod_nonneg _ (by rw [Int.fdiv_eq_ediv_of_nonneg _ (by decide)]; omega), fun b => ?_⟩
              generalize ((x : Int).fdiv 1048576).tmod 64 = sh
              obtain ⟨n, hn, gn⟩ := wrap_is (1 * 2 ^ (if sh.toNat ≤ 64 then sh.toNat else 64))
              rw [hn]
              refine PFC.coe ?_
              simp -implicitDefEqProofs only [hS, true_and, true_and, go_sem, seval]
              obtain ⟨d, hd, pN⟩ := p_snumE (neg := neg) (w := [n]) (e := e) (by intro z hz; simp at hz; omega) (by simp) (by unfold R64; omega)
              have hq := hQ d (i + 1) hd (by omega)
              generalize nuOf d = q at pN hq
              obtain ⟨s, y, v⟩ := q
              refine call_is pN ?_
              repeat (first | (with_reducible refine pv_seq fun K hK => ?_) | (with_reducible refine pv_reg ?_; simp -implicitDefEqProofs only [cmpB]) | (fail) | ((with_reducible first | refine hK _ _ ?_ | (clear hK; refine hK _ _ ?_) | (clear hK; clear hK; refine hK _ _ ?_)); clear hK; try clear K) | (simp -implicitDefEqProofs only [hS, true_and, true_and, go_sem, seval]) | (with_reducible intro b) | (with_reducible refine And.intro ?_ ?_; · first | assumption | omega | (unfold R64; omega)))
              exact hq
        · repeat (first | (with_reducible refine pv_seq fun K hK => ?_) | (with_reducible refine pv_reg ?_; simp -implicitDefEqProofs only [cmpB]) | (fail) | ((with_reducible first | refine hK _ _ ?_ | (clear hK; refine hK _ _ ?_) | (clear hK; clear hK; refine hK _ _ ?_)); clear hK; try clear K) | (simp -implicitDefEqProofs only [hS, true_and, true_and, go_sem, seval]) | (with_reducible intro b) | (with_reducible refine And.intro ?_ ?_; · first | assumption | omega | (unfold R64; omega)))
          refine p_next (i := i + 1) (by simp -implicitDefEqProofs only [updS, upS, if_true]; rfl) hb (by omega) ?_
          repeat (first | (with_reducible refine pv_seq fun K hK => ?_) | (with_reducible refine pv_reg ?_; simp -implicitDefEqProofs only [cmpB]) | (fail) | ((with_reducible first | refine hK _ _ ?_ | (clear hK; refine hK _ _ ?_) | (clear hK; clear hK; refine hK _ _ ?_)); clear hK; try clear K) | (simp -implicitDefEqProofs only [hS, true_and, true_and, go_sem, seval]) | (with_reducible intro b) | (with_reducible refine And.intro ?_ ?_; · first | assumption | omega | (unfold R64; omega)))
          generalize IntKind.u64.wrap ((w.getD (i + 1) 0 : Nat) * 1048576) = sh
          obtain ⟨n, hn, gn⟩ := bv_is .or ((x : Int).fdiv 1024) sh
          rw [hn]
          refine PFC.coe ?_
          simp -implicitDefEqProofs only [hS, true_and, true_and, go_sem, seval]
          obtain ⟨d, hd, pN⟩ := p_snumE (neg := neg) (w := [n]) (e := e - 30) (by intro z hz; simp at hz; omega) (by simp) (by unfold R64; omega)
          have hq := hQ d (i + 2) hd (by omega)
          generalize nuOf d = q at pN hq
          obtain ⟨s, y, v⟩ := q
          refine call_is pN ?_
          repeat (first | (with_reducible refine pv_seq fun K hK => ?_) | (with_reducible refine pv_reg ?_; simp -implicitDefEqProofs only [cmpB]) | (fail) | ((with_reducible first | refine hK _ _ ?_ | (clear hK; refine hK _ _ ?_) | (clear hK; clear hK; refine hK _ _ ?_)); clear hK; try clear K) | (simp -implicitDefEqProofs only [hS, true_and, true_and, go_sem, seval]) | (with_reducible intro b) | (with_reducible refine And.intro ?_ ?_; · first | assumption | omega | (unfold R64; omega)))
          simp only [updS_updS]
          exact hq
end Go.V

/- The walks of package nat: Shift, byWord, Div. -/
import Derived.Test.YtilnmcabjkpohaaDoorN7
import Derived.Test.YtilnmcabjkpohaaDoorL2
set_option linter.unusedSimpArgs false
set_option linter.unusedVariables false

namespace Go.V
open Go Go.RowKit Go.Proofs

/-- A number by 2^n, n clipped. -/
def shiftN (a : Nat) (n : Int) : Nat := if n < 0 then a / 2 ^ (min (-n).toNat 262144) else a * 2 ^ (min n.toNat 262144)


theorem nat_Shift {w : World} {va : Value} {xs : List Nat} {n : Int} (hx : U64s w.heap va xs) (hlx : xs.length ≤ 1099511627776) :
    FC Tryd.prog 31 #[va, .int .i64 n] w fun r w' => Ext w w' ∧ O64 w' w.heap.size r (D64 (shiftN (N64 xs) n)) := by
  refine FC.body (l := [va, .int .i64 n]) (rs := [.tmp 4]) mixed Tryd.func31 rfl (by kernel_rfl) (by kernel_rfl) (Nat.le_of_ble_eq_true rfl) rfl ?_
  with_reducible refine vc_seq fun K hK => ?_
  with_reducible refine vc_reg ?_
  simp only [go_sem, opsV, undef, binV_int, binV_eqB, binV_neB, pbin_int, pbin_eqB, pbin_neB, intV, arith, unV_not, unV_neg, Nat.reduceBEq, Nat.reduceEqDiff, ↓reduceIte, reduceCtorEq, Int.reduceToNat, Nat.reduceLeDiff, Int.reduceLE, Int.reduceLT, Int.reducePow, Int.reduceNeg, Nat.reduceAdd, Nat.reduceMul, Nat.reducePow, Tryd.underlying22]
  refine hK _ _ ?_
  clear hK K
  with_reducible refine vc_seq fun K hK => ?_
  with_reducible refine vc_seq fun K hK => ?_
  refine vc_reg ?_
  try simp only [go_sem, opsV, undef, binV_int, binV_eqB, binV_neB, pbin_int, pbin_eqB, pbin_neB, intV, arith, unV_not, unV_neg, Nat.reduceBEq, Nat.reduceEqDiff, ↓reduceIte, reduceCtorEq, Int.reduceToNat, Nat.reduceLeDiff, Int.reduceLE, Int.reduceLT, Int.reducePow, Int.reduceNeg, Nat.reduceAdd, Nat.reduceMul, Nat.reducePow, Tryd.underlying22]
  refine hK _ _ ?_
  clear hK K
  refine vc_condD (by simp only [go_sem, opsV, undef, binV_int, binV_eqB, binV_neB, pbin_int, pbin_eqB, pbin_neB, intV, arith, unV_not, unV_neg, Nat.reduceBEq, Nat.reduceEqDiff, ↓reduceIte, reduceCtorEq, Int.reduceToNat, Nat.reduceLeDiff, Int.reduceLE, Int.reduceLT, Int.reducePow, Int.reduceNeg, Nat.reduceAdd, Nat.reduceMul, Nat.reducePow, Tryd.underlying22] <;> rfl) (fun ht => ?_) (fun ht => ?_)
  · with_reducible refine vc_seq fun K hK => ?_
    refine vc_reg ?_
    try simp only [go_sem, opsV, undef, binV_int, binV_eqB, binV_neB, pbin_int, pbin_eqB, pbin_neB, intV, arith, unV_not, unV_neg, Nat.reduceBEq, Nat.reduceEqDiff, ↓reduceIte, reduceCtorEq, Int.reduceToNat, Nat.reduceLeDiff, Int.reduceLE, Int.reduceLT, Int.reducePow, Int.reduceNeg, Nat.reduceAdd, Nat.reduceMul, Nat.reducePow, Tryd.underlying22]
    obtain ⟨m, hm⟩ : ∃ m : Nat, m = min (-n).toNat 262144 := ⟨_, rfl⟩
    have e : 0 - (if n < -262144 then (-262144 : Int) else n) = (m : Int) := by split <;> omega
    rw [e]
    refine ⟨(by unfold R64; omega), ?_⟩
    refine (nat_Down (n := m) hx hlx (by omega)).mono ?_
    rintro r w1 ⟨hE, h⟩
    try simp only [go_sem, opsV, undef, binV_int, binV_eqB, binV_neB, pbin_int, pbin_eqB, pbin_neB, intV, arith, unV_not, unV_neg, Nat.reduceBEq, Nat.reduceEqDiff, ↓reduceIte, reduceCtorEq, Int.reduceToNat, Nat.reduceLeDiff, Int.reduceLE, Int.reduceLT, Int.reducePow, Int.reduceNeg, Nat.reduceAdd, Nat.reduceMul, Nat.reducePow, Tryd.underlying22]
    refine hK _ _ ?_
    clear hK K
    refine vc_ret ?_
    simp only [retV, resL, one, go_sem, opsV, undef, binV_int, binV_eqB, binV_neB, pbin_int, pbin_eqB, pbin_neB, intV, arith, unV_not, unV_neg, Nat.reduceBEq, Nat.reduceEqDiff, ↓reduceIte, reduceCtorEq, Int.reduceToNat, Nat.reduceLeDiff, Int.reduceLE, Int.reduceLT, Int.reducePow, Int.reduceNeg, Nat.reduceAdd, Nat.reduceMul, Nat.reducePow, Tryd.underlying22]
    unfold shiftN
    rw [if_pos ht, ← hm]
    exact ⟨hE, h⟩
  · refine vc_skip ?_
    refine hK _ _ ?_
    clear hK K
    with_reducible refine vc_seq fun K hK => ?_
    refine vc_reg ?_
    try simp only [go_sem, opsV, undef, binV_int, binV_eqB, binV_neB, pbin_int, pbin_eqB, pbin_neB, intV, arith, unV_not, unV_neg, Nat.reduceBEq, Nat.reduceEqDiff, ↓reduceIte, reduceCtorEq, Int.reduceToNat, Nat.reduceLeDiff, Int.reduceLE, Int.reduceLT, Int.reducePow, Int.reduceNeg, Nat.reduceAdd, Nat.reduceMul, Nat.reducePow, Tryd.underlying22]
    obtain ⟨m, hm⟩ : ∃ m : Nat, m = min n.toNat 262144 := ⟨_, rfl⟩
    have e : (if (262144 : Int) < n then (262144 : Int) else n) = (m : Int) := by split <;> omega
    rw [e]
    refine (nat_Up (n := m) hx hlx (by omega)).mono ?_
    rintro r w1 ⟨hE, h⟩
    try simp only [go_sem, opsV, undef, binV_int, binV_eqB, binV_neB, pbin_int, pbin_eqB, pbin_neB, intV, arith, unV_not, unV_neg, Nat.reduceBEq, Nat.reduceEqDiff, ↓reduceIte, reduceCtorEq, Int.reduceToNat, Nat.reduceLeDiff, Int.reduceLE, Int.reduceLT, Int.reducePow, Int.reduceNeg, Nat.reduceAdd, Nat.reduceMul, Nat.reducePow, Tryd.underlying22]
    refine hK _ _ ?_
    clear hK K
    refine vc_ret ?_
    simp only [retV, resL, one, go_sem, opsV, undef, binV_int, binV_eqB, binV_neB, pbin_int, pbin_eqB, pbin_neB, intV, arith, unV_not, unV_neg, Nat.reduceBEq, Nat.reduceEqDiff, ↓reduceIte, reduceCtorEq, Int.reduceToNat, Nat.reduceLeDiff, Int.reduceLE, Int.reduceLT, Int.reducePow, Int.reduceNeg, Nat.reduceAdd, Nat.reduceMul, Nat.reducePow, Tryd.underlying22]
    unfold shiftN
    rw [if_neg ht, ← hm]
    exact ⟨hE, h⟩

theorem nat_byWord_l0 {w2 : World} {so sa : Value} {A : List Nat} (ha : U64s w2.heap sa A) {N : Env → World → Prop} {X : Nat → Env → World → Prop} {R : Env → World → Prop} {d : Nat} (hL : A.length ≤ 1099511627776) (hd0 : 0 < d) (hd : d < 18446744073709551616)
    (J : ∀ (e : Env) (w' : World) (os : List Nat) (r : Nat), r < d → N64 A = d * N64 os + r → O64 w' w2.heap.size so os → Ext w2 w' → e 6 = so → e 7 = .int .u64 (r : Int) → X 0 e w')
    (e : Env) (w' : World) (os : List Nat) (hol : os.length = A.length)
    (own : O64 w' w2.heap.size so os) (hB : Ext w2 w') (g0 : e 0 = sa) (g1 : e 1 = .int .u64 (d : Int)) (g6 : e 6 = so) (g7 : e 7 = .int .u64 0) (g8 : e 8 = .int .i64 ((A.length : Int) - 1)) :
    vc Tryd.prog (nthLoop Tryd.f43 0) N X R e w' := by
  change vc _ (.loop _) _ _ _ _ _
  refine vc_loop (fun e w' => ∃ (os : List Nat) (r k : Nat), k ≤ A.length ∧ os.length = A.length ∧ r < d ∧ nval 18446744073709551616 (A.drop k) = d * nval 18446744073709551616 (os.drop k) + r ∧ O64 w' w2.heap.size so os ∧ Ext w2 w' ∧
      e 0 = sa ∧ e 1 = .int .u64 (d : Int) ∧ e 6 = so ∧ e 7 = .int .u64 (r : Int) ∧ e 8 = .int .i64 ((k : Int) - 1)) (fun e _ => (intOf (e 8) + 1).toNat) ?_ ?_
  · refine ⟨os, 0, A.length, Nat.le_refl _, hol, hd0, ?_, own, hB, g0, g1, g6, g7, g8⟩
    rw [nval_drop_all (Nat.le_refl _), nval_drop_all (by omega)]; rfl
  · clear own hol hB g0 g1 g6 g7 g8
    clear os e w'
    rintro e w' ⟨os, r, k, hk, hol, hr, hsum, own, hB, g0, g1, g6, g7, g8⟩
    have hmz : (intOf (e 8) + 1).toNat = k := by rw [g8]; simp only [intOf]; omega
    refine vc_seq fun K1 hK1 => ?_
    refine vc_seq fun K2 hK2 => ?_
    rcases Nat.eq_zero_or_pos k with rfl | hp
    · have hneg : ¬ ((0 : Int) ≤ ((0 : Nat) : Int) - 1) := by omega
      refine vc_reg ?_
      try simp only [go_sem, opsV, undef, binV_int, binV_eqB, binV_neB, pbin_int, pbin_eqB, pbin_neB, intV, arith, unV_not, unV_neg, Nat.reduceBEq, Nat.reduceEqDiff, ↓reduceIte, reduceCtorEq, Int.reduceToNat, Nat.reduceLeDiff, Int.reduceLE, Int.reduceLT, Int.reducePow, Int.reduceNeg, Nat.reduceAdd, Nat.reduceMul, Nat.reducePow, Tryd.underlying22, g0, g1, g6, g7, g8, hneg]
      refine hK2 _ _ ?_
      refine vc_condF (by simp only [go_sem, opsV, undef, binV_int, binV_eqB, binV_neB, pbin_int, pbin_eqB, pbin_neB, intV, arith, unV_not, unV_neg, Nat.reduceBEq, Nat.reduceEqDiff, ↓reduceIte, reduceCtorEq, Int.reduceToNat, Nat.reduceLeDiff, Int.reduceLE, Int.reduceLT, Int.reducePow, Int.reduceNeg, Nat.reduceAdd, Nat.reduceMul, Nat.reducePow, Tryd.underlying22, g0, g1, g6, g7, g8, hneg] <;> rfl) ?_
      refine vc_exit ?_
      rw [List.drop_zero, List.drop_zero] at hsum
      exact J _ _ os r hr hsum own hB (by try simp only [go_sem, opsV, undef, binV_int, binV_eqB, binV_neB, pbin_int, pbin_eqB, pbin_neB, intV, arith, unV_not, unV_neg, Nat.reduceBEq, Nat.reduceEqDiff, ↓reduceIte, reduceCtorEq, Int.reduceToNat, Nat.reduceLeDiff, Int.reduceLE, Int.reduceLT, Int.reducePow, Int.reduceNeg, Nat.reduceAdd, Nat.reduceMul, Nat.reducePow, Tryd.underlying22, g0, g1, g6, g7, g8, hneg]) (by try simp only [go_sem, opsV, undef, binV_int, binV_eqB, binV_neB, pbin_int, pbin_eqB, pbin_neB, intV, arith, unV_not, unV_neg, Nat.reduceBEq, Nat.reduceEqDiff, ↓reduceIte, reduceCtorEq, Int.reduceToNat, Nat.reduceLeDiff, Int.reduceLE, Int.reduceLT, Int.reducePow, Int.reduceNeg, Nat.reduceAdd, Nat.reduceMul, Nat.reducePow, Tryd.underlying22, g0, g1, g6, g7, g8, hneg])
    · obtain ⟨m, rfl⟩ : ∃ m, k = m + 1 := ⟨k - 1, by omega⟩
      rw [cast_succ_sub] at g8
      obtain ⟨bd, hib, hlb⟩ := (ha.up hB).get (k := .i64) (i := m) (by omega)
      have hx := ha.lt (by decide) m
      refine vc_reg ?_
      try simp only [go_sem, opsV, undef, binV_int, binV_eqB, binV_neB, pbin_int, pbin_eqB, pbin_neB, intV, arith, unV_not, unV_neg, Nat.reduceBEq, Nat.reduceEqDiff, ↓reduceIte, reduceCtorEq, Int.reduceToNat, Nat.reduceLeDiff, Int.reduceLE, Int.reduceLT, Int.reducePow, Int.reduceNeg, Nat.reduceAdd, Nat.reduceMul, Nat.reducePow, Tryd.underlying22, g0, g1, g6, g7, g8]
      refine hK2 _ _ ?_
      clear hK2
      refine vc_condT (by simp only [go_sem, opsV, undef, binV_int, binV_eqB, binV_neB, pbin_int, pbin_eqB, pbin_neB, intV, arith, unV_not, unV_neg, Nat.reduceBEq, Nat.reduceEqDiff, ↓reduceIte, reduceCtorEq, Int.reduceToNat, Nat.reduceLeDiff, Int.reduceLE, Int.reduceLT, Int.reducePow, Int.reduceNeg, Nat.reduceAdd, Nat.reduceMul, Nat.reducePow, Tryd.underlying22, g0, g1, g6, g7, g8] <;> rfl) ?_
      refine vc_skip ?_
      refine hK1 _ _ ?_
      clear hK1
      refine vc_seq fun K1 hK1 => ?_
      refine vc_block ?_
      refine vc_reg ?_
      try simp only [go_sem, opsV, undef, binV_int, binV_eqB, binV_neB, pbin_int, pbin_eqB, pbin_neB, intV, arith, unV_not, unV_neg, Nat.reduceBEq, Nat.reduceEqDiff, ↓reduceIte, reduceCtorEq, Int.reduceToNat, Nat.reduceLeDiff, Int.reduceLE, Int.reduceLT, Int.reducePow, Int.reduceNeg, Nat.reduceAdd, Nat.reduceMul, Nat.reducePow, Tryd.underlying22, g0, g1, g6, g7, g8]
      refine ⟨bd, hib, _, hlb _ (Ext.refl _), ?_⟩
      refine div64 r (A.getD m 0) d hr hx hd fun w3 hE3 => ?_
      have hq : (r * 18446744073709551616 + A.getD m 0) / d < 18446744073709551616 := by
        rw [Nat.div_lt_iff_lt_mul hd0]
        have : (r + 1) * 18446744073709551616 ≤ d * 18446744073709551616 := Nat.mul_le_mul_right _ hr
        rw [Nat.add_mul] at this
        rw [Nat.mul_comm _ d]; omega
      have hr' : (r * 18446744073709551616 + A.getD m 0) % d < d := Nat.mod_lt _ hd0
      have hqr := Nat.div_add_mod (r * 18446744073709551616 + A.getD m 0) d
      generalize (r * 18446744073709551616 + A.getD m 0) / d = q at *
      generalize (r * 18446744073709551616 + A.getD m 0) % d = r' at *
      obtain ⟨ad, hix, hld, hst⟩ := (own.up hE3).at T64 S64 (ki := .i64) (i := m) (by omega)
      obtain ⟨w'', h1, h2, h3, h4⟩ := hst q hq
      try simp only [go_sem, opsV, undef, binV_int, binV_eqB, binV_neB, pbin_int, pbin_eqB, pbin_neB, intV, arith, unV_not, unV_neg, Nat.reduceBEq, Nat.reduceEqDiff, ↓reduceIte, reduceCtorEq, Int.reduceToNat, Nat.reduceLeDiff, Int.reduceLE, Int.reduceLT, Int.reducePow, Int.reduceNeg, Nat.reduceAdd, Nat.reduceMul, Nat.reducePow, Tryd.underlying22, g0, g1, g6, g7, g8]
      refine ⟨ad, hix, w'', h1, ?_⟩
      refine hK1 _ _ ?_
      refine vc_reg ?_
      try simp only [go_sem, opsV, undef, binV_int, binV_eqB, binV_neB, pbin_int, pbin_eqB, pbin_neB, intV, arith, unV_not, unV_neg, Nat.reduceBEq, Nat.reduceEqDiff, ↓reduceIte, reduceCtorEq, Int.reduceToNat, Nat.reduceLeDiff, Int.reduceLE, Int.reduceLT, Int.reducePow, Int.reduceNeg, Nat.reduceAdd, Nat.reduceMul, Nat.reducePow, Tryd.underlying22, g0, g1, g6, g7, g8]
      refine ⟨(by unfold R64; omega), ⟨os.set m q, r', m, by omega, by rw [List.length_set]; exact hol, hr', ?_, h2, h4 _ _ (hB.trans' hE3) (Nat.le_refl _), ?_⟩, ?_⟩
      · rw [nval_drop (xs := A) (i := m) (by omega), nval_drop (xs := os.set m q) (i := m) (by rw [List.length_set]; omega), hsum, getD_set, if_pos ⟨rfl, by omega⟩, List.drop_set_of_lt (by omega)]
        have e1 : 18446744073709551616 * (d * nval 18446744073709551616 (os.drop (m + 1)) + r) = d * (18446744073709551616 * nval 18446744073709551616 (os.drop (m + 1))) + r * 18446744073709551616 := by
          rw [Nat.mul_add, Nat.mul_left_comm, Nat.mul_comm r]
        rw [e1, Nat.mul_add]
        omega
      · try simp only [go_sem, opsV, undef, binV_int, binV_eqB, binV_neB, pbin_int, pbin_eqB, pbin_neB, intV, arith, unV_not, unV_neg, Nat.reduceBEq, Nat.reduceEqDiff, ↓reduceIte, reduceCtorEq, Int.reduceToNat, Nat.reduceLeDiff, Int.reduceLE, Int.reduceLT, Int.reducePow, Int.reduceNeg, Nat.reduceAdd, Nat.reduceMul, Nat.reducePow, Tryd.underlying22, g0, g1, g6, g7, g8]
      · (try rw [hmz])
        simp only [intOf]; omega

set_option maxHeartbeats 1000000 in
theorem nat_byWord {w : World} {va : Value} {A : List Nat} {d : Nat} (ha : U64s w.heap va A) (hlx : A.length ≤ 1099511627776) (hd0 : 0 < d) (hd : d < 18446744073709551616) :
    FC Tryd.prog 43 #[va, .int .u64 (d : Int)] w fun r w' => Ext w w' ∧ ∃ q, r = .tuple [q, .int .u64 ((N64 A % d : Nat) : Int)].toArray ∧ O64 w' w.heap.size q (D64 (N64 A / d)) := by
  refine FC.body (l := [va, .int .u64 (d : Int)]) (rs := [.tmp 4, .tmp 5]) mixed Tryd.func43 rfl (by kernel_rfl) (by kernel_rfl) (Nat.le_of_ble_eq_true rfl) rfl ?_
  with_reducible refine vc_seq fun K hK => ?_
  with_reducible refine vc_reg ?_
  simp only [go_sem, opsV, undef, binV_int, binV_eqB, binV_neB, pbin_int, pbin_eqB, pbin_neB, intV, arith, unV_not, unV_neg, Nat.reduceBEq, Nat.reduceEqDiff, ↓reduceIte, reduceCtorEq, Int.reduceToNat, Nat.reduceLeDiff, Int.reduceLE, Int.reduceLT, Int.reducePow, Int.reduceNeg, Nat.reduceAdd, Nat.reduceMul, Nat.reducePow, Tryd.underlying22]
  refine hK _ _ ?_
  clear hK K
  with_reducible refine vc_seq fun K hK => ?_
  refine vc_reg ?_
  try simp only [go_sem, opsV, undef, binV_int, binV_eqB, binV_neB, pbin_int, pbin_eqB, pbin_neB, intV, arith, unV_not, unV_neg, Nat.reduceBEq, Nat.reduceEqDiff, ↓reduceIte, reduceCtorEq, Int.reduceToNat, Nat.reduceLeDiff, Int.reduceLE, Int.reduceLT, Int.reducePow, Int.reduceNeg, Nat.reduceAdd, Nat.reduceMul, Nat.reducePow, Tryd.underlying22]
  refine ⟨_, ha.len, ?_⟩
  obtain ⟨b, w3, hmk, hnew⟩ := make_any (w := w) T64 (kl := .i64) (kc := .i64) (n := A.length) (by omega) (by omega)
  refine ⟨_, w3, hmk, ?_⟩
  refine hK _ _ ?_
  clear hK K
  have hB2 : Ext w w3 := hnew.ext
  have own : O64 w3 w.heap.size (.slice (some ⟨b, 0, none⟩) (A.length) (A.length)) (List.replicate (A.length) 0) := own_zeros hnew (by omega)
  have ha' := ha.up hB2
  clear hmk hnew
  with_reducible refine vc_seq fun K hK => ?_
  with_reducible refine vc_seq fun K hK => ?_
  refine vc_reg ?_
  try simp only [go_sem, opsV, undef, binV_int, binV_eqB, binV_neB, pbin_int, pbin_eqB, pbin_neB, intV, arith, unV_not, unV_neg, Nat.reduceBEq, Nat.reduceEqDiff, ↓reduceIte, reduceCtorEq, Int.reduceToNat, Nat.reduceLeDiff, Int.reduceLE, Int.reduceLT, Int.reducePow, Int.reduceNeg, Nat.reduceAdd, Nat.reduceMul, Nat.reducePow, Tryd.underlying22]
  refine ⟨_, ha'.len, (by unfold R64; omega), ?_⟩
  refine hK _ _ ?_
  clear hK K
  refine vc_block ?_
  refine nat_byWord_l0 (so := .slice (some ⟨b, 0, none⟩) (A.length) (A.length)) ha (by omega) hd0 hd (fun e w' os r hr hn own hB g6 g7 => ?_) _ w3 _ (by simp) own hB2 ?_ ?_ ?_ ?_ ?_
  · simp only [↓reduceIte]
    refine hK _ _ ?_
    clear hK K
    with_reducible refine vc_seq fun K hK => ?_
    with_reducible refine vc_reg ?_
    try simp only [go_sem, opsV, undef, binV_int, binV_eqB, binV_neB, pbin_int, pbin_eqB, pbin_neB, intV, arith, unV_not, unV_neg, Nat.reduceBEq, Nat.reduceEqDiff, ↓reduceIte, reduceCtorEq, Int.reduceToNat, Nat.reduceLeDiff, Int.reduceLE, Int.reduceLT, Int.reducePow, Int.reduceNeg, Nat.reduceAdd, Nat.reduceMul, Nat.reducePow, g6, g7]
    refine (nat_cut own.ws).mono ?_
    rintro v w5 ⟨hE5, rfl, hv⟩
    try simp only [go_sem, opsV, undef, binV_int, binV_eqB, binV_neB, pbin_int, pbin_eqB, pbin_neB, intV, arith, unV_not, unV_neg, Nat.reduceBEq, Nat.reduceEqDiff, ↓reduceIte, reduceCtorEq, Int.reduceToNat, Nat.reduceLeDiff, Int.reduceLE, Int.reduceLT, Int.reducePow, Int.reduceNeg, Nat.reduceAdd, Nat.reduceMul, Nat.reducePow, g6, g7]
    refine hK _ _ ?_
    clear hK K
    refine vc_ret ?_
    simp only [retV, resL, one, go_sem, opsV, undef, binV_int, binV_eqB, binV_neB, pbin_int, pbin_eqB, pbin_neB, intV, arith, unV_not, unV_neg, Nat.reduceBEq, Nat.reduceEqDiff, ↓reduceIte, reduceCtorEq, Int.reduceToNat, Nat.reduceLeDiff, Int.reduceLE, Int.reduceLT, Int.reducePow, Int.reduceNeg, Nat.reduceAdd, Nat.reduceMul, Nat.reducePow, g6, g7]
    have o2 := (own.digs two64).up hE5
    have hd : N64 os = N64 A / d := by
      rw [hn, Nat.add_comm, Nat.add_mul_div_left _ _ hd0, Nat.div_eq_of_lt hr, Nat.zero_add]
    have hm : N64 A % d = r := by rw [hn, Nat.mul_add_mod, Nat.mod_eq_of_lt hr]
    rw [show nval 18446744073709551616 os = N64 A / d from hd] at o2
    rw [hd, hm]
    exact ⟨hB.trans' hE5, _, rfl, o2⟩
  all_goals try simp only [go_sem, opsV, undef, binV_int, binV_eqB, binV_neB, pbin_int, pbin_eqB, pbin_neB, intV, arith, unV_not, unV_neg, Nat.reduceBEq, Nat.reduceEqDiff, ↓reduceIte, reduceCtorEq, Int.reduceToNat, Nat.reduceLeDiff, Int.reduceLE, Int.reduceLT, Int.reducePow, Int.reduceNeg, Nat.reduceAdd, Nat.reduceMul, Nat.reducePow, Tryd.underlying22]

/-- What byWords does, for the walk of Div. -/
def ByWords : Prop := ∀ (w : World) (va vb : Value) (A B : List Nat), U64s w.heap va A → U64s w.heap vb B → A.length ≤ 1099511627776 → NoTail A → NoTail B → 2 ≤ B.length → N64 B ≤ N64 A →
  FC Tryd.prog 44 #[va, vb] w fun r w' => Ext w w' ∧ ∃ q t, r = .tuple [q, t].toArray ∧ O64 w' w.heap.size q (D64 (N64 A / N64 B)) ∧ O64 w' w.heap.size t (D64 (N64 A % N64 B))

set_option maxHeartbeats 1000000 in
theorem nat_DivH {w : World} {va vb : Value} {xs ys : List Nat} (hx : U64s w.heap va xs) (hy : U64s w.heap vb ys) (hlx : xs.length ≤ 1099511627776) (hly : ys.length ≤ 1099511627776) (hW : (D64 (N64 ys)).length ≤ 1 ∨ ByWords) :
    FC Tryd.prog 27 #[va, vb] w fun r w' => Ext w w' ∧ ((N64 ys = 0 ∧ r = .tuple [.slice none 0 0, .slice none 0 0, .bool false].toArray) ∨
      (0 < N64 ys ∧ ∃ q t, r = .tuple [q, t, .bool true].toArray ∧ O64 w' w.heap.size q (D64 (N64 xs / N64 ys)) ∧ O64 w' w.heap.size t (D64 (N64 xs % N64 ys)))) := by
  have hda := digs_le hx.2
  have hdb := digs_le hy.2
  refine FC.body (l := [va, vb]) (rs := [.tmp 4, .tmp 5, .tmp 6]) mixed Tryd.func27 rfl (by kernel_rfl) (by kernel_rfl) (Nat.le_of_ble_eq_true rfl) rfl ?_
  with_reducible refine vc_seq fun K hK => ?_
  with_reducible refine vc_reg ?_
  simp only [go_sem, opsV, undef, binV_int, binV_eqB, binV_neB, pbin_int, pbin_eqB, pbin_neB, intV, arith, unV_not, unV_neg, Nat.reduceBEq, Nat.reduceEqDiff, ↓reduceIte, reduceCtorEq, Int.reduceToNat, Nat.reduceLeDiff, Int.reduceLE, Int.reduceLT, Int.reducePow, Int.reduceNeg, Nat.reduceAdd, Nat.reduceMul, Nat.reducePow, Tryd.underlying22]
  refine hK _ _ ?_
  clear hK K
  with_reducible refine vc_seq fun K hK => ?_
  refine vc_reg ?_
  try simp only [go_sem, opsV, undef, binV_int, binV_eqB, binV_neB, pbin_int, pbin_eqB, pbin_neB, intV, arith, unV_not, unV_neg, Nat.reduceBEq, Nat.reduceEqDiff, ↓reduceIte, reduceCtorEq, Int.reduceToNat, Nat.reduceLeDiff, Int.reduceLE, Int.reduceLT, Int.reducePow, Int.reduceNeg, Nat.reduceAdd, Nat.reduceMul, Nat.reducePow, Tryd.underlying22]
  refine (nat_cut hx).mono ?_
  rintro ra w1 ⟨hE1, hra, ha⟩
  try simp only [go_sem, opsV, undef, binV_int, binV_eqB, binV_neB, pbin_int, pbin_eqB, pbin_neB, intV, arith, unV_not, unV_neg, Nat.reduceBEq, Nat.reduceEqDiff, ↓reduceIte, reduceCtorEq, Int.reduceToNat, Nat.reduceLeDiff, Int.reduceLE, Int.reduceLT, Int.reducePow, Int.reduceNeg, Nat.reduceAdd, Nat.reduceMul, Nat.reducePow, Tryd.underlying22]
  refine (nat_cut (hy.up hE1)).mono ?_
  rintro rb w2 ⟨hE2, hrb, hb⟩
  have ha := ha.up hE2
  have hE := hE1.trans' hE2
  clear hra hrb
  try simp only [go_sem, opsV, undef, binV_int, binV_eqB, binV_neB, pbin_int, pbin_eqB, pbin_neB, intV, arith, unV_not, unV_neg, Nat.reduceBEq, Nat.reduceEqDiff, ↓reduceIte, reduceCtorEq, Int.reduceToNat, Nat.reduceLeDiff, Int.reduceLE, Int.reduceLT, Int.reducePow, Int.reduceNeg, Nat.reduceAdd, Nat.reduceMul, Nat.reducePow, Tryd.underlying22]
  refine hK _ _ ?_
  clear hK K
  have hnA : N64 (D64 (N64 xs)) = N64 xs := nval_digs two64 _
  have hnB : N64 (D64 (N64 ys)) = N64 ys := nval_digs two64 _
  have htA : NoTail (D64 (N64 xs)) := digs_noTail two64 _
  have htB : NoTail (D64 (N64 ys)) := digs_noTail two64 _
  generalize hA : D64 (N64 xs) = A at *
  generalize hBB : D64 (N64 ys) = B at *
  with_reducible refine vc_seq fun K hK => ?_
  refine vc_block ?_
  with_reducible refine vc_seq fun K1 hK1 => ?_
  refine vc_reg ?_
  try simp only [go_sem, opsV, undef, binV_int, binV_eqB, binV_neB, pbin_int, pbin_eqB, pbin_neB, intV, arith, unV_not, unV_neg, Nat.reduceBEq, Nat.reduceEqDiff, ↓reduceIte, reduceCtorEq, Int.reduceToNat, Nat.reduceLeDiff, Int.reduceLE, Int.reduceLT, Int.reducePow, Int.reduceNeg, Nat.reduceAdd, Nat.reduceMul, Nat.reducePow, Tryd.underlying22]
  refine ⟨_, hb.len, ?_⟩
  try simp only [go_sem, opsV, undef, binV_int, binV_eqB, binV_neB, pbin_int, pbin_eqB, pbin_neB, intV, arith, unV_not, unV_neg, Nat.reduceBEq, Nat.reduceEqDiff, ↓reduceIte, reduceCtorEq, Int.reduceToNat, Nat.reduceLeDiff, Int.reduceLE, Int.reduceLT, Int.reducePow, Int.reduceNeg, Nat.reduceAdd, Nat.reduceMul, Nat.reducePow, Tryd.underlying22]
  refine hK1 _ _ ?_
  clear hK1
  refine vc_condD (by simp only [go_sem, opsV, undef, binV_int, binV_eqB, binV_neB, pbin_int, pbin_eqB, pbin_neB, intV, arith, unV_not, unV_neg, Nat.reduceBEq, Nat.reduceEqDiff, ↓reduceIte, reduceCtorEq, Int.reduceToNat, Nat.reduceLeDiff, Int.reduceLE, Int.reduceLT, Int.reducePow, Int.reduceNeg, Nat.reduceAdd, Nat.reduceMul, Nat.reducePow, Tryd.underlying22] <;> rfl) (fun hB0 => ?_) (fun hB0 => ?_)
  · clear hK
    have h0 : N64 ys = 0 := by rw [← hnB, List.eq_nil_of_length_eq_zero hB0]; rfl
    with_reducible refine vc_seq fun K1 hK1 => ?_
    refine vc_reg ?_
    try simp only [go_sem, opsV, undef, binV_int, binV_eqB, binV_neB, pbin_int, pbin_eqB, pbin_neB, intV, arith, unV_not, unV_neg, Nat.reduceBEq, Nat.reduceEqDiff, ↓reduceIte, reduceCtorEq, Int.reduceToNat, Nat.reduceLeDiff, Int.reduceLE, Int.reduceLT, Int.reducePow, Int.reduceNeg, Nat.reduceAdd, Nat.reduceMul, Nat.reducePow, Tryd.underlying22]
    refine hK1 _ _ ?_
    refine vc_ret ?_
    simp only [retV, resL, one, go_sem, opsV, undef, binV_int, binV_eqB, binV_neB, pbin_int, pbin_eqB, pbin_neB, intV, arith, unV_not, unV_neg, Nat.reduceBEq, Nat.reduceEqDiff, ↓reduceIte, reduceCtorEq, Int.reduceToNat, Nat.reduceLeDiff, Int.reduceLE, Int.reduceLT, Int.reducePow, Int.reduceNeg, Nat.reduceAdd, Nat.reduceMul, Nat.reducePow, Tryd.underlying22]
    first | exact ⟨hE, .inl ⟨h0, rfl⟩⟩ | exact ⟨hE, .inl h0⟩
  have hpos : 0 < N64 ys := by
    rcases Nat.eq_zero_or_pos (N64 ys) with h | h
    · have : B = [] := by rw [← hBB, h]; exact digs_zero _
      rw [this] at hB0; simp at hB0
    · exact h
  with_reducible refine vc_seq fun K1 hK1 => ?_
  refine vc_reg ?_
  try simp only [go_sem, opsV, undef, binV_int, binV_eqB, binV_neB, pbin_int, pbin_eqB, pbin_neB, intV, arith, unV_not, unV_neg, Nat.reduceBEq, Nat.reduceEqDiff, ↓reduceIte, reduceCtorEq, Int.reduceToNat, Nat.reduceLeDiff, Int.reduceLE, Int.reduceLT, Int.reducePow, Int.reduceNeg, Nat.reduceAdd, Nat.reduceMul, Nat.reducePow, Tryd.underlying22]
  refine (nat_Cmp ha hb (by omega) (by omega)).mono ?_
  rw [hnA, hnB]
  rintro rc w3 ⟨hE3, rfl⟩
  have ha := ha.up hE3
  have hb := hb.up hE3
  have hE := hE.trans' hE3
  clear hE3
  try simp only [go_sem, opsV, undef, binV_int, binV_eqB, binV_neB, pbin_int, pbin_eqB, pbin_neB, intV, arith, unV_not, unV_neg, Nat.reduceBEq, Nat.reduceEqDiff, ↓reduceIte, reduceCtorEq, Int.reduceToNat, Nat.reduceLeDiff, Int.reduceLE, Int.reduceLT, Int.reducePow, Int.reduceNeg, Nat.reduceAdd, Nat.reduceMul, Nat.reducePow, Tryd.underlying22]
  refine hK1 _ _ ?_
  clear hK1
  refine vc_condD (by simp only [go_sem, opsV, undef, binV_int, binV_eqB, binV_neB, pbin_int, pbin_eqB, pbin_neB, intV, arith, unV_not, unV_neg, Nat.reduceBEq, Nat.reduceEqDiff, ↓reduceIte, reduceCtorEq, Int.reduceToNat, Nat.reduceLeDiff, Int.reduceLE, Int.reduceLT, Int.reducePow, Int.reduceNeg, Nat.reduceAdd, Nat.reduceMul, Nat.reducePow, Tryd.underlying22] <;> rfl) (fun ht => ?_) (fun ht => ?_)
  · clear hK
    have hlt : N64 xs < N64 ys := by
      unfold cmpI at ht
      split at ht
      · omega
      · split at ht <;> omega
    with_reducible refine vc_seq fun K1 hK1 => ?_
    refine vc_reg ?_
    try simp only [go_sem, opsV, undef, binV_int, binV_eqB, binV_neB, pbin_int, pbin_eqB, pbin_neB, intV, arith, unV_not, unV_neg, Nat.reduceBEq, Nat.reduceEqDiff, ↓reduceIte, reduceCtorEq, Int.reduceToNat, Nat.reduceLeDiff, Int.reduceLE, Int.reduceLT, Int.reducePow, Int.reduceNeg, Nat.reduceAdd, Nat.reduceMul, Nat.reducePow, Tryd.underlying22]
    refine (nat_TrimO ha (by omega)).mono ?_
    rw [hnA, hA]
    rintro rt w4 ⟨hE4, ht4⟩
    try simp only [go_sem, opsV, undef, binV_int, binV_eqB, binV_neB, pbin_int, pbin_eqB, pbin_neB, intV, arith, unV_not, unV_neg, Nat.reduceBEq, Nat.reduceEqDiff, ↓reduceIte, reduceCtorEq, Int.reduceToNat, Nat.reduceLeDiff, Int.reduceLE, Int.reduceLT, Int.reducePow, Int.reduceNeg, Nat.reduceAdd, Nat.reduceMul, Nat.reducePow, Tryd.underlying22]
    refine hK1 _ _ ?_
    refine vc_ret ?_
    simp only [retV, resL, one, go_sem, opsV, undef, binV_int, binV_eqB, binV_neB, pbin_int, pbin_eqB, pbin_neB, intV, arith, unV_not, unV_neg, Nat.reduceBEq, Nat.reduceEqDiff, ↓reduceIte, reduceCtorEq, Int.reduceToNat, Nat.reduceLeDiff, Int.reduceLE, Int.reduceLT, Int.reducePow, Int.reduceNeg, Nat.reduceAdd, Nat.reduceMul, Nat.reducePow, Tryd.underlying22]
    refine ⟨hE.trans' hE4, .inr ⟨hpos, _, _, rfl, ?_, ?_⟩⟩
    · rw [Nat.div_eq_of_lt hlt, show D64 0 = [] from digs_zero _]
      exact ⟨⟨rfl, .inl ⟨rfl, rfl⟩⟩, by simp, by simp⟩
    · rw [Nat.mod_eq_of_lt hlt, hA]
      exact ht4.base hE.size
  have hge : N64 ys ≤ N64 xs := by
    unfold cmpI at ht
    split at ht
    · omega
    · split at ht <;> omega
  with_reducible refine vc_seq fun K1 hK1 => ?_
  refine vc_reg ?_
  try simp only [go_sem, opsV, undef, binV_int, binV_eqB, binV_neB, pbin_int, pbin_eqB, pbin_neB, intV, arith, unV_not, unV_neg, Nat.reduceBEq, Nat.reduceEqDiff, ↓reduceIte, reduceCtorEq, Int.reduceToNat, Nat.reduceLeDiff, Int.reduceLE, Int.reduceLT, Int.reducePow, Int.reduceNeg, Nat.reduceAdd, Nat.reduceMul, Nat.reducePow, Tryd.underlying22]
  refine ⟨_, hb.len, ?_⟩
  try simp only [go_sem, opsV, undef, binV_int, binV_eqB, binV_neB, pbin_int, pbin_eqB, pbin_neB, intV, arith, unV_not, unV_neg, Nat.reduceBEq, Nat.reduceEqDiff, ↓reduceIte, reduceCtorEq, Int.reduceToNat, Nat.reduceLeDiff, Int.reduceLE, Int.reduceLT, Int.reducePow, Int.reduceNeg, Nat.reduceAdd, Nat.reduceMul, Nat.reducePow, Tryd.underlying22]
  refine hK1 _ _ ?_
  clear hK1
  refine vc_condD (by simp only [go_sem, opsV, undef, binV_int, binV_eqB, binV_neB, pbin_int, pbin_eqB, pbin_neB, intV, arith, unV_not, unV_neg, Nat.reduceBEq, Nat.reduceEqDiff, ↓reduceIte, reduceCtorEq, Int.reduceToNat, Nat.reduceLeDiff, Int.reduceLE, Int.reduceLT, Int.reducePow, Int.reduceNeg, Nat.reduceAdd, Nat.reduceMul, Nat.reducePow, Tryd.underlying22] <;> rfl) (fun hB1 => ?_) (fun hB1 => ?_)
  · clear hK
    obtain ⟨d, rfl⟩ := List.length_eq_one_iff.1 (show B.length = 1 by omega)
    have hd : d = N64 ys := by rw [← hnB]; simp [nval]
    obtain ⟨bd, hib, hlb⟩ := hb.get (k := .i64) (i := 0) (by simp)
    have hd2 : d < 18446744073709551616 := hb.2 d (by simp)
    with_reducible refine vc_seq fun K1 hK1 => ?_
    refine vc_reg ?_
    try simp only [go_sem, opsV, undef, binV_int, binV_eqB, binV_neB, pbin_int, pbin_eqB, pbin_neB, intV, arith, unV_not, unV_neg, Nat.reduceBEq, Nat.reduceEqDiff, ↓reduceIte, reduceCtorEq, Int.reduceToNat, Nat.reduceLeDiff, Int.reduceLE, Int.reduceLT, Int.reducePow, Int.reduceNeg, Nat.reduceAdd, Nat.reduceMul, Nat.reducePow, Tryd.underlying22]
    refine ⟨bd, hib, _, hlb _ (Ext.refl _), ?_⟩
    refine (nat_byWord (d := d) ha (by omega) (by omega) hd2).mono ?_
    rw [hnA, hd]
    rintro r w4 ⟨hE4, q, rfl, hq⟩
    try simp only [go_sem, opsV, undef, binV_int, binV_eqB, binV_neB, pbin_int, pbin_eqB, pbin_neB, intV, arith, unV_not, unV_neg, Nat.reduceBEq, Nat.reduceEqDiff, ↓reduceIte, reduceCtorEq, Int.reduceToNat, Nat.reduceLeDiff, Int.reduceLE, Int.reduceLT, Int.reducePow, Int.reduceNeg, Nat.reduceAdd, Nat.reduceMul, Nat.reducePow, Tryd.underlying22]
    refine hK1 _ _ ?_
    clear hK1
    with_reducible refine vc_seq fun K1 hK1 => ?_
    refine vc_reg ?_
    try simp only [go_sem, opsV, undef, binV_int, binV_eqB, binV_neB, pbin_int, pbin_eqB, pbin_neB, intV, arith, unV_not, unV_neg, Nat.reduceBEq, Nat.reduceEqDiff, ↓reduceIte, reduceCtorEq, Int.reduceToNat, Nat.reduceLeDiff, Int.reduceLE, Int.reduceLT, Int.reducePow, Int.reduceNeg, Nat.reduceAdd, Nat.reduceMul, Nat.reducePow, Tryd.underlying22]
    obtain ⟨b2, w5, hs, hn⟩ := slice_lit (w := w4) T64 [.int .u64 ((N64 xs % N64 ys : Nat) : Int)] (by simp [Value.cells]) (by simp)
    refine ⟨_, w5, hs, ?_⟩
    have hml : N64 xs % N64 ys < 18446744073709551616 := by rw [← hd]; exact Nat.lt_trans (Nat.mod_lt _ (by omega)) hd2
    have own : O64 w5 w4.heap.size (.slice (some ⟨b2, 0, none⟩) 1 1) [N64 xs % N64 ys] := by
      have := own_row (w := w5) hn.row (n := 1) (cap := 1) (by simp [Value.cells]) (Nat.le_refl _) (by omega)
      refine ⟨own_base (by simpa [wc, Value.cells] using this) hn.fresh, by simpa using hml, by simp⟩
    have hE5 := hn.ext
    refine (nat_cut own.ws).mono ?_
    rintro v w6 ⟨hE6, rfl, hv⟩
    try simp only [go_sem, opsV, undef, binV_int, binV_eqB, binV_neB, pbin_int, pbin_eqB, pbin_neB, intV, arith, unV_not, unV_neg, Nat.reduceBEq, Nat.reduceEqDiff, ↓reduceIte, reduceCtorEq, Int.reduceToNat, Nat.reduceLeDiff, Int.reduceLE, Int.reduceLT, Int.reducePow, Int.reduceNeg, Nat.reduceAdd, Nat.reduceMul, Nat.reducePow, Tryd.underlying22]
    refine hK1 _ _ ?_
    refine vc_ret ?_
    simp only [retV, resL, one, go_sem, opsV, undef, binV_int, binV_eqB, binV_neB, pbin_int, pbin_eqB, pbin_neB, intV, arith, unV_not, unV_neg, Nat.reduceBEq, Nat.reduceEqDiff, ↓reduceIte, reduceCtorEq, Int.reduceToNat, Nat.reduceLeDiff, Int.reduceLE, Int.reduceLT, Int.reducePow, Int.reduceNeg, Nat.reduceAdd, Nat.reduceMul, Nat.reducePow, Tryd.underlying22]
    have o2 := (own.digs two64).up hE6
    rw [show nval 18446744073709551616 [N64 xs % N64 ys] = N64 xs % N64 ys by simp [nval]] at o2
    rw [show N64 [N64 xs % N64 ys] = N64 xs % N64 ys by simp [nval]]
    exact ⟨((hE.trans' hE4).trans' hE5).trans' hE6, .inr ⟨hpos, _, _, rfl, ((hq.up hE5).up hE6).base hE.size, o2.base (hE.trans' hE4).size⟩⟩
  · refine vc_skip ?_
    refine hK _ _ ?_
    clear hK K
    have hW : ByWords := by
      rcases hW with h | h
      · omega
      · exact h
    with_reducible refine vc_seq fun K hK => ?_
    refine vc_reg ?_
    try simp only [go_sem, opsV, undef, binV_int, binV_eqB, binV_neB, pbin_int, pbin_eqB, pbin_neB, intV, arith, unV_not, unV_neg, Nat.reduceBEq, Nat.reduceEqDiff, ↓reduceIte, reduceCtorEq, Int.reduceToNat, Nat.reduceLeDiff, Int.reduceLE, Int.reduceLT, Int.reducePow, Int.reduceNeg, Nat.reduceAdd, Nat.reduceMul, Nat.reducePow, Tryd.underlying22]
    refine (hW w3 ra rb A B ha hb (by omega) htA htB (by omega) (by rw [hnA, hnB]; exact hge)).mono ?_
    rw [hnA, hnB]
    rintro r w4 ⟨hE4, q, t, rfl, hq, ht⟩
    try simp only [go_sem, opsV, undef, binV_int, binV_eqB, binV_neB, pbin_int, pbin_eqB, pbin_neB, intV, arith, unV_not, unV_neg, Nat.reduceBEq, Nat.reduceEqDiff, ↓reduceIte, reduceCtorEq, Int.reduceToNat, Nat.reduceLeDiff, Int.reduceLE, Int.reduceLT, Int.reducePow, Int.reduceNeg, Nat.reduceAdd, Nat.reduceMul, Nat.reducePow, Tryd.underlying22]
    refine hK _ _ ?_
    clear hK K
    with_reducible refine vc_seq fun K hK => ?_
    refine vc_reg ?_
    try simp only [go_sem, opsV, undef, binV_int, binV_eqB, binV_neB, pbin_int, pbin_eqB, pbin_neB, intV, arith, unV_not, unV_neg, Nat.reduceBEq, Nat.reduceEqDiff, ↓reduceIte, reduceCtorEq, Int.reduceToNat, Nat.reduceLeDiff, Int.reduceLE, Int.reduceLT, Int.reducePow, Int.reduceNeg, Nat.reduceAdd, Nat.reduceMul, Nat.reducePow, Tryd.underlying22]
    refine hK _ _ ?_
    clear hK K
    refine vc_ret ?_
    simp only [retV, resL, one, go_sem, opsV, undef, binV_int, binV_eqB, binV_neB, pbin_int, pbin_eqB, pbin_neB, intV, arith, unV_not, unV_neg, Nat.reduceBEq, Nat.reduceEqDiff, ↓reduceIte, reduceCtorEq, Int.reduceToNat, Nat.reduceLeDiff, Int.reduceLE, Int.reduceLT, Int.reducePow, Int.reduceNeg, Nat.reduceAdd, Nat.reduceMul, Nat.reducePow, Tryd.underlying22]
    exact ⟨hE.trans' hE4, .inr ⟨hpos, _, _, rfl, hq.base hE.size, ht.base hE.size⟩⟩

end Go.V

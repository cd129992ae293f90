/- The walks of package nat: Mul. -/
import Derived.Test.YtkmoeenhboicmaaDoorN4
set_option linter.unusedSimpArgs false
set_option linter.unusedVariables false
set_option maxRecDepth 100000

namespace Go.V
open Go Go.RowKit Go.Proofs

theorem getD_set {xs : List Nat} {i j y : Nat} : (xs.set i y).getD j 0 = if i = j ∧ i < xs.length then y else xs.getD j 0 := by
  simp only [List.getD, List.getElem?_set]
  by_cases h : i = j
  · subst h
    by_cases h2 : i < xs.length
    · simp [h2]
    · simp [h2, List.getElem?_eq_none (Nat.le_of_not_lt h2)]
  · simp [h]

theorem mul_word {p o c : Nat} (hp : p ≤ 340282366920938463426481119284349108225) (ho : o < 18446744073709551616) (hc : c < 18446744073709551616) :
    ((p % 18446744073709551616 + o + 0) % 18446744073709551616 + c + 0) % 18446744073709551616 = (o + p + c) % 18446744073709551616 ∧
    ((p / 18446744073709551616 + (p % 18446744073709551616 + o + 0) / 18446744073709551616) % 18446744073709551616 + ((p % 18446744073709551616 + o + 0) % 18446744073709551616 + c + 0) / 18446744073709551616) % 18446744073709551616 = (o + p + c) / 18446744073709551616 ∧
    (o + p + c) / 18446744073709551616 < 18446744073709551616 := by
  omega

theorem nat_Mul_l1 {w2 : World} {so sa rb : Value} {B : List Nat} (hb : U64s w2.heap rb B) {N : Env → World → Prop} {X : Nat → Env → World → Prop} {R : Env → World → Prop} {i La T x : Nat} (hL : La ≤ 1099511627776) (hLb : B.length ≤ 1099511627776) (hi : i < La) (hx : x < 18446744073709551616)
    (J : ∀ (e : Env) (w' : World) (os : List Nat) (c : Nat), os.length = La + B.length → c < 18446744073709551616 → nval 18446744073709551616 os + 18446744073709551616 ^ (i + B.length) * c = T → (∀ m, i + B.length ≤ m → os.getD m 0 = 0) → O64 w' w2.heap.size so os → Ext w2 w' →
      e 1 = rb → e 5 = so → e 6 = .int .i64 (i : Int) → e 8 = .int .u64 (c : Int) → e 32 = sa → e 33 = .int .i64 (La : Int) → e 34 = .int .i64 (i : Int) → X 2 e w')
    (e : Env) (w' : World) (os : List Nat) (hol : os.length = La + B.length) (hsum : nval 18446744073709551616 os + 18446744073709551616 ^ i * (x * nval 18446744073709551616 B) = T) (hz : ∀ m, i + B.length ≤ m → os.getD m 0 = 0)
    (own : O64 w' w2.heap.size so os) (hB : Ext w2 w') (g1 : e 1 = rb) (g5 : e 5 = so) (g6 : e 6 = .int .i64 (i : Int)) (g7 : e 7 = .int .u64 (x : Int)) (g8 : e 8 = .int .u64 0) (g32 : e 32 = sa) (g33 : e 33 = .int .i64 (La : Int)) (g34 : e 34 = .int .i64 (i : Int))
    (g39 : e 39 = rb) (g40 : e 40 = .int .i64 (B.length : Int)) (g41 : e 41 = .int .i64 0) :
    vc Tryd.prog (nthLoop Tryd.f77 1) N X R e w' := by
  change vc _ (.loop _) _ _ _ _ _
  refine vc_loop (fun e w' => ∃ (os : List Nat) (c j : Nat), j ≤ B.length ∧ os.length = La + B.length ∧ c < 18446744073709551616 ∧ nval 18446744073709551616 os + 18446744073709551616 ^ (i + j) * (c + x * nval 18446744073709551616 (B.drop j)) = T ∧ (∀ m, i + B.length ≤ m → os.getD m 0 = 0) ∧ O64 w' w2.heap.size so os ∧ Ext w2 w' ∧
      e 1 = rb ∧ e 5 = so ∧ e 6 = .int .i64 (i : Int) ∧ e 7 = .int .u64 (x : Int) ∧ e 8 = .int .u64 (c : Int) ∧ e 32 = sa ∧ e 33 = .int .i64 (La : Int) ∧ e 34 = .int .i64 (i : Int) ∧ e 39 = rb ∧ e 40 = .int .i64 (B.length : Int) ∧ e 41 = .int .i64 (j : Int)) (fun e _ => B.length - (intOf (e 41)).toNat) ?_ ?_
  · refine ⟨os, 0, 0, Nat.zero_le _, hol, by omega, ?_, hz, own, hB, g1, g5, g6, g7, g8, g32, g33, g34, g39, g40, g41⟩
    rw [List.drop_zero, Nat.add_zero, Nat.zero_add]
    exact hsum
  · clear hsum own hol hB hz g1 g5 g6 g7 g8 g32 g33 g34 g39 g40 g41
    clear os e w'
    rintro e w' ⟨os, c, j, hj, hol, hc, hsum, hz, own, hB, g1, g5, g6, g7, g8, g32, g33, g34, g39, g40, g41⟩
    have hmz : (intOf (e 41)).toNat = j := by rw [g41]; rfl
    refine vc_seq fun K1 hK1 => ?_
    refine vc_reg ?_
    try simp only [go_sem, opsV, undef, binV_int, binV_eqB, binV_neB, pbin_int, pbin_eqB, pbin_neB, intV, arith, unV_not, unV_neg, Nat.reduceBEq, Nat.reduceEqDiff, ↓reduceIte, reduceCtorEq, Int.reduceToNat, Nat.reduceLeDiff, Int.reduceLE, Int.reduceLT, Int.reducePow, Int.reduceNeg, Nat.reduceAdd, Nat.reduceMul, Nat.reducePow, Tryd.underlying22, g1, g5, g6, g7, g8, g32, g33, g34, g39, g40, g41]
    refine hK1 _ _ ?_
    clear hK1
    refine vc_seq fun K1 hK1 => ?_
    refine vc_condD (by simp only [go_sem, opsV, undef, binV_int, binV_eqB, binV_neB, pbin_int, pbin_eqB, pbin_neB, intV, arith, unV_not, unV_neg, Nat.reduceBEq, Nat.reduceEqDiff, ↓reduceIte, reduceCtorEq, Int.reduceToNat, Nat.reduceLeDiff, Int.reduceLE, Int.reduceLT, Int.reducePow, Int.reduceNeg, Nat.reduceAdd, Nat.reduceMul, Nat.reducePow, Tryd.underlying22, g1, g5, g6, g7, g8, g32, g33, g34, g39, g40, g41] <;> rfl) (fun ht => ?_) (fun ht => ?_)
    · refine vc_skip ?_
      refine hK1 _ _ ?_
      clear hK1
      refine vc_seq fun K1 hK1 => ?_
      refine vc_block ?_
      obtain ⟨bd, hib, hlb⟩ := (hb.up hB).get (k := .i64) (i := j) ht
      have hy := hb.lt (by decide) j
      obtain ⟨ad, hix, hld, hst⟩ := own.at T64 S64 (ki := .i64) (i := i + j) (by omega)
      have ho := own.ws.lt (by decide) (i + j)
      refine vc_seq fun K2 hK2 => ?_
      refine vc_reg ?_
      try simp only [go_sem, opsV, undef, binV_int, binV_eqB, binV_neB, pbin_int, pbin_eqB, pbin_neB, intV, arith, unV_not, unV_neg, Nat.reduceBEq, Nat.reduceEqDiff, ↓reduceIte, reduceCtorEq, Int.reduceToNat, Nat.reduceLeDiff, Int.reduceLE, Int.reduceLT, Int.reducePow, Int.reduceNeg, Nat.reduceAdd, Nat.reduceMul, Nat.reducePow, Tryd.underlying22, g1, g5, g6, g7, g8, g32, g33, g34, g39, g40, g41]
      refine ⟨bd, hib, _, hlb _ (Ext.refl _), ?_⟩
      refine hK2 _ _ ?_
      clear hK2
      refine vc_seq fun K2 hK2 => ?_
      refine vc_reg ?_
      try simp only [go_sem, opsV, undef, binV_int, binV_eqB, binV_neB, pbin_int, pbin_eqB, pbin_neB, intV, arith, unV_not, unV_neg, Nat.reduceBEq, Nat.reduceEqDiff, ↓reduceIte, reduceCtorEq, Int.reduceToNat, Nat.reduceLeDiff, Int.reduceLE, Int.reduceLT, Int.reducePow, Int.reduceNeg, Nat.reduceAdd, Nat.reduceMul, Nat.reducePow, Tryd.underlying22, g1, g5, g6, g7, g8, g32, g33, g34, g39, g40, g41]
      refine mul64 x (B.getD j 0) hx hy ?_
      try simp only [go_sem, opsV, undef, binV_int, binV_eqB, binV_neB, pbin_int, pbin_eqB, pbin_neB, intV, arith, unV_not, unV_neg, Nat.reduceBEq, Nat.reduceEqDiff, ↓reduceIte, reduceCtorEq, Int.reduceToNat, Nat.reduceLeDiff, Int.reduceLE, Int.reduceLT, Int.reducePow, Int.reduceNeg, Nat.reduceAdd, Nat.reduceMul, Nat.reducePow, Tryd.underlying22, g1, g5, g6, g7, g8, g32, g33, g34, g39, g40, g41]
      have hp : x * B.getD j 0 ≤ 340282366920938463426481119284349108225 := Nat.mul_le_mul (Nat.le_of_lt_succ hx) (Nat.le_of_lt_succ hy)
      have hdr : x * nval 18446744073709551616 (B.drop j) = x * B.getD j 0 + 18446744073709551616 * (x * nval 18446744073709551616 (B.drop (j + 1))) := by
        rw [nval_drop ht, Nat.mul_add, Nat.mul_left_comm]
      rw [hdr] at hsum
      clear hdr
      generalize x * B.getD j 0 = p at *
      refine hK2 _ _ ?_
      clear hK2
      refine vc_seq fun K2 hK2 => ?_
      refine vc_reg ?_
      try simp only [go_sem, opsV, undef, binV_int, binV_eqB, binV_neB, pbin_int, pbin_eqB, pbin_neB, intV, arith, unV_not, unV_neg, Nat.reduceBEq, Nat.reduceEqDiff, ↓reduceIte, reduceCtorEq, Int.reduceToNat, Nat.reduceLeDiff, Int.reduceLE, Int.reduceLT, Int.reducePow, Int.reduceNeg, Nat.reduceAdd, Nat.reduceMul, Nat.reducePow, Tryd.underlying22, g1, g5, g6, g7, g8, g32, g33, g34, g39, g40, g41]
      refine hK2 _ _ ?_
      clear hK2
      refine vc_seq fun K2 hK2 => ?_
      refine vc_reg ?_
      try simp only [go_sem, opsV, undef, binV_int, binV_eqB, binV_neB, pbin_int, pbin_eqB, pbin_neB, intV, arith, unV_not, unV_neg, Nat.reduceBEq, Nat.reduceEqDiff, ↓reduceIte, reduceCtorEq, Int.reduceToNat, Nat.reduceLeDiff, Int.reduceLE, Int.reduceLT, Int.reducePow, Int.reduceNeg, Nat.reduceAdd, Nat.reduceMul, Nat.reducePow, Tryd.underlying22, g1, g5, g6, g7, g8, g32, g33, g34, g39, g40, g41]
      refine ⟨(by unfold R64; omega), ad, hix, _, hld, ?_⟩
      refine add64 (p % 18446744073709551616) (os.getD (i + j) 0) 0 (by decide) ?_
      try simp only [go_sem, opsV, undef, binV_int, binV_eqB, binV_neB, pbin_int, pbin_eqB, pbin_neB, intV, arith, unV_not, unV_neg, Nat.reduceBEq, Nat.reduceEqDiff, ↓reduceIte, reduceCtorEq, Int.reduceToNat, Nat.reduceLeDiff, Int.reduceLE, Int.reduceLT, Int.reducePow, Int.reduceNeg, Nat.reduceAdd, Nat.reduceMul, Nat.reducePow, Tryd.underlying22, g1, g5, g6, g7, g8, g32, g33, g34, g39, g40, g41]
      refine hK2 _ _ ?_
      clear hK2
      refine vc_seq fun K2 hK2 => ?_
      refine vc_reg ?_
      try simp only [go_sem, opsV, undef, binV_int, binV_eqB, binV_neB, pbin_int, pbin_eqB, pbin_neB, intV, arith, unV_not, unV_neg, Nat.reduceBEq, Nat.reduceEqDiff, ↓reduceIte, reduceCtorEq, Int.reduceToNat, Nat.reduceLeDiff, Int.reduceLE, Int.reduceLT, Int.reducePow, Int.reduceNeg, Nat.reduceAdd, Nat.reduceMul, Nat.reducePow, Tryd.underlying22, g1, g5, g6, g7, g8, g32, g33, g34, g39, g40, g41]
      refine hK2 _ _ ?_
      clear hK2
      refine vc_seq fun K2 hK2 => ?_
      refine vc_reg ?_
      try simp only [go_sem, opsV, undef, binV_int, binV_eqB, binV_neB, pbin_int, pbin_eqB, pbin_neB, intV, arith, unV_not, unV_neg, Nat.reduceBEq, Nat.reduceEqDiff, ↓reduceIte, reduceCtorEq, Int.reduceToNat, Nat.reduceLeDiff, Int.reduceLE, Int.reduceLT, Int.reducePow, Int.reduceNeg, Nat.reduceAdd, Nat.reduceMul, Nat.reducePow, Tryd.underlying22, g1, g5, g6, g7, g8, g32, g33, g34, g39, g40, g41]
      refine add64 ((p % 18446744073709551616 + os.getD (i + j) 0 + 0) % 18446744073709551616) c 0 (by decide) ?_
      try simp only [go_sem, opsV, undef, binV_int, binV_eqB, binV_neB, pbin_int, pbin_eqB, pbin_neB, intV, arith, unV_not, unV_neg, Nat.reduceBEq, Nat.reduceEqDiff, ↓reduceIte, reduceCtorEq, Int.reduceToNat, Nat.reduceLeDiff, Int.reduceLE, Int.reduceLT, Int.reducePow, Int.reduceNeg, Nat.reduceAdd, Nat.reduceMul, Nat.reducePow, Tryd.underlying22, g1, g5, g6, g7, g8, g32, g33, g34, g39, g40, g41]
      refine hK2 _ _ ?_
      clear hK2
      refine vc_reg ?_
      try simp only [go_sem, opsV, undef, binV_int, binV_eqB, binV_neB, pbin_int, pbin_eqB, pbin_neB, intV, arith, unV_not, unV_neg, Nat.reduceBEq, Nat.reduceEqDiff, ↓reduceIte, reduceCtorEq, Int.reduceToNat, Nat.reduceLeDiff, Int.reduceLE, Int.reduceLT, Int.reducePow, Int.reduceNeg, Nat.reduceAdd, Nat.reduceMul, Nat.reducePow, Tryd.underlying22, g1, g5, g6, g7, g8, g32, g33, g34, g39, g40, g41]
      obtain ⟨q1, q2, q3⟩ := mul_word hp ho hc
      simp only [q1, q2]
      obtain ⟨w'', h1, h2, h3, h4⟩ := hst ((os.getD (i + j) 0 + p + c) % 18446744073709551616) (mod64 _)
      refine ⟨(by unfold R64; omega), ad, hix, w'', h1, ?_⟩
      refine hK1 _ _ ?_
      refine vc_reg ?_
      try simp only [go_sem, opsV, undef, binV_int, binV_eqB, binV_neB, pbin_int, pbin_eqB, pbin_neB, intV, arith, unV_not, unV_neg, Nat.reduceBEq, Nat.reduceEqDiff, ↓reduceIte, reduceCtorEq, Int.reduceToNat, Nat.reduceLeDiff, Int.reduceLE, Int.reduceLT, Int.reducePow, Int.reduceNeg, Nat.reduceAdd, Nat.reduceMul, Nat.reducePow, Tryd.underlying22, g1, g5, g6, g7, g8, g32, g33, g34, g39, g40, g41]
      refine ⟨(by unfold R64; omega), ⟨os.set (i + j) ((os.getD (i + j) 0 + p + c) % 18446744073709551616), (os.getD (i + j) 0 + p + c) / 18446744073709551616, j + 1, by omega, by rw [List.length_set]; exact hol, q3, ?_, ?_, h2, h4 _ _ hB (Nat.le_refl _), ?_⟩, ?_⟩
      · exact add_step (i := i + j) (by decide) (by omega) rfl hsum
      · intro m hm
        rw [getD_set, if_neg (by omega)]
        exact hz m hm
      · try simp only [go_sem, opsV, undef, binV_int, binV_eqB, binV_neB, pbin_int, pbin_eqB, pbin_neB, intV, arith, unV_not, unV_neg, Nat.reduceBEq, Nat.reduceEqDiff, ↓reduceIte, reduceCtorEq, Int.reduceToNat, Nat.reduceLeDiff, Int.reduceLE, Int.reduceLT, Int.reducePow, Int.reduceNeg, Nat.reduceAdd, Nat.reduceMul, Nat.reducePow, Tryd.underlying22, g1, g5, g6, g7, g8, g32, g33, g34, g39, g40, g41]
      · (try rw [hmz])
        simp only [intOf]; omega
    · refine vc_exit ?_
      obtain rfl : j = B.length := by omega
      rw [nval_drop_all (Nat.le_refl _), Nat.mul_zero, Nat.add_zero] at hsum
      exact J _ _ os c hol hc hsum hz own hB (by try simp only [go_sem, opsV, undef, binV_int, binV_eqB, binV_neB, pbin_int, pbin_eqB, pbin_neB, intV, arith, unV_not, unV_neg, Nat.reduceBEq, Nat.reduceEqDiff, ↓reduceIte, reduceCtorEq, Int.reduceToNat, Nat.reduceLeDiff, Int.reduceLE, Int.reduceLT, Int.reducePow, Int.reduceNeg, Nat.reduceAdd, Nat.reduceMul, Nat.reducePow, Tryd.underlying22, g1, g5, g6, g7, g8, g32, g33, g34, g39, g40, g41]) (by try simp only [go_sem, opsV, undef, binV_int, binV_eqB, binV_neB, pbin_int, pbin_eqB, pbin_neB, intV, arith, unV_not, unV_neg, Nat.reduceBEq, Nat.reduceEqDiff, ↓reduceIte, reduceCtorEq, Int.reduceToNat, Nat.reduceLeDiff, Int.reduceLE, Int.reduceLT, Int.reducePow, Int.reduceNeg, Nat.reduceAdd, Nat.reduceMul, Nat.reducePow, Tryd.underlying22, g1, g5, g6, g7, g8, g32, g33, g34, g39, g40, g41]) (by try simp only [go_sem, opsV, undef, binV_int, binV_eqB, binV_neB, pbin_int, pbin_eqB, pbin_neB, intV, arith, unV_not, unV_neg, Nat.reduceBEq, Nat.reduceEqDiff, ↓reduceIte, reduceCtorEq, Int.reduceToNat, Nat.reduceLeDiff, Int.reduceLE, Int.reduceLT, Int.reducePow, Int.reduceNeg, Nat.reduceAdd, Nat.reduceMul, Nat.reducePow, Tryd.underlying22, g1, g5, g6, g7, g8, g32, g33, g34, g39, g40, g41]) (by try simp only [go_sem, opsV, undef, binV_int, binV_eqB, binV_neB, pbin_int, pbin_eqB, pbin_neB, intV, arith, unV_not, unV_neg, Nat.reduceBEq, Nat.reduceEqDiff, ↓reduceIte, reduceCtorEq, Int.reduceToNat, Nat.reduceLeDiff, Int.reduceLE, Int.reduceLT, Int.reducePow, Int.reduceNeg, Nat.reduceAdd, Nat.reduceMul, Nat.reducePow, Tryd.underlying22, g1, g5, g6, g7, g8, g32, g33, g34, g39, g40, g41]) (by try simp only [go_sem, opsV, undef, binV_int, binV_eqB, binV_neB, pbin_int, pbin_eqB, pbin_neB, intV, arith, unV_not, unV_neg, Nat.reduceBEq, Nat.reduceEqDiff, ↓reduceIte, reduceCtorEq, Int.reduceToNat, Nat.reduceLeDiff, Int.reduceLE, Int.reduceLT, Int.reducePow, Int.reduceNeg, Nat.reduceAdd, Nat.reduceMul, Nat.reducePow, Tryd.underlying22, g1, g5, g6, g7, g8, g32, g33, g34, g39, g40, g41]) (by try simp only [go_sem, opsV, undef, binV_int, binV_eqB, binV_neB, pbin_int, pbin_eqB, pbin_neB, intV, arith, unV_not, unV_neg, Nat.reduceBEq, Nat.reduceEqDiff, ↓reduceIte, reduceCtorEq, Int.reduceToNat, Nat.reduceLeDiff, Int.reduceLE, Int.reduceLT, Int.reducePow, Int.reduceNeg, Nat.reduceAdd, Nat.reduceMul, Nat.reducePow, Tryd.underlying22, g1, g5, g6, g7, g8, g32, g33, g34, g39, g40, g41]) (by try simp only [go_sem, opsV, undef, binV_int, binV_eqB, binV_neB, pbin_int, pbin_eqB, pbin_neB, intV, arith, unV_not, unV_neg, Nat.reduceBEq, Nat.reduceEqDiff, ↓reduceIte, reduceCtorEq, Int.reduceToNat, Nat.reduceLeDiff, Int.reduceLE, Int.reduceLT, Int.reducePow, Int.reduceNeg, Nat.reduceAdd, Nat.reduceMul, Nat.reducePow, Tryd.underlying22, g1, g5, g6, g7, g8, g32, g33, g34, g39, g40, g41])

theorem nat_Mul_l0 {w2 : World} {so sa rb : Value} {A B : List Nat} (ha : U64s w2.heap sa A) (hb : U64s w2.heap rb B) {N : Env → World → Prop} {X : Nat → Env → World → Prop} {R : Env → World → Prop} (hL : A.length ≤ 1099511627776) (hLb : B.length ≤ 1099511627776)
    (J : ∀ (e : Env) (w' : World) (os : List Nat), N64 os = N64 A * N64 B → O64 w' w2.heap.size so os → Ext w2 w' → e 5 = so → X 0 e w')
    (e : Env) (w' : World) (os : List Nat) (hol : os.length = A.length + B.length) (hz : ∀ m, os.getD m 0 = 0)
    (own : O64 w' w2.heap.size so os) (hB : Ext w2 w') (g1 : e 1 = rb) (g5 : e 5 = so) (g32 : e 32 = sa) (g33 : e 33 = .int .i64 (A.length : Int)) (g34 : e 34 = .int .i64 0) :
    vc Tryd.prog (nthLoop Tryd.f77 0) N X R e w' := by
  change vc _ (.loop _) _ _ _ _ _
  refine vc_loop (fun e w' => ∃ (os : List Nat) (i : Nat), i ≤ A.length ∧ os.length = A.length + B.length ∧ nval 18446744073709551616 os + 18446744073709551616 ^ i * (nval 18446744073709551616 (A.drop i) * nval 18446744073709551616 B) = N64 A * N64 B ∧ (∀ m, i + B.length ≤ m → os.getD m 0 = 0) ∧ O64 w' w2.heap.size so os ∧ Ext w2 w' ∧
      e 1 = rb ∧ e 5 = so ∧ e 32 = sa ∧ e 33 = .int .i64 (A.length : Int) ∧ e 34 = .int .i64 (i : Int)) (fun e _ => A.length - (intOf (e 34)).toNat) ?_ ?_
  · refine ⟨os, 0, Nat.zero_le _, hol, ?_, fun m _ => hz m, own, hB, g1, g5, g32, g33, g34⟩
    rw [List.drop_zero, Nat.pow_zero, Nat.one_mul, nval_none (fun j _ => hz j), Nat.zero_add]
  · clear own hol hB hz g1 g5 g32 g33 g34
    clear os e w'
    rintro e w' ⟨os, i, hi, hol, hsum, hz, own, hB, g1, g5, g32, g33, g34⟩
    have hmz : (intOf (e 34)).toNat = i := by rw [g34]; rfl
    refine vc_seq fun K1 hK1 => ?_
    refine vc_reg ?_
    try simp only [go_sem, opsV, undef, binV_int, binV_eqB, binV_neB, pbin_int, pbin_eqB, pbin_neB, intV, arith, unV_not, unV_neg, Nat.reduceBEq, Nat.reduceEqDiff, ↓reduceIte, reduceCtorEq, Int.reduceToNat, Nat.reduceLeDiff, Int.reduceLE, Int.reduceLT, Int.reducePow, Int.reduceNeg, Nat.reduceAdd, Nat.reduceMul, Nat.reducePow, Tryd.underlying22, g1, g5, g32, g33, g34]
    refine hK1 _ _ ?_
    clear hK1
    refine vc_seq fun K1 hK1 => ?_
    refine vc_condD (by simp only [go_sem, opsV, undef, binV_int, binV_eqB, binV_neB, pbin_int, pbin_eqB, pbin_neB, intV, arith, unV_not, unV_neg, Nat.reduceBEq, Nat.reduceEqDiff, ↓reduceIte, reduceCtorEq, Int.reduceToNat, Nat.reduceLeDiff, Int.reduceLE, Int.reduceLT, Int.reducePow, Int.reduceNeg, Nat.reduceAdd, Nat.reduceMul, Nat.reducePow, Tryd.underlying22, g1, g5, g32, g33, g34] <;> rfl) (fun ht => ?_) (fun ht => ?_)
    · refine vc_skip ?_
      refine hK1 _ _ ?_
      clear hK1
      refine vc_seq fun K1 hK1 => ?_
      refine vc_block ?_
      obtain ⟨bd, hib, hlb⟩ := (ha.up hB).get (k := .i64) (i := i) ht
      have hx := ha.lt (by decide) i
      have hb' := hb.up hB
      refine vc_seq fun K2 hK2 => ?_
      refine vc_reg ?_
      try simp only [go_sem, opsV, undef, binV_int, binV_eqB, binV_neB, pbin_int, pbin_eqB, pbin_neB, intV, arith, unV_not, unV_neg, Nat.reduceBEq, Nat.reduceEqDiff, ↓reduceIte, reduceCtorEq, Int.reduceToNat, Nat.reduceLeDiff, Int.reduceLE, Int.reduceLT, Int.reducePow, Int.reduceNeg, Nat.reduceAdd, Nat.reduceMul, Nat.reducePow, Tryd.underlying22, g1, g5, g32, g33, g34]
      refine ⟨bd, hib, _, hlb _ (Ext.refl _), ?_⟩
      refine hK2 _ _ ?_
      clear hK2
      refine vc_seq fun K2 hK2 => ?_
      refine vc_reg ?_
      try simp only [go_sem, opsV, undef, binV_int, binV_eqB, binV_neB, pbin_int, pbin_eqB, pbin_neB, intV, arith, unV_not, unV_neg, Nat.reduceBEq, Nat.reduceEqDiff, ↓reduceIte, reduceCtorEq, Int.reduceToNat, Nat.reduceLeDiff, Int.reduceLE, Int.reduceLT, Int.reducePow, Int.reduceNeg, Nat.reduceAdd, Nat.reduceMul, Nat.reducePow, Tryd.underlying22, g1, g5, g32, g33, g34]
      refine hK2 _ _ ?_
      clear hK2
      refine vc_seq fun K2 hK2 => ?_
      refine vc_seq fun K3 hK3 => ?_
      refine vc_reg ?_
      try simp only [go_sem, opsV, undef, binV_int, binV_eqB, binV_neB, pbin_int, pbin_eqB, pbin_neB, intV, arith, unV_not, unV_neg, Nat.reduceBEq, Nat.reduceEqDiff, ↓reduceIte, reduceCtorEq, Int.reduceToNat, Nat.reduceLeDiff, Int.reduceLE, Int.reduceLT, Int.reducePow, Int.reduceNeg, Nat.reduceAdd, Nat.reduceMul, Nat.reducePow, Tryd.underlying22, g1, g5, g32, g33, g34]
      refine ⟨_, hb'.len, ?_⟩
      refine hK3 _ _ ?_
      clear hK3
      refine vc_block ?_
      have hdr : nval 18446744073709551616 (A.drop i) * nval 18446744073709551616 B = A.getD i 0 * nval 18446744073709551616 B + 18446744073709551616 * (nval 18446744073709551616 (A.drop (i + 1)) * nval 18446744073709551616 B) := by
        rw [nval_drop ht, Nat.add_mul, Nat.mul_assoc]
      rw [hdr, Nat.mul_add, ← Nat.mul_assoc (18446744073709551616 ^ i) 18446744073709551616, ← Nat.pow_succ] at hsum
      clear hdr
      refine nat_Mul_l1 (so := so) (sa := sa) hb hL hLb ht hx (T := nval 18446744073709551616 os + 18446744073709551616 ^ i * (A.getD i 0 * nval 18446744073709551616 B)) (fun e w' os' c hol' hc hsum' hz' own' hB' f1 f5 f6 f8 f32 f33 f34 => ?_) _ w' os hol rfl hz own hB ?_ ?_ ?_ ?_ ?_ ?_ ?_ ?_ ?_ ?_ ?_
      · simp only [↓reduceIte]
        refine hK2 _ _ ?_
        clear hK2
        obtain ⟨ad, hix, hld, hst⟩ := own'.at T64 S64 (ki := .i64) (i := i + B.length) (by omega)
        obtain ⟨w'', h1, h2, h3, h4⟩ := hst c hc
        refine vc_reg ?_
        try simp only [go_sem, opsV, undef, binV_int, binV_eqB, binV_neB, pbin_int, pbin_eqB, pbin_neB, intV, arith, unV_not, unV_neg, Nat.reduceBEq, Nat.reduceEqDiff, ↓reduceIte, reduceCtorEq, Int.reduceToNat, Nat.reduceLeDiff, Int.reduceLE, Int.reduceLT, Int.reducePow, Int.reduceNeg, Nat.reduceAdd, Nat.reduceMul, Nat.reducePow, Tryd.underlying22, f1, f5, f6, f8, f32, f33, f34]
        refine ⟨_, (hb.up hB').len, ?_⟩
        try simp only [go_sem, opsV, undef, binV_int, binV_eqB, binV_neB, pbin_int, pbin_eqB, pbin_neB, intV, arith, unV_not, unV_neg, Nat.reduceBEq, Nat.reduceEqDiff, ↓reduceIte, reduceCtorEq, Int.reduceToNat, Nat.reduceLeDiff, Int.reduceLE, Int.reduceLT, Int.reducePow, Int.reduceNeg, Nat.reduceAdd, Nat.reduceMul, Nat.reducePow, Tryd.underlying22, f1, f5, f6, f8, f32, f33, f34]
        refine ⟨(by unfold R64; omega), ad, hix, w'', h1, ?_⟩
        refine hK1 _ _ ?_
        refine vc_reg ?_
        try simp only [go_sem, opsV, undef, binV_int, binV_eqB, binV_neB, pbin_int, pbin_eqB, pbin_neB, intV, arith, unV_not, unV_neg, Nat.reduceBEq, Nat.reduceEqDiff, ↓reduceIte, reduceCtorEq, Int.reduceToNat, Nat.reduceLeDiff, Int.reduceLE, Int.reduceLT, Int.reducePow, Int.reduceNeg, Nat.reduceAdd, Nat.reduceMul, Nat.reducePow, Tryd.underlying22, f1, f5, f6, f8, f32, f33, f34]
        have hs := nval_set (B := 18446744073709551616) (xs := os') (i := i + B.length) (y := c) (by omega)
        rw [hz' _ (Nat.le_refl _), Nat.mul_zero, Nat.add_zero, hsum'] at hs
        refine ⟨(by unfold R64; omega), ⟨os'.set (i + B.length) c, i + 1, by omega, by rw [List.length_set]; exact hol', ?_, ?_, h2, h4 _ _ hB' (Nat.le_refl _), ?_⟩, ?_⟩
        · rw [hs]; exact hsum ▸ by rw [Nat.add_assoc]
        · intro m hm
          rw [getD_set, if_neg (by omega)]
          exact hz' m (by omega)
        · try simp only [go_sem, opsV, undef, binV_int, binV_eqB, binV_neB, pbin_int, pbin_eqB, pbin_neB, intV, arith, unV_not, unV_neg, Nat.reduceBEq, Nat.reduceEqDiff, ↓reduceIte, reduceCtorEq, Int.reduceToNat, Nat.reduceLeDiff, Int.reduceLE, Int.reduceLT, Int.reducePow, Int.reduceNeg, Nat.reduceAdd, Nat.reduceMul, Nat.reducePow, Tryd.underlying22, f1, f5, f6, f8, f32, f33, f34]
        · (try rw [hmz])
          simp only [intOf]; omega
      all_goals try simp only [go_sem, opsV, undef, binV_int, binV_eqB, binV_neB, pbin_int, pbin_eqB, pbin_neB, intV, arith, unV_not, unV_neg, Nat.reduceBEq, Nat.reduceEqDiff, ↓reduceIte, reduceCtorEq, Int.reduceToNat, Nat.reduceLeDiff, Int.reduceLE, Int.reduceLT, Int.reducePow, Int.reduceNeg, Nat.reduceAdd, Nat.reduceMul, Nat.reducePow, Tryd.underlying22, g1, g5, g32, g33, g34]
    · refine vc_exit ?_
      obtain rfl : i = A.length := by omega
      rw [nval_drop_all (Nat.le_refl _), Nat.zero_mul, Nat.mul_zero, Nat.add_zero] at hsum
      exact J _ _ os hsum own hB (by try simp only [go_sem, opsV, undef, binV_int, binV_eqB, binV_neB, pbin_int, pbin_eqB, pbin_neB, intV, arith, unV_not, unV_neg, Nat.reduceBEq, Nat.reduceEqDiff, ↓reduceIte, reduceCtorEq, Int.reduceToNat, Nat.reduceLeDiff, Int.reduceLE, Int.reduceLT, Int.reducePow, Int.reduceNeg, Nat.reduceAdd, Nat.reduceMul, Nat.reducePow, Tryd.underlying22, g1, g5, g32, g33, g34])

set_option maxHeartbeats 1000000 in
theorem nat_Mul {w : World} {va vb : Value} {xs ys : List Nat} (hx : U64s w.heap va xs) (hy : U64s w.heap vb ys) (hlx : xs.length ≤ 1099511627776) (hly : ys.length ≤ 1099511627776) :
    FC Tryd.prog 77 #[va, vb] w fun r w' => Ext w w' ∧ O64 w' w.heap.size r (D64 (N64 xs * N64 ys)) := by
  have hda := digs_le hx.2
  have hdb := digs_le hy.2
  refine FC.body (l := [va, vb]) (rs := [.tmp 4]) mixed Tryd.func77 rfl (by kernel_rfl) (by kernel_rfl) (Nat.le_of_ble_eq_true rfl) rfl ?_
  with_reducible refine vc_seq fun K hK => ?_
  with_reducible refine vc_reg ?_
  simp only [go_sem, opsV, undef, binV_int, binV_eqB, binV_neB, pbin_int, pbin_eqB, pbin_neB, intV, arith, unV_not, unV_neg, Nat.reduceBEq, Nat.reduceEqDiff, ↓reduceIte, reduceCtorEq, Int.reduceToNat, Nat.reduceLeDiff, Int.reduceLE, Int.reduceLT, Int.reducePow, Int.reduceNeg, Nat.reduceAdd, Nat.reduceMul, Nat.reducePow, Tryd.underlying22]
  refine hK _ _ ?_
  clear hK K
  with_reducible refine vc_seq fun K hK => ?_
  refine vc_reg ?_
  try simp only [go_sem, opsV, undef, binV_int, binV_eqB, binV_neB, pbin_int, pbin_eqB, pbin_neB, intV, arith, unV_not, unV_neg, Nat.reduceBEq, Nat.reduceEqDiff, ↓reduceIte, reduceCtorEq, Int.reduceToNat, Nat.reduceLeDiff, Int.reduceLE, Int.reduceLT, Int.reducePow, Int.reduceNeg, Nat.reduceAdd, Nat.reduceMul, Nat.reducePow, Tryd.underlying22]
  refine (nat_cut hx).mono ?_
  rintro ra w1 ⟨hE1, hra, ha⟩
  try simp only [go_sem, opsV, undef, binV_int, binV_eqB, binV_neB, pbin_int, pbin_eqB, pbin_neB, intV, arith, unV_not, unV_neg, Nat.reduceBEq, Nat.reduceEqDiff, ↓reduceIte, reduceCtorEq, Int.reduceToNat, Nat.reduceLeDiff, Int.reduceLE, Int.reduceLT, Int.reducePow, Int.reduceNeg, Nat.reduceAdd, Nat.reduceMul, Nat.reducePow, Tryd.underlying22]
  refine (nat_cut (hy.up hE1)).mono ?_
  rintro rb w2 ⟨hE2, hrb, hb⟩
  have ha := ha.up hE2
  have hE := hE1.trans' hE2
  clear hra hrb
  try simp only [go_sem, opsV, undef, binV_int, binV_eqB, binV_neB, pbin_int, pbin_eqB, pbin_neB, intV, arith, unV_not, unV_neg, Nat.reduceBEq, Nat.reduceEqDiff, ↓reduceIte, reduceCtorEq, Int.reduceToNat, Nat.reduceLeDiff, Int.reduceLE, Int.reduceLT, Int.reducePow, Int.reduceNeg, Nat.reduceAdd, Nat.reduceMul, Nat.reducePow, Tryd.underlying22]
  refine hK _ _ ?_
  clear hK K
  have hnA : N64 (D64 (N64 xs)) = N64 xs := nval_digs two64 _
  have hnB : N64 (D64 (N64 ys)) = N64 ys := nval_digs two64 _
  generalize hA : D64 (N64 xs) = A at *
  generalize hBB : D64 (N64 ys) = B at *
  with_reducible refine vc_seq fun K hK => ?_
  with_reducible refine vc_seq fun K hK => ?_
  refine vc_reg ?_
  try simp only [go_sem, opsV, undef, binV_int, binV_eqB, binV_neB, pbin_int, pbin_eqB, pbin_neB, intV, arith, unV_not, unV_neg, Nat.reduceBEq, Nat.reduceEqDiff, ↓reduceIte, reduceCtorEq, Int.reduceToNat, Nat.reduceLeDiff, Int.reduceLE, Int.reduceLT, Int.reducePow, Int.reduceNeg, Nat.reduceAdd, Nat.reduceMul, Nat.reducePow, Tryd.underlying22]
  refine ⟨_, ha.len, ?_⟩
  try simp only [go_sem, opsV, undef, binV_int, binV_eqB, binV_neB, pbin_int, pbin_eqB, pbin_neB, intV, arith, unV_not, unV_neg, Nat.reduceBEq, Nat.reduceEqDiff, ↓reduceIte, reduceCtorEq, Int.reduceToNat, Nat.reduceLeDiff, Int.reduceLE, Int.reduceLT, Int.reducePow, Int.reduceNeg, Nat.reduceAdd, Nat.reduceMul, Nat.reducePow, Tryd.underlying22]
  by_cases hA0 : A.length = 0
  · simp only [hA0, go_sem, opsV, undef, binV_int, binV_eqB, binV_neB, pbin_int, pbin_eqB, pbin_neB, intV, arith, unV_not, unV_neg, Nat.reduceBEq, Nat.reduceEqDiff, ↓reduceIte, reduceCtorEq, Int.reduceToNat, Nat.reduceLeDiff, Int.reduceLE, Int.reduceLT, Int.reducePow, Int.reduceNeg, Nat.reduceAdd, Nat.reduceMul, Nat.reducePow, Tryd.underlying22]
    refine hK _ _ ?_
    clear hK K
    refine vc_condT (by simp only [go_sem, opsV, undef, binV_int, binV_eqB, binV_neB, pbin_int, pbin_eqB, pbin_neB, intV, arith, unV_not, unV_neg, Nat.reduceBEq, Nat.reduceEqDiff, ↓reduceIte, reduceCtorEq, Int.reduceToNat, Nat.reduceLeDiff, Int.reduceLE, Int.reduceLT, Int.reducePow, Int.reduceNeg, Nat.reduceAdd, Nat.reduceMul, Nat.reducePow, Tryd.underlying22] <;> rfl) ?_
    repeat (first
      | (with_reducible refine vc_seq fun K hK => ?_)
      | (with_reducible refine vc_reg ?_)
      | (with_reducible refine vc_skip ?_)
      | (with_reducible refine vc_block ?_)
      | (with_reducible refine vc_scope ?_)
      | (with_reducible refine vc_label ?_)
      | (with_reducible refine vc_condT ?_ ?_; · simp only [go_sem, opsV, undef, binV_int, binV_eqB, binV_neB, pbin_int, pbin_eqB, pbin_neB, intV, arith, unV_not, unV_neg, Nat.reduceBEq, Nat.reduceEqDiff, ↓reduceIte, reduceCtorEq, Int.reduceToNat, Nat.reduceLeDiff, Int.reduceLE, Int.reduceLT, Int.reducePow, Int.reduceNeg, Nat.reduceAdd, Nat.reduceMul, Nat.reducePow, Tryd.underlying22] <;> rfl)
      | (with_reducible refine vc_condF ?_ ?_; · simp only [go_sem, opsV, undef, binV_int, binV_eqB, binV_neB, pbin_int, pbin_eqB, pbin_neB, intV, arith, unV_not, unV_neg, Nat.reduceBEq, Nat.reduceEqDiff, ↓reduceIte, reduceCtorEq, Int.reduceToNat, Nat.reduceLeDiff, Int.reduceLE, Int.reduceLT, Int.reducePow, Int.reduceNeg, Nat.reduceAdd, Nat.reduceMul, Nat.reducePow, Tryd.underlying22] <;> rfl)
      | (with_reducible refine vc_exit ?_; simp only [↓reduceIte, Nat.reduceEqDiff])
      | (with_reducible refine vc_ret ?_; simp only [retV, resL, one])
      | (with_reducible refine hK _ _ ?_; clear hK)
      | (clear hK; with_reducible refine hK _ _ ?_; clear hK)
      | (clear hK; clear hK; with_reducible refine hK _ _ ?_; clear hK)
      | (simp only [go_sem, opsV, undef, binV_int, binV_eqB, binV_neB, pbin_int, pbin_eqB, pbin_neB, intV, arith, unV_not, unV_neg, Nat.reduceBEq, Nat.reduceEqDiff, ↓reduceIte, reduceCtorEq, Int.reduceToNat, Nat.reduceLeDiff, Int.reduceLE, Int.reduceLT, Int.reducePow, Int.reduceNeg, Nat.reduceAdd, Nat.reduceMul, Nat.reducePow, Tryd.underlying22]))
    have : N64 xs = 0 := by rw [← hnA, List.eq_nil_of_length_eq_zero hA0]; rfl
    rw [this, Nat.zero_mul, show D64 0 = [] from digs_zero _]
    exact ⟨hE, ⟨rfl, .inl ⟨rfl, rfl⟩⟩, by simp, by simp⟩
  simp only [hA0, go_sem, opsV, undef, binV_int, binV_eqB, binV_neB, pbin_int, pbin_eqB, pbin_neB, intV, arith, unV_not, unV_neg, Nat.reduceBEq, Nat.reduceEqDiff, ↓reduceIte, reduceCtorEq, Int.reduceToNat, Nat.reduceLeDiff, Int.reduceLE, Int.reduceLT, Int.reducePow, Int.reduceNeg, Nat.reduceAdd, Nat.reduceMul, Nat.reducePow, Tryd.underlying22]
  refine ⟨_, hb.len, ?_⟩
  try simp only [go_sem, opsV, undef, binV_int, binV_eqB, binV_neB, pbin_int, pbin_eqB, pbin_neB, intV, arith, unV_not, unV_neg, Nat.reduceBEq, Nat.reduceEqDiff, ↓reduceIte, reduceCtorEq, Int.reduceToNat, Nat.reduceLeDiff, Int.reduceLE, Int.reduceLT, Int.reducePow, Int.reduceNeg, Nat.reduceAdd, Nat.reduceMul, Nat.reducePow, Tryd.underlying22]
  refine hK _ _ ?_
  clear hK K
  refine vc_condD (by simp only [go_sem, opsV, undef, binV_int, binV_eqB, binV_neB, pbin_int, pbin_eqB, pbin_neB, intV, arith, unV_not, unV_neg, Nat.reduceBEq, Nat.reduceEqDiff, ↓reduceIte, reduceCtorEq, Int.reduceToNat, Nat.reduceLeDiff, Int.reduceLE, Int.reduceLT, Int.reducePow, Int.reduceNeg, Nat.reduceAdd, Nat.reduceMul, Nat.reducePow, Tryd.underlying22] <;> rfl) (fun hB0 => ?_) (fun hB0 => ?_)
  · repeat (first
      | (with_reducible refine vc_seq fun K hK => ?_)
      | (with_reducible refine vc_reg ?_)
      | (with_reducible refine vc_skip ?_)
      | (with_reducible refine vc_block ?_)
      | (with_reducible refine vc_scope ?_)
      | (with_reducible refine vc_label ?_)
      | (with_reducible refine vc_condT ?_ ?_; · simp only [go_sem, opsV, undef, binV_int, binV_eqB, binV_neB, pbin_int, pbin_eqB, pbin_neB, intV, arith, unV_not, unV_neg, Nat.reduceBEq, Nat.reduceEqDiff, ↓reduceIte, reduceCtorEq, Int.reduceToNat, Nat.reduceLeDiff, Int.reduceLE, Int.reduceLT, Int.reducePow, Int.reduceNeg, Nat.reduceAdd, Nat.reduceMul, Nat.reducePow, Tryd.underlying22] <;> rfl)
      | (with_reducible refine vc_condF ?_ ?_; · simp only [go_sem, opsV, undef, binV_int, binV_eqB, binV_neB, pbin_int, pbin_eqB, pbin_neB, intV, arith, unV_not, unV_neg, Nat.reduceBEq, Nat.reduceEqDiff, ↓reduceIte, reduceCtorEq, Int.reduceToNat, Nat.reduceLeDiff, Int.reduceLE, Int.reduceLT, Int.reducePow, Int.reduceNeg, Nat.reduceAdd, Nat.reduceMul, Nat.reducePow, Tryd.underlying22] <;> rfl)
      | (with_reducible refine vc_exit ?_; simp only [↓reduceIte, Nat.reduceEqDiff])
      | (with_reducible refine vc_ret ?_; simp only [retV, resL, one])
      | (with_reducible refine hK _ _ ?_; clear hK)
      | (clear hK; with_reducible refine hK _ _ ?_; clear hK)
      | (clear hK; clear hK; with_reducible refine hK _ _ ?_; clear hK)
      | (simp only [go_sem, opsV, undef, binV_int, binV_eqB, binV_neB, pbin_int, pbin_eqB, pbin_neB, intV, arith, unV_not, unV_neg, Nat.reduceBEq, Nat.reduceEqDiff, ↓reduceIte, reduceCtorEq, Int.reduceToNat, Nat.reduceLeDiff, Int.reduceLE, Int.reduceLT, Int.reducePow, Int.reduceNeg, Nat.reduceAdd, Nat.reduceMul, Nat.reducePow, Tryd.underlying22]))
    have : N64 ys = 0 := by rw [← hnB, List.eq_nil_of_length_eq_zero hB0]; rfl
    rw [this, Nat.mul_zero, show D64 0 = [] from digs_zero _]
    exact ⟨hE, ⟨rfl, .inl ⟨rfl, rfl⟩⟩, by simp, by simp⟩
  refine vc_skip ?_
  refine hK _ _ ?_
  clear hK K
  with_reducible refine vc_seq fun K hK => ?_
  refine vc_reg ?_
  try simp only [go_sem, opsV, undef, binV_int, binV_eqB, binV_neB, pbin_int, pbin_eqB, pbin_neB, intV, arith, unV_not, unV_neg, Nat.reduceBEq, Nat.reduceEqDiff, ↓reduceIte, reduceCtorEq, Int.reduceToNat, Nat.reduceLeDiff, Int.reduceLE, Int.reduceLT, Int.reducePow, Int.reduceNeg, Nat.reduceAdd, Nat.reduceMul, Nat.reducePow, Tryd.underlying22]
  refine ⟨_, ha.len, _, hb.len, ?_⟩
  try simp only [go_sem, opsV, undef, binV_int, binV_eqB, binV_neB, pbin_int, pbin_eqB, pbin_neB, intV, arith, unV_not, unV_neg, Nat.reduceBEq, Nat.reduceEqDiff, ↓reduceIte, reduceCtorEq, Int.reduceToNat, Nat.reduceLeDiff, Int.reduceLE, Int.reduceLT, Int.reducePow, Int.reduceNeg, Nat.reduceAdd, Nat.reduceMul, Nat.reducePow, Tryd.underlying22]
  obtain ⟨b, w3, hmk, hnew⟩ := make_any (w := w2) T64 (kl := .i64) (kc := .i64) (n := A.length + B.length) (by omega) (by omega)
  refine ⟨(by unfold R64; omega), _, w3, hmk, ?_⟩
  refine hK _ _ ?_
  clear hK K
  have hB2 : Ext w2 w3 := hnew.ext
  have own : O64 w3 w2.heap.size (.slice (some ⟨b, 0, none⟩) (A.length + B.length) (A.length + B.length)) (List.replicate (A.length + B.length) 0) := by
    have hrow := hnew.row
    rw [show (Value.int .u64 0).cells = #[.int .u64 0] from rfl, Nat.mul_one, toList_madeCells_one] at hrow
    have := own_row (w := w3) hrow (n := A.length + B.length) (cap := A.length + B.length) (by simp) (Nat.le_refl _) (by omega)
    refine ⟨?_, fun x hx => by rw [List.eq_of_mem_replicate hx]; decide, by simp; omega⟩
    have e : (List.replicate (A.length + B.length) (Value.int .u64 0)).take (A.length + B.length) = wc .u64 (List.replicate (A.length + B.length) 0) := by
      rw [List.take_of_length_le (by simp)]; simp [wc]
    rw [e] at this
    rw [List.length_replicate]
    exact own_base this hnew.fresh
  clear hmk hnew
  with_reducible refine vc_seq fun K hK => ?_
  with_reducible refine vc_seq fun K hK => ?_
  refine vc_reg ?_
  try simp only [go_sem, opsV, undef, binV_int, binV_eqB, binV_neB, pbin_int, pbin_eqB, pbin_neB, intV, arith, unV_not, unV_neg, Nat.reduceBEq, Nat.reduceEqDiff, ↓reduceIte, reduceCtorEq, Int.reduceToNat, Nat.reduceLeDiff, Int.reduceLE, Int.reduceLT, Int.reducePow, Int.reduceNeg, Nat.reduceAdd, Nat.reduceMul, Nat.reducePow, Tryd.underlying22]
  refine ⟨_, ha.len, ?_⟩
  refine hK _ _ ?_
  clear hK K
  refine vc_block ?_
  refine nat_Mul_l0 (so := .slice (some ⟨b, 0, none⟩) (A.length + B.length) (A.length + B.length)) ha hb (by omega) (by omega) (fun e w' os hn own hB g5 => ?_) _ w3 _ (by simp) ?_ own hB2 ?_ ?_ ?_ ?_ ?_
  · simp only [↓reduceIte]
    refine hK _ _ ?_
    clear hK K
    with_reducible refine vc_seq fun K hK => ?_
    with_reducible refine vc_reg ?_
    try simp only [go_sem, opsV, undef, binV_int, binV_eqB, binV_neB, pbin_int, pbin_eqB, pbin_neB, intV, arith, unV_not, unV_neg, Nat.reduceBEq, Nat.reduceEqDiff, ↓reduceIte, reduceCtorEq, Int.reduceToNat, Nat.reduceLeDiff, Int.reduceLE, Int.reduceLT, Int.reducePow, Int.reduceNeg, Nat.reduceAdd, Nat.reduceMul, Nat.reducePow, g5]
    refine (nat_cut own.ws).mono ?_
    rintro r w5 ⟨hE5, rfl, hr⟩
    try simp only [go_sem, opsV, undef, binV_int, binV_eqB, binV_neB, pbin_int, pbin_eqB, pbin_neB, intV, arith, unV_not, unV_neg, Nat.reduceBEq, Nat.reduceEqDiff, ↓reduceIte, reduceCtorEq, Int.reduceToNat, Nat.reduceLeDiff, Int.reduceLE, Int.reduceLT, Int.reducePow, Int.reduceNeg, Nat.reduceAdd, Nat.reduceMul, Nat.reducePow, g5]
    refine hK _ _ ?_
    clear hK K
    refine vc_ret ?_
    simp only [retV, resL, one, go_sem, opsV, undef, binV_int, binV_eqB, binV_neB, pbin_int, pbin_eqB, pbin_neB, intV, arith, unV_not, unV_neg, Nat.reduceBEq, Nat.reduceEqDiff, ↓reduceIte, reduceCtorEq, Int.reduceToNat, Nat.reduceLeDiff, Int.reduceLE, Int.reduceLT, Int.reducePow, Int.reduceNeg, Nat.reduceAdd, Nat.reduceMul, Nat.reducePow, g5]
    have o2 := (own.digs two64).up hE5
    have hd : N64 os = N64 xs * N64 ys := by rw [hn, hnA, hnB]
    rw [show nval 18446744073709551616 os = N64 xs * N64 ys from hd] at o2
    rw [hd]
    exact ⟨(hE.trans' hB).trans' hE5, o2.base hE.size⟩
  · intro m
    simp only [List.getD, List.getElem?_replicate]
    split <;> rfl
  all_goals try simp only [go_sem, opsV, undef, binV_int, binV_eqB, binV_neB, pbin_int, pbin_eqB, pbin_neB, intV, arith, unV_not, unV_neg, Nat.reduceBEq, Nat.reduceEqDiff, ↓reduceIte, reduceCtorEq, Int.reduceToNat, Nat.reduceLeDiff, Int.reduceLE, Int.reduceLT, Int.reducePow, Int.reduceNeg, Nat.reduceAdd, Nat.reduceMul, Nat.reducePow, Tryd.underlying22]

end Go.V

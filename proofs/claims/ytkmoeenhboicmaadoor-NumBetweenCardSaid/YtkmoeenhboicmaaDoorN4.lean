/- The walks of package nat: Sub. -/
import Derived.Test.YtkmoeenhboicmaaDoorN3
set_option linter.unusedSimpArgs false
set_option linter.unusedVariables false
set_option maxRecDepth 100000

namespace Go.V
open Go Go.RowKit Go.Proofs

theorem sub_word {x b c : Nat} (hx : x < 18446744073709551616) (hb : b < 18446744073709551616) (hc : c ≤ 1) : (x + 18446744073709551616 - b - c) % 18446744073709551616 + b + c = x + 18446744073709551616 * (if x < b + c then 1 else 0) := by
  split <;> omega

theorem Ws.digs {H : Array Obj} {v : Value} {xs : List Nat} (h : U64s H v xs) : U64s H (resl v (D64 (N64 xs)).length) (D64 (N64 xs)) := by
  have := h.take (digs_le h.2)
  rwa [take_digs_len two64 h.2] at this

theorem nat_TrimO {w : World} {v : Value} {xs : List Nat} (h : U64s w.heap v xs) (hl : xs.length ≤ 1099511627776) : FC Tryd.prog 71 #[v] w fun r w' => Ext w w' ∧ O64 w' w.heap.size r (D64 (N64 xs)) := by
  refine (nat_Trim h (by omega)).mono ?_
  rintro r w' ⟨h1, h2⟩
  exact ⟨h1, h2, digs_lt two64 _, by have := digs_le h.2; omega⟩

theorem nat_Sub_l1 {w2 : World} {so : Value} {N : Env → World → Prop} {X : Nat → Env → World → Prop} {R : Env → World → Prop} {L T S : Nat} (hST : S ≤ T) (hL : L ≤ 1099511627776)
    (J : ∀ (e : Env) (w' : World) (os : List Nat), N64 os + S = T → O64 w' w2.heap.size so os → Ext w2 w' → e 6 = so → X 2 e w')
    (e : Env) (w' : World) (os : List Nat) (c i : Nat) (hi : i ≤ L) (hol : os.length = L) (hc : c ≤ 1) (hsum : nval 18446744073709551616 os + S = T + 18446744073709551616 ^ i * c)
    (own : O64 w' w2.heap.size so os) (hB : Ext w2 w') (g6 : e 6 = so) (g7 : e 7 = .int .u64 (c : Int)) (g9 : e 9 = .int .i64 (i : Int)) :
    vc Tryd.prog (nthLoop Tryd.f75 1) N X R e w' := by
  change vc _ (.loop _) _ _ _ _ _
  refine vc_loop (fun e w' => ∃ (os : List Nat) (c i : Nat), i ≤ L ∧ os.length = L ∧ c ≤ 1 ∧ nval 18446744073709551616 os + S = T + 18446744073709551616 ^ i * c ∧ O64 w' w2.heap.size so os ∧ Ext w2 w' ∧ e 6 = so ∧ e 7 = .int .u64 (c : Int) ∧ e 9 = .int .i64 (i : Int)) (fun e _ => L - (intOf (e 9)).toNat) ?_ ?_
  · exact ⟨os, c, i, hi, hol, hc, hsum, own, hB, g6, g7, g9⟩
  · clear hsum own hol hc hB g6 g7 g9 hi
    clear os c i e w'
    rintro e w' ⟨os, c, i, hi, hol, hc, hsum, own, hB, g6, g7, g9⟩
    have hmz : (intOf (e 9)).toNat = i := by rw [g9]; rfl
    refine vc_seq fun K1 hK1 => ?_
    refine vc_seq fun K2 hK2 => ?_
    refine vc_reg ?_
    try simp only [go_sem, opsV, undef, binV_int, binV_eqB, binV_neB, pbin_int, pbin_eqB, pbin_neB, intV, arith, unV_not, unV_neg, Nat.reduceBEq, Nat.reduceEqDiff, ↓reduceIte, reduceCtorEq, Int.reduceToNat, Nat.reduceLeDiff, Int.reduceLE, Int.reduceLT, Int.reducePow, Int.reduceNeg, Nat.reduceAdd, Nat.reduceMul, Nat.reducePow, Tryd.underlying22, g6, g7, g9]
    refine ⟨_, own.len.cast hol, ?_⟩
    refine hK2 _ _ ?_
    clear hK2
    refine vc_condD (by simp only [go_sem, opsV, undef, binV_int, binV_eqB, binV_neB, pbin_int, pbin_eqB, pbin_neB, intV, arith, unV_not, unV_neg, Nat.reduceBEq, Nat.reduceEqDiff, ↓reduceIte, reduceCtorEq, Int.reduceToNat, Nat.reduceLeDiff, Int.reduceLE, Int.reduceLT, Int.reducePow, Int.reduceNeg, Nat.reduceAdd, Nat.reduceMul, Nat.reducePow, Tryd.underlying22, g6, g7, g9] <;> rfl) (fun ht => ?_) (fun ht => ?_)
    · refine vc_skip ?_
      refine hK1 _ _ ?_
      clear hK1
      refine vc_seq fun K1 hK1 => ?_
      refine vc_block ?_
      refine vc_seq fun K2 hK2 => ?_
      refine vc_seq fun K3 hK3 => ?_
      refine vc_reg ?_
      try simp only [go_sem, opsV, undef, binV_int, binV_eqB, binV_neB, pbin_int, pbin_eqB, pbin_neB, intV, arith, unV_not, unV_neg, Nat.reduceBEq, Nat.reduceEqDiff, ↓reduceIte, reduceCtorEq, Int.reduceToNat, Nat.reduceLeDiff, Int.reduceLE, Int.reduceLT, Int.reducePow, Int.reduceNeg, Nat.reduceAdd, Nat.reduceMul, Nat.reducePow, Tryd.underlying22, g6, g7, g9]
      refine hK3 _ _ ?_
      clear hK3
      refine vc_condD (by simp only [go_sem, opsV, undef, binV_int, binV_eqB, binV_neB, pbin_int, pbin_eqB, pbin_neB, intV, arith, unV_not, unV_neg, Nat.reduceBEq, Nat.reduceEqDiff, ↓reduceIte, reduceCtorEq, Int.reduceToNat, Nat.reduceLeDiff, Int.reduceLE, Int.reduceLT, Int.reducePow, Int.reduceNeg, Nat.reduceAdd, Nat.reduceMul, Nat.reducePow, Tryd.underlying22, g6, g7, g9] <;> rfl) (fun hc0 => ?_) (fun hc0 => ?_)
      · refine vc_exit ?_
        simp only [↓reduceIte, Nat.reduceEqDiff]
        have hc0 : c = 0 := hc0
        rw [hc0, Nat.mul_zero, Nat.add_zero] at hsum
        refine J _ _ os hsum own hB ?_
        try simp only [go_sem, opsV, undef, binV_int, binV_eqB, binV_neB, pbin_int, pbin_eqB, pbin_neB, intV, arith, unV_not, unV_neg, Nat.reduceBEq, Nat.reduceEqDiff, ↓reduceIte, reduceCtorEq, Int.reduceToNat, Nat.reduceLeDiff, Int.reduceLE, Int.reduceLT, Int.reducePow, Int.reduceNeg, Nat.reduceAdd, Nat.reduceMul, Nat.reducePow, Tryd.underlying22, g6, g7, g9]
      · refine vc_skip ?_
        refine hK2 _ _ ?_
        clear hK2
        obtain ⟨ad, hix, hld, hst⟩ := own.at T64 S64 (ki := .i64) (i := i) (by omega)
        refine vc_reg ?_
        try simp only [go_sem, opsV, undef, binV_int, binV_eqB, binV_neB, pbin_int, pbin_eqB, pbin_neB, intV, arith, unV_not, unV_neg, Nat.reduceBEq, Nat.reduceEqDiff, ↓reduceIte, reduceCtorEq, Int.reduceToNat, Nat.reduceLeDiff, Int.reduceLE, Int.reduceLT, Int.reducePow, Int.reduceNeg, Nat.reduceAdd, Nat.reduceMul, Nat.reducePow, Tryd.underlying22, g6, g7, g9]
        refine ⟨ad, hix, _, hld, ?_⟩
        refine sub64 (os.getD i 0) 0 c hc ?_
        obtain ⟨w'', h1, h2, h3, h4⟩ := hst ((os.getD i 0 + 18446744073709551616 - 0 - c) % 18446744073709551616) (mod64 _)
        try simp only [go_sem, opsV, undef, binV_int, binV_eqB, binV_neB, pbin_int, pbin_eqB, pbin_neB, intV, arith, unV_not, unV_neg, Nat.reduceBEq, Nat.reduceEqDiff, ↓reduceIte, reduceCtorEq, Int.reduceToNat, Nat.reduceLeDiff, Int.reduceLE, Int.reduceLT, Int.reducePow, Int.reduceNeg, Nat.reduceAdd, Nat.reduceMul, Nat.reducePow, Tryd.underlying22, g6, g7, g9]
        refine ⟨ad, hix, w'', h1, ?_⟩
        refine hK1 _ _ ?_
        refine vc_reg ?_
        try simp only [go_sem, opsV, undef, binV_int, binV_eqB, binV_neB, pbin_int, pbin_eqB, pbin_neB, intV, arith, unV_not, unV_neg, Nat.reduceBEq, Nat.reduceEqDiff, ↓reduceIte, reduceCtorEq, Int.reduceToNat, Nat.reduceLeDiff, Int.reduceLE, Int.reduceLT, Int.reducePow, Int.reduceNeg, Nat.reduceAdd, Nat.reduceMul, Nat.reducePow, Tryd.underlying22, g6, g7, g9]
        refine ⟨(by unfold R64; omega), ⟨os.set i ((os.getD i 0 + 18446744073709551616 - 0 - c) % 18446744073709551616), if os.getD i 0 < 0 + c then 1 else 0, i + 1, by omega, by rw [List.length_set]; exact hol, ?_, ?_, h2, h4 _ _ hB (Nat.le_refl _), ?_⟩, ?_⟩
        · split <;> omega
        · exact sub_step (b := 0) (d := 0) (by omega) (sub_word (own.ws.lt (by decide) i) (by decide) hc) hsum
        · try simp only [go_sem, opsV, undef, binV_int, binV_eqB, binV_neB, pbin_int, pbin_eqB, pbin_neB, intV, arith, unV_not, unV_neg, Nat.reduceBEq, Nat.reduceEqDiff, ↓reduceIte, reduceCtorEq, Int.reduceToNat, Nat.reduceLeDiff, Int.reduceLE, Int.reduceLT, Int.reducePow, Int.reduceNeg, Nat.reduceAdd, Nat.reduceMul, Nat.reducePow, Tryd.underlying22, g6, g7, g9]
        · (try rw [hmz])
          simp only [intOf]; omega
    · refine vc_exit ?_
      have hiL : L = i := by omega
      subst hiL
      have hc0 : c = 0 := by
        rcases Nat.eq_zero_or_pos c with h | h
        · exact h
        · have h1 := Nat.mul_le_mul_left (18446744073709551616 ^ L) h
          have h2 := nval_lt (B := 18446744073709551616) (by decide) os own.lt
          rw [Nat.mul_one] at h1
          rw [hol] at h2
          omega
      subst hc0
      rw [Nat.mul_zero, Nat.add_zero] at hsum
      refine J _ _ os hsum own hB ?_
      try simp only [go_sem, opsV, undef, binV_int, binV_eqB, binV_neB, pbin_int, pbin_eqB, pbin_neB, intV, arith, unV_not, unV_neg, Nat.reduceBEq, Nat.reduceEqDiff, ↓reduceIte, reduceCtorEq, Int.reduceToNat, Nat.reduceLeDiff, Int.reduceLE, Int.reduceLT, Int.reducePow, Int.reduceNeg, Nat.reduceAdd, Nat.reduceMul, Nat.reducePow, Tryd.underlying22, g6, g7, g9]

theorem nat_Sub_l0 {w2 : World} {so rb : Value} {B : List Nat} (hb : U64s w2.heap rb B) {N : Env → World → Prop} {X : Nat → Env → World → Prop} {R : Env → World → Prop} {L T S : Nat} (hL : L ≤ 1099511627776) (hle : B.length ≤ L)
    (J : ∀ (e : Env) (w' : World) (os : List Nat) (c : Nat), os.length = L → c ≤ 1 → nval 18446744073709551616 os + S = T + 18446744073709551616 ^ B.length * c → O64 w' w2.heap.size so os → Ext w2 w' → e 1 = rb → e 6 = so → e 7 = .int .u64 (c : Int) → X 0 e w')
    (e : Env) (w' : World) (os : List Nat) (hol : os.length = L) (hsum : nval 18446744073709551616 os + S = T + nval 18446744073709551616 B)
    (own : O64 w' w2.heap.size so os) (hB : Ext w2 w') (g1 : e 1 = rb) (g6 : e 6 = so) (g7 : e 7 = .int .u64 0) (g19 : e 19 = .int .i64 (B.length : Int)) (g20 : e 20 = .int .i64 0) :
    vc Tryd.prog (nthLoop Tryd.f75 0) N X R e w' := by
  change vc _ (.loop _) _ _ _ _ _
  refine vc_loop (fun e w' => ∃ (os : List Nat) (c i : Nat), i ≤ B.length ∧ os.length = L ∧ c ≤ 1 ∧ nval 18446744073709551616 os + S = T + 18446744073709551616 ^ i * (c + nval 18446744073709551616 (B.drop i)) ∧ O64 w' w2.heap.size so os ∧ Ext w2 w' ∧ e 1 = rb ∧ e 6 = so ∧ e 7 = .int .u64 (c : Int) ∧ e 19 = .int .i64 (B.length : Int) ∧ e 20 = .int .i64 (i : Int)) (fun e _ => B.length - (intOf (e 20)).toNat) ?_ ?_
  · refine ⟨os, 0, 0, Nat.zero_le _, hol, by omega, ?_, own, hB, g1, g6, g7, g19, g20⟩
    rw [List.drop_zero, Nat.pow_zero, Nat.one_mul, Nat.zero_add]
    exact hsum
  · clear hsum own hol hB g1 g6 g7 g19 g20
    clear os e w'
    rintro e w' ⟨os, c, i, hi, hol, hc, hsum, own, hB, g1, g6, g7, g19, g20⟩
    have hmz : (intOf (e 20)).toNat = i := by rw [g20]; rfl
    refine vc_seq fun K1 hK1 => ?_
    refine vc_reg ?_
    try simp only [go_sem, opsV, undef, binV_int, binV_eqB, binV_neB, pbin_int, pbin_eqB, pbin_neB, intV, arith, unV_not, unV_neg, Nat.reduceBEq, Nat.reduceEqDiff, ↓reduceIte, reduceCtorEq, Int.reduceToNat, Nat.reduceLeDiff, Int.reduceLE, Int.reduceLT, Int.reducePow, Int.reduceNeg, Nat.reduceAdd, Nat.reduceMul, Nat.reducePow, Tryd.underlying22, g1, g6, g7, g19, g20]
    refine hK1 _ _ ?_
    clear hK1
    refine vc_seq fun K1 hK1 => ?_
    refine vc_condD (by simp only [go_sem, opsV, undef, binV_int, binV_eqB, binV_neB, pbin_int, pbin_eqB, pbin_neB, intV, arith, unV_not, unV_neg, Nat.reduceBEq, Nat.reduceEqDiff, ↓reduceIte, reduceCtorEq, Int.reduceToNat, Nat.reduceLeDiff, Int.reduceLE, Int.reduceLT, Int.reducePow, Int.reduceNeg, Nat.reduceAdd, Nat.reduceMul, Nat.reducePow, Tryd.underlying22, g1, g6, g7, g19, g20] <;> rfl) (fun ht => ?_) (fun ht => ?_)
    · refine vc_skip ?_
      refine hK1 _ _ ?_
      clear hK1
      refine vc_seq fun K1 hK1 => ?_
      refine vc_block ?_
      refine vc_seq fun K2 hK2 => ?_
      refine vc_reg ?_
      try simp only [go_sem, opsV, undef, binV_int, binV_eqB, binV_neB, pbin_int, pbin_eqB, pbin_neB, intV, arith, unV_not, unV_neg, Nat.reduceBEq, Nat.reduceEqDiff, ↓reduceIte, reduceCtorEq, Int.reduceToNat, Nat.reduceLeDiff, Int.reduceLE, Int.reduceLT, Int.reducePow, Int.reduceNeg, Nat.reduceAdd, Nat.reduceMul, Nat.reducePow, Tryd.underlying22, g1, g6, g7, g19, g20]
      refine hK2 _ _ ?_
      clear hK2
      obtain ⟨ad, hix, hld, hst⟩ := (own.up (ext_drew _)).at T64 S64 (ki := .i64) (i := i) (by omega)
      obtain ⟨bd, hib, hlb⟩ := (hb.up hB).get (k := .i64) (i := i) ht
      refine vc_draw [(0, 0), (1, 0), (2, 0), (3, 0), (4, 0), (5, 1), (6, 0), (7, 0), (8, 0), (9, 1), (10, 0), (11, 3), (12, 0), (13, 0), (14, 0), (15, 0), (16, 3), (17, 0)] (by kernel_rfl) ?_
      try simp only [go_sem, opsV, undef, binV_int, binV_eqB, binV_neB, pbin_int, pbin_eqB, pbin_neB, intV, arith, unV_not, unV_neg, Nat.reduceBEq, Nat.reduceEqDiff, ↓reduceIte, reduceCtorEq, Int.reduceToNat, Nat.reduceLeDiff, Int.reduceLE, Int.reduceLT, Int.reducePow, Int.reduceNeg, Nat.reduceAdd, Nat.reduceMul, Nat.reducePow, Tryd.underlying22, g1, g6, g7, g19, g20]
      refine ⟨ad, hix, _, hld, bd, hib, _, hlb _ (ext_drew _), ?_⟩
      refine sub64 (os.getD i 0) (B.getD i 0) c hc ?_
      obtain ⟨w'', h1, h2, h3, h4⟩ := hst ((os.getD i 0 + 18446744073709551616 - B.getD i 0 - c) % 18446744073709551616) (mod64 _)
      try simp only [go_sem, opsV, undef, binV_int, binV_eqB, binV_neB, pbin_int, pbin_eqB, pbin_neB, intV, arith, unV_not, unV_neg, Nat.reduceBEq, Nat.reduceEqDiff, ↓reduceIte, reduceCtorEq, Int.reduceToNat, Nat.reduceLeDiff, Int.reduceLE, Int.reduceLT, Int.reducePow, Int.reduceNeg, Nat.reduceAdd, Nat.reduceMul, Nat.reducePow, Tryd.underlying22, g1, g6, g7, g19, g20]
      refine ⟨ad, hix, w'', h1, ?_⟩
      refine hK1 _ _ ?_
      refine vc_reg ?_
      try simp only [go_sem, opsV, undef, binV_int, binV_eqB, binV_neB, pbin_int, pbin_eqB, pbin_neB, intV, arith, unV_not, unV_neg, Nat.reduceBEq, Nat.reduceEqDiff, ↓reduceIte, reduceCtorEq, Int.reduceToNat, Nat.reduceLeDiff, Int.reduceLE, Int.reduceLT, Int.reducePow, Int.reduceNeg, Nat.reduceAdd, Nat.reduceMul, Nat.reducePow, Tryd.underlying22, g1, g6, g7, g19, g20]
      refine ⟨(by unfold R64; omega), ⟨os.set i ((os.getD i 0 + 18446744073709551616 - B.getD i 0 - c) % 18446744073709551616), if os.getD i 0 < B.getD i 0 + c then 1 else 0, i + 1, by omega, by rw [List.length_set]; exact hol, ?_, ?_, h2, h4 _ _ hB.drew' (Nat.le_refl _), ?_⟩, ?_⟩
      · split <;> omega
      · refine sub_step (by omega) (sub_word (own.ws.lt (by decide) i) (hb.lt (by decide) i) hc) ?_
        rw [← nval_drop ht]; exact hsum
      · try simp only [go_sem, opsV, undef, binV_int, binV_eqB, binV_neB, pbin_int, pbin_eqB, pbin_neB, intV, arith, unV_not, unV_neg, Nat.reduceBEq, Nat.reduceEqDiff, ↓reduceIte, reduceCtorEq, Int.reduceToNat, Nat.reduceLeDiff, Int.reduceLE, Int.reduceLT, Int.reducePow, Int.reduceNeg, Nat.reduceAdd, Nat.reduceMul, Nat.reducePow, Tryd.underlying22, g1, g6, g7, g19, g20]
      · (try rw [hmz])
        simp only [intOf]; omega
    · refine vc_exit ?_
      obtain rfl : i = B.length := by omega
      rw [nval_drop_all (Nat.le_refl _), Nat.add_zero] at hsum
      exact J _ _ os c hol hc hsum own hB (by try simp only [go_sem, opsV, undef, binV_int, binV_eqB, binV_neB, pbin_int, pbin_eqB, pbin_neB, intV, arith, unV_not, unV_neg, Nat.reduceBEq, Nat.reduceEqDiff, ↓reduceIte, reduceCtorEq, Int.reduceToNat, Nat.reduceLeDiff, Int.reduceLE, Int.reduceLT, Int.reducePow, Int.reduceNeg, Nat.reduceAdd, Nat.reduceMul, Nat.reducePow, Tryd.underlying22, g1, g6, g7, g19, g20]) (by try simp only [go_sem, opsV, undef, binV_int, binV_eqB, binV_neB, pbin_int, pbin_eqB, pbin_neB, intV, arith, unV_not, unV_neg, Nat.reduceBEq, Nat.reduceEqDiff, ↓reduceIte, reduceCtorEq, Int.reduceToNat, Nat.reduceLeDiff, Int.reduceLE, Int.reduceLT, Int.reducePow, Int.reduceNeg, Nat.reduceAdd, Nat.reduceMul, Nat.reducePow, Tryd.underlying22, g1, g6, g7, g19, g20]) (by try simp only [go_sem, opsV, undef, binV_int, binV_eqB, binV_neB, pbin_int, pbin_eqB, pbin_neB, intV, arith, unV_not, unV_neg, Nat.reduceBEq, Nat.reduceEqDiff, ↓reduceIte, reduceCtorEq, Int.reduceToNat, Nat.reduceLeDiff, Int.reduceLE, Int.reduceLT, Int.reducePow, Int.reduceNeg, Nat.reduceAdd, Nat.reduceMul, Nat.reducePow, Tryd.underlying22, g1, g6, g7, g19, g20])

set_option maxHeartbeats 1000000 in
theorem nat_Sub {w : World} {va vb : Value} {xs ys : List Nat} (hx : U64s w.heap va xs) (hy : U64s w.heap vb ys) (hlx : xs.length ≤ 1099511627776) (hly : ys.length ≤ 1099511627776) :
    FC Tryd.prog 75 #[va, vb] w fun r w' => Ext w w' ∧ ((N64 ys ≤ N64 xs ∧ ∃ d, r = .tuple [d, .bool true].toArray ∧ O64 w' w.heap.size d (D64 (N64 xs - N64 ys))) ∨ (N64 xs < N64 ys ∧ r = .tuple [.slice none 0 0, .bool false].toArray)) := by
  have hda := digs_le hx.2
  have hdb := digs_le hy.2
  refine FC.body (l := [va, vb]) (rs := [.tmp 4, .tmp 5]) mixed Tryd.func75 rfl (by kernel_rfl) (by kernel_rfl) (Nat.le_of_ble_eq_true rfl) rfl ?_
  with_reducible refine vc_seq fun K hK => ?_
  with_reducible refine vc_reg ?_
  simp only [go_sem, opsV, undef, binV_int, binV_eqB, binV_neB, pbin_int, pbin_eqB, pbin_neB, intV, arith, unV_not, unV_neg, Nat.reduceBEq, Nat.reduceEqDiff, ↓reduceIte, reduceCtorEq, Int.reduceToNat, Nat.reduceLeDiff, Int.reduceLE, Int.reduceLT, Int.reducePow, Int.reduceNeg, Nat.reduceAdd, Nat.reduceMul, Nat.reducePow, Tryd.underlying22]
  refine hK _ _ ?_
  clear hK K
  with_reducible refine vc_scope ?_
  with_reducible refine vc_seq fun K hK => ?_
  with_reducible refine vc_seq fun K hK => ?_
  refine vc_reg ?_
  try simp only [go_sem, opsV, undef, binV_int, binV_eqB, binV_neB, pbin_int, pbin_eqB, pbin_neB, intV, arith, unV_not, unV_neg, Nat.reduceBEq, Nat.reduceEqDiff, ↓reduceIte, reduceCtorEq, Int.reduceToNat, Nat.reduceLeDiff, Int.reduceLE, Int.reduceLT, Int.reducePow, Int.reduceNeg, Nat.reduceAdd, Nat.reduceMul, Nat.reducePow, Tryd.underlying22]
  refine (nat_Cmp hx hy (by omega) (by omega)).mono ?_
  rintro rc w0 ⟨hE0, rfl⟩
  try simp only [go_sem, opsV, undef, binV_int, binV_eqB, binV_neB, pbin_int, pbin_eqB, pbin_neB, intV, arith, unV_not, unV_neg, Nat.reduceBEq, Nat.reduceEqDiff, ↓reduceIte, reduceCtorEq, Int.reduceToNat, Nat.reduceLeDiff, Int.reduceLE, Int.reduceLT, Int.reducePow, Int.reduceNeg, Nat.reduceAdd, Nat.reduceMul, Nat.reducePow, Tryd.underlying22]
  refine hK _ _ ?_
  clear hK K
  refine vc_condD (by simp only [go_sem, opsV, undef, binV_int, binV_eqB, binV_neB, pbin_int, pbin_eqB, pbin_neB, intV, arith, unV_not, unV_neg, Nat.reduceBEq, Nat.reduceEqDiff, ↓reduceIte, reduceCtorEq, Int.reduceToNat, Nat.reduceLeDiff, Int.reduceLE, Int.reduceLT, Int.reducePow, Int.reduceNeg, Nat.reduceAdd, Nat.reduceMul, Nat.reducePow, Tryd.underlying22] <;> rfl) (fun ht => ?_) (fun ht => ?_)
  · have hlt : N64 xs < N64 ys := by
      unfold cmpI at ht
      split at ht
      · omega
      · split at ht <;> omega
    repeat (first
      | (with_reducible refine vc_seq fun K hK => ?_)
      | (with_reducible refine vc_reg ?_)
      | (with_reducible refine vc_skip ?_)
      | (with_reducible refine vc_block ?_)
      | (with_reducible refine vc_scope ?_)
      | (with_reducible refine vc_label ?_)
      | (with_reducible refine vc_condT ?_ ?_; · simp only [go_sem, opsV, undef, binV_int, binV_eqB, binV_neB, pbin_int, pbin_eqB, pbin_neB, intV, arith, unV_not, unV_neg, Nat.reduceBEq, Nat.reduceEqDiff, ↓reduceIte, reduceCtorEq, Int.reduceToNat, Nat.reduceLeDiff, Int.reduceLE, Int.reduceLT, Int.reducePow, Int.reduceNeg, Nat.reduceAdd, Nat.reduceMul, Nat.reducePow, Tryd.underlying22] <;> rfl)
      | (with_reducible refine vc_condF ?_ ?_; · simp only [go_sem, opsV, undef, binV_int, binV_eqB, binV_neB, pbin_int, pbin_eqB, pbin_neB, intV, arith, unV_not, unV_neg, Nat.reduceBEq, Nat.reduceEqDiff, ↓reduceIte, reduceCtorEq, Int.reduceToNat, Nat.reduceLeDiff, Int.reduceLE, Int.reduceLT, Int.reducePow, Int.reduceNeg, Nat.reduceAdd, Nat.reduceMul, Nat.reducePow, Tryd.underlying22] <;> rfl)
      | (with_reducible refine vc_exit ?_; simp only [↓reduceIte, Nat.reduceEqDiff])
      | (with_reducible refine vc_ret ?_; simp only [retV, resL, one])
      | (with_reducible refine hK _ _ ?_; clear hK)
      | (clear hK; with_reducible refine hK _ _ ?_; clear hK)
      | (clear hK; clear hK; with_reducible refine hK _ _ ?_; clear hK)
      | (simp only [go_sem, opsV, undef, binV_int, binV_eqB, binV_neB, pbin_int, pbin_eqB, pbin_neB, intV, arith, unV_not, unV_neg, Nat.reduceBEq, Nat.reduceEqDiff, ↓reduceIte, reduceCtorEq, Int.reduceToNat, Nat.reduceLeDiff, Int.reduceLE, Int.reduceLT, Int.reducePow, Int.reduceNeg, Nat.reduceAdd, Nat.reduceMul, Nat.reducePow, Tryd.underlying22]))
    first | exact ⟨hE0, .inr ⟨hlt, rfl⟩⟩ | exact ⟨hE0, .inr hlt⟩
  have hge : N64 ys ≤ N64 xs := by
    unfold cmpI at ht
    split at ht
    · omega
    · split at ht <;> omega
  refine vc_skip ?_
  refine hK _ _ ?_
  clear hK K
  with_reducible refine vc_seq fun K hK => ?_
  refine vc_reg ?_
  try simp only [go_sem, opsV, undef, binV_int, binV_eqB, binV_neB, pbin_int, pbin_eqB, pbin_neB, intV, arith, unV_not, unV_neg, Nat.reduceBEq, Nat.reduceEqDiff, ↓reduceIte, reduceCtorEq, Int.reduceToNat, Nat.reduceLeDiff, Int.reduceLE, Int.reduceLT, Int.reducePow, Int.reduceNeg, Nat.reduceAdd, Nat.reduceMul, Nat.reducePow, Tryd.underlying22]
  refine (nat_TrimO (hx.up hE0) (by omega)).mono ?_
  rintro so w1 ⟨hE1, own⟩
  try simp only [go_sem, opsV, undef, binV_int, binV_eqB, binV_neB, pbin_int, pbin_eqB, pbin_neB, intV, arith, unV_not, unV_neg, Nat.reduceBEq, Nat.reduceEqDiff, ↓reduceIte, reduceCtorEq, Int.reduceToNat, Nat.reduceLeDiff, Int.reduceLE, Int.reduceLT, Int.reducePow, Int.reduceNeg, Nat.reduceAdd, Nat.reduceMul, Nat.reducePow, Tryd.underlying22]
  refine (nat_cut ((hy.up hE0).up hE1)).mono ?_
  rintro rb w2 ⟨hE2, hrb, hb⟩
  have own := own.up hE2
  have hE20 := hE1.trans' hE2
  have hS1 : w.heap.size ≤ w0.heap.size := hE0.size
  have hb : U64s w0.heap rb (D64 (N64 ys)) := hrb ▸ (hy.up hE0).digs
  clear hrb
  try simp only [go_sem, opsV, undef, binV_int, binV_eqB, binV_neB, pbin_int, pbin_eqB, pbin_neB, intV, arith, unV_not, unV_neg, Nat.reduceBEq, Nat.reduceEqDiff, ↓reduceIte, reduceCtorEq, Int.reduceToNat, Nat.reduceLeDiff, Int.reduceLE, Int.reduceLT, Int.reducePow, Int.reduceNeg, Nat.reduceAdd, Nat.reduceMul, Nat.reducePow, Tryd.underlying22]
  refine hK _ _ ?_
  clear hK K
  have hnA : N64 (D64 (N64 xs)) = N64 xs := nval_digs two64 _
  have hnB : N64 (D64 (N64 ys)) = N64 ys := nval_digs two64 _
  have hlen : (D64 (N64 ys)).length ≤ (D64 (N64 xs)).length := by
    rcases Nat.lt_or_ge (D64 (N64 xs)).length (D64 (N64 ys)).length with h | h
    · have := nval_lt_of_len two64 h; omega
    · exact h
  generalize hA : D64 (N64 xs) = A at *
  generalize hB : D64 (N64 ys) = B at *
  with_reducible refine vc_seq fun K hK => ?_
  with_reducible refine vc_reg ?_
  simp only [go_sem, opsV, undef, binV_int, binV_eqB, binV_neB, pbin_int, pbin_eqB, pbin_neB, intV, arith, unV_not, unV_neg, Nat.reduceBEq, Nat.reduceEqDiff, ↓reduceIte, reduceCtorEq, Int.reduceToNat, Nat.reduceLeDiff, Int.reduceLE, Int.reduceLT, Int.reducePow, Int.reduceNeg, Nat.reduceAdd, Nat.reduceMul, Nat.reducePow, Tryd.underlying22]
  refine hK _ _ ?_
  clear hK K
  with_reducible refine vc_seq fun K hK => ?_
  with_reducible refine vc_seq fun K hK => ?_
  refine vc_reg ?_
  try simp only [go_sem, opsV, undef, binV_int, binV_eqB, binV_neB, pbin_int, pbin_eqB, pbin_neB, intV, arith, unV_not, unV_neg, Nat.reduceBEq, Nat.reduceEqDiff, ↓reduceIte, reduceCtorEq, Int.reduceToNat, Nat.reduceLeDiff, Int.reduceLE, Int.reduceLT, Int.reducePow, Int.reduceNeg, Nat.reduceAdd, Nat.reduceMul, Nat.reducePow, Tryd.underlying22]
  refine ⟨_, hb.len, ?_⟩
  refine hK _ _ ?_
  clear hK K
  have J2 : ∀ (e : Env) (w' : World) (os : List Nat) (c : Nat), os.length = A.length → c ≤ 1 → nval 18446744073709551616 os + N64 ys = N64 xs + 18446744073709551616 ^ B.length * c →
      O64 w' w0.heap.size so os → Ext w0 w' → e 1 = rb → e 6 = so → e 7 = .int .u64 (c : Int) → K e w' := by
    intro e w' os c hol hc hsum own hB g1 g6 g7
    have hb' := hb.up hB
    refine hK _ _ ?_
    clear hK K
    with_reducible refine vc_seq fun K hK => ?_
    with_reducible refine vc_label ?_
    refine hK _ _ ?_
    clear hK K
    with_reducible refine vc_seq fun K hK => ?_
    with_reducible refine vc_seq fun K hK => ?_
    with_reducible refine vc_reg ?_
    try simp only [go_sem, opsV, undef, binV_int, binV_eqB, binV_neB, pbin_int, pbin_eqB, pbin_neB, intV, arith, unV_not, unV_neg, Nat.reduceBEq, Nat.reduceEqDiff, ↓reduceIte, reduceCtorEq, Int.reduceToNat, Nat.reduceLeDiff, Int.reduceLE, Int.reduceLT, Int.reducePow, Int.reduceNeg, Nat.reduceAdd, Nat.reduceMul, Nat.reducePow, Tryd.underlying22, g1, g6, g7]
    refine ⟨_, hb'.len, ?_⟩
    refine hK _ _ ?_
    clear hK K
    have J3 : ∀ (e : Env) (w' : World) (os : List Nat), N64 os + N64 ys = N64 xs →
        O64 w' w0.heap.size so os → Ext w0 w' → e 6 = so → K e w' := by
      intro e w' os hsum own hB g6
      refine hK _ _ ?_
      clear hK K
      with_reducible refine vc_seq fun K hK => ?_
      with_reducible refine vc_reg ?_
      try simp only [go_sem, opsV, undef, binV_int, binV_eqB, binV_neB, pbin_int, pbin_eqB, pbin_neB, intV, arith, unV_not, unV_neg, Nat.reduceBEq, Nat.reduceEqDiff, ↓reduceIte, reduceCtorEq, Int.reduceToNat, Nat.reduceLeDiff, Int.reduceLE, Int.reduceLT, Int.reducePow, Int.reduceNeg, Nat.reduceAdd, Nat.reduceMul, Nat.reducePow, g6]
      refine (nat_cut own.ws).mono ?_
      rintro r w5 ⟨hE5, rfl, hr⟩
      try simp only [go_sem, opsV, undef, binV_int, binV_eqB, binV_neB, pbin_int, pbin_eqB, pbin_neB, intV, arith, unV_not, unV_neg, Nat.reduceBEq, Nat.reduceEqDiff, ↓reduceIte, reduceCtorEq, Int.reduceToNat, Nat.reduceLeDiff, Int.reduceLE, Int.reduceLT, Int.reducePow, Int.reduceNeg, Nat.reduceAdd, Nat.reduceMul, Nat.reducePow, g6]
      refine hK _ _ ?_
      clear hK K
      refine vc_ret ?_
      simp only [retV, resL, one, go_sem, opsV, undef, binV_int, binV_eqB, binV_neB, pbin_int, pbin_eqB, pbin_neB, intV, arith, unV_not, unV_neg, Nat.reduceBEq, Nat.reduceEqDiff, ↓reduceIte, reduceCtorEq, Int.reduceToNat, Nat.reduceLeDiff, Int.reduceLE, Int.reduceLT, Int.reducePow, Int.reduceNeg, Nat.reduceAdd, Nat.reduceMul, Nat.reducePow, g6]
      have o2 := (own.digs two64).up hE5
      have hd : N64 os = N64 xs - N64 ys := by omega
      rw [show nval 18446744073709551616 os = N64 xs - N64 ys from hd] at o2
      rw [hd]
      exact ⟨(hE0.trans' hB).trans' hE5, .inl ⟨hge, _, rfl, o2.base hS1⟩⟩
    refine vc_block ?_
    refine nat_Sub_l1 (so := so) (w2 := w0) hge (L := A.length) (by omega) (fun e w' os h1 h2 h3 h4 => ?_) _ w' os c B.length hlen hol hc hsum own hB ?_ ?_ ?_
    · simp only [↓reduceIte]
      exact J3 e w' os h1 h2 h3 h4
    · try simp only [go_sem, opsV, undef, binV_int, binV_eqB, binV_neB, pbin_int, pbin_eqB, pbin_neB, intV, arith, unV_not, unV_neg, Nat.reduceBEq, Nat.reduceEqDiff, ↓reduceIte, reduceCtorEq, Int.reduceToNat, Nat.reduceLeDiff, Int.reduceLE, Int.reduceLT, Int.reducePow, Int.reduceNeg, Nat.reduceAdd, Nat.reduceMul, Nat.reducePow, Tryd.underlying22, g1, g6, g7]
    · try simp only [go_sem, opsV, undef, binV_int, binV_eqB, binV_neB, pbin_int, pbin_eqB, pbin_neB, intV, arith, unV_not, unV_neg, Nat.reduceBEq, Nat.reduceEqDiff, ↓reduceIte, reduceCtorEq, Int.reduceToNat, Nat.reduceLeDiff, Int.reduceLE, Int.reduceLT, Int.reducePow, Int.reduceNeg, Nat.reduceAdd, Nat.reduceMul, Nat.reducePow, Tryd.underlying22, g1, g6, g7]
    · try simp only [go_sem, opsV, undef, binV_int, binV_eqB, binV_neB, pbin_int, pbin_eqB, pbin_neB, intV, arith, unV_not, unV_neg, Nat.reduceBEq, Nat.reduceEqDiff, ↓reduceIte, reduceCtorEq, Int.reduceToNat, Nat.reduceLeDiff, Int.reduceLE, Int.reduceLT, Int.reducePow, Int.reduceNeg, Nat.reduceAdd, Nat.reduceMul, Nat.reducePow, Tryd.underlying22, g1, g6, g7]
  refine vc_block ?_
  refine nat_Sub_l0 (so := so) (rb := rb) (w2 := w0) (B := B) (L := A.length) (T := N64 xs) (S := N64 ys) hb (by omega) hlen (fun e w' os c h1 h2 h3 h4 h5 h6 h7 h8 => ?_) _ w2 A rfl ?_ own hE20 ?_ ?_ ?_ ?_ ?_
  · simp only [↓reduceIte]
    exact J2 e w' os c h1 h2 h3 h4 h5 h6 h7 h8
  · show N64 A + N64 ys = N64 xs + N64 B
    omega
  · try simp only [go_sem, opsV, undef, binV_int, binV_eqB, binV_neB, pbin_int, pbin_eqB, pbin_neB, intV, arith, unV_not, unV_neg, Nat.reduceBEq, Nat.reduceEqDiff, ↓reduceIte, reduceCtorEq, Int.reduceToNat, Nat.reduceLeDiff, Int.reduceLE, Int.reduceLT, Int.reducePow, Int.reduceNeg, Nat.reduceAdd, Nat.reduceMul, Nat.reducePow, Tryd.underlying22]
  · try simp only [go_sem, opsV, undef, binV_int, binV_eqB, binV_neB, pbin_int, pbin_eqB, pbin_neB, intV, arith, unV_not, unV_neg, Nat.reduceBEq, Nat.reduceEqDiff, ↓reduceIte, reduceCtorEq, Int.reduceToNat, Nat.reduceLeDiff, Int.reduceLE, Int.reduceLT, Int.reducePow, Int.reduceNeg, Nat.reduceAdd, Nat.reduceMul, Nat.reducePow, Tryd.underlying22]
  · try simp only [go_sem, opsV, undef, binV_int, binV_eqB, binV_neB, pbin_int, pbin_eqB, pbin_neB, intV, arith, unV_not, unV_neg, Nat.reduceBEq, Nat.reduceEqDiff, ↓reduceIte, reduceCtorEq, Int.reduceToNat, Nat.reduceLeDiff, Int.reduceLE, Int.reduceLT, Int.reducePow, Int.reduceNeg, Nat.reduceAdd, Nat.reduceMul, Nat.reducePow, Tryd.underlying22]
  · try simp only [go_sem, opsV, undef, binV_int, binV_eqB, binV_neB, pbin_int, pbin_eqB, pbin_neB, intV, arith, unV_not, unV_neg, Nat.reduceBEq, Nat.reduceEqDiff, ↓reduceIte, reduceCtorEq, Int.reduceToNat, Nat.reduceLeDiff, Int.reduceLE, Int.reduceLT, Int.reducePow, Int.reduceNeg, Nat.reduceAdd, Nat.reduceMul, Nat.reducePow, Tryd.underlying22]
  · try simp only [go_sem, opsV, undef, binV_int, binV_eqB, binV_neB, pbin_int, pbin_eqB, pbin_neB, intV, arith, unV_not, unV_neg, Nat.reduceBEq, Nat.reduceEqDiff, ↓reduceIte, reduceCtorEq, Int.reduceToNat, Nat.reduceLeDiff, Int.reduceLE, Int.reduceLT, Int.reducePow, Int.reduceNeg, Nat.reduceAdd, Nat.reduceMul, Nat.reducePow, Tryd.underlying22]

end Go.V

/- The walks of package nat: Zeros, Cmp. -/
import Derived.Test.YtkmoeenhboicmaaDoorN1
set_option linter.unusedSimpArgs false
set_option linter.unusedVariables false
set_option maxRecDepth 100000

namespace Go.V
open Go Go.RowKit Go.Proofs


theorem nat_Zeros {w : World} {v : Value} {xs : List Nat} (hT : Tab w.heap) (h : U64s w.heap v xs) (hl : xs.length ≤ 17592186044416) : FC Tryd.prog 45 #[v] w fun r w' => Ext w w' ∧ r = .int .i64 ((tz (N64 xs) : Nat) : Int) := by
  refine FC.body (l := [v]) (rs := [.tmp 2]) mixed Tryd.func45 rfl (by kernel_rfl) (by kernel_rfl) (Nat.le_of_ble_eq_true rfl) rfl ?_
  with_reducible refine vc_seq fun K hK => ?_
  with_reducible refine vc_reg ?_
  simp only [go_sem, opsV, undef, binV_int, binV_eqB, binV_neB, pbin_int, pbin_eqB, pbin_neB, intV, arith, unV_not, unV_neg, Nat.reduceBEq, Nat.reduceEqDiff, ↓reduceIte, reduceCtorEq, Int.reduceToNat, Nat.reduceLeDiff, Int.reduceLE, Int.reduceLT, Int.reducePow, Int.reduceNeg, Nat.reduceAdd, Nat.reduceMul, Nat.reducePow, Tryd.underlying22]
  refine hK _ _ ?_
  clear hK K
  with_reducible refine vc_seq fun K hK => ?_
  with_reducible refine vc_seq fun K hK => ?_
  refine vc_reg ?_
  try simp only [go_sem, opsV, undef, binV_int, binV_eqB, binV_neB, pbin_int, pbin_eqB, pbin_neB, intV, arith, unV_not, unV_neg, Nat.reduceBEq, Nat.reduceEqDiff, ↓reduceIte, reduceCtorEq, Int.reduceToNat, Nat.reduceLeDiff, Int.reduceLE, Int.reduceLT, Int.reducePow, Int.reduceNeg, Nat.reduceAdd, Nat.reduceMul, Nat.reducePow, Tryd.underlying22]
  refine ⟨_, h.len, ?_⟩
  refine hK _ _ ?_
  clear hK K
  have J : ∀ (e : Env) (w' : World), w' = w → (∀ j, j < xs.length → xs.getD j 0 = 0) → K e w' := by
    rintro e w' rfl hz
    repeat (first
      | (with_reducible refine vc_seq fun K hK => ?_)
      | (with_reducible refine vc_reg ?_)
      | (with_reducible refine vc_skip ?_)
      | (with_reducible refine vc_block ?_)
      | (with_reducible refine vc_scope ?_)
      | (with_reducible refine vc_label ?_)
      | (with_reducible refine vc_condT ?_ ?_; · simp only [go_sem, opsV, undef, binV_int, binV_eqB, binV_neB, pbin_int, pbin_eqB, pbin_neB, intV, arith, unV_not, unV_neg, Nat.reduceBEq, Nat.reduceEqDiff, ↓reduceIte, reduceCtorEq, Int.reduceToNat, Nat.reduceLeDiff, Int.reduceLE, Int.reduceLT, Int.reducePow, Int.reduceNeg, Nat.reduceAdd, Nat.reduceMul, Nat.reducePow, Tryd.underlying22] <;> rfl)
      | (with_reducible refine vc_condF ?_ ?_; · simp only [go_sem, opsV, undef, binV_int, binV_eqB, binV_neB, pbin_int, pbin_eqB, pbin_neB, intV, arith, unV_not, unV_neg, Nat.reduceBEq, Nat.reduceEqDiff, ↓reduceIte, reduceCtorEq, Int.reduceToNat, Nat.reduceLeDiff, Int.reduceLE, Int.reduceLT, Int.reducePow, Int.reduceNeg, Nat.reduceAdd, Nat.reduceMul, Nat.reducePow, Tryd.underlying22] <;> rfl)
      | (with_reducible refine vc_exit ?_; simp only [↓reduceIte, Nat.reduceEqDiff])
      | (with_reducible refine vc_ret ?_; simp only [retV, resL, one])
      | (with_reducible refine hK _ _ ?_; clear hK)
      | (clear hK; with_reducible refine hK _ _ ?_; clear hK)
      | (clear hK; clear hK; with_reducible refine hK _ _ ?_; clear hK)
      | (simp only [go_sem, opsV, undef, binV_int, binV_eqB, binV_neB, pbin_int, pbin_eqB, pbin_neB, intV, arith, unV_not, unV_neg, Nat.reduceBEq, Nat.reduceEqDiff, ↓reduceIte, reduceCtorEq, Int.reduceToNat, Nat.reduceLeDiff, Int.reduceLE, Int.reduceLT, Int.reducePow, Int.reduceNeg, Nat.reduceAdd, Nat.reduceMul, Nat.reducePow, Tryd.underlying22]))
    exact ⟨Ext.refl _, by rw [show N64 xs = 0 from nval_none hz, tz_zero]; rfl⟩
  refine vc_block ?_
  refine vc_loop (fun e w' => w' = w ∧ ∃ k : Nat, k ≤ xs.length ∧ e 5 = v ∧ e 6 = .int .i64 (xs.length : Int) ∧ e 7 = .int .i64 (k : Int) ∧ ∀ j, j < k → xs.getD j 0 = 0) (fun e _ => xs.length - (intOf (e 7)).toNat) ?_ ?_
  · refine ⟨rfl, 0, Nat.zero_le _, ?_⟩
    try simp only [go_sem, opsV, undef, binV_int, binV_eqB, binV_neB, pbin_int, pbin_eqB, pbin_neB, intV, arith, unV_not, unV_neg, Nat.reduceBEq, Nat.reduceEqDiff, ↓reduceIte, reduceCtorEq, Int.reduceToNat, Nat.reduceLeDiff, Int.reduceLE, Int.reduceLT, Int.reducePow, Int.reduceNeg, Nat.reduceAdd, Nat.reduceMul, Nat.reducePow, Tryd.underlying22]
    exact ⟨rfl, fun j hj => absurd hj (Nat.not_lt_zero j)⟩
  · rintro e w' ⟨rfl, k, hk, h5, h6, h7, hz⟩
    have hmz : (intOf (e 7)).toNat = k := by rw [h7]; rfl
    refine vc_seq fun K1 hK1 => ?_
    refine vc_reg ?_
    try simp only [go_sem, opsV, undef, binV_int, binV_eqB, binV_neB, pbin_int, pbin_eqB, pbin_neB, intV, arith, unV_not, unV_neg, Nat.reduceBEq, Nat.reduceEqDiff, ↓reduceIte, reduceCtorEq, Int.reduceToNat, Nat.reduceLeDiff, Int.reduceLE, Int.reduceLT, Int.reducePow, Int.reduceNeg, Nat.reduceAdd, Nat.reduceMul, Nat.reducePow, Tryd.underlying22, h5, h6, h7]
    refine hK1 _ _ ?_
    clear hK1
    refine vc_seq fun K1 hK1 => ?_
    refine vc_condD (by simp only [go_sem, opsV, undef, binV_int, binV_eqB, binV_neB, pbin_int, pbin_eqB, pbin_neB, intV, arith, unV_not, unV_neg, Nat.reduceBEq, Nat.reduceEqDiff, ↓reduceIte, reduceCtorEq, Int.reduceToNat, Nat.reduceLeDiff, Int.reduceLE, Int.reduceLT, Int.reducePow, Int.reduceNeg, Nat.reduceAdd, Nat.reduceMul, Nat.reducePow, Tryd.underlying22, h5, h6, h7] <;> rfl) (fun ht => ?_) (fun ht => ?_)
    · refine vc_skip ?_
      refine hK1 _ _ ?_
      clear hK1
      refine vc_seq fun K1 hK1 => ?_
      refine vc_block ?_
      refine vc_seq fun K2 hK2 => ?_
      obtain ⟨ad, ha, hld⟩ := h.get (k := .i64) (i := k) ht
      refine vc_reg ?_
      try simp only [go_sem, opsV, undef, binV_int, binV_eqB, binV_neB, pbin_int, pbin_eqB, pbin_neB, intV, arith, unV_not, unV_neg, Nat.reduceBEq, Nat.reduceEqDiff, ↓reduceIte, reduceCtorEq, Int.reduceToNat, Nat.reduceLeDiff, Int.reduceLE, Int.reduceLT, Int.reducePow, Int.reduceNeg, Nat.reduceAdd, Nat.reduceMul, Nat.reducePow, Tryd.underlying22, h5, h6, h7]
      refine ⟨ad, ha, _, hld _ (Ext.refl _), ?_⟩
      refine hK2 _ _ ?_
      clear hK2
      refine vc_seq fun K2 hK2 => ?_
      refine vc_reg ?_
      try simp only [go_sem, opsV, undef, binV_int, binV_eqB, binV_neB, pbin_int, pbin_eqB, pbin_neB, intV, arith, unV_not, unV_neg, Nat.reduceBEq, Nat.reduceEqDiff, ↓reduceIte, reduceCtorEq, Int.reduceToNat, Nat.reduceLeDiff, Int.reduceLE, Int.reduceLT, Int.reducePow, Int.reduceNeg, Nat.reduceAdd, Nat.reduceMul, Nat.reducePow, Tryd.underlying22, h5, h6, h7]
      refine hK2 _ _ ?_
      clear hK2
      refine vc_condD (by simp only [go_sem, opsV, undef, binV_int, binV_eqB, binV_neB, pbin_int, pbin_eqB, pbin_neB, intV, arith, unV_not, unV_neg, Nat.reduceBEq, Nat.reduceEqDiff, ↓reduceIte, reduceCtorEq, Int.reduceToNat, Nat.reduceLeDiff, Int.reduceLE, Int.reduceLT, Int.reducePow, Int.reduceNeg, Nat.reduceAdd, Nat.reduceMul, Nat.reducePow, Tryd.underlying22, h5, h6, h7] <;> rfl) (fun hx => ?_) (fun hx => ?_)
      · have hx0 : xs.getD k 0 ≠ 0 := hx
        refine vc_seq fun K2 hK2 => ?_
        refine vc_reg ?_
        try simp only [go_sem, opsV, undef, binV_int, binV_eqB, binV_neB, pbin_int, pbin_eqB, pbin_neB, intV, arith, unV_not, unV_neg, Nat.reduceBEq, Nat.reduceEqDiff, ↓reduceIte, reduceCtorEq, Int.reduceToNat, Nat.reduceLeDiff, Int.reduceLE, Int.reduceLT, Int.reducePow, Int.reduceNeg, Nat.reduceAdd, Nat.reduceMul, Nat.reducePow, Tryd.underlying22, h5, h6, h7]
        refine ⟨(by unfold R64; omega), ?_⟩
        refine tz64 hT _ (h.lt (by decide) k) hx0 ?_
        have hc := ctz_tz (b := 64) hx0 (h.lt (by decide) k)
        have htz := tz_low (b := 64) (i := k) (r := nval 18446744073709551616 (xs.drop (k + 1))) hx0 (h.lt (by decide) k)
        rw [Nat.pow_mul, show (2 : Nat) ^ 64 = 18446744073709551616 from rfl, ← nval_low ht hz] at htz
        have hb : tz (xs.getD k 0) < 64 := by
          rw [← hc]; exact (Lib.lowest_bit 64 _ hx0 (h.lt (by decide) k)).2
        rw [hc]
        try simp only [go_sem, opsV, undef, binV_int, binV_eqB, binV_neB, pbin_int, pbin_eqB, pbin_neB, intV, arith, unV_not, unV_neg, Nat.reduceBEq, Nat.reduceEqDiff, ↓reduceIte, reduceCtorEq, Int.reduceToNat, Nat.reduceLeDiff, Int.reduceLE, Int.reduceLT, Int.reducePow, Int.reduceNeg, Nat.reduceAdd, Nat.reduceMul, Nat.reducePow, Tryd.underlying22, h5, h6, h7]
        refine ⟨(by unfold R64; omega), ?_⟩
        refine hK2 _ _ ?_
        refine vc_ret ?_
        simp only [retV, resL, one, go_sem, opsV, undef, binV_int, binV_eqB, binV_neB, pbin_int, pbin_eqB, pbin_neB, intV, arith, unV_not, unV_neg, Nat.reduceBEq, Nat.reduceEqDiff, ↓reduceIte, reduceCtorEq, Int.reduceToNat, Nat.reduceLeDiff, Int.reduceLE, Int.reduceLT, Int.reducePow, Int.reduceNeg, Nat.reduceAdd, Nat.reduceMul, Nat.reducePow, Tryd.underlying22, h5, h6, h7]
        refine ⟨Ext.refl _, ?_⟩
        show Value.int .i64 _ = Value.int .i64 ((tz (nval 18446744073709551616 xs) : Nat) : Int)
        rw [htz]
        congr 1 <;> omega
      · have hx0 : xs.getD k 0 = 0 := by omega
        refine vc_skip ?_
        refine hK1 _ _ ?_
        refine vc_reg ?_
        try simp only [go_sem, opsV, undef, binV_int, binV_eqB, binV_neB, pbin_int, pbin_eqB, pbin_neB, intV, arith, unV_not, unV_neg, Nat.reduceBEq, Nat.reduceEqDiff, ↓reduceIte, reduceCtorEq, Int.reduceToNat, Nat.reduceLeDiff, Int.reduceLE, Int.reduceLT, Int.reducePow, Int.reduceNeg, Nat.reduceAdd, Nat.reduceMul, Nat.reducePow, Tryd.underlying22, h5, h6, h7]
        refine ⟨(by unfold R64; omega), ⟨k + 1, by omega, rfl, fun j hj => ?_⟩, ?_⟩
        · rcases Nat.lt_or_ge j k with h' | h'
          · exact hz j h'
          · obtain rfl : j = k := by omega
            exact hx0
        · (try rw [hmz])
          simp only [intOf]
          omega
    · refine vc_exit ?_
      simp only [↓reduceIte]
      exact J _ _ rfl (fun j hj => hz j (by omega))

theorem nat_Cmp {w : World} {va vb : Value} {xs ys : List Nat} (hx : U64s w.heap va xs) (hy : U64s w.heap vb ys) (hlx : xs.length ≤ 17592186044416) (hly : ys.length ≤ 17592186044416) :
    FC Tryd.prog 83 #[va, vb] w fun r w' => Ext w w' ∧ r = .int .i64 (cmpI (N64 xs : Int) (N64 ys : Int)) := by
  have hda := digs_le hx.2
  have hdb := digs_le hy.2
  refine FC.body (l := [va, vb]) (rs := [.tmp 4]) mixed Tryd.func83 rfl (by kernel_rfl) (by kernel_rfl) (Nat.le_of_ble_eq_true rfl) rfl ?_
  with_reducible refine vc_seq fun K hK => ?_
  with_reducible refine vc_reg ?_
  simp only [go_sem, opsV, undef, binV_int, binV_eqB, binV_neB, pbin_int, pbin_eqB, pbin_neB, intV, arith, unV_not, unV_neg, Nat.reduceBEq, Nat.reduceEqDiff, ↓reduceIte, reduceCtorEq, Int.reduceToNat, Nat.reduceLeDiff, Int.reduceLE, Int.reduceLT, Int.reducePow, Int.reduceNeg, Nat.reduceAdd, Nat.reduceMul, Nat.reducePow, Tryd.underlying22]
  refine hK _ _ ?_
  clear hK K
  with_reducible refine vc_seq fun K hK => ?_
  refine vc_reg ?_
  try simp only [go_sem, opsV, undef, binV_int, binV_eqB, binV_neB, pbin_int, pbin_eqB, pbin_neB, intV, arith, unV_not, unV_neg, Nat.reduceBEq, Nat.reduceEqDiff, ↓reduceIte, reduceCtorEq, Int.reduceToNat, Nat.reduceLeDiff, Int.reduceLE, Int.reduceLT, Int.reducePow, Int.reduceNeg, Nat.reduceAdd, Nat.reduceMul, Nat.reducePow, Tryd.underlying22]
  refine (nat_cut hx).mono ?_
  rintro ra w1 ⟨hE1, hra, ha⟩
  try simp only [go_sem, opsV, undef, binV_int, binV_eqB, binV_neB, pbin_int, pbin_eqB, pbin_neB, intV, arith, unV_not, unV_neg, Nat.reduceBEq, Nat.reduceEqDiff, ↓reduceIte, reduceCtorEq, Int.reduceToNat, Nat.reduceLeDiff, Int.reduceLE, Int.reduceLT, Int.reducePow, Int.reduceNeg, Nat.reduceAdd, Nat.reduceMul, Nat.reducePow, Tryd.underlying22]
  refine (nat_cut (hy.up hE1)).mono ?_
  rintro rb w2 ⟨hE2, hrb, hb⟩
  have ha := ha.up hE2
  have hE := hE1.trans' hE2
  clear hra hrb
  obtain ⟨A, hA⟩ : ∃ A, A = D64 (N64 xs) := ⟨_, rfl⟩
  obtain ⟨B, hB⟩ : ∃ B, B = D64 (N64 ys) := ⟨_, rfl⟩
  rw [← hA] at ha hda
  rw [← hB] at hb hdb
  have hnA : nval 18446744073709551616 A = N64 xs := by rw [hA]; exact nval_digs two64 _
  have hnB : nval 18446744073709551616 B = N64 ys := by rw [hB]; exact nval_digs two64 _
  try simp only [go_sem, opsV, undef, binV_int, binV_eqB, binV_neB, pbin_int, pbin_eqB, pbin_neB, intV, arith, unV_not, unV_neg, Nat.reduceBEq, Nat.reduceEqDiff, ↓reduceIte, reduceCtorEq, Int.reduceToNat, Nat.reduceLeDiff, Int.reduceLE, Int.reduceLT, Int.reducePow, Int.reduceNeg, Nat.reduceAdd, Nat.reduceMul, Nat.reducePow, Tryd.underlying22]
  refine hK _ _ ?_
  clear hK K
  with_reducible refine vc_seq fun K hK => ?_
  with_reducible refine vc_seq fun K hK => ?_
  refine vc_reg ?_
  try simp only [go_sem, opsV, undef, binV_int, binV_eqB, binV_neB, pbin_int, pbin_eqB, pbin_neB, intV, arith, unV_not, unV_neg, Nat.reduceBEq, Nat.reduceEqDiff, ↓reduceIte, reduceCtorEq, Int.reduceToNat, Nat.reduceLeDiff, Int.reduceLE, Int.reduceLT, Int.reducePow, Int.reduceNeg, Nat.reduceAdd, Nat.reduceMul, Nat.reducePow, Tryd.underlying22]
  refine ⟨_, ha.len, _, hb.len, ?_⟩
  refine hK _ _ ?_
  clear hK K
  refine vc_condD (by simp only [go_sem, opsV, undef, binV_int, binV_eqB, binV_neB, pbin_int, pbin_eqB, pbin_neB, intV, arith, unV_not, unV_neg, Nat.reduceBEq, Nat.reduceEqDiff, ↓reduceIte, reduceCtorEq, Int.reduceToNat, Nat.reduceLeDiff, Int.reduceLE, Int.reduceLT, Int.reducePow, Int.reduceNeg, Nat.reduceAdd, Nat.reduceMul, Nat.reducePow, Tryd.underlying22] <;> rfl) (fun ht => ?_) (fun ht => ?_)
  · with_reducible refine vc_seq fun K hK => ?_
    refine vc_reg ?_
    try simp only [go_sem, opsV, undef, binV_int, binV_eqB, binV_neB, pbin_int, pbin_eqB, pbin_neB, intV, arith, unV_not, unV_neg, Nat.reduceBEq, Nat.reduceEqDiff, ↓reduceIte, reduceCtorEq, Int.reduceToNat, Nat.reduceLeDiff, Int.reduceLE, Int.reduceLT, Int.reducePow, Int.reduceNeg, Nat.reduceAdd, Nat.reduceMul, Nat.reducePow, Tryd.underlying22]
    refine ⟨_, ha.len, _, hb.len, ?_⟩
    refine compare_int _ _ ?_
    refine hK _ _ ?_
    clear hK K
    refine vc_ret ?_
    simp only [retV, resL, one, go_sem, opsV, undef, binV_int, binV_eqB, binV_neB, pbin_int, pbin_eqB, pbin_neB, intV, arith, unV_not, unV_neg, Nat.reduceBEq, Nat.reduceEqDiff, ↓reduceIte, reduceCtorEq, Int.reduceToNat, Nat.reduceLeDiff, Int.reduceLE, Int.reduceLT, Int.reducePow, Int.reduceNeg, Nat.reduceAdd, Nat.reduceMul, Nat.reducePow, Tryd.underlying22]
    refine ⟨hE, ?_⟩
    congr 1
    unfold cmpI
    simp only [Int.ofNat_lt]
    rcases Nat.lt_or_gt_of_ne ht with h' | h'
    · have := nval_lt_of_len two64 (n := N64 xs) (m := N64 ys) (by rw [← show A = digs 18446744073709551616 (N64 xs) from hA, ← show B = digs 18446744073709551616 (N64 ys) from hB]; exact h')
      rw [if_pos h', if_pos this]
    · have := nval_lt_of_len two64 (n := N64 ys) (m := N64 xs) (by rw [← show A = digs 18446744073709551616 (N64 xs) from hA, ← show B = digs 18446744073709551616 (N64 ys) from hB]; exact h')
      rw [if_neg (by omega), if_pos h', if_neg (by omega), if_pos this]
  · have hlen : A.length = B.length := by omega
    refine vc_skip ?_
    refine hK _ _ ?_
    clear hK
    with_reducible refine vc_seq fun K hK => ?_
    with_reducible refine vc_seq fun K hK => ?_
    refine vc_reg ?_
    try simp only [go_sem, opsV, undef, binV_int, binV_eqB, binV_neB, pbin_int, pbin_eqB, pbin_neB, intV, arith, unV_not, unV_neg, Nat.reduceBEq, Nat.reduceEqDiff, ↓reduceIte, reduceCtorEq, Int.reduceToNat, Nat.reduceLeDiff, Int.reduceLE, Int.reduceLT, Int.reducePow, Int.reduceNeg, Nat.reduceAdd, Nat.reduceMul, Nat.reducePow, Tryd.underlying22]
    refine ⟨_, ha.len, (by unfold R64; omega), ?_⟩
    refine hK _ _ ?_
    clear hK K
    have J : ∀ (e : Env) (w' : World), Ext w w' → (∀ j, A.getD j 0 = B.getD j 0) → K e w' := by
      intro e w' hE' hab
      repeat (first
        | (with_reducible refine vc_seq fun K hK => ?_)
        | (with_reducible refine vc_reg ?_)
        | (with_reducible refine vc_skip ?_)
        | (with_reducible refine vc_block ?_)
        | (with_reducible refine vc_scope ?_)
        | (with_reducible refine vc_label ?_)
        | (with_reducible refine vc_condT ?_ ?_; · simp only [go_sem, opsV, undef, binV_int, binV_eqB, binV_neB, pbin_int, pbin_eqB, pbin_neB, intV, arith, unV_not, unV_neg, Nat.reduceBEq, Nat.reduceEqDiff, ↓reduceIte, reduceCtorEq, Int.reduceToNat, Nat.reduceLeDiff, Int.reduceLE, Int.reduceLT, Int.reducePow, Int.reduceNeg, Nat.reduceAdd, Nat.reduceMul, Nat.reducePow, Tryd.underlying22] <;> rfl)
        | (with_reducible refine vc_condF ?_ ?_; · simp only [go_sem, opsV, undef, binV_int, binV_eqB, binV_neB, pbin_int, pbin_eqB, pbin_neB, intV, arith, unV_not, unV_neg, Nat.reduceBEq, Nat.reduceEqDiff, ↓reduceIte, reduceCtorEq, Int.reduceToNat, Nat.reduceLeDiff, Int.reduceLE, Int.reduceLT, Int.reducePow, Int.reduceNeg, Nat.reduceAdd, Nat.reduceMul, Nat.reducePow, Tryd.underlying22] <;> rfl)
        | (with_reducible refine vc_exit ?_; simp only [↓reduceIte, Nat.reduceEqDiff])
        | (with_reducible refine vc_ret ?_; simp only [retV, resL, one])
        | (with_reducible refine hK _ _ ?_; clear hK)
        | (clear hK; with_reducible refine hK _ _ ?_; clear hK)
        | (clear hK; clear hK; with_reducible refine hK _ _ ?_; clear hK)
        | (simp only [go_sem, opsV, undef, binV_int, binV_eqB, binV_neB, pbin_int, pbin_eqB, pbin_neB, intV, arith, unV_not, unV_neg, Nat.reduceBEq, Nat.reduceEqDiff, ↓reduceIte, reduceCtorEq, Int.reduceToNat, Nat.reduceLeDiff, Int.reduceLE, Int.reduceLT, Int.reducePow, Int.reduceNeg, Nat.reduceAdd, Nat.reduceMul, Nat.reducePow, Tryd.underlying22]))
      refine ⟨hE', ?_⟩
      have : A = B := list_ext_getD hlen hab
      rw [← hnA, ← hnB, this]
      simp [cmpI]
    refine vc_block ?_
    refine vc_loop (fun e w' => Ext w2 w' ∧ ∃ k : Nat, k ≤ A.length ∧ e 0 = ra ∧ e 1 = rb ∧ e 5 = .int .i64 ((k : Int) - 1) ∧ ∀ j, k ≤ j → A.getD j 0 = B.getD j 0) (fun e _ => (intOf (e 5) + 1).toNat) ?_ ?_
    · refine ⟨Ext.refl _, A.length, Nat.le_refl _, ?_⟩
      try simp only [go_sem, opsV, undef, binV_int, binV_eqB, binV_neB, pbin_int, pbin_eqB, pbin_neB, intV, arith, unV_not, unV_neg, Nat.reduceBEq, Nat.reduceEqDiff, ↓reduceIte, reduceCtorEq, Int.reduceToNat, Nat.reduceLeDiff, Int.reduceLE, Int.reduceLT, Int.reducePow, Int.reduceNeg, Nat.reduceAdd, Nat.reduceMul, Nat.reducePow, Tryd.underlying22]
      refine fun j hj => ?_
      simp [List.getD, List.getElem?_eq_none hj, List.getElem?_eq_none (hlen ▸ hj)]
    · rintro e w' ⟨hE', k, hk, h0, h1, h5, hab⟩
      have hmz : (intOf (e 5) + 1).toNat = k := by rw [h5]; simp only [intOf]; omega
      refine vc_seq fun K1 hK1 => ?_
      refine vc_seq fun K2 hK2 => ?_
      rcases Nat.eq_zero_or_pos k with rfl | hp
      · have hneg : ¬ ((0 : Int) ≤ ((0 : Nat) : Int) - 1) := by omega
        refine vc_reg ?_
        simp only [go_sem, opsV, undef, binV_int, binV_eqB, binV_neB, pbin_int, pbin_eqB, pbin_neB, intV, arith, unV_not, unV_neg, Nat.reduceBEq, Nat.reduceEqDiff, ↓reduceIte, reduceCtorEq, Int.reduceToNat, Nat.reduceLeDiff, Int.reduceLE, Int.reduceLT, Int.reducePow, Int.reduceNeg, Nat.reduceAdd, Nat.reduceMul, Nat.reducePow, Tryd.underlying22, h5, hneg]
        refine hK2 _ _ ?_
        refine vc_condF (by simp only [go_sem, opsV, undef, binV_int, binV_eqB, binV_neB, pbin_int, pbin_eqB, pbin_neB, intV, arith, unV_not, unV_neg, Nat.reduceBEq, Nat.reduceEqDiff, ↓reduceIte, reduceCtorEq, Int.reduceToNat, Nat.reduceLeDiff, Int.reduceLE, Int.reduceLT, Int.reducePow, Int.reduceNeg, Nat.reduceAdd, Nat.reduceMul, Nat.reducePow, Tryd.underlying22] <;> rfl) ?_
        refine vc_exit ?_
        simp only [↓reduceIte]
        exact J _ _ (hE.trans' hE') (fun j => hab j (Nat.zero_le j))
      · obtain ⟨m, rfl⟩ : ∃ m, k = m + 1 := ⟨k - 1, by omega⟩
        rw [cast_succ_sub] at h5
        obtain ⟨ad, hia, hla⟩ := (ha.up hE').get (k := .i64) (i := m) (by omega)
        obtain ⟨bd, hib, hlb⟩ := (hb.up hE').get (k := .i64) (i := m) (by omega)
        refine vc_reg ?_
        simp only [go_sem, opsV, undef, binV_int, binV_eqB, binV_neB, pbin_int, pbin_eqB, pbin_neB, intV, arith, unV_not, unV_neg, Nat.reduceBEq, Nat.reduceEqDiff, ↓reduceIte, reduceCtorEq, Int.reduceToNat, Nat.reduceLeDiff, Int.reduceLE, Int.reduceLT, Int.reducePow, Int.reduceNeg, Nat.reduceAdd, Nat.reduceMul, Nat.reducePow, Tryd.underlying22, h5]
        refine hK2 _ _ ?_
        clear hK2
        refine vc_condT (by simp only [go_sem, opsV, undef, binV_int, binV_eqB, binV_neB, pbin_int, pbin_eqB, pbin_neB, intV, arith, unV_not, unV_neg, Nat.reduceBEq, Nat.reduceEqDiff, ↓reduceIte, reduceCtorEq, Int.reduceToNat, Nat.reduceLeDiff, Int.reduceLE, Int.reduceLT, Int.reducePow, Int.reduceNeg, Nat.reduceAdd, Nat.reduceMul, Nat.reducePow, Tryd.underlying22] <;> rfl) ?_
        refine vc_skip ?_
        refine hK1 _ _ ?_
        clear hK1
        refine vc_seq fun K1 hK1 => ?_
        refine vc_block ?_
        refine vc_seq fun K2 hK2 => ?_
        refine vc_draw [(0, 0), (1, 0), (2, 0), (3, 1), (4, 0), (5, 0), (6, 0), (7, 1), (8, 0)] (by kernel_rfl) ?_
        simp only [go_sem, opsV, undef, binV_int, binV_eqB, binV_neB, pbin_int, pbin_eqB, pbin_neB, intV, arith, unV_not, unV_neg, Nat.reduceBEq, Nat.reduceEqDiff, ↓reduceIte, reduceCtorEq, Int.reduceToNat, Nat.reduceLeDiff, Int.reduceLE, Int.reduceLT, Int.reducePow, Int.reduceNeg, Nat.reduceAdd, Nat.reduceMul, Nat.reducePow, Tryd.underlying22, h0, h1, h5]
        refine ⟨ad, hia, _, hla _ (ext_drew _), bd, hib, _, hlb _ (ext_drew _), ?_⟩
        simp only [go_sem, opsV, undef, binV_int, binV_eqB, binV_neB, pbin_int, pbin_eqB, pbin_neB, intV, arith, unV_not, unV_neg, Nat.reduceBEq, Nat.reduceEqDiff, ↓reduceIte, reduceCtorEq, Int.reduceToNat, Nat.reduceLeDiff, Int.reduceLE, Int.reduceLT, Int.reducePow, Int.reduceNeg, Nat.reduceAdd, Nat.reduceMul, Nat.reducePow, Tryd.underlying22]
        refine hK2 _ _ ?_
        clear hK2
        refine vc_condD (by simp only [go_sem, opsV, undef, binV_int, binV_eqB, binV_neB, pbin_int, pbin_eqB, pbin_neB, intV, arith, unV_not, unV_neg, Nat.reduceBEq, Nat.reduceEqDiff, ↓reduceIte, reduceCtorEq, Int.reduceToNat, Nat.reduceLeDiff, Int.reduceLE, Int.reduceLT, Int.reducePow, Int.reduceNeg, Nat.reduceAdd, Nat.reduceMul, Nat.reducePow, Tryd.underlying22] <;> rfl) (fun ht => ?_) (fun ht => ?_)
        · refine vc_seq fun K2 hK2 => ?_
          refine vc_draw [(0, 0), (1, 0), (2, 0), (3, 1), (4, 0), (5, 0), (6, 0), (7, 1), (8, 3), (9, 0)] (by kernel_rfl) ?_
          simp only [go_sem, opsV, undef, binV_int, binV_eqB, binV_neB, pbin_int, pbin_eqB, pbin_neB, intV, arith, unV_not, unV_neg, Nat.reduceBEq, Nat.reduceEqDiff, ↓reduceIte, reduceCtorEq, Int.reduceToNat, Nat.reduceLeDiff, Int.reduceLE, Int.reduceLT, Int.reducePow, Int.reduceNeg, Nat.reduceAdd, Nat.reduceMul, Nat.reducePow, Tryd.underlying22, h0, h1, h5]
          refine ⟨ad, hia, _, hla _ ((ext_drew _).trans' (ext_drew _)), bd, hib, _, hlb _ ((ext_drew _).trans' (ext_drew _)), ?_⟩
          refine compare_u64 _ _ ?_
          try simp only [go_sem, opsV, undef, binV_int, binV_eqB, binV_neB, pbin_int, pbin_eqB, pbin_neB, intV, arith, unV_not, unV_neg, Nat.reduceBEq, Nat.reduceEqDiff, ↓reduceIte, reduceCtorEq, Int.reduceToNat, Nat.reduceLeDiff, Int.reduceLE, Int.reduceLT, Int.reducePow, Int.reduceNeg, Nat.reduceAdd, Nat.reduceMul, Nat.reducePow, Tryd.underlying22]
          refine hK2 _ _ ?_
          refine vc_ret ?_
          simp only [retV, resL, one, go_sem, opsV, undef, binV_int, binV_eqB, binV_neB, pbin_int, pbin_eqB, pbin_neB, intV, arith, unV_not, unV_neg, Nat.reduceBEq, Nat.reduceEqDiff, ↓reduceIte, reduceCtorEq, Int.reduceToNat, Nat.reduceLeDiff, Int.reduceLE, Int.reduceLT, Int.reducePow, Int.reduceNeg, Nat.reduceAdd, Nat.reduceMul, Nat.reducePow, Tryd.underlying22]
          refine ⟨((hE.trans' hE').drew').drew', ?_⟩
          congr 1
          unfold cmpI
          simp only [Int.ofNat_lt]
          have hab' : ∀ j, m < j → A.getD j 0 = B.getD j 0 := fun j hj => hab j hj
          rw [← hnA, ← hnB]
          rcases Nat.lt_or_gt_of_ne ht with h' | h'
          · have := nval_part (B := 18446744073709551616) (by decide) ha.2 hlen (i := m) (by omega) hab' h'
            rw [if_pos h', if_pos this]
          · have := nval_part (B := 18446744073709551616) (by decide) hb.2 hlen.symm (i := m) (by omega) (fun j hj => (hab' j hj).symm) h'
            rw [if_neg (by omega), if_pos h', if_neg (by omega), if_pos this]
        · refine vc_skip ?_
          refine hK1 _ _ ?_
          refine vc_reg ?_
          simp only [go_sem, opsV, undef, binV_int, binV_eqB, binV_neB, pbin_int, pbin_eqB, pbin_neB, intV, arith, unV_not, unV_neg, Nat.reduceBEq, Nat.reduceEqDiff, ↓reduceIte, reduceCtorEq, Int.reduceToNat, Nat.reduceLeDiff, Int.reduceLE, Int.reduceLT, Int.reducePow, Int.reduceNeg, Nat.reduceAdd, Nat.reduceMul, Nat.reducePow, Tryd.underlying22, h0, h1, h5]
          refine ⟨(by unfold R64; omega), ⟨Below.drew hE', m, by omega, rfl, fun j hj => ?_⟩, ?_⟩
          · rcases Nat.lt_or_ge m j with h' | h'
            · exact hab j h'
            · obtain rfl : j = m := by omega
              simpa using ht
          · (try rw [hmz])
            simp only [intOf]
            omega

end Go.V

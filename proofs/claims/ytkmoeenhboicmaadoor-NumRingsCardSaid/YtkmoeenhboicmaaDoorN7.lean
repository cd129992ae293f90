/- The walks of package nat: Down, Shift. -/
import Derived.Test.YtkmoeenhboicmaaDoorN6
set_option linter.unusedSimpArgs false
set_option linter.unusedVariables false
set_option maxRecDepth 100000

namespace Go.V
open Go Go.RowKit Go.Proofs

theorem nval_drop_mod {xs : List Nat} {i : Nat} (h : ∀ x ∈ xs, x < 18446744073709551616) : nval 18446744073709551616 (xs.drop i) % 18446744073709551616 = xs.getD i 0 := by
  by_cases hi : i < xs.length
  · rw [nval_drop hi, Nat.add_mul_mod_self_left, Nat.mod_eq_of_lt]
    simp only [List.getD, List.getElem?_eq_getElem hi, Option.getD_some]; exact h _ (List.getElem_mem hi)
  · rw [nval_drop_all (Nat.le_of_not_lt hi)]
    simp [List.getD, List.getElem?_eq_none (Nat.le_of_not_lt hi)]

theorem nat_Down_l0 {w2 : World} {so sa : Value} {A : List Nat} (ha : U64s w2.heap sa A) {N : Env → World → Prop} {X : Nat → Env → World → Prop} {R : Env → World → Prop} {k s : Nat} (hL : A.length ≤ 1099511627776) (hk : k < A.length) (hs : s < 64)
    (J : ∀ (e : Env) (w' : World) (os : List Nat), N64 os = nval 18446744073709551616 (A.drop k) / 2 ^ s → O64 w' w2.heap.size so os → Ext w2 w' → e 7 = so → X 0 e w')
    (e : Env) (w' : World) (os : List Nat) (hol : os.length = A.length - k) (hz : ∀ m, os.getD m 0 = 0)
    (own : O64 w' w2.heap.size so os) (hB : Ext w2 w') (g0 : e 0 = sa) (g5 : e 5 = .int .i64 (k : Int)) (g6 : e 6 = .int .i64 (s : Int)) (g7 : e 7 = so) (g25 : e 25 = .int .i64 ((A.length - k : Nat) : Int)) (g26 : e 26 = .int .i64 0) :
    vc Tryd.prog (nthLoop Tryd.f46 0) N X R e w' := by
  change vc _ (.loop _) _ _ _ _ _
  refine vc_loop (fun e w' => ∃ (os : List Nat) (i : Nat), i ≤ A.length - k ∧ os.length = A.length - k ∧ nval 18446744073709551616 os + 18446744073709551616 ^ i * (nval 18446744073709551616 (A.drop (i + k)) / 2 ^ s) = nval 18446744073709551616 (A.drop k) / 2 ^ s ∧ (∀ m, i ≤ m → os.getD m 0 = 0) ∧ O64 w' w2.heap.size so os ∧ Ext w2 w' ∧
      e 0 = sa ∧ e 5 = .int .i64 (k : Int) ∧ e 6 = .int .i64 (s : Int) ∧ e 7 = so ∧ e 25 = .int .i64 ((A.length - k : Nat) : Int) ∧ e 26 = .int .i64 (i : Int)) (fun e _ => A.length - k - (intOf (e 26)).toNat) ?_ ?_
  · refine ⟨os, 0, Nat.zero_le _, hol, ?_, fun m _ => hz m, own, hB, g0, g5, g6, g7, g25, g26⟩
    rw [Nat.zero_add, Nat.pow_zero, Nat.one_mul, nval_none (fun j _ => hz j), Nat.zero_add]
  · clear own hol hB hz g0 g5 g6 g7 g25 g26
    clear os e w'
    rintro e w' ⟨os, i, hi, hol, hsum, hz, own, hB, g0, g5, g6, g7, g25, g26⟩
    have hmz0 : (intOf (e 26)).toNat = i := by rw [g26]; rfl
    have hs64 : s ≤ 64 := by omega
    have hs64' : 64 - s ≤ 64 := by omega
    refine vc_seq fun K1 hK1 => ?_
    refine vc_reg ?_
    try simp only [go_sem, opsV, undef, binV_int, binV_eqB, binV_neB, pbin_int, pbin_eqB, pbin_neB, intV, arith, unV_not, unV_neg, Nat.reduceBEq, Nat.reduceEqDiff, ↓reduceIte, reduceCtorEq, Int.reduceToNat, Nat.reduceLeDiff, Int.reduceLE, Int.reduceLT, Int.reducePow, Int.reduceNeg, Nat.reduceAdd, Nat.reduceMul, Nat.reducePow, Tryd.underlying22, g0, g5, g6, g7, g25, g26, sub64s hs, hs64, hs64']
    refine hK1 _ _ ?_
    clear hK1
    refine vc_seq fun K1 hK1 => ?_
    refine vc_condD (by simp only [go_sem, opsV, undef, binV_int, binV_eqB, binV_neB, pbin_int, pbin_eqB, pbin_neB, intV, arith, unV_not, unV_neg, Nat.reduceBEq, Nat.reduceEqDiff, ↓reduceIte, reduceCtorEq, Int.reduceToNat, Nat.reduceLeDiff, Int.reduceLE, Int.reduceLT, Int.reducePow, Int.reduceNeg, Nat.reduceAdd, Nat.reduceMul, Nat.reducePow, Tryd.underlying22, g0, g5, g6, g7, g25, g26, sub64s hs, hs64, hs64'] <;> rfl) (fun ht => ?_) (fun ht => ?_)
    · refine vc_skip ?_
      refine hK1 _ _ ?_
      clear hK1
      refine vc_seq fun K1 hK1 => ?_
      refine vc_block ?_
      obtain ⟨bd, hib, hlb⟩ := (ha.up hB).get (k := .i64) (i := i + k) (by omega)
      have hx := ha.lt (by decide) (i + k)
      have ha' := ha.up hB
      refine vc_seq fun K2 hK2 => ?_
      refine vc_reg ?_
      try simp only [go_sem, opsV, undef, binV_int, binV_eqB, binV_neB, pbin_int, pbin_eqB, pbin_neB, intV, arith, unV_not, unV_neg, Nat.reduceBEq, Nat.reduceEqDiff, ↓reduceIte, reduceCtorEq, Int.reduceToNat, Nat.reduceLeDiff, Int.reduceLE, Int.reduceLT, Int.reducePow, Int.reduceNeg, Nat.reduceAdd, Nat.reduceMul, Nat.reducePow, Tryd.underlying22, g0, g5, g6, g7, g25, g26, sub64s hs, hs64, hs64']
      refine hK2 _ _ ?_
      clear hK2
      refine vc_seq fun K2 hK2 => ?_
      obtain ⟨ad, hix, hld, hst⟩ := own.at T64 S64 (ki := .i64) (i := i) (by omega)
      obtain ⟨w'', h1, h2, h3, h4⟩ := hst (A.getD (i + k) 0 / 2 ^ s) (div_lt64 hx)
      refine vc_reg ?_
      try simp only [go_sem, opsV, undef, binV_int, binV_eqB, binV_neB, pbin_int, pbin_eqB, pbin_neB, intV, arith, unV_not, unV_neg, Nat.reduceBEq, Nat.reduceEqDiff, ↓reduceIte, reduceCtorEq, Int.reduceToNat, Nat.reduceLeDiff, Int.reduceLE, Int.reduceLT, Int.reducePow, Int.reduceNeg, Nat.reduceAdd, Nat.reduceMul, Nat.reducePow, Tryd.underlying22, g0, g5, g6, g7, g25, g26, sub64s hs, hs64, hs64']
      refine ⟨(by unfold R64; omega), bd, hib, _, hlb _ (Ext.refl _), ?_⟩
      try simp only [go_sem, opsV, undef, binV_int, binV_eqB, binV_neB, pbin_int, pbin_eqB, pbin_neB, intV, arith, unV_not, unV_neg, Nat.reduceBEq, Nat.reduceEqDiff, ↓reduceIte, reduceCtorEq, Int.reduceToNat, Nat.reduceLeDiff, Int.reduceLE, Int.reduceLT, Int.reducePow, Int.reduceNeg, Nat.reduceAdd, Nat.reduceMul, Nat.reducePow, Tryd.underlying22, g0, g5, g6, g7, g25, g26, sub64s hs, hs64, hs64']
      refine ⟨ad, hix, w'', h1, ?_⟩
      refine hK2 _ _ ?_
      clear hK2
      have hB2 := h4 _ _ hB (Nat.le_refl _)
      have hdw := down_word (d := A.getD (i + k) 0) (R := nval 18446744073709551616 (A.drop (i + k + 1))) hs hx
      rw [nval_drop_mod ha.2, ← nval_drop (show i + k < A.length by omega)] at hdw
      rw [hdw, Nat.mul_add] at hsum
      clear hdw
      have J2 : ∀ (e : Env) (w' : World) (os' : List Nat), os'.length = A.length - k → (∀ m, i + 1 ≤ m → os'.getD m 0 = 0) → nval 18446744073709551616 os' = nval 18446744073709551616 os + 18446744073709551616 ^ i * (A.getD (i + k) 0 / 2 ^ s ||| A.getD (i + k + 1) 0 * 2 ^ (64 - s) % 18446744073709551616) →
          O64 w' w2.heap.size so os' → Ext w2 w' → e 0 = sa → e 5 = .int .i64 (k : Int) → e 6 = .int .i64 (s : Int) → e 7 = so → e 25 = .int .i64 ((A.length - k : Nat) : Int) → e 26 = .int .i64 (i : Int) → K1 e w' := by
        intro e w' os' hol' hz' hv own hB g0 g5 g6 g7 g25 g26
        refine hK1 _ _ ?_
        clear hK1
        have hmz : (intOf (e 26)).toNat = i := by rw [g26]; rfl
        refine vc_reg ?_
        try simp only [go_sem, opsV, undef, binV_int, binV_eqB, binV_neB, pbin_int, pbin_eqB, pbin_neB, intV, arith, unV_not, unV_neg, Nat.reduceBEq, Nat.reduceEqDiff, ↓reduceIte, reduceCtorEq, Int.reduceToNat, Nat.reduceLeDiff, Int.reduceLE, Int.reduceLT, Int.reducePow, Int.reduceNeg, Nat.reduceAdd, Nat.reduceMul, Nat.reducePow, Tryd.underlying22, g0, g5, g6, g7, g25, g26]
        refine ⟨(by unfold R64; omega), ⟨os', i + 1, by omega, hol', ?_, hz', own, hB, ?_⟩, ?_⟩
        · rw [hv, ← hsum, show i + 1 + k = i + k + 1 by omega, Nat.pow_succ, Nat.mul_assoc, Nat.add_assoc]
        · try simp only [go_sem, opsV, undef, binV_int, binV_eqB, binV_neB, pbin_int, pbin_eqB, pbin_neB, intV, arith, unV_not, unV_neg, Nat.reduceBEq, Nat.reduceEqDiff, ↓reduceIte, reduceCtorEq, Int.reduceToNat, Nat.reduceLeDiff, Int.reduceLE, Int.reduceLT, Int.reducePow, Int.reduceNeg, Nat.reduceAdd, Nat.reduceMul, Nat.reducePow, Tryd.underlying22, g0, g5, g6, g7, g25, g26]
        · rw [hmz0]
          simp only [intOf]; omega
      clear hK1
      refine vc_seq fun K2 hK2 => ?_
      refine vc_reg ?_
      try simp only [go_sem, opsV, undef, binV_int, binV_eqB, binV_neB, pbin_int, pbin_eqB, pbin_neB, intV, arith, unV_not, unV_neg, Nat.reduceBEq, Nat.reduceEqDiff, ↓reduceIte, reduceCtorEq, Int.reduceToNat, Nat.reduceLeDiff, Int.reduceLE, Int.reduceLT, Int.reducePow, Int.reduceNeg, Nat.reduceAdd, Nat.reduceMul, Nat.reducePow, Tryd.underlying22, g0, g5, g6, g7, g25, g26, sub64s hs, hs64, hs64']
      refine ⟨(by unfold R64; omega), (by unfold R64; omega), _, (ha.up hB2).len, ?_⟩
      try simp only [go_sem, opsV, undef, binV_int, binV_eqB, binV_neB, pbin_int, pbin_eqB, pbin_neB, intV, arith, unV_not, unV_neg, Nat.reduceBEq, Nat.reduceEqDiff, ↓reduceIte, reduceCtorEq, Int.reduceToNat, Nat.reduceLeDiff, Int.reduceLE, Int.reduceLT, Int.reducePow, Int.reduceNeg, Nat.reduceAdd, Nat.reduceMul, Nat.reducePow, Tryd.underlying22, g0, g5, g6, g7, g25, g26, sub64s hs, hs64, hs64']
      refine hK2 _ _ ?_
      clear hK2
      have hv1 := nval_set (B := 18446744073709551616) (xs := os) (i := i) (y := A.getD (i + k) 0 / 2 ^ s) (by omega)
      rw [hz i (Nat.le_refl _), Nat.mul_zero, Nat.add_zero] at hv1
      refine vc_condD (by simp only [go_sem, opsV, undef, binV_int, binV_eqB, binV_neB, pbin_int, pbin_eqB, pbin_neB, intV, arith, unV_not, unV_neg, Nat.reduceBEq, Nat.reduceEqDiff, ↓reduceIte, reduceCtorEq, Int.reduceToNat, Nat.reduceLeDiff, Int.reduceLE, Int.reduceLT, Int.reducePow, Int.reduceNeg, Nat.reduceAdd, Nat.reduceMul, Nat.reducePow, Tryd.underlying22, g0, g5, g6, g7, g25, g26, sub64s hs, hs64, hs64'] <;> rfl) (fun hn => ?_) (fun hn => ?_)
      · obtain ⟨cd, hic, hlc⟩ := (ha.up hB2).get (k := .i64) (i := i + k + 1) (by omega)
        obtain ⟨ad2, hix2, hld2, hst2⟩ := (h2.up (ext_drew _)).at T64 S64 (ki := .i64) (i := i) (by rw [List.length_set]; omega)
        obtain ⟨w3, h5, h6, h7, h8⟩ := hst2 (A.getD (i + k) 0 / 2 ^ s ||| A.getD (i + k + 1) 0 * 2 ^ (64 - s) % 18446744073709551616) (or_lt64 (div_lt64 hx) (mod64 _))
        rw [getD_set, if_pos ⟨rfl, by omega⟩] at hld2
        refine vc_draw [(0, 0), (1, 0), (2, 0), (3, 1), (4, 0), (5, 0), (6, 0), (7, 0), (8, 0), (9, 0), (10, 1), (11, 0), (12, 0), (13, 0), (14, 0), (15, 0), (16, 3)] (by kernel_rfl) ?_
        try simp only [go_sem, opsV, undef, binV_int, binV_eqB, binV_neB, pbin_int, pbin_eqB, pbin_neB, intV, arith, unV_not, unV_neg, Nat.reduceBEq, Nat.reduceEqDiff, ↓reduceIte, reduceCtorEq, Int.reduceToNat, Nat.reduceLeDiff, Int.reduceLE, Int.reduceLT, Int.reducePow, Int.reduceNeg, Nat.reduceAdd, Nat.reduceMul, Nat.reducePow, Tryd.underlying22, g0, g5, g6, g7, g25, g26, sub64s hs, hs64, hs64']
        refine ⟨ad2, hix2, _, hld2, (by unfold R64; omega), (by unfold R64; omega), cd, hic, _, hlc _ (ext_drew _), ?_⟩
        try simp only [go_sem, opsV, undef, binV_int, binV_eqB, binV_neB, pbin_int, pbin_eqB, pbin_neB, intV, arith, unV_not, unV_neg, Nat.reduceBEq, Nat.reduceEqDiff, ↓reduceIte, reduceCtorEq, Int.reduceToNat, Nat.reduceLeDiff, Int.reduceLE, Int.reduceLT, Int.reducePow, Int.reduceNeg, Nat.reduceAdd, Nat.reduceMul, Nat.reducePow, Tryd.underlying22, g0, g5, g6, g7, g25, g26, sub64s hs, hs64, hs64']
        refine ⟨(by unfold R64; omega), ad2, hix2, ?_⟩
        rw [or64_nat _ _ (div_lt64 hx) (mod64 _)]
        refine ⟨w3, h5, ?_⟩
        refine J2 _ _ _ (by rw [List.length_set, List.length_set]; exact hol) ?_ ?_ h6 (h8 _ _ (Below.drew hB2) (Nat.le_refl _)) ?_ ?_ ?_ ?_ ?_ ?_
        · intro m hm
          rw [getD_set, if_neg (by omega), getD_set, if_neg (by omega)]
          exact hz m (by omega)
        · rw [List.set_set]
          have hv2 := nval_set (B := 18446744073709551616) (xs := os) (i := i) (y := A.getD (i + k) 0 / 2 ^ s ||| A.getD (i + k + 1) 0 * 2 ^ (64 - s) % 18446744073709551616) (by omega)
          rw [hz i (Nat.le_refl _), Nat.mul_zero, Nat.add_zero] at hv2
          exact hv2
        all_goals try simp only [go_sem, opsV, undef, binV_int, binV_eqB, binV_neB, pbin_int, pbin_eqB, pbin_neB, intV, arith, unV_not, unV_neg, Nat.reduceBEq, Nat.reduceEqDiff, ↓reduceIte, reduceCtorEq, Int.reduceToNat, Nat.reduceLeDiff, Int.reduceLE, Int.reduceLT, Int.reducePow, Int.reduceNeg, Nat.reduceAdd, Nat.reduceMul, Nat.reducePow, Tryd.underlying22, g0, g5, g6, g7, g25, g26, sub64s hs, hs64, hs64']
      · refine vc_skip ?_
        refine J2 _ _ _ (by rw [List.length_set]; exact hol) ?_ ?_ h2 hB2 ?_ ?_ ?_ ?_ ?_ ?_
        · intro m hm
          rw [getD_set, if_neg (by omega)]
          exact hz m (by omega)
        · rw [hv1, show A.getD (i + k + 1) 0 = 0 by simp [List.getD, List.getElem?_eq_none (show A.length ≤ i + k + 1 by omega)], Nat.zero_mul, Nat.zero_mod, Nat.or_zero]
        all_goals try simp only [go_sem, opsV, undef, binV_int, binV_eqB, binV_neB, pbin_int, pbin_eqB, pbin_neB, intV, arith, unV_not, unV_neg, Nat.reduceBEq, Nat.reduceEqDiff, ↓reduceIte, reduceCtorEq, Int.reduceToNat, Nat.reduceLeDiff, Int.reduceLE, Int.reduceLT, Int.reducePow, Int.reduceNeg, Nat.reduceAdd, Nat.reduceMul, Nat.reducePow, Tryd.underlying22, g0, g5, g6, g7, g25, g26, sub64s hs, hs64, hs64']
    · refine vc_exit ?_
      obtain rfl : i = A.length - k := by omega
      rw [nval_drop_all (by omega), Nat.zero_div, Nat.mul_zero, Nat.add_zero] at hsum
      exact J _ _ os hsum own hB (by try simp only [go_sem, opsV, undef, binV_int, binV_eqB, binV_neB, pbin_int, pbin_eqB, pbin_neB, intV, arith, unV_not, unV_neg, Nat.reduceBEq, Nat.reduceEqDiff, ↓reduceIte, reduceCtorEq, Int.reduceToNat, Nat.reduceLeDiff, Int.reduceLE, Int.reduceLT, Int.reducePow, Int.reduceNeg, Nat.reduceAdd, Nat.reduceMul, Nat.reducePow, Tryd.underlying22, g0, g5, g6, g7, g25, g26, sub64s hs, hs64, hs64'])

theorem drop_div {xs : List Nat} (h : ∀ x ∈ xs, x < 18446744073709551616) (k : Nat) : nval 18446744073709551616 (xs.drop k) = nval 18446744073709551616 xs / 18446744073709551616 ^ k := by
  by_cases hk : k ≤ xs.length
  · have := nval_append 18446744073709551616 (xs.take k) (xs.drop k)
    rw [List.take_append_drop, List.length_take, Nat.min_eq_left hk] at this
    have hlt := nval_lt (B := 18446744073709551616) (by decide) (xs.take k) (fun x hx => h x (List.mem_of_mem_take hx))
    rw [List.length_take, Nat.min_eq_left hk] at hlt
    rw [this, Nat.add_mul_div_left _ _ (Nat.lt_of_le_of_lt (Nat.zero_le _) hlt), Nat.div_eq_of_lt hlt, Nat.zero_add]
  · rw [nval_drop_all (by omega), Nat.div_eq_of_lt]
    exact Nat.lt_of_lt_of_le (nval_lt (by decide) xs h) (Nat.pow_le_pow_right (by decide) (by omega))

set_option maxHeartbeats 1000000 in
theorem nat_Down {w : World} {va : Value} {xs : List Nat} {n : Nat} (hx : U64s w.heap va xs) (hlx : xs.length ≤ 1099511627776) (hn : n ≤ 1099511627776) :
    FC Tryd.prog 46 #[va, .int .i64 (n : Int)] w fun r w' => Ext w w' ∧ O64 w' w.heap.size r (D64 (N64 xs / 2 ^ n)) := by
  have hda := digs_le hx.2
  refine FC.body (l := [va, .int .i64 (n : Int)]) (rs := [.tmp 4]) mixed Tryd.func46 rfl (by kernel_rfl) (by kernel_rfl) (Nat.le_of_ble_eq_true rfl) rfl ?_
  with_reducible refine vc_seq fun K hK => ?_
  with_reducible refine vc_reg ?_
  simp only [go_sem, opsV, undef, binV_int, binV_eqB, binV_neB, pbin_int, pbin_eqB, pbin_neB, intV, arith, unV_not, unV_neg, Nat.reduceBEq, Nat.reduceEqDiff, ↓reduceIte, reduceCtorEq, Int.reduceToNat, Nat.reduceLeDiff, Int.reduceLE, Int.reduceLT, Int.reducePow, Int.reduceNeg, Nat.reduceAdd, Nat.reduceMul, Nat.reducePow, Tryd.underlying22]
  refine hK _ _ ?_
  clear hK K
  with_reducible refine vc_seq fun K hK => ?_
  refine vc_reg ?_
  try simp only [go_sem, opsV, undef, binV_int, binV_eqB, binV_neB, pbin_int, pbin_eqB, pbin_neB, intV, arith, unV_not, unV_neg, Nat.reduceBEq, Nat.reduceEqDiff, ↓reduceIte, reduceCtorEq, Int.reduceToNat, Nat.reduceLeDiff, Int.reduceLE, Int.reduceLT, Int.reducePow, Int.reduceNeg, Nat.reduceAdd, Nat.reduceMul, Nat.reducePow, Tryd.underlying22]
  refine (nat_cut hx).mono ?_
  rintro ra w2 ⟨hE, hra, ha⟩
  clear hra
  try simp only [go_sem, opsV, undef, binV_int, binV_eqB, binV_neB, pbin_int, pbin_eqB, pbin_neB, intV, arith, unV_not, unV_neg, Nat.reduceBEq, Nat.reduceEqDiff, ↓reduceIte, reduceCtorEq, Int.reduceToNat, Nat.reduceLeDiff, Int.reduceLE, Int.reduceLT, Int.reducePow, Int.reduceNeg, Nat.reduceAdd, Nat.reduceMul, Nat.reducePow, Tryd.underlying22]
  refine hK _ _ ?_
  clear hK K
  have hnA : N64 (D64 (N64 xs)) = N64 xs := nval_digs two64 _
  generalize hA : D64 (N64 xs) = A at *
  have hdd : nval 18446744073709551616 (A.drop (n / 64)) / 2 ^ (n % 64) = N64 xs / 2 ^ n := by
    rw [drop_div ha.2, ← hnA, Nat.div_div_eq_div_mul, show (18446744073709551616 : Nat) = 2 ^ 64 from rfl, ← Nat.pow_mul, ← Nat.pow_add, show 64 * (n / 64) + n % 64 = n from Nat.div_add_mod n 64]
  with_reducible refine vc_seq fun K hK => ?_
  refine vc_reg ?_
  try simp only [go_sem, opsV, undef, binV_int, binV_eqB, binV_neB, pbin_int, pbin_eqB, pbin_neB, intV, arith, unV_not, unV_neg, Nat.reduceBEq, Nat.reduceEqDiff, ↓reduceIte, reduceCtorEq, Int.reduceToNat, Nat.reduceLeDiff, Int.reduceLE, Int.reduceLT, Int.reducePow, Int.reduceNeg, Nat.reduceAdd, Nat.reduceMul, Nat.reducePow, Tryd.underlying22, tdiv64, tmod64]
  refine ⟨by decide, (by unfold R64; omega), by decide, ?_⟩
  refine hK _ _ ?_
  clear hK K
  with_reducible refine vc_seq fun K hK => ?_
  with_reducible refine vc_seq fun K hK => ?_
  refine vc_reg ?_
  try simp only [go_sem, opsV, undef, binV_int, binV_eqB, binV_neB, pbin_int, pbin_eqB, pbin_neB, intV, arith, unV_not, unV_neg, Nat.reduceBEq, Nat.reduceEqDiff, ↓reduceIte, reduceCtorEq, Int.reduceToNat, Nat.reduceLeDiff, Int.reduceLE, Int.reduceLT, Int.reducePow, Int.reduceNeg, Nat.reduceAdd, Nat.reduceMul, Nat.reducePow, Tryd.underlying22, tdiv64, tmod64]
  refine ⟨_, ha.len, ?_⟩
  try simp only [go_sem, opsV, undef, binV_int, binV_eqB, binV_neB, pbin_int, pbin_eqB, pbin_neB, intV, arith, unV_not, unV_neg, Nat.reduceBEq, Nat.reduceEqDiff, ↓reduceIte, reduceCtorEq, Int.reduceToNat, Nat.reduceLeDiff, Int.reduceLE, Int.reduceLT, Int.reducePow, Int.reduceNeg, Nat.reduceAdd, Nat.reduceMul, Nat.reducePow, Tryd.underlying22, tdiv64, tmod64]
  refine hK _ _ ?_
  clear hK K
  refine vc_condD (by simp only [go_sem, opsV, undef, binV_int, binV_eqB, binV_neB, pbin_int, pbin_eqB, pbin_neB, intV, arith, unV_not, unV_neg, Nat.reduceBEq, Nat.reduceEqDiff, ↓reduceIte, reduceCtorEq, Int.reduceToNat, Nat.reduceLeDiff, Int.reduceLE, Int.reduceLT, Int.reducePow, Int.reduceNeg, Nat.reduceAdd, Nat.reduceMul, Nat.reducePow, Tryd.underlying22, tdiv64, tmod64] <;> rfl) (fun hA0 => ?_) (fun hA0 => ?_)
  · repeat (first
      | (with_reducible refine vc_seq fun K hK => ?_)
      | (with_reducible refine vc_reg ?_)
      | (with_reducible refine vc_skip ?_)
      | (with_reducible refine vc_block ?_)
      | (with_reducible refine vc_scope ?_)
      | (with_reducible refine vc_label ?_)
      | (with_reducible refine vc_condT ?_ ?_; · simp only [go_sem, opsV, undef, binV_int, binV_eqB, binV_neB, pbin_int, pbin_eqB, pbin_neB, intV, arith, unV_not, unV_neg, Nat.reduceBEq, Nat.reduceEqDiff, ↓reduceIte, reduceCtorEq, Int.reduceToNat, Nat.reduceLeDiff, Int.reduceLE, Int.reduceLT, Int.reducePow, Int.reduceNeg, Nat.reduceAdd, Nat.reduceMul, Nat.reducePow, Tryd.underlying22, tdiv64, tmod64] <;> rfl)
      | (with_reducible refine vc_condF ?_ ?_; · simp only [go_sem, opsV, undef, binV_int, binV_eqB, binV_neB, pbin_int, pbin_eqB, pbin_neB, intV, arith, unV_not, unV_neg, Nat.reduceBEq, Nat.reduceEqDiff, ↓reduceIte, reduceCtorEq, Int.reduceToNat, Nat.reduceLeDiff, Int.reduceLE, Int.reduceLT, Int.reducePow, Int.reduceNeg, Nat.reduceAdd, Nat.reduceMul, Nat.reducePow, Tryd.underlying22, tdiv64, tmod64] <;> rfl)
      | (with_reducible refine vc_exit ?_; simp only [↓reduceIte, Nat.reduceEqDiff])
      | (with_reducible refine vc_ret ?_; simp only [retV, resL, one])
      | (with_reducible refine hK _ _ ?_; clear hK)
      | (clear hK; with_reducible refine hK _ _ ?_; clear hK)
      | (clear hK; clear hK; with_reducible refine hK _ _ ?_; clear hK)
      | (simp only [go_sem, opsV, undef, binV_int, binV_eqB, binV_neB, pbin_int, pbin_eqB, pbin_neB, intV, arith, unV_not, unV_neg, Nat.reduceBEq, Nat.reduceEqDiff, ↓reduceIte, reduceCtorEq, Int.reduceToNat, Nat.reduceLeDiff, Int.reduceLE, Int.reduceLT, Int.reducePow, Int.reduceNeg, Nat.reduceAdd, Nat.reduceMul, Nat.reducePow, Tryd.underlying22, tdiv64, tmod64]))
    have : N64 xs / 2 ^ n = 0 := by rw [← hdd, nval_drop_all hA0, Nat.zero_div]
    rw [this, show D64 0 = [] from digs_zero _]
    exact ⟨hE, ⟨rfl, .inl ⟨rfl, rfl⟩⟩, by simp, by simp⟩
  refine vc_skip ?_
  refine hK _ _ ?_
  clear hK K
  have hsubk : ((A.length : Nat) : Int) - ((n / 64 : Nat) : Int) = ((A.length - n / 64 : Nat) : Int) := by omega
  with_reducible refine vc_seq fun K hK => ?_
  refine vc_reg ?_
  try simp only [go_sem, opsV, undef, binV_int, binV_eqB, binV_neB, pbin_int, pbin_eqB, pbin_neB, intV, arith, unV_not, unV_neg, Nat.reduceBEq, Nat.reduceEqDiff, ↓reduceIte, reduceCtorEq, Int.reduceToNat, Nat.reduceLeDiff, Int.reduceLE, Int.reduceLT, Int.reducePow, Int.reduceNeg, Nat.reduceAdd, Nat.reduceMul, Nat.reducePow, Tryd.underlying22, hsubk]
  refine ⟨_, ha.len, ?_⟩
  try simp only [go_sem, opsV, undef, binV_int, binV_eqB, binV_neB, pbin_int, pbin_eqB, pbin_neB, intV, arith, unV_not, unV_neg, Nat.reduceBEq, Nat.reduceEqDiff, ↓reduceIte, reduceCtorEq, Int.reduceToNat, Nat.reduceLeDiff, Int.reduceLE, Int.reduceLT, Int.reducePow, Int.reduceNeg, Nat.reduceAdd, Nat.reduceMul, Nat.reducePow, Tryd.underlying22, hsubk]
  obtain ⟨b, w3, hmk, hnew⟩ := make_any (w := w2) T64 (kl := .i64) (kc := .i64) (n := A.length - n / 64) (by omega) (by omega)
  refine ⟨(by unfold R64; omega), _, w3, hmk, ?_⟩
  refine hK _ _ ?_
  clear hK K
  have hB2 : Ext w2 w3 := hnew.ext
  have own : O64 w3 w2.heap.size (.slice (some ⟨b, 0, none⟩) (A.length - n / 64) (A.length - n / 64)) (List.replicate (A.length - n / 64) 0) := own_zeros hnew (by omega)
  clear hmk hnew
  with_reducible refine vc_seq fun K hK => ?_
  with_reducible refine vc_seq fun K hK => ?_
  refine vc_reg ?_
  try simp only [go_sem, opsV, undef, binV_int, binV_eqB, binV_neB, pbin_int, pbin_eqB, pbin_neB, intV, arith, unV_not, unV_neg, Nat.reduceBEq, Nat.reduceEqDiff, ↓reduceIte, reduceCtorEq, Int.reduceToNat, Nat.reduceLeDiff, Int.reduceLE, Int.reduceLT, Int.reducePow, Int.reduceNeg, Nat.reduceAdd, Nat.reduceMul, Nat.reducePow, Tryd.underlying22, hsubk]
  refine ⟨_, LenIs.lit, ?_⟩
  refine hK _ _ ?_
  clear hK K
  refine vc_block ?_
  refine nat_Down_l0 (so := .slice (some ⟨b, 0, none⟩) (A.length - n / 64) (A.length - n / 64)) (k := n / 64) (s := n % 64) ha (by omega) (by omega) (Nat.mod_lt _ (by decide)) (fun e w' os hn own hB g7 => ?_) _ w3 _ (by simp) ?_ own hB2 ?_ ?_ ?_ ?_ ?_ ?_
  · simp only [↓reduceIte]
    refine hK _ _ ?_
    clear hK K
    with_reducible refine vc_seq fun K hK => ?_
    with_reducible refine vc_reg ?_
    try simp only [go_sem, opsV, undef, binV_int, binV_eqB, binV_neB, pbin_int, pbin_eqB, pbin_neB, intV, arith, unV_not, unV_neg, Nat.reduceBEq, Nat.reduceEqDiff, ↓reduceIte, reduceCtorEq, Int.reduceToNat, Nat.reduceLeDiff, Int.reduceLE, Int.reduceLT, Int.reducePow, Int.reduceNeg, Nat.reduceAdd, Nat.reduceMul, Nat.reducePow, g7]
    refine (nat_cut own.ws).mono ?_
    rintro r w5 ⟨hE5, rfl, hr⟩
    try simp only [go_sem, opsV, undef, binV_int, binV_eqB, binV_neB, pbin_int, pbin_eqB, pbin_neB, intV, arith, unV_not, unV_neg, Nat.reduceBEq, Nat.reduceEqDiff, ↓reduceIte, reduceCtorEq, Int.reduceToNat, Nat.reduceLeDiff, Int.reduceLE, Int.reduceLT, Int.reducePow, Int.reduceNeg, Nat.reduceAdd, Nat.reduceMul, Nat.reducePow, g7]
    refine hK _ _ ?_
    clear hK K
    refine vc_ret ?_
    simp only [retV, resL, one, go_sem, opsV, undef, binV_int, binV_eqB, binV_neB, pbin_int, pbin_eqB, pbin_neB, intV, arith, unV_not, unV_neg, Nat.reduceBEq, Nat.reduceEqDiff, ↓reduceIte, reduceCtorEq, Int.reduceToNat, Nat.reduceLeDiff, Int.reduceLE, Int.reduceLT, Int.reducePow, Int.reduceNeg, Nat.reduceAdd, Nat.reduceMul, Nat.reducePow, g7]
    have o2 := (own.digs two64).up hE5
    have hd : N64 os = N64 xs / 2 ^ n := by rw [hn, hdd]
    rw [show nval 18446744073709551616 os = N64 xs / 2 ^ n from hd] at o2
    rw [hd]
    exact ⟨(hE.trans' hB).trans' hE5, o2.base hE.size⟩
  · intro m
    simp only [List.getD, List.getElem?_replicate]
    split <;> rfl
  all_goals try simp only [go_sem, opsV, undef, binV_int, binV_eqB, binV_neB, pbin_int, pbin_eqB, pbin_neB, intV, arith, unV_not, unV_neg, Nat.reduceBEq, Nat.reduceEqDiff, ↓reduceIte, reduceCtorEq, Int.reduceToNat, Nat.reduceLeDiff, Int.reduceLE, Int.reduceLT, Int.reducePow, Int.reduceNeg, Nat.reduceAdd, Nat.reduceMul, Nat.reducePow, Tryd.underlying22]

end Go.V

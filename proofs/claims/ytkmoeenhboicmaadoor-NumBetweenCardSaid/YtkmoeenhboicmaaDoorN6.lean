/- The walks of package nat: Up, Down, Shift. -/
import Derived.Test.YtkmoeenhboicmaaDoorN5
set_option linter.unusedSimpArgs false
set_option linter.unusedVariables false
set_option maxRecDepth 100000

namespace Go.V
open Go Go.RowKit Go.Proofs

theorem tdiv64 (n : Nat) : (n : Int).tdiv 64 = ((n / 64 : Nat) : Int) := rfl
theorem tmod64 (n : Nat) : (n : Int).tmod 64 = ((n % 64 : Nat) : Int) := rfl
theorem sub64s {s : Nat} (h : s < 64) : (64 : Int) - (s : Int) = ((64 - s : Nat) : Int) := by omega

theorem pow64 {s : Nat} (h : s < 64) : 18446744073709551616 = 2 ^ s * 2 ^ (64 - s) := by
  rw [← Nat.pow_add, show s + (64 - s) = 64 by omega]
/-- A word that is shifted up, behind what came over from below. -/
theorem up_word {o x s : Nat} (hs : s < 64) (ho : o < 2 ^ s) (hx : x < 18446744073709551616) :
    (o ||| x * 2 ^ s % 18446744073709551616) + 18446744073709551616 * (x / 2 ^ (64 - s)) = o + x * 2 ^ s := by
  have hp := pow64 hs
  have h1 : x * 2 ^ s % 18446744073709551616 = 2 ^ s * (x % 2 ^ (64 - s)) := by
    rw [Nat.mul_comm x]; conv => lhs; rw [hp]
    exact Nat.mul_mod_mul_left _ _ _
  rw [h1, Nat.or_comm, ← Nat.two_pow_add_eq_or_of_lt ho]
  have h2 : 18446744073709551616 * (x / 2 ^ (64 - s)) = 2 ^ s * (2 ^ (64 - s) * (x / 2 ^ (64 - s))) := by
    rw [← Nat.mul_assoc, ← hp]
  have h3 : 2 ^ s * (x % 2 ^ (64 - s) + 2 ^ (64 - s) * (x / 2 ^ (64 - s))) = 2 ^ s * x := by rw [Nat.mod_add_div]
  rw [Nat.mul_add] at h3
  rw [h2, Nat.mul_comm x]
  omega
theorem up_over {x s : Nat} (hs : s < 64) (hx : x < 18446744073709551616) : x / 2 ^ (64 - s) < 2 ^ s := by
  rw [Nat.div_lt_iff_lt_mul (Nat.two_pow_pos _), ← pow64 hs]; exact hx
/-- A word that is shifted down, below what comes over from above. -/
theorem down_word {d R s : Nat} (hs : s < 64) (hd : d < 18446744073709551616) :
    (d + 18446744073709551616 * R) / 2 ^ s = (d / 2 ^ s ||| R % 18446744073709551616 * 2 ^ (64 - s) % 18446744073709551616) + 18446744073709551616 * (R / 2 ^ s) := by
  have hp := pow64 hs
  have hp' : 18446744073709551616 = 2 ^ (64 - s) * 2 ^ s := by rw [Nat.mul_comm, ← hp]
  have h0 : d / 2 ^ s < 2 ^ (64 - s) := by rw [Nat.div_lt_iff_lt_mul (Nat.two_pow_pos _), ← hp']; exact hd
  have h1 : R % 18446744073709551616 * 2 ^ (64 - s) % 18446744073709551616 = 2 ^ (64 - s) * (R % 2 ^ s) := by
    rw [Nat.mul_comm (R % _)]
    have e : 2 ^ (64 - s) * (R % 18446744073709551616) % 18446744073709551616 = 2 ^ (64 - s) * (R % 18446744073709551616) % (2 ^ (64 - s) * 2 ^ s) := by rw [← hp']
    rw [e, Nat.mul_mod_mul_left]
    congr 1
    exact Nat.mod_mod_of_dvd _ ⟨2 ^ (64 - s), hp⟩
  rw [h1, Nat.or_comm, ← Nat.two_pow_add_eq_or_of_lt h0]
  have h2 : 18446744073709551616 * R = 2 ^ s * (2 ^ (64 - s) * R) := by rw [← Nat.mul_assoc, ← hp]
  have h3 : 18446744073709551616 * (R / 2 ^ s) = 2 ^ (64 - s) * (2 ^ s * (R / 2 ^ s)) := by rw [← Nat.mul_assoc, ← hp']
  rw [h2, Nat.add_mul_div_left _ _ (Nat.two_pow_pos s), h3]
  have h4 : 2 ^ (64 - s) * (R % 2 ^ s + 2 ^ s * (R / 2 ^ s)) = 2 ^ (64 - s) * R := by rw [Nat.mod_add_div]
  rw [Nat.mul_add] at h4
  omega
theorem or_lt64 {a b : Nat} (ha : a < 18446744073709551616) (hb : b < 18446744073709551616) : a ||| b < 18446744073709551616 := Nat.or_lt_two_pow (n := 64) ha hb
theorem div_lt64 {a b : Nat} (ha : a < 18446744073709551616) : a / b < 18446744073709551616 := Nat.lt_of_le_of_lt (Nat.div_le_self _ _) ha

theorem nat_Up_l0 {w2 : World} {so sa : Value} {A : List Nat} (ha : U64s w2.heap sa A) {N : Env → World → Prop} {X : Nat → Env → World → Prop} {R : Env → World → Prop} {k s : Nat} (hL : A.length ≤ 1099511627776) (hk : k ≤ 1099511627776) (hs : s < 64)
    (J : ∀ (e : Env) (w' : World) (os : List Nat), N64 os = 18446744073709551616 ^ k * (2 ^ s * N64 A) → O64 w' w2.heap.size so os → Ext w2 w' → e 7 = so → X 0 e w')
    (e : Env) (w' : World) (os : List Nat) (hol : os.length = A.length + k + 1) (hz : ∀ m, os.getD m 0 = 0)
    (own : O64 w' w2.heap.size so os) (hB : Ext w2 w') (g5 : e 5 = .int .i64 (k : Int)) (g6 : e 6 = .int .i64 (s : Int)) (g7 : e 7 = so) (g25 : e 25 = sa) (g26 : e 26 = .int .i64 (A.length : Int)) (g27 : e 27 = .int .i64 0) :
    vc Tryd.prog (nthLoop Tryd.f73 0) N X R e w' := by
  change vc _ (.loop _) _ _ _ _ _
  refine vc_loop (fun e w' => ∃ (os : List Nat) (i : Nat), i ≤ A.length ∧ os.length = A.length + k + 1 ∧ nval 18446744073709551616 os + 18446744073709551616 ^ (i + k) * (2 ^ s * nval 18446744073709551616 (A.drop i)) = 18446744073709551616 ^ k * (2 ^ s * N64 A) ∧ (∀ m, i + k < m → os.getD m 0 = 0) ∧ os.getD (i + k) 0 < 2 ^ s ∧ O64 w' w2.heap.size so os ∧ Ext w2 w' ∧
      e 5 = .int .i64 (k : Int) ∧ e 6 = .int .i64 (s : Int) ∧ e 7 = so ∧ e 25 = sa ∧ e 26 = .int .i64 (A.length : Int) ∧ e 27 = .int .i64 (i : Int)) (fun e _ => A.length - (intOf (e 27)).toNat) ?_ ?_
  · refine ⟨os, 0, Nat.zero_le _, hol, ?_, fun m _ => hz m, by rw [hz]; exact Nat.two_pow_pos s, own, hB, g5, g6, g7, g25, g26, g27⟩
    rw [List.drop_zero, Nat.zero_add, nval_none (fun j _ => hz j), Nat.zero_add]
  · clear own hol hB hz g5 g6 g7 g25 g26 g27
    clear os e w'
    rintro e w' ⟨os, i, hi, hol, hsum, hz, hlow, own, hB, g5, g6, g7, g25, g26, g27⟩
    have hmz : (intOf (e 27)).toNat = i := by rw [g27]; rfl
    have hs64 : s ≤ 64 := by omega
    have hs64' : 64 - s ≤ 64 := by omega
    refine vc_seq fun K1 hK1 => ?_
    refine vc_reg ?_
    try simp only [go_sem, opsV, undef, binV_int, binV_eqB, binV_neB, pbin_int, pbin_eqB, pbin_neB, intV, arith, unV_not, unV_neg, Nat.reduceBEq, Nat.reduceEqDiff, ↓reduceIte, reduceCtorEq, Int.reduceToNat, Nat.reduceLeDiff, Int.reduceLE, Int.reduceLT, Int.reducePow, Int.reduceNeg, Nat.reduceAdd, Nat.reduceMul, Nat.reducePow, Tryd.underlying22, g5, g6, g7, g25, g26, g27, sub64s hs, hs64, hs64']
    refine hK1 _ _ ?_
    clear hK1
    refine vc_seq fun K1 hK1 => ?_
    refine vc_condD (by simp only [go_sem, opsV, undef, binV_int, binV_eqB, binV_neB, pbin_int, pbin_eqB, pbin_neB, intV, arith, unV_not, unV_neg, Nat.reduceBEq, Nat.reduceEqDiff, ↓reduceIte, reduceCtorEq, Int.reduceToNat, Nat.reduceLeDiff, Int.reduceLE, Int.reduceLT, Int.reducePow, Int.reduceNeg, Nat.reduceAdd, Nat.reduceMul, Nat.reducePow, Tryd.underlying22, g5, g6, g7, g25, g26, g27, sub64s hs, hs64, hs64'] <;> rfl) (fun ht => ?_) (fun ht => ?_)
    · refine vc_skip ?_
      refine hK1 _ _ ?_
      clear hK1
      refine vc_seq fun K1 hK1 => ?_
      refine vc_block ?_
      obtain ⟨bd, hib, hlb⟩ := (ha.up hB).get (k := .i64) (i := i) ht
      have hx := ha.lt (by decide) i
      refine vc_seq fun K2 hK2 => ?_
      refine vc_reg ?_
      try simp only [go_sem, opsV, undef, binV_int, binV_eqB, binV_neB, pbin_int, pbin_eqB, pbin_neB, intV, arith, unV_not, unV_neg, Nat.reduceBEq, Nat.reduceEqDiff, ↓reduceIte, reduceCtorEq, Int.reduceToNat, Nat.reduceLeDiff, Int.reduceLE, Int.reduceLT, Int.reducePow, Int.reduceNeg, Nat.reduceAdd, Nat.reduceMul, Nat.reducePow, Tryd.underlying22, g5, g6, g7, g25, g26, g27, sub64s hs, hs64, hs64']
      refine ⟨bd, hib, _, hlb _ (Ext.refl _), ?_⟩
      refine hK2 _ _ ?_
      clear hK2
      refine vc_seq fun K2 hK2 => ?_
      obtain ⟨ad, hix, hld, hst⟩ := (own.up (ext_drew _)).at T64 S64 (ki := .i64) (i := i + k) (by omega)
      have ho := own.ws.lt (by decide) (i + k)
      refine vc_draw [(0, 0), (1, 0), (2, 0), (3, 0), (4, 0), (5, 1), (6, 0), (7, 0), (8, 0), (9, 0), (10, 0), (11, 3)] (by kernel_rfl) ?_
      try simp only [go_sem, opsV, undef, binV_int, binV_eqB, binV_neB, pbin_int, pbin_eqB, pbin_neB, intV, arith, unV_not, unV_neg, Nat.reduceBEq, Nat.reduceEqDiff, ↓reduceIte, reduceCtorEq, Int.reduceToNat, Nat.reduceLeDiff, Int.reduceLE, Int.reduceLT, Int.reducePow, Int.reduceNeg, Nat.reduceAdd, Nat.reduceMul, Nat.reducePow, Tryd.underlying22, g5, g6, g7, g25, g26, g27, sub64s hs, hs64, hs64']
      refine ⟨(by unfold R64; omega), ad, hix, _, hld, ?_⟩
      try simp only [go_sem, opsV, undef, binV_int, binV_eqB, binV_neB, pbin_int, pbin_eqB, pbin_neB, intV, arith, unV_not, unV_neg, Nat.reduceBEq, Nat.reduceEqDiff, ↓reduceIte, reduceCtorEq, Int.reduceToNat, Nat.reduceLeDiff, Int.reduceLE, Int.reduceLT, Int.reducePow, Int.reduceNeg, Nat.reduceAdd, Nat.reduceMul, Nat.reducePow, Tryd.underlying22, g5, g6, g7, g25, g26, g27, sub64s hs, hs64, hs64']
      refine ⟨ad, hix, ?_⟩
      rw [or64_nat _ _ ho (mod64 _)]
      obtain ⟨w'', h1, h2, h3, h4⟩ := hst (os.getD (i + k) 0 ||| A.getD i 0 * 2 ^ s % 18446744073709551616) (or_lt64 ho (mod64 _))
      refine ⟨w'', h1, ?_⟩
      refine hK2 _ _ ?_
      clear hK2
      obtain ⟨ad2, hix2, hld2, hst2⟩ := h2.at T64 S64 (ki := .i64) (i := i + k + 1) (by rw [List.length_set]; omega)
      obtain ⟨w3, h5, h6, h7, h8⟩ := hst2 (A.getD i 0 / 2 ^ (64 - s)) (div_lt64 hx)
      refine vc_reg ?_
      try simp only [go_sem, opsV, undef, binV_int, binV_eqB, binV_neB, pbin_int, pbin_eqB, pbin_neB, intV, arith, unV_not, unV_neg, Nat.reduceBEq, Nat.reduceEqDiff, ↓reduceIte, reduceCtorEq, Int.reduceToNat, Nat.reduceLeDiff, Int.reduceLE, Int.reduceLT, Int.reducePow, Int.reduceNeg, Nat.reduceAdd, Nat.reduceMul, Nat.reducePow, Tryd.underlying22, g5, g6, g7, g25, g26, g27, sub64s hs, hs64, hs64']
      refine ⟨(by unfold R64; omega), (by unfold R64; omega), (by unfold R64; omega), ad2, hix2, w3, h5, ?_⟩
      refine hK1 _ _ ?_
      refine vc_reg ?_
      try simp only [go_sem, opsV, undef, binV_int, binV_eqB, binV_neB, pbin_int, pbin_eqB, pbin_neB, intV, arith, unV_not, unV_neg, Nat.reduceBEq, Nat.reduceEqDiff, ↓reduceIte, reduceCtorEq, Int.reduceToNat, Nat.reduceLeDiff, Int.reduceLE, Int.reduceLT, Int.reducePow, Int.reduceNeg, Nat.reduceAdd, Nat.reduceMul, Nat.reducePow, Tryd.underlying22, g5, g6, g7, g25, g26, g27, sub64s hs, hs64, hs64']
      refine ⟨(by unfold R64; omega), ⟨_, i + 1, by omega, ?_, ?_, ?_, ?_, h6, h8 _ _ (h4 _ _ hB.drew' (Nat.le_refl _)) (Nat.le_refl _), ?_⟩, ?_⟩
      · rw [List.length_set, List.length_set]; exact hol
      · have e1 := nval_set (B := 18446744073709551616) (xs := os) (i := i + k) (y := os.getD (i + k) 0 ||| A.getD i 0 * 2 ^ s % 18446744073709551616) (by omega)
        have e2 := nval_set (B := 18446744073709551616) (xs := os.set (i + k) (os.getD (i + k) 0 ||| A.getD i 0 * 2 ^ s % 18446744073709551616)) (i := i + k + 1) (y := A.getD i 0 / 2 ^ (64 - s)) (by rw [List.length_set]; omega)
        have e0 : (os.set (i + k) (os.getD (i + k) 0 ||| A.getD i 0 * 2 ^ s % 18446744073709551616)).getD (i + k + 1) 0 = 0 := by rw [getD_set, if_neg (by omega)]; exact hz _ (by omega)
        rw [e0, Nat.mul_zero, Nat.add_zero, Nat.pow_succ, Nat.mul_assoc] at e2
        have e3 := congrArg (18446744073709551616 ^ (i + k) * ·) (up_word hs hlow hx)
        simp only [Nat.mul_add] at e3
        rw [nval_drop ht] at hsum
        have e4 : 2 ^ s * (A.getD i 0 + 18446744073709551616 * nval 18446744073709551616 (A.drop (i + 1))) = A.getD i 0 * 2 ^ s + 18446744073709551616 * (2 ^ s * nval 18446744073709551616 (A.drop (i + 1))) := by
          rw [Nat.mul_add, Nat.mul_comm (2 ^ s) (A.getD i 0), Nat.mul_left_comm]
        rw [e4, Nat.mul_add] at hsum
        rw [e2, show i + 1 + k = i + k + 1 by omega, Nat.pow_succ, Nat.mul_assoc (18446744073709551616 ^ (i + k)) 18446744073709551616]
        omega
      · intro m hm
        rw [getD_set, if_neg (by omega), getD_set, if_neg (by omega)]
        exact hz m (by omega)
      · rw [show i + 1 + k = i + k + 1 by omega, getD_set, if_pos ⟨rfl, by rw [List.length_set]; omega⟩]
        exact up_over hs hx
      · try simp only [go_sem, opsV, undef, binV_int, binV_eqB, binV_neB, pbin_int, pbin_eqB, pbin_neB, intV, arith, unV_not, unV_neg, Nat.reduceBEq, Nat.reduceEqDiff, ↓reduceIte, reduceCtorEq, Int.reduceToNat, Nat.reduceLeDiff, Int.reduceLE, Int.reduceLT, Int.reducePow, Int.reduceNeg, Nat.reduceAdd, Nat.reduceMul, Nat.reducePow, Tryd.underlying22, g5, g6, g7, g25, g26, g27, sub64s hs, hs64, hs64']
      · (try rw [hmz])
        simp only [intOf]; omega
    · refine vc_exit ?_
      obtain rfl : i = A.length := by omega
      rw [nval_drop_all (Nat.le_refl _), Nat.mul_zero, Nat.mul_zero, Nat.add_zero] at hsum
      exact J _ _ os hsum own hB (by try simp only [go_sem, opsV, undef, binV_int, binV_eqB, binV_neB, pbin_int, pbin_eqB, pbin_neB, intV, arith, unV_not, unV_neg, Nat.reduceBEq, Nat.reduceEqDiff, ↓reduceIte, reduceCtorEq, Int.reduceToNat, Nat.reduceLeDiff, Int.reduceLE, Int.reduceLT, Int.reducePow, Int.reduceNeg, Nat.reduceAdd, Nat.reduceMul, Nat.reducePow, Tryd.underlying22, g5, g6, g7, g25, g26, g27, sub64s hs, hs64, hs64'])

set_option maxHeartbeats 1000000 in
theorem nat_Up {w : World} {va : Value} {xs : List Nat} {n : Nat} (hx : U64s w.heap va xs) (hlx : xs.length ≤ 1099511627776) (hn : n ≤ 1099511627776) :
    FC Tryd.prog 73 #[va, .int .i64 (n : Int)] w fun r w' => Ext w w' ∧ O64 w' w.heap.size r (D64 (N64 xs * 2 ^ n)) := by
  have hda := digs_le hx.2
  refine FC.body (l := [va, .int .i64 (n : Int)]) (rs := [.tmp 4]) mixed Tryd.func73 rfl (by kernel_rfl) (by kernel_rfl) (Nat.le_of_ble_eq_true rfl) rfl ?_
  with_reducible refine vc_seq fun K hK => ?_
  with_reducible refine vc_reg ?_
  simp only [go_sem, opsV, undef, binV_int, binV_eqB, binV_neB, pbin_int, pbin_eqB, pbin_neB, intV, arith, unV_not, unV_neg, Nat.reduceBEq, Nat.reduceEqDiff, ↓reduceIte, reduceCtorEq, Int.reduceToNat, Nat.reduceLeDiff, Int.reduceLE, Int.reduceLT, Int.reducePow, Int.reduceNeg, Nat.reduceAdd, Nat.reduceMul, Nat.reducePow, Tryd.underlying22]
  refine hK _ _ ?_
  clear hK K
  with_reducible refine vc_seq fun K hK => ?_
  refine vc_reg ?_
  try simp only [go_sem, opsV, undef, binV_int, binV_eqB, binV_neB, pbin_int, pbin_eqB, pbin_neB, intV, arith, unV_not, unV_neg, Nat.reduceBEq, Nat.reduceEqDiff, ↓reduceIte, reduceCtorEq, Int.reduceToNat, Nat.reduceLeDiff, Int.reduceLE, Int.reduceLT, Int.reducePow, Int.reduceNeg, Nat.reduceAdd, Nat.reduceMul, Nat.reducePow, Tryd.underlying22]
  refine (nat_cut hx).mono ?_
  rintro ra w2 ⟨hE, hra, ha⟩
  clear hra
  try simp only [go_sem, opsV, undef, binV_int, binV_eqB, binV_neB, pbin_int, pbin_eqB, pbin_neB, intV, arith, unV_not, unV_neg, Nat.reduceBEq, Nat.reduceEqDiff, ↓reduceIte, reduceCtorEq, Int.reduceToNat, Nat.reduceLeDiff, Int.reduceLE, Int.reduceLT, Int.reducePow, Int.reduceNeg, Nat.reduceAdd, Nat.reduceMul, Nat.reducePow, Tryd.underlying22]
  refine hK _ _ ?_
  clear hK K
  have hnA : N64 (D64 (N64 xs)) = N64 xs := nval_digs two64 _
  generalize hA : D64 (N64 xs) = A at *
  with_reducible refine vc_seq fun K hK => ?_
  with_reducible refine vc_seq fun K hK => ?_
  refine vc_reg ?_
  try simp only [go_sem, opsV, undef, binV_int, binV_eqB, binV_neB, pbin_int, pbin_eqB, pbin_neB, intV, arith, unV_not, unV_neg, Nat.reduceBEq, Nat.reduceEqDiff, ↓reduceIte, reduceCtorEq, Int.reduceToNat, Nat.reduceLeDiff, Int.reduceLE, Int.reduceLT, Int.reducePow, Int.reduceNeg, Nat.reduceAdd, Nat.reduceMul, Nat.reducePow, Tryd.underlying22]
  refine ⟨_, ha.len, ?_⟩
  try simp only [go_sem, opsV, undef, binV_int, binV_eqB, binV_neB, pbin_int, pbin_eqB, pbin_neB, intV, arith, unV_not, unV_neg, Nat.reduceBEq, Nat.reduceEqDiff, ↓reduceIte, reduceCtorEq, Int.reduceToNat, Nat.reduceLeDiff, Int.reduceLE, Int.reduceLT, Int.reducePow, Int.reduceNeg, Nat.reduceAdd, Nat.reduceMul, Nat.reducePow, Tryd.underlying22]
  refine hK _ _ ?_
  clear hK K
  refine vc_condD (by simp only [go_sem, opsV, undef, binV_int, binV_eqB, binV_neB, pbin_int, pbin_eqB, pbin_neB, intV, arith, unV_not, unV_neg, Nat.reduceBEq, Nat.reduceEqDiff, ↓reduceIte, reduceCtorEq, Int.reduceToNat, Nat.reduceLeDiff, Int.reduceLE, Int.reduceLT, Int.reducePow, Int.reduceNeg, Nat.reduceAdd, Nat.reduceMul, Nat.reducePow, Tryd.underlying22] <;> rfl) (fun hA0 => ?_) (fun hA0 => ?_)
  · repeat (first
      | (with_reducible refine vc_seq fun K hK => ?_)
      | (with_reducible refine vc_reg ?_)
      | (with_reducible refine vc_skip ?_)
      | (with_reducible refine vc_block ?_)
      | (with_reducible refine vc_scope ?_)
      | (with_reducible refine vc_label ?_)
      | (with_reducible refine vc_condT ?_ ?_; · simp only [go_sem, opsV, undef, binV_int, binV_eqB, binV_neB, pbin_int, pbin_eqB, pbin_neB, intV, arith, unV_not, unV_neg, Nat.reduceBEq, Nat.reduceEqDiff, ↓reduceIte, reduceCtorEq, Int.reduceToNat, Nat.reduceLeDiff, Int.reduceLE, Int.reduceLT, Int.reducePow, Int.reduceNeg, Nat.reduceAdd, Nat.reduceMul, Nat.reducePow, Tryd.underlying22] <;> rfl)
      | (with_reducible refine vc_condF ?_ ?_; · simp only [go_sem, opsV, undef, binV_int, binV_eqB, binV_neB, pbin_int, pbin_eqB, pbin_neB, intV, arith, unV_not, unV_neg, Nat.reduceBEq, Nat.reduceEqDiff, ↓reduceIte, reduceCtorEq, Int.reduceToNat, Nat.reduceLeDiff, Int.reduceLE, Int.reduceLT, Int.reducePow, Int.reduceNeg, Nat.reduceAdd, Nat.reduceMul, Nat.reducePow, Tryd.underlying22] <;> rfl)
      | (with_reducible refine vc_exit ?_; simp only [↓reduceIte, Nat.reduceEqDiff])
      | (with_reducible refine vc_ret ?_; simp only [retV, resL, one])
      | (with_reducible refine hK _ _ ?_; clear hK)
      | (clear hK; with_reducible refine hK _ _ ?_; clear hK)
      | (clear hK; clear hK; with_reducible refine hK _ _ ?_; clear hK)
      | (simp only [go_sem, opsV, undef, binV_int, binV_eqB, binV_neB, pbin_int, pbin_eqB, pbin_neB, intV, arith, unV_not, unV_neg, Nat.reduceBEq, Nat.reduceEqDiff, ↓reduceIte, reduceCtorEq, Int.reduceToNat, Nat.reduceLeDiff, Int.reduceLE, Int.reduceLT, Int.reducePow, Int.reduceNeg, Nat.reduceAdd, Nat.reduceMul, Nat.reducePow, Tryd.underlying22]))
    have : N64 xs = 0 := by rw [← hnA, List.eq_nil_of_length_eq_zero hA0]; rfl
    rw [this, Nat.zero_mul, show D64 0 = [] from digs_zero _]
    exact ⟨hE, ⟨rfl, .inl ⟨rfl, rfl⟩⟩, by simp, by simp⟩
  refine vc_skip ?_
  refine hK _ _ ?_
  clear hK K
  with_reducible refine vc_seq fun K hK => ?_
  refine vc_reg ?_
  try simp only [go_sem, opsV, undef, binV_int, binV_eqB, binV_neB, pbin_int, pbin_eqB, pbin_neB, intV, arith, unV_not, unV_neg, Nat.reduceBEq, Nat.reduceEqDiff, ↓reduceIte, reduceCtorEq, Int.reduceToNat, Nat.reduceLeDiff, Int.reduceLE, Int.reduceLT, Int.reducePow, Int.reduceNeg, Nat.reduceAdd, Nat.reduceMul, Nat.reducePow, Tryd.underlying22, tdiv64, tmod64]
  refine ⟨by decide, (by unfold R64; omega), by decide, ?_⟩
  refine hK _ _ ?_
  clear hK K
  with_reducible refine vc_seq fun K hK => ?_
  refine vc_reg ?_
  try simp only [go_sem, opsV, undef, binV_int, binV_eqB, binV_neB, pbin_int, pbin_eqB, pbin_neB, intV, arith, unV_not, unV_neg, Nat.reduceBEq, Nat.reduceEqDiff, ↓reduceIte, reduceCtorEq, Int.reduceToNat, Nat.reduceLeDiff, Int.reduceLE, Int.reduceLT, Int.reducePow, Int.reduceNeg, Nat.reduceAdd, Nat.reduceMul, Nat.reducePow, Tryd.underlying22, tdiv64, tmod64]
  refine ⟨_, ha.len, ?_⟩
  try simp only [go_sem, opsV, undef, binV_int, binV_eqB, binV_neB, pbin_int, pbin_eqB, pbin_neB, intV, arith, unV_not, unV_neg, Nat.reduceBEq, Nat.reduceEqDiff, ↓reduceIte, reduceCtorEq, Int.reduceToNat, Nat.reduceLeDiff, Int.reduceLE, Int.reduceLT, Int.reducePow, Int.reduceNeg, Nat.reduceAdd, Nat.reduceMul, Nat.reducePow, Tryd.underlying22, tdiv64, tmod64]
  obtain ⟨b, w3, hmk, hnew⟩ := make_any (w := w2) T64 (kl := .i64) (kc := .i64) (n := A.length + n / 64 + 1) (by omega) (by omega)
  refine ⟨(by unfold R64; omega), (by unfold R64; omega), _, w3, hmk, ?_⟩
  refine hK _ _ ?_
  clear hK K
  have hB2 : Ext w2 w3 := hnew.ext
  have own : O64 w3 w2.heap.size (.slice (some ⟨b, 0, none⟩) (A.length + n / 64 + 1) (A.length + n / 64 + 1)) (List.replicate (A.length + n / 64 + 1) 0) := own_zeros hnew (by omega)
  clear hmk hnew
  with_reducible refine vc_seq fun K hK => ?_
  with_reducible refine vc_seq fun K hK => ?_
  refine vc_reg ?_
  try simp only [go_sem, opsV, undef, binV_int, binV_eqB, binV_neB, pbin_int, pbin_eqB, pbin_neB, intV, arith, unV_not, unV_neg, Nat.reduceBEq, Nat.reduceEqDiff, ↓reduceIte, reduceCtorEq, Int.reduceToNat, Nat.reduceLeDiff, Int.reduceLE, Int.reduceLT, Int.reducePow, Int.reduceNeg, Nat.reduceAdd, Nat.reduceMul, Nat.reducePow, Tryd.underlying22, tdiv64, tmod64]
  refine ⟨_, ha.len, ?_⟩
  refine hK _ _ ?_
  clear hK K
  refine vc_block ?_
  refine nat_Up_l0 (so := .slice (some ⟨b, 0, none⟩) (A.length + n / 64 + 1) (A.length + n / 64 + 1)) (k := n / 64) (s := n % 64) ha (by omega) (by omega) (Nat.mod_lt _ (by decide)) (fun e w' os hn own hB g7 => ?_) _ w3 _ (by simp) ?_ own hB2 ?_ ?_ ?_ ?_ ?_ ?_
  · simp only [↓reduceIte]
    refine hK _ _ ?_
    clear hK K
    with_reducible refine vc_seq fun K hK => ?_
    with_reducible refine vc_reg ?_
    try simp only [go_sem, opsV, undef, binV_int, binV_eqB, binV_neB, pbin_int, pbin_eqB, pbin_neB, intV, arith, unV_not, unV_neg, Nat.reduceBEq, Nat.reduceEqDiff, ↓reduceIte, reduceCtorEq, Int.reduceToNat, Nat.reduceLeDiff, Int.reduceLE, Int.reduceLT, Int.reducePow, Int.reduceNeg, Nat.reduceAdd, Nat.reduceMul, Nat.reducePow, g7]
    refine (nat_cut own.ws).mono ?_
    rintro r w5 ⟨hE5, rfl, hr⟩
    try simp only [go_sem, opsV, undef, binV_int, binV_eqB, binV_neB, pbin_int, pbin_eqB, pbin_neB, intV, arith, unV_not, unV_neg, Nat.reduceBEq, Nat.reduceEqDiff, ↓reduceIte, reduceCtorEq, Int.reduceToNat, Nat.reduceLeDiff, Int.reduceLE, Int.reduceLT, Int.reducePow, Int.reduceNeg, Nat.reduceAdd, Nat.reduceMul, Nat.reducePow, g7]
    refine hK _ _ ?_
    clear hK K
    refine vc_ret ?_
    simp only [retV, resL, one, go_sem, opsV, undef, binV_int, binV_eqB, binV_neB, pbin_int, pbin_eqB, pbin_neB, intV, arith, unV_not, unV_neg, Nat.reduceBEq, Nat.reduceEqDiff, ↓reduceIte, reduceCtorEq, Int.reduceToNat, Nat.reduceLeDiff, Int.reduceLE, Int.reduceLT, Int.reducePow, Int.reduceNeg, Nat.reduceAdd, Nat.reduceMul, Nat.reducePow, g7]
    have o2 := (own.digs two64).up hE5
    have hd : N64 os = N64 xs * 2 ^ n := by
      rw [hn, hnA, ← Nat.mul_assoc, show (18446744073709551616 : Nat) = 2 ^ 64 from rfl, ← Nat.pow_mul, ← Nat.pow_add, Nat.mul_comm, show 64 * (n / 64) + n % 64 = n from Nat.div_add_mod n 64]
    rw [show nval 18446744073709551616 os = N64 xs * 2 ^ n from hd] at o2
    rw [hd]
    exact ⟨(hE.trans' hB).trans' hE5, o2.base hE.size⟩
  · intro m
    simp only [List.getD, List.getElem?_replicate]
    split <;> rfl
  all_goals try simp only [go_sem, opsV, undef, binV_int, binV_eqB, binV_neB, pbin_int, pbin_eqB, pbin_neB, intV, arith, unV_not, unV_neg, Nat.reduceBEq, Nat.reduceEqDiff, ↓reduceIte, reduceCtorEq, Int.reduceToNat, Nat.reduceLeDiff, Int.reduceLE, Int.reduceLT, Int.reducePow, Int.reduceNeg, Nat.reduceAdd, Nat.reduceMul, Nat.reducePow, Tryd.underlying22]

end Go.V

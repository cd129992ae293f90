/- The walks of package nat: Mul. The walks of package nat: Up, Down, Shift. The walks of package nat: Down, Shift. The walks of package nat: Shift, byWord, Div. The walks of the document's own numbers: trim, Part, Words. The walks of the document's own numbers: Bits, Zeros; of the helps: Words; of few. -/
import Derived.Test.YtilnmcabjkpohaaDoorPN
import Derived.Test.YtilnmcabjkpohaaDoorPD
set_option linter.unusedSimpArgs false
set_option linter.unusedVariables false
set_option maxRecDepth 100000
namespace Go.V
open Go Go.RowKit Go.Proofs

theorem getD_set {xs : List Nat} {i j y : Nat} : (xs.set i y).getD j 0 = if i = j ∧ i < xs.length then y else xs.getD j 0 := by
  simp only [List.getD, List.getElem?_set]
  by_cases h : i = j
  · subst h
    by_cases h2 : i < xs.length
    · simp [h2]
    · simp [h2, List.getElem?_eq_none (Nat.le_of_not_lt h2)]
  · simp [h]

theorem mul_word {p o c : Nat} (hp : p ≤ 340282366920938463426481119284349108225) (ho : o < 18446744073709551616) (hc : c < 18446744073709551616) :
    ((p % 18446744073709551616 + o + 0) % 18446744073709551616 + c + 0) % 18446744073709551616 = (o + p + c) % 18446744073709551616 ∧
    ((p / 18446744073709551616 + (p % 18446744073709551616 + o + 0) / 18446744073709551616) % 18446744073709551616 + ((p % 18446744073709551616 + o + 0) % 18446744073709551616 + c + 0) / 18446744073709551616) % 18446744073709551616 = (o + p + c) / 18446744073709551616 ∧
    (o + p + c) / 18446744073709551616 < 18446744073709551616 := by
  omega

theorem nat_Mul_l1 {w2 : World} {so sa rb : Value} {B : List Nat} (hb : U64s w2.heap rb B) {N : Env → World → Prop} {X : Nat → Env → World → Prop} {R : Env → World → Prop} {i La T x : Nat} (hL : La ≤ 1099511627776) (hLb : B.length ≤ 1099511627776) (hi : i < La) (hx : x < 18446744073709551616)
    (J : ∀ (e : Env) (w' : World) (os : List Nat) (c : Nat), os.length = La + B.length → c < 18446744073709551616 → nval 18446744073709551616 os + 18446744073709551616 ^ (i + B.length) * c = T → (∀ m, i + B.length ≤ m → os.getD m 0 = 0) → O64 w' w2.heap.size so os → Ext w2 w' →
      e 1 = rb → e 5 = so → e 6 = .int .i64 (i : Int) → e 8 = .int .u64 (c : Int) → e 32 = sa → e 33 = .int .i64 (La : Int) → e 34 = .int .i64 (i : Int) → X 2 e w')
    (e : Env) (w' : World) (os : List Nat) (hol : os.length = La + B.length) (hsum : nval 18446744073709551616 os + 18446744073709551616 ^ i * (x * nval 18446744073709551616 B) = T) (hz : ∀ m, i + B.length ≤ m → os.getD m 0 = 0)
    (own : O64 w' w2.heap.size so os) (hB : Ext w2 w') (g1 : e 1 = rb) (g5 : e 5 = so) (g6 : e 6 = .int .i64 (i : Int)) (g7 : e 7 = .int .u64 (x : Int)) (g8 : e 8 = .int .u64 0) (g32 : e 32 = sa) (g33 : e 33 = .int .i64 (La : Int)) (g34 : e 34 = .int .i64 (i : Int))
    (g39 : e 39 = rb) (g40 : e 40 = .int .i64 (B.length : Int)) (g41 : e 41 = .int .i64 0) :
    vc Tryd.prog (nthLoop Tryd.f28 1) N X R e w' := by
  change vc _ (.loop _) _ _ _ _ _
  refine vc_loop (fun e w' => ∃ (os : List Nat) (c j : Nat), j ≤ B.length ∧ os.length = La + B.length ∧ c < 18446744073709551616 ∧ nval 18446744073709551616 os + 18446744073709551616 ^ (i + j) * (c + x * nval 18446744073709551616 (B.drop j)) = T ∧ (∀ m, i + B.length ≤ m → os.getD m 0 = 0) ∧ O64 w' w2.heap.size so os ∧ Ext w2 w' ∧
      e 1 = rb ∧ e 5 = so ∧ e 6 = .int .i64 (i : Int) ∧ e 7 = .int .u64 (x : Int) ∧ e 8 = .int .u64 (c : Int) ∧ e 32 = sa ∧ e 33 = .int .i64 (La : Int) ∧ e 34 = .int .i64 (i : Int) ∧ e 39 = rb ∧ e 40 = .int .i64 (B.length : Int) ∧ e 41 = .int .i64 (j : Int)) (fun e _ => B.length - (intOf (e 41)).toNat) ?_ ?_
  · refine ⟨os, 0, 0, Nat.zero_le _, hol, by omega, ?_, hz, own, hB, g1, g5, g6, g7, g8, g32, g33, g34, g39, g40, g41⟩
    rw [List.drop_zero, Nat.add_zero, Nat.zero_add]
    exact hsum
  · clear hsum own hol hB hz g1 g5 g6 g7 g8 g32 g33 g34 g39 g40 g41
    clear os e w'
    rintro e w' ⟨os, c, j, hj, hol, hc, hsum, hz, own, hB, g1, g5, g6, g7, g8, g32, g33, g34, g39, g40, g41⟩
    have hmz : (intOf (e 41)).toNat = j := by rw [g41]; rfl
    refine vc_seq fun K1 hK1 => ?_
    refine vc_reg ?_
    try simp only [go_sem, opsV, undef, vsD, intV, arith, seval, Tryd.underlying22, g1, g5, g6, g7, g8, g32, g33, g34, g39, g40, g41]
    refine hK1 _ _ ?_
    clear hK1
    refine vc_seq fun K1 hK1 => ?_
    refine vc_condD (by simp only [go_sem, opsV, undef, vsD, intV, arith, seval, Tryd.underlying22, g1, g5, g6, g7, g8, g32, g33, g34, g39, g40, g41] <;> rfl) (fun ht => ?_) (fun ht => ?_)
    · refine vc_skip ?_
      refine hK1 _ _ ?_
      clear hK1
      refine vc_seq fun K1 hK1 => ?_
      refine vc_block ?_
      obtain ⟨bd, hib, hlb⟩ := (hb.up hB).get (k := .i64) (i := j) ht
      have hy := hb.lt (by decide) j
      obtain ⟨ad, hix, hld, hst⟩ := own.at T64 S64 (ki := .i64) (i := i + j) (by omega)
      have ho := own.ws.lt (by decide) (i + j)
      refine vc_seq fun K2 hK2 => ?_
      refine vc_reg ?_
      try simp only [go_sem, opsV, undef, vsD, intV, arith, seval, Tryd.underlying22, g1, g5, g6, g7, g8, g32, g33, g34, g39, g40, g41]
      refine ⟨bd, hib, _, hlb _ (Ext.refl _), ?_⟩
      refine hK2 _ _ ?_
      clear hK2
      refine vc_seq fun K2 hK2 => ?_
      refine vc_reg ?_
      try simp only [go_sem, opsV, undef, vsD, intV, arith, seval, Tryd.underlying22, g1, g5, g6, g7, g8, g32, g33, g34, g39, g40, g41]
      refine mul64 x (B.getD j 0) hx hy ?_
      try simp only [go_sem, opsV, undef, vsD, intV, arith, seval, Tryd.underlying22, g1, g5, g6, g7, g8, g32, g33, g34, g39, g40, g41]
      have hp : x * B.getD j 0 ≤ 340282366920938463426481119284349108225 := Nat.mul_le_mul (Nat.le_of_lt_succ hx) (Nat.le_of_lt_succ hy)
      have hdr : x * nval 18446744073709551616 (B.drop j) = x * B.getD j 0 + 18446744073709551616 * (x * nval 18446744073709551616 (B.drop (j + 1))) := by
        rw [nval_drop ht, Nat.mul_add, Nat.mul_left_comm]
      rw [hdr] at hsum
      clear hdr
      generalize x * B.getD j 0 = p at *
      refine hK2 _ _ ?_
      clear hK2
      refine vc_seq fun K2 hK2 => ?_
      refine vc_reg ?_
      try simp only [go_sem, opsV, undef, vsD, intV, arith, seval, Tryd.underlying22, g1, g5, g6, g7, g8, g32, g33, g34, g39, g40, g41]
      refine hK2 _ _ ?_
      clear hK2
      refine vc_seq fun K2 hK2 => ?_
      refine vc_reg ?_
      try simp only [go_sem, opsV, undef, vsD, intV, arith, seval, Tryd.underlying22, g1, g5, g6, g7, g8, g32, g33, g34, g39, g40, g41]
      refine ⟨(by unfold R64; omega), ad, hix, _, hld, ?_⟩
      refine add64 (p % 18446744073709551616) (os.getD (i + j) 0) 0 (by decide) ?_
      try simp only [go_sem, opsV, undef, vsD, intV, arith, seval, Tryd.underlying22, g1, g5, g6, g7, g8, g32, g33, g34, g39, g40, g41]
      refine hK2 _ _ ?_
      clear hK2
      refine vc_seq fun K2 hK2 => ?_
      refine vc_reg ?_
      try simp only [go_sem, opsV, undef, vsD, intV, arith, seval, Tryd.underlying22, g1, g5, g6, g7, g8, g32, g33, g34, g39, g40, g41]
      refine hK2 _ _ ?_
      clear hK2
      refine vc_seq fun K2 hK2 => ?_
      refine vc_reg ?_
      try simp only [go_sem, opsV, undef, vsD, intV, arith, seval, Tryd.underlying22, g1, g5, g6, g7, g8, g32, g33, g34, g39, g40, g41]
      refine add64 ((p % 18446744073709551616 + os.getD (i + j) 0 + 0) % 18446744073709551616) c 0 (by decide) ?_
      try simp only [go_sem, opsV, undef, vsD, intV, arith, seval, Tryd.underlying22, g1, g5, g6, g7, g8, g32, g33, g34, g39, g40, g41]
      refine hK2 _ _ ?_
      clear hK2
      refine vc_reg ?_
      try simp only [go_sem, opsV, undef, vsD, intV, arith, seval, Tryd.underlying22, g1, g5, g6, g7, g8, g32, g33, g34, g39, g40, g41]
      obtain ⟨q1, q2, q3⟩ := mul_word hp ho hc
      simp only [q1, q2]
      obtain ⟨w'', h1, h2, h3, h4⟩ := hst ((os.getD (i + j) 0 + p + c) % 18446744073709551616) (mod64 _)
      refine ⟨(by unfold R64; omega), ad, hix, w'', h1, ?_⟩
      refine hK1 _ _ ?_
      refine vc_reg ?_
      try simp only [go_sem, opsV, undef, vsD, intV, arith, seval, Tryd.underlying22, g1, g5, g6, g7, g8, g32, g33, g34, g39, g40, g41]
      refine ⟨(by unfold R64; omega), ⟨os.set (i + j) ((os.getD (i + j) 0 + p + c) % 18446744073709551616), (os.getD (i + j) 0 + p + c) / 18446744073709551616, j + 1, by omega, by rw [List.length_set]; exact hol, q3, ?_, ?_, h2, h4 _ _ hB (Nat.le_refl _), ?_⟩, ?_⟩
      · exact add_step (i := i + j) (by decide) (by omega) rfl hsum
      · intro m hm
        rw [getD_set, if_neg (by omega)]
        exact hz m hm
      · try simp only [go_sem, opsV, undef, vsD, intV, arith, seval, Tryd.underlying22, g1, g5, g6, g7, g8, g32, g33, g34, g39, g40, g41]
      · (try rw [hmz])
        simp only [intOf]; omega
    · refine vc_exit ?_
      obtain rfl : j = B.length := by omega
      rw [nval_drop_all (Nat.le_refl _), Nat.mul_zero, Nat.add_zero] at hsum
      exact J _ _ os c hol hc hsum hz own hB (by try simp only [go_sem, opsV, undef, vsD, intV, arith, seval, Tryd.underlying22, g1, g5, g6, g7, g8, g32, g33, g34, g39, g40, g41]) (by try simp only [go_sem, opsV, undef, vsD, intV, arith, seval, Tryd.underlying22, g1, g5, g6, g7, g8, g32, g33, g34, g39, g40, g41]) (by try simp only [go_sem, opsV, undef, vsD, intV, arith, seval, Tryd.underlying22, g1, g5, g6, g7, g8, g32, g33, g34, g39, g40, g41]) (by try simp only [go_sem, opsV, undef, vsD, intV, arith, seval, Tryd.underlying22, g1, g5, g6, g7, g8, g32, g33, g34, g39, g40, g41]) (by try simp only [go_sem, opsV, undef, vsD, intV, arith, seval, Tryd.underlying22, g1, g5, g6, g7, g8, g32, g33, g34, g39, g40, g41]) (by try simp only [go_sem, opsV, undef, vsD, intV, arith, seval, Tryd.underlying22, g1, g5, g6, g7, g8, g32, g33, g34, g39, g40, g41]) (by try simp only [go_sem, opsV, undef, vsD, intV, arith, seval, Tryd.underlying22, g1, g5, g6, g7, g8, g32, g33, g34, g39, g40, g41])

theorem nat_Mul_l0 {w2 : World} {so sa rb : Value} {A B : List Nat} (ha : U64s w2.heap sa A) (hb : U64s w2.heap rb B) {N : Env → World → Prop} {X : Nat → Env → World → Prop} {R : Env → World → Prop} (hL : A.length ≤ 1099511627776) (hLb : B.length ≤ 1099511627776)
    (J : ∀ (e : Env) (w' : World) (os : List Nat), N64 os = N64 A * N64 B → O64 w' w2.heap.size so os → Ext w2 w' → e 5 = so → X 0 e w')
    (e : Env) (w' : World) (os : List Nat) (hol : os.length = A.length + B.length) (hz : ∀ m, os.getD m 0 = 0)
    (own : O64 w' w2.heap.size so os) (hB : Ext w2 w') (g1 : e 1 = rb) (g5 : e 5 = so) (g32 : e 32 = sa) (g33 : e 33 = .int .i64 (A.length : Int)) (g34 : e 34 = .int .i64 0) :
    vc Tryd.prog (nthLoop Tryd.f28 0) N X R e w' := by
  change vc _ (.loop _) _ _ _ _ _
  refine vc_loop (fun e w' => ∃ (os : List Nat) (i : Nat), i ≤ A.length ∧ os.length = A.length + B.length ∧ nval 18446744073709551616 os + 18446744073709551616 ^ i * (nval 18446744073709551616 (A.drop i) * nval 18446744073709551616 B) = N64 A * N64 B ∧ (∀ m, i + B.length ≤ m → os.getD m 0 = 0) ∧ O64 w' w2.heap.size so os ∧ Ext w2 w' ∧
      e 1 = rb ∧ e 5 = so ∧ e 32 = sa ∧ e 33 = .int .i64 (A.length : Int) ∧ e 34 = .int .i64 (i : Int)) (fun e _ => A.length - (intOf (e 34)).toNat) ?_ ?_
  · refine ⟨os, 0, Nat.zero_le _, hol, ?_, fun m _ => hz m, own, hB, g1, g5, g32, g33, g34⟩
    rw [List.drop_zero, Nat.pow_zero, Nat.one_mul, nval_none (fun j _ => hz j), Nat.zero_add]
  · clear own hol hB hz g1 g5 g32 g33 g34
    clear os e w'
    rintro e w' ⟨os, i, hi, hol, hsum, hz, own, hB, g1, g5, g32, g33, g34⟩
    have hmz : (intOf (e 34)).toNat = i := by rw [g34]; rfl
    refine vc_seq fun K1 hK1 => ?_
    refine vc_reg ?_
    try simp only [go_sem, opsV, undef, vsD, intV, arith, seval, Tryd.underlying22, g1, g5, g32, g33, g34]
    refine hK1 _ _ ?_
    clear hK1
    refine vc_seq fun K1 hK1 => ?_
    refine vc_condD (by simp only [go_sem, opsV, undef, vsD, intV, arith, seval, Tryd.underlying22, g1, g5, g32, g33, g34] <;> rfl) (fun ht => ?_) (fun ht => ?_)
    · refine vc_skip ?_
      refine hK1 _ _ ?_
      clear hK1
      refine vc_seq fun K1 hK1 => ?_
      refine vc_block ?_
      obtain ⟨bd, hib, hlb⟩ := (ha.up hB).get (k := .i64) (i := i) ht
      have hx := ha.lt (by decide) i
      have hb' := hb.up hB
      refine vc_seq fun K2 hK2 => ?_
      refine vc_reg ?_
      try simp only [go_sem, opsV, undef, vsD, intV, arith, seval, Tryd.underlying22, g1, g5, g32, g33, g34]
      refine ⟨bd, hib, _, hlb _ (Ext.refl _), ?_⟩
      refine hK2 _ _ ?_
      clear hK2
      refine vc_seq fun K2 hK2 => ?_
      refine vc_reg ?_
      try simp only [go_sem, opsV, undef, vsD, intV, arith, seval, Tryd.underlying22, g1, g5, g32, g33, g34]
      refine hK2 _ _ ?_
      clear hK2
      refine vc_seq fun K2 hK2 => ?_
      refine vc_seq fun K3 hK3 => ?_
      refine vc_reg ?_
      try simp only [go_sem, opsV, undef, vsD, intV, arith, seval, Tryd.underlying22, g1, g5, g32, g33, g34]
      refine ⟨_, hb'.len, ?_⟩
      refine hK3 _ _ ?_
      clear hK3
      refine vc_block ?_
      have hdr : nval 18446744073709551616 (A.drop i) * nval 18446744073709551616 B = A.getD i 0 * nval 18446744073709551616 B + 18446744073709551616 * (nval 18446744073709551616 (A.drop (i + 1)) * nval 18446744073709551616 B) := by
        rw [nval_drop ht, Nat.add_mul, Nat.mul_assoc]
      rw [hdr, Nat.mul_add, ← Nat.mul_assoc (18446744073709551616 ^ i) 18446744073709551616, ← Nat.pow_succ] at hsum
      clear hdr
      refine nat_Mul_l1 (so := so) (sa := sa) hb hL hLb ht hx (T := nval 18446744073709551616 os + 18446744073709551616 ^ i * (A.getD i 0 * nval 18446744073709551616 B)) (fun e w' os' c hol' hc hsum' hz' own' hB' f1 f5 f6 f8 f32 f33 f34 => ?_) _ w' os hol rfl hz own hB ?_ ?_ ?_ ?_ ?_ ?_ ?_ ?_ ?_ ?_ ?_
      · simp only [↓reduceIte]
        refine hK2 _ _ ?_
        clear hK2
        obtain ⟨ad, hix, hld, hst⟩ := own'.at T64 S64 (ki := .i64) (i := i + B.length) (by omega)
        obtain ⟨w'', h1, h2, h3, h4⟩ := hst c hc
        refine vc_reg ?_
        try simp only [go_sem, opsV, undef, vsD, intV, arith, seval, Tryd.underlying22, f1, f5, f6, f8, f32, f33, f34]
        refine ⟨_, (hb.up hB').len, ?_⟩
        try simp only [go_sem, opsV, undef, vsD, intV, arith, seval, Tryd.underlying22, f1, f5, f6, f8, f32, f33, f34]
        refine ⟨(by unfold R64; omega), ad, hix, w'', h1, ?_⟩
        refine hK1 _ _ ?_
        refine vc_reg ?_
        try simp only [go_sem, opsV, undef, vsD, intV, arith, seval, Tryd.underlying22, f1, f5, f6, f8, f32, f33, f34]
        have hs := nval_set (B := 18446744073709551616) (xs := os') (i := i + B.length) (y := c) (by omega)
        rw [hz' _ (Nat.le_refl _), Nat.mul_zero, Nat.add_zero, hsum'] at hs
        refine ⟨(by unfold R64; omega), ⟨os'.set (i + B.length) c, i + 1, by omega, by rw [List.length_set]; exact hol', ?_, ?_, h2, h4 _ _ hB' (Nat.le_refl _), ?_⟩, ?_⟩
        · rw [hs]; exact hsum ▸ by rw [Nat.add_assoc]
        · intro m hm
          rw [getD_set, if_neg (by omega)]
          exact hz' m (by omega)
        · try simp only [go_sem, opsV, undef, vsD, intV, arith, seval, Tryd.underlying22, f1, f5, f6, f8, f32, f33, f34]
        · (try rw [hmz])
          simp only [intOf]; omega
      all_goals try simp only [go_sem, opsV, undef, vsD, intV, arith, seval, Tryd.underlying22, g1, g5, g32, g33, g34]
    · refine vc_exit ?_
      obtain rfl : i = A.length := by omega
      rw [nval_drop_all (Nat.le_refl _), Nat.zero_mul, Nat.mul_zero, Nat.add_zero] at hsum
      exact J _ _ os hsum own hB (by try simp only [go_sem, opsV, undef, vsD, intV, arith, seval, Tryd.underlying22, g1, g5, g32, g33, g34])

set_option maxHeartbeats 1000000 in
theorem nat_Mul {w : World} {va vb : Value} {xs ys : List Nat} (hx : U64s w.heap va xs) (hy : U64s w.heap vb ys) (hlx : xs.length ≤ 1099511627776) (hly : ys.length ≤ 1099511627776) :
    FC Tryd.prog 28 #[va, vb] w fun r w' => Ext w w' ∧ O64 w' w.heap.size r (D64 (N64 xs * N64 ys)) := by
  have hda := digs_le hx.2
  have hdb := digs_le hy.2
  refine FC.body (l := [va, vb]) (rs := [.tmp 4]) mixed Tryd.func28 rfl (by kernel_rfl) (by kernel_rfl) (Nat.le_of_ble_eq_true rfl) rfl ?_
  with_reducible refine vc_seq fun K hK => ?_
  with_reducible refine vc_reg ?_
  simp only [go_sem, opsV, undef, vsD, intV, arith, seval, Tryd.underlying22]
  refine hK _ _ ?_
  clear hK K
  with_reducible refine vc_seq fun K hK => ?_
  refine vc_reg ?_
  try simp only [go_sem, opsV, undef, vsD, intV, arith, seval, Tryd.underlying22]
  refine (nat_cut hx).mono ?_
  rintro ra w1 ⟨hE1, hra, ha⟩
  try simp only [go_sem, opsV, undef, vsD, intV, arith, seval, Tryd.underlying22]
  refine (nat_cut (hy.up hE1)).mono ?_
  rintro rb w2 ⟨hE2, hrb, hb⟩
  have ha := ha.up hE2
  have hE := hE1.trans' hE2
  clear hra hrb
  try simp only [go_sem, opsV, undef, vsD, intV, arith, seval, Tryd.underlying22]
  refine hK _ _ ?_
  clear hK K
  have hnA : N64 (D64 (N64 xs)) = N64 xs := nval_digs two64 _
  have hnB : N64 (D64 (N64 ys)) = N64 ys := nval_digs two64 _
  generalize hA : D64 (N64 xs) = A at *
  generalize hBB : D64 (N64 ys) = B at *
  with_reducible refine vc_seq fun K hK => ?_
  with_reducible refine vc_seq fun K hK => ?_
  refine vc_reg ?_
  try simp only [go_sem, opsV, undef, vsD, intV, arith, seval, Tryd.underlying22]
  refine ⟨_, ha.len, ?_⟩
  try simp only [go_sem, opsV, undef, vsD, intV, arith, seval, Tryd.underlying22]
  by_cases hA0 : A.length = 0
  · simp only [hA0, go_sem, opsV, undef, vsD, intV, arith, seval, Tryd.underlying22]
    refine hK _ _ ?_
    clear hK K
    refine vc_condT (by simp only [go_sem, opsV, undef, vsD, intV, arith, seval, Tryd.underlying22] <;> rfl) ?_
    repeat (first
      | (with_reducible refine vc_seq fun K hK => ?_)
      | (with_reducible refine vc_reg ?_)
      | (with_reducible refine vc_skip ?_)
      | (with_reducible refine vc_block ?_)
      | (with_reducible refine vc_scope ?_)
      | (with_reducible refine vc_label ?_)
      | (with_reducible refine vc_condT ?_ ?_; · simp only [go_sem, opsV, undef, vsD, intV, arith, seval, Tryd.underlying22] <;> rfl)
      | (with_reducible refine vc_condF ?_ ?_; · simp only [go_sem, opsV, undef, vsD, intV, arith, seval, Tryd.underlying22] <;> rfl)
      | (with_reducible refine vc_exit ?_; simp only [↓reduceIte, Nat.reduceEqDiff])
      | (with_reducible refine vc_ret ?_; simp only [retV, resL, one])
      | (with_reducible refine hK _ _ ?_; clear hK)
      | (clear hK; with_reducible refine hK _ _ ?_; clear hK)
      | (clear hK; clear hK; with_reducible refine hK _ _ ?_; clear hK)
      | (simp only [go_sem, opsV, undef, vsD, intV, arith, seval, Tryd.underlying22]))
    have : N64 xs = 0 := by rw [← hnA, List.eq_nil_of_length_eq_zero hA0]; rfl
    rw [this, Nat.zero_mul, show D64 0 = [] from digs_zero _]
    exact ⟨hE, ⟨rfl, .inl ⟨rfl, rfl⟩⟩, by simp, by simp⟩
  simp only [hA0, go_sem, opsV, undef, vsD, intV, arith, seval, Tryd.underlying22]
  refine ⟨_, hb.len, ?_⟩
  try simp only [go_sem, opsV, undef, vsD, intV, arith, seval, Tryd.underlying22]
  refine hK _ _ ?_
  clear hK K
  refine vc_condD (by simp only [go_sem, opsV, undef, vsD, intV, arith, seval, Tryd.underlying22] <;> rfl) (fun hB0 => ?_) (fun hB0 => ?_)
  · repeat (first
      | (with_reducible refine vc_seq fun K hK => ?_)
      | (with_reducible refine vc_reg ?_)
      | (with_reducible refine vc_skip ?_)
      | (with_reducible refine vc_block ?_)
      | (with_reducible refine vc_scope ?_)
      | (with_reducible refine vc_label ?_)
      | (with_reducible refine vc_condT ?_ ?_; · simp only [go_sem, opsV, undef, vsD, intV, arith, seval, Tryd.underlying22] <;> rfl)
      | (with_reducible refine vc_condF ?_ ?_; · simp only [go_sem, opsV, undef, vsD, intV, arith, seval, Tryd.underlying22] <;> rfl)
      | (with_reducible refine vc_exit ?_; simp only [↓reduceIte, Nat.reduceEqDiff])
      | (with_reducible refine vc_ret ?_; simp only [retV, resL, one])
      | (with_reducible refine hK _ _ ?_; clear hK)
      | (clear hK; with_reducible refine hK _ _ ?_; clear hK)
      | (clear hK; clear hK; with_reducible refine hK _ _ ?_; clear hK)
      | (simp only [go_sem, opsV, undef, vsD, intV, arith, seval, Tryd.underlying22]))
    have : N64 ys = 0 := by rw [← hnB, List.eq_nil_of_length_eq_zero hB0]; rfl
    rw [this, Nat.mul_zero, show D64 0 = [] from digs_zero _]
    exact ⟨hE, ⟨rfl, .inl ⟨rfl, rfl⟩⟩, by simp, by simp⟩
  refine vc_skip ?_
  refine hK _ _ ?_
  clear hK K
  with_reducible refine vc_seq fun K hK => ?_
  refine vc_reg ?_
  try simp only [go_sem, opsV, undef, vsD, intV, arith, seval, Tryd.underlying22]
  refine ⟨_, ha.len, _, hb.len, ?_⟩
  try simp only [go_sem, opsV, undef, vsD, intV, arith, seval, Tryd.underlying22]
  obtain ⟨b, w3, hmk, hnew⟩ := make_any (w := w2) T64 (kl := .i64) (kc := .i64) (n := A.length + B.length) (by omega) (by omega)
  refine ⟨(by unfold R64; omega), _, w3, hmk, ?_⟩
  refine hK _ _ ?_
  clear hK K
  have hB2 : Ext w2 w3 := hnew.ext
  have own : O64 w3 w2.heap.size (.slice (some ⟨b, 0, none⟩) (A.length + B.length) (A.length + B.length)) (List.replicate (A.length + B.length) 0) := by
    have hrow := hnew.row
    rw [show (Value.int .u64 0).cells = #[.int .u64 0] from rfl, Nat.mul_one, toList_madeCells_one] at hrow
    have := own_row (w := w3) hrow (n := A.length + B.length) (cap := A.length + B.length) (by simp) (Nat.le_refl _) (by omega)
    refine ⟨?_, fun x hx => by rw [List.eq_of_mem_replicate hx]; decide, by simp; omega⟩
    have e : (List.replicate (A.length + B.length) (Value.int .u64 0)).take (A.length + B.length) = wc .u64 (List.replicate (A.length + B.length) 0) := by
      rw [List.take_of_length_le (by simp)]; simp [wc]
    rw [e] at this
    rw [List.length_replicate]
    exact own_base this hnew.fresh
  clear hmk hnew
  with_reducible refine vc_seq fun K hK => ?_
  with_reducible refine vc_seq fun K hK => ?_
  refine vc_reg ?_
  try simp only [go_sem, opsV, undef, vsD, intV, arith, seval, Tryd.underlying22]
  refine ⟨_, ha.len, ?_⟩
  refine hK _ _ ?_
  clear hK K
  refine vc_block ?_
  refine nat_Mul_l0 (so := .slice (some ⟨b, 0, none⟩) (A.length + B.length) (A.length + B.length)) ha hb (by omega) (by omega) (fun e w' os hn own hB g5 => ?_) _ w3 _ (by simp) ?_ own hB2 ?_ ?_ ?_ ?_ ?_
  · simp only [↓reduceIte]
    refine hK _ _ ?_
    clear hK K
    with_reducible refine vc_seq fun K hK => ?_
    with_reducible refine vc_reg ?_
    try simp only [go_sem, opsV, undef, vsD, intV, arith, seval, g5]
    refine (nat_cut own.ws).mono ?_
    rintro r w5 ⟨hE5, rfl, hr⟩
    try simp only [go_sem, opsV, undef, vsD, intV, arith, seval, g5]
    refine hK _ _ ?_
    clear hK K
    refine vc_ret ?_
    simp only [retV, resL, one, go_sem, opsV, undef, vsD, intV, arith, seval, g5]
    have o2 := (own.digs two64).up hE5
    have hd : N64 os = N64 xs * N64 ys := by rw [hn, hnA, hnB]
    rw [show nval 18446744073709551616 os = N64 xs * N64 ys from hd] at o2
    rw [hd]
    exact ⟨(hE.trans' hB).trans' hE5, o2.base hE.size⟩
  · intro m
    simp only [List.getD, List.getElem?_replicate]
    split <;> rfl
  all_goals try simp only [go_sem, opsV, undef, vsD, intV, arith, seval, Tryd.underlying22]

end Go.V
namespace Go.V
open Go Go.RowKit Go.Proofs

theorem tdiv64 (n : Nat) : (n : Int).tdiv 64 = ((n / 64 : Nat) : Int) := rfl
theorem tmod64 (n : Nat) : (n : Int).tmod 64 = ((n % 64 : Nat) : Int) := rfl
theorem sub64s {s : Nat} (h : s < 64) : (64 : Int) - (s : Int) = ((64 - s : Nat) : Int) := by omega

theorem pow64 {s : Nat} (h : s < 64) : 18446744073709551616 = 2 ^ s * 2 ^ (64 - s) := by
  rw [← Nat.pow_add, show s + (64 - s) = 64 by omega]
/-- A word that is shifted up, behind what came over from below. -/
theorem up_word {o x s : Nat} (hs : s < 64) (ho : o < 2 ^ s) (hx : x < 18446744073709551616) :
    (o ||| x * 2 ^ s % 18446744073709551616) + 18446744073709551616 * (x / 2 ^ (64 - s)) = o + x * 2 ^ s := by
  have hp := pow64 hs
  have h1 : x * 2 ^ s % 18446744073709551616 = 2 ^ s * (x % 2 ^ (64 - s)) := by
    rw [Nat.mul_comm x]; conv => lhs; rw [hp]
    exact Nat.mul_mod_mul_left _ _ _
  rw [h1, Nat.or_comm, ← Nat.two_pow_add_eq_or_of_lt ho]
  have h2 : 18446744073709551616 * (x / 2 ^ (64 - s)) = 2 ^ s * (2 ^ (64 - s) * (x / 2 ^ (64 - s))) := by
    rw [← Nat.mul_assoc, ← hp]
  have h3 : 2 ^ s * (x % 2 ^ (64 - s) + 2 ^ (64 - s) * (x / 2 ^ (64 - s))) = 2 ^ s * x := by rw [Nat.mod_add_div]
  rw [Nat.mul_add] at h3
  rw [h2, Nat.mul_comm x]
  omega
theorem up_over {x s : Nat} (hs : s < 64) (hx : x < 18446744073709551616) : x / 2 ^ (64 - s) < 2 ^ s := by
  rw [Nat.div_lt_iff_lt_mul (Nat.two_pow_pos _), ← pow64 hs]; exact hx
/-- A word that is shifted down, below what comes over from above. -/
theorem down_word {d R s : Nat} (hs : s < 64) (hd : d < 18446744073709551616) :
    (d + 18446744073709551616 * R) / 2 ^ s = (d / 2 ^ s ||| R % 18446744073709551616 * 2 ^ (64 - s) % 18446744073709551616) + 18446744073709551616 * (R / 2 ^ s) := by
  have hp := pow64 hs
  have hp' : 18446744073709551616 = 2 ^ (64 - s) * 2 ^ s := by rw [Nat.mul_comm, ← hp]
  have h0 : d / 2 ^ s < 2 ^ (64 - s) := by rw [Nat.div_lt_iff_lt_mul (Nat.two_pow_pos _), ← hp']; exact hd
  have h1 : R % 18446744073709551616 * 2 ^ (64 - s) % 18446744073709551616 = 2 ^ (64 - s) * (R % 2 ^ s) := by
    rw [Nat.mul_comm (R % _)]
    have e : 2 ^ (64 - s) * (R % 18446744073709551616) % 18446744073709551616 = 2 ^ (64 - s) * (R % 18446744073709551616) % (2 ^ (64 - s) * 2 ^ s) := by rw [← hp']
    rw [e, Nat.mul_mod_mul_left]
    congr 1
    exact Nat.mod_mod_of_dvd _ ⟨2 ^ (64 - s), hp⟩
  rw [h1, Nat.or_comm, ← Nat.two_pow_add_eq_or_of_lt h0]
  have h2 : 18446744073709551616 * R = 2 ^ s * (2 ^ (64 - s) * R) := by rw [← Nat.mul_assoc, ← hp]
  have h3 : 18446744073709551616 * (R / 2 ^ s) = 2 ^ (64 - s) * (2 ^ s * (R / 2 ^ s)) := by rw [← Nat.mul_assoc, ← hp']
  rw [h2, Nat.add_mul_div_left _ _ (Nat.two_pow_pos s), h3]
  have h4 : 2 ^ (64 - s) * (R % 2 ^ s + 2 ^ s * (R / 2 ^ s)) = 2 ^ (64 - s) * R := by rw [Nat.mod_add_div]
  rw [Nat.mul_add] at h4
  omega
theorem or_lt64 {a b : Nat} (ha : a < 18446744073709551616) (hb : b < 18446744073709551616) : a ||| b < 18446744073709551616 := Nat.or_lt_two_pow (n := 64) ha hb
theorem div_lt64 {a b : Nat} (ha : a < 18446744073709551616) : a / b < 18446744073709551616 := Nat.lt_of_le_of_lt (Nat.div_le_self _ _) ha

theorem nat_Up_l0 {w2 : World} {so sa : Value} {A : List Nat} (ha : U64s w2.heap sa A) {N : Env → World → Prop} {X : Nat → Env → World → Prop} {R : Env → World → Prop} {k s : Nat} (hL : A.length ≤ 1099511627776) (hk : k ≤ 1099511627776) (hs : s < 64)
    (J : ∀ (e : Env) (w' : World) (os : List Nat), N64 os = 18446744073709551616 ^ k * (2 ^ s * N64 A) → O64 w' w2.heap.size so os → Ext w2 w' → e 7 = so → X 0 e w')
    (e : Env) (w' : World) (os : List Nat) (hol : os.length = A.length + k + 1) (hz : ∀ m, os.getD m 0 = 0)
    (own : O64 w' w2.heap.size so os) (hB : Ext w2 w') (g5 : e 5 = .int .i64 (k : Int)) (g6 : e 6 = .int .i64 (s : Int)) (g7 : e 7 = so) (g25 : e 25 = sa) (g26 : e 26 = .int .i64 (A.length : Int)) (g27 : e 27 = .int .i64 0) :
    vc Tryd.prog (nthLoop Tryd.f48 0) N X R e w' := by
  change vc _ (.loop _) _ _ _ _ _
  refine vc_loop (fun e w' => ∃ (os : List Nat) (i : Nat), i ≤ A.length ∧ os.length = A.length + k + 1 ∧ nval 18446744073709551616 os + 18446744073709551616 ^ (i + k) * (2 ^ s * nval 18446744073709551616 (A.drop i)) = 18446744073709551616 ^ k * (2 ^ s * N64 A) ∧ (∀ m, i + k < m → os.getD m 0 = 0) ∧ os.getD (i + k) 0 < 2 ^ s ∧ O64 w' w2.heap.size so os ∧ Ext w2 w' ∧
      e 5 = .int .i64 (k : Int) ∧ e 6 = .int .i64 (s : Int) ∧ e 7 = so ∧ e 25 = sa ∧ e 26 = .int .i64 (A.length : Int) ∧ e 27 = .int .i64 (i : Int)) (fun e _ => A.length - (intOf (e 27)).toNat) ?_ ?_
  · refine ⟨os, 0, Nat.zero_le _, hol, ?_, fun m _ => hz m, by rw [hz]; exact Nat.two_pow_pos s, own, hB, g5, g6, g7, g25, g26, g27⟩
    rw [List.drop_zero, Nat.zero_add, nval_none (fun j _ => hz j), Nat.zero_add]
  · clear own hol hB hz g5 g6 g7 g25 g26 g27
    clear os e w'
    rintro e w' ⟨os, i, hi, hol, hsum, hz, hlow, own, hB, g5, g6, g7, g25, g26, g27⟩
    have hmz : (intOf (e 27)).toNat = i := by rw [g27]; rfl
    have hs64 : s ≤ 64 := by omega
    have hs64' : 64 - s ≤ 64 := by omega
    refine vc_seq fun K1 hK1 => ?_
    refine vc_reg ?_
    try simp only [go_sem, opsV, undef, vsD, intV, arith, seval, Tryd.underlying22, g5, g6, g7, g25, g26, g27, sub64s hs, hs64, hs64']
    refine hK1 _ _ ?_
    clear hK1
    refine vc_seq fun K1 hK1 => ?_
    refine vc_condD (by simp only [go_sem, opsV, undef, vsD, intV, arith, seval, Tryd.underlying22, g5, g6, g7, g25, g26, g27, sub64s hs, hs64, hs64'] <;> rfl) (fun ht => ?_) (fun ht => ?_)
    · refine vc_skip ?_
      refine hK1 _ _ ?_
      clear hK1
      refine vc_seq fun K1 hK1 => ?_
      refine vc_block ?_
      obtain ⟨bd, hib, hlb⟩ := (ha.up hB).get (k := .i64) (i := i) ht
      have hx := ha.lt (by decide) i
      refine vc_seq fun K2 hK2 => ?_
      refine vc_reg ?_
      try simp only [go_sem, opsV, undef, vsD, intV, arith, seval, Tryd.underlying22, g5, g6, g7, g25, g26, g27, sub64s hs, hs64, hs64']
      refine ⟨bd, hib, _, hlb _ (Ext.refl _), ?_⟩
      refine hK2 _ _ ?_
      clear hK2
      refine vc_seq fun K2 hK2 => ?_
      obtain ⟨ad, hix, hld, hst⟩ := (own.up (ext_drew _)).at T64 S64 (ki := .i64) (i := i + k) (by omega)
      have ho := own.ws.lt (by decide) (i + k)
      refine vc_draw [(0, 0), (1, 0), (2, 0), (3, 0), (4, 0), (5, 1), (6, 0), (7, 0), (8, 0), (9, 0), (10, 0), (11, 3)] (by kernel_rfl) ?_
      try simp only [go_sem, opsV, undef, vsD, intV, arith, seval, Tryd.underlying22, g5, g6, g7, g25, g26, g27, sub64s hs, hs64, hs64']
      refine ⟨(by unfold R64; omega), ad, hix, _, hld, ?_⟩
      try simp only [go_sem, opsV, undef, vsD, intV, arith, seval, Tryd.underlying22, g5, g6, g7, g25, g26, g27, sub64s hs, hs64, hs64']
      refine ⟨ad, hix, ?_⟩
      rw [or64_nat _ _ ho (mod64 _)]
      obtain ⟨w'', h1, h2, h3, h4⟩ := hst (os.getD (i + k) 0 ||| A.getD i 0 * 2 ^ s % 18446744073709551616) (or_lt64 ho (mod64 _))
      refine ⟨w'', h1, ?_⟩
      refine hK2 _ _ ?_
      clear hK2
      obtain ⟨ad2, hix2, hld2, hst2⟩ := h2.at T64 S64 (ki := .i64) (i := i + k + 1) (by rw [List.length_set]; omega)
      obtain ⟨w3, h5, h6, h7, h8⟩ := hst2 (A.getD i 0 / 2 ^ (64 - s)) (div_lt64 hx)
      refine vc_reg ?_
      try simp only [go_sem, opsV, undef, vsD, intV, arith, seval, Tryd.underlying22, g5, g6, g7, g25, g26, g27, sub64s hs, hs64, hs64']
      refine ⟨(by unfold R64; omega), (by unfold R64; omega), (by unfold R64; omega), ad2, hix2, w3, h5, ?_⟩
      refine hK1 _ _ ?_
      refine vc_reg ?_
      try simp only [go_sem, opsV, undef, vsD, intV, arith, seval, Tryd.underlying22, g5, g6, g7, g25, g26, g27, sub64s hs, hs64, hs64']
      refine ⟨(by unfold R64; omega), ⟨_, i + 1, by omega, ?_, ?_, ?_, ?_, h6, h8 _ _ (h4 _ _ hB.drew' (Nat.le_refl _)) (Nat.le_refl _), ?_⟩, ?_⟩
      · rw [List.length_set, List.length_set]; exact hol
      · have e1 := nval_set (B := 18446744073709551616) (xs := os) (i := i + k) (y := os.getD (i + k) 0 ||| A.getD i 0 * 2 ^ s % 18446744073709551616) (by omega)
        have e2 := nval_set (B := 18446744073709551616) (xs := os.set (i + k) (os.getD (i + k) 0 ||| A.getD i 0 * 2 ^ s % 18446744073709551616)) (i := i + k + 1) (y := A.getD i 0 / 2 ^ (64 - s)) (by rw [List.length_set]; omega)
        have e0 : (os.set (i + k) (os.getD (i + k) 0 ||| A.getD i 0 * 2 ^ s % 18446744073709551616)).getD (i + k + 1) 0 = 0 := by rw [getD_set, if_neg (by omega)]; exact hz _ (by omega)
        rw [e0, Nat.mul_zero, Nat.add_zero, Nat.pow_succ, Nat.mul_assoc] at e2
        have e3 := congrArg (18446744073709551616 ^ (i + k) * ·) (up_word hs hlow hx)
        simp only [Nat.mul_add] at e3
        rw [nval_drop ht] at hsum
        have e4 : 2 ^ s * (A.getD i 0 + 18446744073709551616 * nval 18446744073709551616 (A.drop (i + 1))) = A.getD i 0 * 2 ^ s + 18446744073709551616 * (2 ^ s * nval 18446744073709551616 (A.drop (i + 1))) := by
          rw [Nat.mul_add, Nat.mul_comm (2 ^ s) (A.getD i 0), Nat.mul_left_comm]
        rw [e4, Nat.mul_add] at hsum
        rw [e2, show i + 1 + k = i + k + 1 by omega, Nat.pow_succ, Nat.mul_assoc (18446744073709551616 ^ (i + k)) 18446744073709551616]
        omega
      · intro m hm
        rw [getD_set, if_neg (by omega), getD_set, if_neg (by omega)]
        exact hz m (by omega)
      · rw [show i + 1 + k = i + k + 1 by omega, getD_set, if_pos ⟨rfl, by rw [List.length_set]; omega⟩]
        exact up_over hs hx
      · try simp only [go_sem, opsV, undef, vsD, intV, arith, seval, Tryd.underlying22, g5, g6, g7, g25, g26, g27, sub64s hs, hs64, hs64']
      · (try rw [hmz])
        simp only [intOf]; omega
    · refine vc_exit ?_
      obtain rfl : i = A.length := by omega
      rw [nval_drop_all (Nat.le_refl _), Nat.mul_zero, Nat.mul_zero, Nat.add_zero] at hsum
      exact J _ _ os hsum own hB (by try simp only [go_sem, opsV, undef, vsD, intV, arith, seval, Tryd.underlying22, g5, g6, g7, g25, g26, g27, sub64s hs, hs64, hs64'])

set_option maxHeartbeats 1000000 in
theorem nat_Up {w : World} {va : Value} {xs : List Nat} {n : Nat} (hx : U64s w.heap va xs) (hlx : xs.length ≤ 1099511627776) (hn : n ≤ 1099511627776) :
    FC Tryd.prog 48 #[va, .int .i64 (n : Int)] w fun r w' => Ext w w' ∧ O64 w' w.heap.size r (D64 (N64 xs * 2 ^ n)) := by
  have hda := digs_le hx.2
  refine FC.body (l := [va, .int .i64 (n : Int)]) (rs := [.tmp 4]) mixed Tryd.func48 rfl (by kernel_rfl) (by kernel_rfl) (Nat.le_of_ble_eq_true rfl) rfl ?_
  with_reducible refine vc_seq fun K hK => ?_
  with_reducible refine vc_reg ?_
  simp only [go_sem, opsV, undef, vsD, intV, arith, seval, Tryd.underlying22]
  refine hK _ _ ?_
  clear hK K
  with_reducible refine vc_seq fun K hK => ?_
  refine vc_reg ?_
  try simp only [go_sem, opsV, undef, vsD, intV, arith, seval, Tryd.underlying22]
  refine (nat_cut hx).mono ?_
  rintro ra w2 ⟨hE, hra, ha⟩
  clear hra
  try simp only [go_sem, opsV, undef, vsD, intV, arith, seval, Tryd.underlying22]
  refine hK _ _ ?_
  clear hK K
  have hnA : N64 (D64 (N64 xs)) = N64 xs := nval_digs two64 _
  generalize hA : D64 (N64 xs) = A at *
  with_reducible refine vc_seq fun K hK => ?_
  with_reducible refine vc_seq fun K hK => ?_
  refine vc_reg ?_
  try simp only [go_sem, opsV, undef, vsD, intV, arith, seval, Tryd.underlying22]
  refine ⟨_, ha.len, ?_⟩
  try simp only [go_sem, opsV, undef, vsD, intV, arith, seval, Tryd.underlying22]
  refine hK _ _ ?_
  clear hK K
  refine vc_condD (by simp only [go_sem, opsV, undef, vsD, intV, arith, seval, Tryd.underlying22] <;> rfl) (fun hA0 => ?_) (fun hA0 => ?_)
  · repeat (first
      | (with_reducible refine vc_seq fun K hK => ?_)
      | (with_reducible refine vc_reg ?_)
      | (with_reducible refine vc_skip ?_)
      | (with_reducible refine vc_block ?_)
      | (with_reducible refine vc_scope ?_)
      | (with_reducible refine vc_label ?_)
      | (with_reducible refine vc_condT ?_ ?_; · simp only [go_sem, opsV, undef, vsD, intV, arith, seval, Tryd.underlying22] <;> rfl)
      | (with_reducible refine vc_condF ?_ ?_; · simp only [go_sem, opsV, undef, vsD, intV, arith, seval, Tryd.underlying22] <;> rfl)
      | (with_reducible refine vc_exit ?_; simp only [↓reduceIte, Nat.reduceEqDiff])
      | (with_reducible refine vc_ret ?_; simp only [retV, resL, one])
      | (with_reducible refine hK _ _ ?_; clear hK)
      | (clear hK; with_reducible refine hK _ _ ?_; clear hK)
      | (clear hK; clear hK; with_reducible refine hK _ _ ?_; clear hK)
      | (simp only [go_sem, opsV, undef, vsD, intV, arith, seval, Tryd.underlying22]))
    have : N64 xs = 0 := by rw [← hnA, List.eq_nil_of_length_eq_zero hA0]; rfl
    rw [this, Nat.zero_mul, show D64 0 = [] from digs_zero _]
    exact ⟨hE, ⟨rfl, .inl ⟨rfl, rfl⟩⟩, by simp, by simp⟩
  refine vc_skip ?_
  refine hK _ _ ?_
  clear hK K
  with_reducible refine vc_seq fun K hK => ?_
  refine vc_reg ?_
  try simp only [go_sem, opsV, undef, vsD, intV, arith, seval, Tryd.underlying22, tdiv64, tmod64]
  refine ⟨by decide, (by unfold R64; omega), by decide, ?_⟩
  refine hK _ _ ?_
  clear hK K
  with_reducible refine vc_seq fun K hK => ?_
  refine vc_reg ?_
  try simp only [go_sem, opsV, undef, vsD, intV, arith, seval, Tryd.underlying22, tdiv64, tmod64]
  refine ⟨_, ha.len, ?_⟩
  try simp only [go_sem, opsV, undef, vsD, intV, arith, seval, Tryd.underlying22, tdiv64, tmod64]
  obtain ⟨b, w3, hmk, hnew⟩ := make_any (w := w2) T64 (kl := .i64) (kc := .i64) (n := A.length + n / 64 + 1) (by omega) (by omega)
  refine ⟨(by unfold R64; omega), (by unfold R64; omega), _, w3, hmk, ?_⟩
  refine hK _ _ ?_
  clear hK K
  have hB2 : Ext w2 w3 := hnew.ext
  have own : O64 w3 w2.heap.size (.slice (some ⟨b, 0, none⟩) (A.length + n / 64 + 1) (A.length + n / 64 + 1)) (List.replicate (A.length + n / 64 + 1) 0) := own_zeros hnew (by omega)
  clear hmk hnew
  with_reducible refine vc_seq fun K hK => ?_
  with_reducible refine vc_seq fun K hK => ?_
  refine vc_reg ?_
  try simp only [go_sem, opsV, undef, vsD, intV, arith, seval, Tryd.underlying22, tdiv64, tmod64]
  refine ⟨_, ha.len, ?_⟩
  refine hK _ _ ?_
  clear hK K
  refine vc_block ?_
  refine nat_Up_l0 (so := .slice (some ⟨b, 0, none⟩) (A.length + n / 64 + 1) (A.length + n / 64 + 1)) (k := n / 64) (s := n % 64) ha (by omega) (by omega) (Nat.mod_lt _ (by decide)) (fun e w' os hn own hB g7 => ?_) _ w3 _ (by simp) ?_ own hB2 ?_ ?_ ?_ ?_ ?_ ?_
  · simp only [↓reduceIte]
    refine hK _ _ ?_
    clear hK K
    with_reducible refine vc_seq fun K hK => ?_
    with_reducible refine vc_reg ?_
    try simp only [go_sem, opsV, undef, vsD, intV, arith, seval, g7]
    refine (nat_cut own.ws).mono ?_
    rintro r w5 ⟨hE5, rfl, hr⟩
    try simp only [go_sem, opsV, undef, vsD, intV, arith, seval, g7]
    refine hK _ _ ?_
    clear hK K
    refine vc_ret ?_
    simp only [retV, resL, one, go_sem, opsV, undef, vsD, intV, arith, seval, g7]
    have o2 := (own.digs two64).up hE5
    have hd : N64 os = N64 xs * 2 ^ n := by
      rw [hn, hnA, ← Nat.mul_assoc, show (18446744073709551616 : Nat) = 2 ^ 64 from rfl, ← Nat.pow_mul, ← Nat.pow_add, Nat.mul_comm, show 64 * (n / 64) + n % 64 = n from Nat.div_add_mod n 64]
    rw [show nval 18446744073709551616 os = N64 xs * 2 ^ n from hd] at o2
    rw [hd]
    exact ⟨(hE.trans' hB).trans' hE5, o2.base hE.size⟩
  · intro m
    simp only [List.getD, List.getElem?_replicate]
    split <;> rfl
  all_goals try simp only [go_sem, opsV, undef, vsD, intV, arith, seval, Tryd.underlying22]

end Go.V
namespace Go.V
open Go Go.RowKit Go.Proofs

theorem nval_drop_mod {xs : List Nat} {i : Nat} (h : ∀ x ∈ xs, x < 18446744073709551616) : nval 18446744073709551616 (xs.drop i) % 18446744073709551616 = xs.getD i 0 := by
  by_cases hi : i < xs.length
  · rw [nval_drop hi, Nat.add_mul_mod_self_left, Nat.mod_eq_of_lt]
    simp only [List.getD, List.getElem?_eq_getElem hi, Option.getD_some]; exact h _ (List.getElem_mem hi)
  · rw [nval_drop_all (Nat.le_of_not_lt hi)]
    simp [List.getD, List.getElem?_eq_none (Nat.le_of_not_lt hi)]

theorem nat_Down_l0 {w2 : World} {so sa : Value} {A : List Nat} (ha : U64s w2.heap sa A) {N : Env → World → Prop} {X : Nat → Env → World → Prop} {R : Env → World → Prop} {k s : Nat} (hL : A.length ≤ 1099511627776) (hk : k < A.length) (hs : s < 64)
    (J : ∀ (e : Env) (w' : World) (os : List Nat), N64 os = nval 18446744073709551616 (A.drop k) / 2 ^ s → O64 w' w2.heap.size so os → Ext w2 w' → e 7 = so → X 0 e w')
    (e : Env) (w' : World) (os : List Nat) (hol : os.length = A.length - k) (hz : ∀ m, os.getD m 0 = 0)
    (own : O64 w' w2.heap.size so os) (hB : Ext w2 w') (g0 : e 0 = sa) (g5 : e 5 = .int .i64 (k : Int)) (g6 : e 6 = .int .i64 (s : Int)) (g7 : e 7 = so) (g25 : e 25 = .int .i64 ((A.length - k : Nat) : Int)) (g26 : e 26 = .int .i64 0) :
    vc Tryd.prog (nthLoop Tryd.f47 0) N X R e w' := by
  change vc _ (.loop _) _ _ _ _ _
  refine vc_loop (fun e w' => ∃ (os : List Nat) (i : Nat), i ≤ A.length - k ∧ os.length = A.length - k ∧ nval 18446744073709551616 os + 18446744073709551616 ^ i * (nval 18446744073709551616 (A.drop (i + k)) / 2 ^ s) = nval 18446744073709551616 (A.drop k) / 2 ^ s ∧ (∀ m, i ≤ m → os.getD m 0 = 0) ∧ O64 w' w2.heap.size so os ∧ Ext w2 w' ∧
      e 0 = sa ∧ e 5 = .int .i64 (k : Int) ∧ e 6 = .int .i64 (s : Int) ∧ e 7 = so ∧ e 25 = .int .i64 ((A.length - k : Nat) : Int) ∧ e 26 = .int .i64 (i : Int)) (fun e _ => A.length - k - (intOf (e 26)).toNat) ?_ ?_
  · refine ⟨os, 0, Nat.zero_le _, hol, ?_, fun m _ => hz m, own, hB, g0, g5, g6, g7, g25, g26⟩
    rw [Nat.zero_add, Nat.pow_zero, Nat.one_mul, nval_none (fun j _ => hz j), Nat.zero_add]
  · clear own hol hB hz g0 g5 g6 g7 g25 g26
    clear os e w'
    rintro e w' ⟨os, i, hi, hol, hsum, hz, own, hB, g0, g5, g6, g7, g25, g26⟩
    have hmz0 : (intOf (e 26)).toNat = i := by rw [g26]; rfl
    have hs64 : s ≤ 64 := by omega
    have hs64' : 64 - s ≤ 64 := by omega
    refine vc_seq fun K1 hK1 => ?_
    refine vc_reg ?_
    try simp only [go_sem, opsV, undef, vsD, intV, arith, seval, Tryd.underlying22, g0, g5, g6, g7, g25, g26, sub64s hs, hs64, hs64']
    refine hK1 _ _ ?_
    clear hK1
    refine vc_seq fun K1 hK1 => ?_
    refine vc_condD (by simp only [go_sem, opsV, undef, vsD, intV, arith, seval, Tryd.underlying22, g0, g5, g6, g7, g25, g26, sub64s hs, hs64, hs64'] <;> rfl) (fun ht => ?_) (fun ht => ?_)
    · refine vc_skip ?_
      refine hK1 _ _ ?_
      clear hK1
      refine vc_seq fun K1 hK1 => ?_
      refine vc_block ?_
      obtain ⟨bd, hib, hlb⟩ := (ha.up hB).get (k := .i64) (i := i + k) (by omega)
      have hx := ha.lt (by decide) (i + k)
      have ha' := ha.up hB
      refine vc_seq fun K2 hK2 => ?_
      refine vc_reg ?_
      try simp only [go_sem, opsV, undef, vsD, intV, arith, seval, Tryd.underlying22, g0, g5, g6, g7, g25, g26, sub64s hs, hs64, hs64']
      refine hK2 _ _ ?_
      clear hK2
      refine vc_seq fun K2 hK2 => ?_
      obtain ⟨ad, hix, hld, hst⟩ := own.at T64 S64 (ki := .i64) (i := i) (by omega)
      obtain ⟨w'', h1, h2, h3, h4⟩ := hst (A.getD (i + k) 0 / 2 ^ s) (div_lt64 hx)
      refine vc_reg ?_
      try simp only [go_sem, opsV, undef, vsD, intV, arith, seval, Tryd.underlying22, g0, g5, g6, g7, g25, g26, sub64s hs, hs64, hs64']
      refine ⟨(by unfold R64; omega), bd, hib, _, hlb _ (Ext.refl _), ?_⟩
      try simp only [go_sem, opsV, undef, vsD, intV, arith, seval, Tryd.underlying22, g0, g5, g6, g7, g25, g26, sub64s hs, hs64, hs64']
      refine ⟨ad, hix, w'', h1, ?_⟩
      refine hK2 _ _ ?_
      clear hK2
      have hB2 := h4 _ _ hB (Nat.le_refl _)
      have hdw := down_word (d := A.getD (i + k) 0) (R := nval 18446744073709551616 (A.drop (i + k + 1))) hs hx
      rw [nval_drop_mod ha.2, ← nval_drop (show i + k < A.length by omega)] at hdw
      rw [hdw, Nat.mul_add] at hsum
      clear hdw
      have J2 : ∀ (e : Env) (w' : World) (os' : List Nat), os'.length = A.length - k → (∀ m, i + 1 ≤ m → os'.getD m 0 = 0) → nval 18446744073709551616 os' = nval 18446744073709551616 os + 18446744073709551616 ^ i * (A.getD (i + k) 0 / 2 ^ s ||| A.getD (i + k + 1) 0 * 2 ^ (64 - s) % 18446744073709551616) →
          O64 w' w2.heap.size so os' → Ext w2 w' → e 0 = sa → e 5 = .int .i64 (k : Int) → e 6 = .int .i64 (s : Int) → e 7 = so → e 25 = .int .i64 ((A.length - k : Nat) : Int) → e 26 = .int .i64 (i : Int) → K1 e w' := by
        intro e w' os' hol' hz' hv own hB g0 g5 g6 g7 g25 g26
        refine hK1 _ _ ?_
        clear hK1
        have hmz : (intOf (e 26)).toNat = i := by rw [g26]; rfl
        refine vc_reg ?_
        try simp only [go_sem, opsV, undef, vsD, intV, arith, seval, Tryd.underlying22, g0, g5, g6, g7, g25, g26]
        refine ⟨(by unfold R64; omega), ⟨os', i + 1, by omega, hol', ?_, hz', own, hB, ?_⟩, ?_⟩
        · rw [hv, ← hsum, show i + 1 + k = i + k + 1 by omega, Nat.pow_succ, Nat.mul_assoc, Nat.add_assoc]
        · try simp only [go_sem, opsV, undef, vsD, intV, arith, seval, Tryd.underlying22, g0, g5, g6, g7, g25, g26]
        · rw [hmz0]
          simp only [intOf]; omega
      clear hK1
      refine vc_seq fun K2 hK2 => ?_
      refine vc_reg ?_
      try simp only [go_sem, opsV, undef, vsD, intV, arith, seval, Tryd.underlying22, g0, g5, g6, g7, g25, g26, sub64s hs, hs64, hs64']
      refine ⟨(by unfold R64; omega), (by unfold R64; omega), _, (ha.up hB2).len, ?_⟩
      try simp only [go_sem, opsV, undef, vsD, intV, arith, seval, Tryd.underlying22, g0, g5, g6, g7, g25, g26, sub64s hs, hs64, hs64']
      refine hK2 _ _ ?_
      clear hK2
      have hv1 := nval_set (B := 18446744073709551616) (xs := os) (i := i) (y := A.getD (i + k) 0 / 2 ^ s) (by omega)
      rw [hz i (Nat.le_refl _), Nat.mul_zero, Nat.add_zero] at hv1
      refine vc_condD (by simp only [go_sem, opsV, undef, vsD, intV, arith, seval, Tryd.underlying22, g0, g5, g6, g7, g25, g26, sub64s hs, hs64, hs64'] <;> rfl) (fun hn => ?_) (fun hn => ?_)
      · obtain ⟨cd, hic, hlc⟩ := (ha.up hB2).get (k := .i64) (i := i + k + 1) (by omega)
        obtain ⟨ad2, hix2, hld2, hst2⟩ := (h2.up (ext_drew _)).at T64 S64 (ki := .i64) (i := i) (by rw [List.length_set]; omega)
        obtain ⟨w3, h5, h6, h7, h8⟩ := hst2 (A.getD (i + k) 0 / 2 ^ s ||| A.getD (i + k + 1) 0 * 2 ^ (64 - s) % 18446744073709551616) (or_lt64 (div_lt64 hx) (mod64 _))
        rw [getD_set, if_pos ⟨rfl, by omega⟩] at hld2
        refine vc_draw [(0, 0), (1, 0), (2, 0), (3, 1), (4, 0), (5, 0), (6, 0), (7, 0), (8, 0), (9, 0), (10, 1), (11, 0), (12, 0), (13, 0), (14, 0), (15, 0), (16, 3)] (by kernel_rfl) ?_
        try simp only [go_sem, opsV, undef, vsD, intV, arith, seval, Tryd.underlying22, g0, g5, g6, g7, g25, g26, sub64s hs, hs64, hs64']
        refine ⟨ad2, hix2, _, hld2, (by unfold R64; omega), (by unfold R64; omega), cd, hic, _, hlc _ (ext_drew _), ?_⟩
        try simp only [go_sem, opsV, undef, vsD, intV, arith, seval, Tryd.underlying22, g0, g5, g6, g7, g25, g26, sub64s hs, hs64, hs64']
        refine ⟨(by unfold R64; omega), ad2, hix2, ?_⟩
        rw [or64_nat _ _ (div_lt64 hx) (mod64 _)]
        refine ⟨w3, h5, ?_⟩
        refine J2 _ _ _ (by rw [List.length_set, List.length_set]; exact hol) ?_ ?_ h6 (h8 _ _ (Bel.drew hB2) (Nat.le_refl _)) ?_ ?_ ?_ ?_ ?_ ?_
        · intro m hm
          rw [getD_set, if_neg (by omega), getD_set, if_neg (by omega)]
          exact hz m (by omega)
        · rw [List.set_set]
          have hv2 := nval_set (B := 18446744073709551616) (xs := os) (i := i) (y := A.getD (i + k) 0 / 2 ^ s ||| A.getD (i + k + 1) 0 * 2 ^ (64 - s) % 18446744073709551616) (by omega)
          rw [hz i (Nat.le_refl _), Nat.mul_zero, Nat.add_zero] at hv2
          exact hv2
        all_goals try simp only [go_sem, opsV, undef, vsD, intV, arith, seval, Tryd.underlying22, g0, g5, g6, g7, g25, g26, sub64s hs, hs64, hs64']
      · refine vc_skip ?_
        refine J2 _ _ _ (by rw [List.length_set]; exact hol) ?_ ?_ h2 hB2 ?_ ?_ ?_ ?_ ?_ ?_
        · intro m hm
          rw [getD_set, if_neg (by omega)]
          exact hz m (by omega)
        · rw [hv1, show A.getD (i + k + 1) 0 = 0 by simp [List.getD, List.getElem?_eq_none (show A.length ≤ i + k + 1 by omega)], Nat.zero_mul, Nat.zero_mod, Nat.or_zero]
        all_goals try simp only [go_sem, opsV, undef, vsD, intV, arith, seval, Tryd.underlying22, g0, g5, g6, g7, g25, g26, sub64s hs, hs64, hs64']
    · refine vc_exit ?_
      obtain rfl : i = A.length - k := by omega
      rw [nval_drop_all (by omega), Nat.zero_div, Nat.mul_zero, Nat.add_zero] at hsum
      exact J _ _ os hsum own hB (by try simp only [go_sem, opsV, undef, vsD, intV, arith, seval, Tryd.underlying22, g0, g5, g6, g7, g25, g26, sub64s hs, hs64, hs64'])

theorem drop_div {xs : List Nat} (h : ∀ x ∈ xs, x < 18446744073709551616) (k : Nat) : nval 18446744073709551616 (xs.drop k) = nval 18446744073709551616 xs / 18446744073709551616 ^ k := by
  by_cases hk : k ≤ xs.length
  · have := nval_append 18446744073709551616 (xs.take k) (xs.drop k)
    rw [List.take_append_drop, List.length_take, Nat.min_eq_left hk] at this
    have hlt := nval_lt (B := 18446744073709551616) (by decide) (xs.take k) (fun x hx => h x (List.mem_of_mem_take hx))
    rw [List.length_take, Nat.min_eq_left hk] at hlt
    rw [this, Nat.add_mul_div_left _ _ (Nat.lt_of_le_of_lt (Nat.zero_le _) hlt), Nat.div_eq_of_lt hlt, Nat.zero_add]
  · rw [nval_drop_all (by omega), Nat.div_eq_of_lt]
    exact Nat.lt_of_lt_of_le (nval_lt (by decide) xs h) (Nat.pow_le_pow_right (by decide) (by omega))

set_option maxHeartbeats 1000000 in
theorem nat_Down {w : World} {va : Value} {xs : List Nat} {n : Nat} (hx : U64s w.heap va xs) (hlx : xs.length ≤ 1099511627776) (hn : n ≤ 1099511627776) :
    FC Tryd.prog 47 #[va, .int .i64 (n : Int)] w fun r w' => Ext w w' ∧ O64 w' w.heap.size r (D64 (N64 xs / 2 ^ n)) := by
  have hda := digs_le hx.2
  refine FC.body (l := [va, .int .i64 (n : Int)]) (rs := [.tmp 4]) mixed Tryd.func47 rfl (by kernel_rfl) (by kernel_rfl) (Nat.le_of_ble_eq_true rfl) rfl ?_
  with_reducible refine vc_seq fun K hK => ?_
  with_reducible refine vc_reg ?_
  simp only [go_sem, opsV, undef, vsD, intV, arith, seval, Tryd.underlying22]
  refine hK _ _ ?_
  clear hK K
  with_reducible refine vc_seq fun K hK => ?_
  refine vc_reg ?_
  try simp only [go_sem, opsV, undef, vsD, intV, arith, seval, Tryd.underlying22]
  refine (nat_cut hx).mono ?_
  rintro ra w2 ⟨hE, hra, ha⟩
  clear hra
  try simp only [go_sem, opsV, undef, vsD, intV, arith, seval, Tryd.underlying22]
  refine hK _ _ ?_
  clear hK K
  have hnA : N64 (D64 (N64 xs)) = N64 xs := nval_digs two64 _
  generalize hA : D64 (N64 xs) = A at *
  have hdd : nval 18446744073709551616 (A.drop (n / 64)) / 2 ^ (n % 64) = N64 xs / 2 ^ n := by
    rw [drop_div ha.2, ← hnA, Nat.div_div_eq_div_mul, show (18446744073709551616 : Nat) = 2 ^ 64 from rfl, ← Nat.pow_mul, ← Nat.pow_add, show 64 * (n / 64) + n % 64 = n from Nat.div_add_mod n 64]
  with_reducible refine vc_seq fun K hK => ?_
  refine vc_reg ?_
  try simp only [go_sem, opsV, undef, vsD, intV, arith, seval, Tryd.underlying22, tdiv64, tmod64]
  refine ⟨by decide, (by unfold R64; omega), by decide, ?_⟩
  refine hK _ _ ?_
  clear hK K
  with_reducible refine vc_seq fun K hK => ?_
  with_reducible refine vc_seq fun K hK => ?_
  refine vc_reg ?_
  try simp only [go_sem, opsV, undef, vsD, intV, arith, seval, Tryd.underlying22, tdiv64, tmod64]
  refine ⟨_, ha.len, ?_⟩
  try simp only [go_sem, opsV, undef, vsD, intV, arith, seval, Tryd.underlying22, tdiv64, tmod64]
  refine hK _ _ ?_
  clear hK K
  refine vc_condD (by simp only [go_sem, opsV, undef, vsD, intV, arith, seval, Tryd.underlying22, tdiv64, tmod64] <;> rfl) (fun hA0 => ?_) (fun hA0 => ?_)
  · repeat (first
      | (with_reducible refine vc_seq fun K hK => ?_)
      | (with_reducible refine vc_reg ?_)
      | (with_reducible refine vc_skip ?_)
      | (with_reducible refine vc_block ?_)
      | (with_reducible refine vc_scope ?_)
      | (with_reducible refine vc_label ?_)
      | (with_reducible refine vc_condT ?_ ?_; · simp only [go_sem, opsV, undef, vsD, intV, arith, seval, Tryd.underlying22, tdiv64, tmod64] <;> rfl)
      | (with_reducible refine vc_condF ?_ ?_; · simp only [go_sem, opsV, undef, vsD, intV, arith, seval, Tryd.underlying22, tdiv64, tmod64] <;> rfl)
      | (with_reducible refine vc_exit ?_; simp only [↓reduceIte, Nat.reduceEqDiff])
      | (with_reducible refine vc_ret ?_; simp only [retV, resL, one])
      | (with_reducible refine hK _ _ ?_; clear hK)
      | (clear hK; with_reducible refine hK _ _ ?_; clear hK)
      | (clear hK; clear hK; with_reducible refine hK _ _ ?_; clear hK)
      | (simp only [go_sem, opsV, undef, vsD, intV, arith, seval, Tryd.underlying22, tdiv64, tmod64]))
    have : N64 xs / 2 ^ n = 0 := by rw [← hdd, nval_drop_all hA0, Nat.zero_div]
    rw [this, show D64 0 = [] from digs_zero _]
    exact ⟨hE, ⟨rfl, .inl ⟨rfl, rfl⟩⟩, by simp, by simp⟩
  refine vc_skip ?_
  refine hK _ _ ?_
  clear hK K
  have hsubk : ((A.length : Nat) : Int) - ((n / 64 : Nat) : Int) = ((A.length - n / 64 : Nat) : Int) := by omega
  with_reducible refine vc_seq fun K hK => ?_
  refine vc_reg ?_
  try simp only [go_sem, opsV, undef, vsD, intV, arith, seval, Tryd.underlying22, hsubk]
  refine ⟨_, ha.len, ?_⟩
  try simp only [go_sem, opsV, undef, vsD, intV, arith, seval, Tryd.underlying22, hsubk]
  obtain ⟨b, w3, hmk, hnew⟩ := make_any (w := w2) T64 (kl := .i64) (kc := .i64) (n := A.length - n / 64) (by omega) (by omega)
  refine ⟨(by unfold R64; omega), _, w3, hmk, ?_⟩
  refine hK _ _ ?_
  clear hK K
  have hB2 : Ext w2 w3 := hnew.ext
  have own : O64 w3 w2.heap.size (.slice (some ⟨b, 0, none⟩) (A.length - n / 64) (A.length - n / 64)) (List.replicate (A.length - n / 64) 0) := own_zeros hnew (by omega)
  clear hmk hnew
  with_reducible refine vc_seq fun K hK => ?_
  with_reducible refine vc_seq fun K hK => ?_
  refine vc_reg ?_
  try simp only [go_sem, opsV, undef, vsD, intV, arith, seval, Tryd.underlying22, hsubk]
  refine ⟨_, LenIs.lit, ?_⟩
  refine hK _ _ ?_
  clear hK K
  refine vc_block ?_
  refine nat_Down_l0 (so := .slice (some ⟨b, 0, none⟩) (A.length - n / 64) (A.length - n / 64)) (k := n / 64) (s := n % 64) ha (by omega) (by omega) (Nat.mod_lt _ (by decide)) (fun e w' os hn own hB g7 => ?_) _ w3 _ (by simp) ?_ own hB2 ?_ ?_ ?_ ?_ ?_ ?_
  · simp only [↓reduceIte]
    refine hK _ _ ?_
    clear hK K
    with_reducible refine vc_seq fun K hK => ?_
    with_reducible refine vc_reg ?_
    try simp only [go_sem, opsV, undef, vsD, intV, arith, seval, g7]
    refine (nat_cut own.ws).mono ?_
    rintro r w5 ⟨hE5, rfl, hr⟩
    try simp only [go_sem, opsV, undef, vsD, intV, arith, seval, g7]
    refine hK _ _ ?_
    clear hK K
    refine vc_ret ?_
    simp only [retV, resL, one, go_sem, opsV, undef, vsD, intV, arith, seval, g7]
    have o2 := (own.digs two64).up hE5
    have hd : N64 os = N64 xs / 2 ^ n := by rw [hn, hdd]
    rw [show nval 18446744073709551616 os = N64 xs / 2 ^ n from hd] at o2
    rw [hd]
    exact ⟨(hE.trans' hB).trans' hE5, o2.base hE.size⟩
  · intro m
    simp only [List.getD, List.getElem?_replicate]
    split <;> rfl
  all_goals try simp only [go_sem, opsV, undef, vsD, intV, arith, seval, Tryd.underlying22]

end Go.V
namespace Go.V
open Go Go.RowKit Go.Proofs

/-- A number by 2^n, n clipped. -/
def shiftN (a : Nat) (n : Int) : Nat := if n < 0 then a / 2 ^ (min (-n).toNat 262144) else a * 2 ^ (min n.toNat 262144)


theorem nat_Shift {w : World} {va : Value} {xs : List Nat} {n : Int} (hx : U64s w.heap va xs) (hlx : xs.length ≤ 1099511627776) :
    FC Tryd.prog 31 #[va, .int .i64 n] w fun r w' => Ext w w' ∧ O64 w' w.heap.size r (D64 (shiftN (N64 xs) n)) := by
  refine FC.body (l := [va, .int .i64 n]) (rs := [.tmp 4]) mixed Tryd.func31 rfl (by kernel_rfl) (by kernel_rfl) (Nat.le_of_ble_eq_true rfl) rfl ?_
  with_reducible refine vc_seq fun K hK => ?_
  with_reducible refine vc_reg ?_
  simp only [go_sem, opsV, undef, vsD, intV, arith, seval, Tryd.underlying22]
  refine hK _ _ ?_
  clear hK K
  with_reducible refine vc_seq fun K hK => ?_
  with_reducible refine vc_seq fun K hK => ?_
  refine vc_reg ?_
  try simp only [go_sem, opsV, undef, vsD, intV, arith, seval, Tryd.underlying22]
  refine hK _ _ ?_
  clear hK K
  refine vc_condD (by simp only [go_sem, opsV, undef, vsD, intV, arith, seval, Tryd.underlying22] <;> rfl) (fun ht => ?_) (fun ht => ?_)
  · with_reducible refine vc_seq fun K hK => ?_
    refine vc_reg ?_
    try simp only [go_sem, opsV, undef, vsD, intV, arith, seval, Tryd.underlying22]
    obtain ⟨m, hm⟩ : ∃ m : Nat, m = min (-n).toNat 262144 := ⟨_, rfl⟩
    have e : 0 - (if n < -262144 then (-262144 : Int) else n) = (m : Int) := by split <;> omega
    rw [e]
    refine ⟨(by unfold R64; omega), ?_⟩
    refine (nat_Down (n := m) hx hlx (by omega)).mono ?_
    rintro r w1 ⟨hE, h⟩
    try simp only [go_sem, opsV, undef, vsD, intV, arith, seval, Tryd.underlying22]
    refine hK _ _ ?_
    clear hK K
    refine vc_ret ?_
    simp only [retV, resL, one, go_sem, opsV, undef, vsD, intV, arith, seval, Tryd.underlying22]
    unfold shiftN
    rw [if_pos ht, ← hm]
    exact ⟨hE, h⟩
  · refine vc_skip ?_
    refine hK _ _ ?_
    clear hK K
    with_reducible refine vc_seq fun K hK => ?_
    refine vc_reg ?_
    try simp only [go_sem, opsV, undef, vsD, intV, arith, seval, Tryd.underlying22]
    obtain ⟨m, hm⟩ : ∃ m : Nat, m = min n.toNat 262144 := ⟨_, rfl⟩
    have e : (if (262144 : Int) < n then (262144 : Int) else n) = (m : Int) := by split <;> omega
    rw [e]
    refine (nat_Up (n := m) hx hlx (by omega)).mono ?_
    rintro r w1 ⟨hE, h⟩
    try simp only [go_sem, opsV, undef, vsD, intV, arith, seval, Tryd.underlying22]
    refine hK _ _ ?_
    clear hK K
    refine vc_ret ?_
    simp only [retV, resL, one, go_sem, opsV, undef, vsD, intV, arith, seval, Tryd.underlying22]
    unfold shiftN
    rw [if_neg ht, ← hm]
    exact ⟨hE, h⟩

theorem nat_byWord_l0 {w2 : World} {so sa : Value} {A : List Nat} (ha : U64s w2.heap sa A) {N : Env → World → Prop} {X : Nat → Env → World → Prop} {R : Env → World → Prop} {d : Nat} (hL : A.length ≤ 1099511627776) (hd0 : 0 < d) (hd : d < 18446744073709551616)
    (J : ∀ (e : Env) (w' : World) (os : List Nat) (r : Nat), r < d → N64 A = d * N64 os + r → O64 w' w2.heap.size so os → Ext w2 w' → e 6 = so → e 7 = .int .u64 (r : Int) → X 0 e w')
    (e : Env) (w' : World) (os : List Nat) (hol : os.length = A.length)
    (own : O64 w' w2.heap.size so os) (hB : Ext w2 w') (g0 : e 0 = sa) (g1 : e 1 = .int .u64 (d : Int)) (g6 : e 6 = so) (g7 : e 7 = .int .u64 0) (g8 : e 8 = .int .i64 ((A.length : Int) - 1)) :
    vc Tryd.prog (nthLoop Tryd.f43 0) N X R e w' := by
  change vc _ (.loop _) _ _ _ _ _
  refine vc_loop (fun e w' => ∃ (os : List Nat) (r k : Nat), k ≤ A.length ∧ os.length = A.length ∧ r < d ∧ nval 18446744073709551616 (A.drop k) = d * nval 18446744073709551616 (os.drop k) + r ∧ O64 w' w2.heap.size so os ∧ Ext w2 w' ∧
      e 0 = sa ∧ e 1 = .int .u64 (d : Int) ∧ e 6 = so ∧ e 7 = .int .u64 (r : Int) ∧ e 8 = .int .i64 ((k : Int) - 1)) (fun e _ => (intOf (e 8) + 1).toNat) ?_ ?_
  · refine ⟨os, 0, A.length, Nat.le_refl _, hol, hd0, ?_, own, hB, g0, g1, g6, g7, g8⟩
    rw [nval_drop_all (Nat.le_refl _), nval_drop_all (by omega)]; rfl
  · clear own hol hB g0 g1 g6 g7 g8
    clear os e w'
    rintro e w' ⟨os, r, k, hk, hol, hr, hsum, own, hB, g0, g1, g6, g7, g8⟩
    have hmz : (intOf (e 8) + 1).toNat = k := by rw [g8]; simp only [intOf]; omega
    refine vc_seq fun K1 hK1 => ?_
    refine vc_seq fun K2 hK2 => ?_
    rcases Nat.eq_zero_or_pos k with rfl | hp
    · have hneg : ¬ ((0 : Int) ≤ ((0 : Nat) : Int) - 1) := by omega
      refine vc_reg ?_
      try simp only [go_sem, opsV, undef, vsD, intV, arith, seval, Tryd.underlying22, g0, g1, g6, g7, g8, hneg]
      refine hK2 _ _ ?_
      refine vc_condF (by simp only [go_sem, opsV, undef, vsD, intV, arith, seval, Tryd.underlying22, g0, g1, g6, g7, g8, hneg] <;> rfl) ?_
      refine vc_exit ?_
      rw [List.drop_zero, List.drop_zero] at hsum
      exact J _ _ os r hr hsum own hB (by try simp only [go_sem, opsV, undef, vsD, intV, arith, seval, Tryd.underlying22, g0, g1, g6, g7, g8, hneg]) (by try simp only [go_sem, opsV, undef, vsD, intV, arith, seval, Tryd.underlying22, g0, g1, g6, g7, g8, hneg])
    · obtain ⟨m, rfl⟩ : ∃ m, k = m + 1 := ⟨k - 1, by omega⟩
      rw [cast_succ_sub] at g8
      obtain ⟨bd, hib, hlb⟩ := (ha.up hB).get (k := .i64) (i := m) (by omega)
      have hx := ha.lt (by decide) m
      refine vc_reg ?_
      try simp only [go_sem, opsV, undef, vsD, intV, arith, seval, Tryd.underlying22, g0, g1, g6, g7, g8]
      refine hK2 _ _ ?_
      clear hK2
      refine vc_condT (by simp only [go_sem, opsV, undef, vsD, intV, arith, seval, Tryd.underlying22, g0, g1, g6, g7, g8] <;> rfl) ?_
      refine vc_skip ?_
      refine hK1 _ _ ?_
      clear hK1
      refine vc_seq fun K1 hK1 => ?_
      refine vc_block ?_
      refine vc_reg ?_
      try simp only [go_sem, opsV, undef, vsD, intV, arith, seval, Tryd.underlying22, g0, g1, g6, g7, g8]
      refine ⟨bd, hib, _, hlb _ (Ext.refl _), ?_⟩
      refine div64 r (A.getD m 0) d hr hx hd fun w3 hE3 => ?_
      have hq : (r * 18446744073709551616 + A.getD m 0) / d < 18446744073709551616 := by
        rw [Nat.div_lt_iff_lt_mul hd0]
        have : (r + 1) * 18446744073709551616 ≤ d * 18446744073709551616 := Nat.mul_le_mul_right _ hr
        rw [Nat.add_mul] at this
        rw [Nat.mul_comm _ d]; omega
      have hr' : (r * 18446744073709551616 + A.getD m 0) % d < d := Nat.mod_lt _ hd0
      have hqr := Nat.div_add_mod (r * 18446744073709551616 + A.getD m 0) d
      generalize (r * 18446744073709551616 + A.getD m 0) / d = q at *
      generalize (r * 18446744073709551616 + A.getD m 0) % d = r' at *
      obtain ⟨ad, hix, hld, hst⟩ := (own.up hE3).at T64 S64 (ki := .i64) (i := m) (by omega)
      obtain ⟨w'', h1, h2, h3, h4⟩ := hst q hq
      try simp only [go_sem, opsV, undef, vsD, intV, arith, seval, Tryd.underlying22, g0, g1, g6, g7, g8]
      refine ⟨ad, hix, w'', h1, ?_⟩
      refine hK1 _ _ ?_
      refine vc_reg ?_
      try simp only [go_sem, opsV, undef, vsD, intV, arith, seval, Tryd.underlying22, g0, g1, g6, g7, g8]
      refine ⟨(by unfold R64; omega), ⟨os.set m q, r', m, by omega, by rw [List.length_set]; exact hol, hr', ?_, h2, h4 _ _ (hB.trans' hE3) (Nat.le_refl _), ?_⟩, ?_⟩
      · rw [nval_drop (xs := A) (i := m) (by omega), nval_drop (xs := os.set m q) (i := m) (by rw [List.length_set]; omega), hsum, getD_set, if_pos ⟨rfl, by omega⟩, List.drop_set_of_lt (by omega)]
        have e1 : 18446744073709551616 * (d * nval 18446744073709551616 (os.drop (m + 1)) + r) = d * (18446744073709551616 * nval 18446744073709551616 (os.drop (m + 1))) + r * 18446744073709551616 := by
          rw [Nat.mul_add, Nat.mul_left_comm, Nat.mul_comm r]
        rw [e1, Nat.mul_add]
        omega
      · try simp only [go_sem, opsV, undef, vsD, intV, arith, seval, Tryd.underlying22, g0, g1, g6, g7, g8]
      · (try rw [hmz])
        simp only [intOf]; omega

set_option maxHeartbeats 1000000 in
theorem nat_byWord {w : World} {va : Value} {A : List Nat} {d : Nat} (ha : U64s w.heap va A) (hlx : A.length ≤ 1099511627776) (hd0 : 0 < d) (hd : d < 18446744073709551616) :
    FC Tryd.prog 43 #[va, .int .u64 (d : Int)] w fun r w' => Ext w w' ∧ ∃ q, r = .tuple [q, .int .u64 ((N64 A % d : Nat) : Int)].toArray ∧ O64 w' w.heap.size q (D64 (N64 A / d)) := by
  refine FC.body (l := [va, .int .u64 (d : Int)]) (rs := [.tmp 4, .tmp 5]) mixed Tryd.func43 rfl (by kernel_rfl) (by kernel_rfl) (Nat.le_of_ble_eq_true rfl) rfl ?_
  with_reducible refine vc_seq fun K hK => ?_
  with_reducible refine vc_reg ?_
  simp only [go_sem, opsV, undef, vsD, intV, arith, seval, Tryd.underlying22]
  refine hK _ _ ?_
  clear hK K
  with_reducible refine vc_seq fun K hK => ?_
  refine vc_reg ?_
  try simp only [go_sem, opsV, undef, vsD, intV, arith, seval, Tryd.underlying22]
  refine ⟨_, ha.len, ?_⟩
  obtain ⟨b, w3, hmk, hnew⟩ := make_any (w := w) T64 (kl := .i64) (kc := .i64) (n := A.length) (by omega) (by omega)
  refine ⟨_, w3, hmk, ?_⟩
  refine hK _ _ ?_
  clear hK K
  have hB2 : Ext w w3 := hnew.ext
  have own : O64 w3 w.heap.size (.slice (some ⟨b, 0, none⟩) (A.length) (A.length)) (List.replicate (A.length) 0) := own_zeros hnew (by omega)
  have ha' := ha.up hB2
  clear hmk hnew
  with_reducible refine vc_seq fun K hK => ?_
  with_reducible refine vc_seq fun K hK => ?_
  refine vc_reg ?_
  try simp only [go_sem, opsV, undef, vsD, intV, arith, seval, Tryd.underlying22]
  refine ⟨_, ha'.len, (by unfold R64; omega), ?_⟩
  refine hK _ _ ?_
  clear hK K
  refine vc_block ?_
  refine nat_byWord_l0 (so := .slice (some ⟨b, 0, none⟩) (A.length) (A.length)) ha (by omega) hd0 hd (fun e w' os r hr hn own hB g6 g7 => ?_) _ w3 _ (by simp) own hB2 ?_ ?_ ?_ ?_ ?_
  · simp only [↓reduceIte]
    refine hK _ _ ?_
    clear hK K
    with_reducible refine vc_seq fun K hK => ?_
    with_reducible refine vc_reg ?_
    try simp only [go_sem, opsV, undef, vsD, intV, arith, seval, g6, g7]
    refine (nat_cut own.ws).mono ?_
    rintro v w5 ⟨hE5, rfl, hv⟩
    try simp only [go_sem, opsV, undef, vsD, intV, arith, seval, g6, g7]
    refine hK _ _ ?_
    clear hK K
    refine vc_ret ?_
    simp only [retV, resL, one, go_sem, opsV, undef, vsD, intV, arith, seval, g6, g7]
    have o2 := (own.digs two64).up hE5
    have hd : N64 os = N64 A / d := by
      rw [hn, Nat.add_comm, Nat.add_mul_div_left _ _ hd0, Nat.div_eq_of_lt hr, Nat.zero_add]
    have hm : N64 A % d = r := by rw [hn, Nat.mul_add_mod, Nat.mod_eq_of_lt hr]
    rw [show nval 18446744073709551616 os = N64 A / d from hd] at o2
    rw [hd, hm]
    exact ⟨hB.trans' hE5, _, rfl, o2⟩
  all_goals try simp only [go_sem, opsV, undef, vsD, intV, arith, seval, Tryd.underlying22]

/-- What byWords does, for the walk of Div. -/
def ByWords : Prop := ∀ (w : World) (va vb : Value) (A B : List Nat), U64s w.heap va A → U64s w.heap vb B → A.length ≤ 1099511627776 → NoTail A → NoTail B → 2 ≤ B.length → N64 B ≤ N64 A →
  FC Tryd.prog 44 #[va, vb] w fun r w' => Ext w w' ∧ ∃ q t, r = .tuple [q, t].toArray ∧ O64 w' w.heap.size q (D64 (N64 A / N64 B)) ∧ O64 w' w.heap.size t (D64 (N64 A % N64 B))

set_option maxHeartbeats 1000000 in
theorem nat_DivH {w : World} {va vb : Value} {xs ys : List Nat} (hx : U64s w.heap va xs) (hy : U64s w.heap vb ys) (hlx : xs.length ≤ 1099511627776) (hly : ys.length ≤ 1099511627776) (hW : (D64 (N64 ys)).length ≤ 1 ∨ ByWords) :
    FC Tryd.prog 27 #[va, vb] w fun r w' => Ext w w' ∧ ((N64 ys = 0 ∧ r = .tuple [.slice none 0 0, .slice none 0 0, .bool false].toArray) ∨
      (0 < N64 ys ∧ ∃ q t, r = .tuple [q, t, .bool true].toArray ∧ O64 w' w.heap.size q (D64 (N64 xs / N64 ys)) ∧ O64 w' w.heap.size t (D64 (N64 xs % N64 ys)))) := by
  have hda := digs_le hx.2
  have hdb := digs_le hy.2
  refine FC.body (l := [va, vb]) (rs := [.tmp 4, .tmp 5, .tmp 6]) mixed Tryd.func27 rfl (by kernel_rfl) (by kernel_rfl) (Nat.le_of_ble_eq_true rfl) rfl ?_
  with_reducible refine vc_seq fun K hK => ?_
  with_reducible refine vc_reg ?_
  simp only [go_sem, opsV, undef, vsD, intV, arith, seval, Tryd.underlying22]
  refine hK _ _ ?_
  clear hK K
  with_reducible refine vc_seq fun K hK => ?_
  refine vc_reg ?_
  try simp only [go_sem, opsV, undef, vsD, intV, arith, seval, Tryd.underlying22]
  refine (nat_cut hx).mono ?_
  rintro ra w1 ⟨hE1, hra, ha⟩
  try simp only [go_sem, opsV, undef, vsD, intV, arith, seval, Tryd.underlying22]
  refine (nat_cut (hy.up hE1)).mono ?_
  rintro rb w2 ⟨hE2, hrb, hb⟩
  have ha := ha.up hE2
  have hE := hE1.trans' hE2
  clear hra hrb
  try simp only [go_sem, opsV, undef, vsD, intV, arith, seval, Tryd.underlying22]
  refine hK _ _ ?_
  clear hK K
  have hnA : N64 (D64 (N64 xs)) = N64 xs := nval_digs two64 _
  have hnB : N64 (D64 (N64 ys)) = N64 ys := nval_digs two64 _
  have htA : NoTail (D64 (N64 xs)) := digs_noTail two64 _
  have htB : NoTail (D64 (N64 ys)) := digs_noTail two64 _
  generalize hA : D64 (N64 xs) = A at *
  generalize hBB : D64 (N64 ys) = B at *
  with_reducible refine vc_seq fun K hK => ?_
  refine vc_block ?_
  with_reducible refine vc_seq fun K1 hK1 => ?_
  refine vc_reg ?_
  try simp only [go_sem, opsV, undef, vsD, intV, arith, seval, Tryd.underlying22]
  refine ⟨_, hb.len, ?_⟩
  try simp only [go_sem, opsV, undef, vsD, intV, arith, seval, Tryd.underlying22]
  refine hK1 _ _ ?_
  clear hK1
  refine vc_condD (by simp only [go_sem, opsV, undef, vsD, intV, arith, seval, Tryd.underlying22] <;> rfl) (fun hB0 => ?_) (fun hB0 => ?_)
  · clear hK
    have h0 : N64 ys = 0 := by rw [← hnB, List.eq_nil_of_length_eq_zero hB0]; rfl
    with_reducible refine vc_seq fun K1 hK1 => ?_
    refine vc_reg ?_
    try simp only [go_sem, opsV, undef, vsD, intV, arith, seval, Tryd.underlying22]
    refine hK1 _ _ ?_
    refine vc_ret ?_
    simp only [retV, resL, one, go_sem, opsV, undef, vsD, intV, arith, seval, Tryd.underlying22]
    first | exact ⟨hE, .inl ⟨h0, rfl⟩⟩ | exact ⟨hE, .inl h0⟩
  have hpos : 0 < N64 ys := by
    rcases Nat.eq_zero_or_pos (N64 ys) with h | h
    · have : B = [] := by rw [← hBB, h]; exact digs_zero _
      rw [this] at hB0; simp at hB0
    · exact h
  with_reducible refine vc_seq fun K1 hK1 => ?_
  refine vc_reg ?_
  try simp only [go_sem, opsV, undef, vsD, intV, arith, seval, Tryd.underlying22]
  refine (nat_Cmp ha hb (by omega) (by omega)).mono ?_
  rw [hnA, hnB]
  rintro rc w3 ⟨hE3, rfl⟩
  have ha := ha.up hE3
  have hb := hb.up hE3
  have hE := hE.trans' hE3
  clear hE3
  try simp only [go_sem, opsV, undef, vsD, intV, arith, seval, Tryd.underlying22]
  refine hK1 _ _ ?_
  clear hK1
  refine vc_condD (by simp only [go_sem, opsV, undef, vsD, intV, arith, seval, Tryd.underlying22] <;> rfl) (fun ht => ?_) (fun ht => ?_)
  · clear hK
    have hlt : N64 xs < N64 ys := by
      unfold cmpI at ht
      split at ht
      · omega
      · split at ht <;> omega
    with_reducible refine vc_seq fun K1 hK1 => ?_
    refine vc_reg ?_
    try simp only [go_sem, opsV, undef, vsD, intV, arith, seval, Tryd.underlying22]
    refine (nat_TrimO ha (by omega)).mono ?_
    rw [hnA, hA]
    rintro rt w4 ⟨hE4, ht4⟩
    try simp only [go_sem, opsV, undef, vsD, intV, arith, seval, Tryd.underlying22]
    refine hK1 _ _ ?_
    refine vc_ret ?_
    simp only [retV, resL, one, go_sem, opsV, undef, vsD, intV, arith, seval, Tryd.underlying22]
    refine ⟨hE.trans' hE4, .inr ⟨hpos, _, _, rfl, ?_, ?_⟩⟩
    · rw [Nat.div_eq_of_lt hlt, show D64 0 = [] from digs_zero _]
      exact ⟨⟨rfl, .inl ⟨rfl, rfl⟩⟩, by simp, by simp⟩
    · rw [Nat.mod_eq_of_lt hlt, hA]
      exact ht4.base hE.size
  have hge : N64 ys ≤ N64 xs := by
    unfold cmpI at ht
    split at ht
    · omega
    · split at ht <;> omega
  with_reducible refine vc_seq fun K1 hK1 => ?_
  refine vc_reg ?_
  try simp only [go_sem, opsV, undef, vsD, intV, arith, seval, Tryd.underlying22]
  refine ⟨_, hb.len, ?_⟩
  try simp only [go_sem, opsV, undef, vsD, intV, arith, seval, Tryd.underlying22]
  refine hK1 _ _ ?_
  clear hK1
  refine vc_condD (by simp only [go_sem, opsV, undef, vsD, intV, arith, seval, Tryd.underlying22] <;> rfl) (fun hB1 => ?_) (fun hB1 => ?_)
  · clear hK
    obtain ⟨d, rfl⟩ := List.length_eq_one_iff.1 (show B.length = 1 by omega)
    have hd : d = N64 ys := by rw [← hnB]; simp [nval]
    obtain ⟨bd, hib, hlb⟩ := hb.get (k := .i64) (i := 0) (by simp)
    have hd2 : d < 18446744073709551616 := hb.2 d (by simp)
    with_reducible refine vc_seq fun K1 hK1 => ?_
    refine vc_reg ?_
    try simp only [go_sem, opsV, undef, vsD, intV, arith, seval, Tryd.underlying22]
    refine ⟨bd, hib, _, hlb _ (Ext.refl _), ?_⟩
    refine (nat_byWord (d := d) ha (by omega) (by omega) hd2).mono ?_
    rw [hnA, hd]
    rintro r w4 ⟨hE4, q, rfl, hq⟩
    try simp only [go_sem, opsV, undef, vsD, intV, arith, seval, Tryd.underlying22]
    refine hK1 _ _ ?_
    clear hK1
    with_reducible refine vc_seq fun K1 hK1 => ?_
    refine vc_reg ?_
    try simp only [go_sem, opsV, undef, vsD, intV, arith, seval, Tryd.underlying22]
    obtain ⟨b2, w5, hs, hn⟩ := slice_lit (w := w4) T64 [.int .u64 ((N64 xs % N64 ys : Nat) : Int)] (by simp [Value.cells]) (by simp)
    refine ⟨_, w5, hs, ?_⟩
    have hml : N64 xs % N64 ys < 18446744073709551616 := by rw [← hd]; exact Nat.lt_trans (Nat.mod_lt _ (by omega)) hd2
    have own : O64 w5 w4.heap.size (.slice (some ⟨b2, 0, none⟩) 1 1) [N64 xs % N64 ys] := by
      have := own_row (w := w5) hn.row (n := 1) (cap := 1) (by simp [Value.cells]) (Nat.le_refl _) (by omega)
      refine ⟨own_base (by simpa [wc, Value.cells] using this) hn.fresh, by simpa using hml, by simp⟩
    have hE5 := hn.ext
    refine (nat_cut own.ws).mono ?_
    rintro v w6 ⟨hE6, rfl, hv⟩
    try simp only [go_sem, opsV, undef, vsD, intV, arith, seval, Tryd.underlying22]
    refine hK1 _ _ ?_
    refine vc_ret ?_
    simp only [retV, resL, one, go_sem, opsV, undef, vsD, intV, arith, seval, Tryd.underlying22]
    have o2 := (own.digs two64).up hE6
    rw [show nval 18446744073709551616 [N64 xs % N64 ys] = N64 xs % N64 ys by simp [nval]] at o2
    rw [show N64 [N64 xs % N64 ys] = N64 xs % N64 ys by simp [nval]]
    exact ⟨((hE.trans' hE4).trans' hE5).trans' hE6, .inr ⟨hpos, _, _, rfl, ((hq.up hE5).up hE6).base hE.size, o2.base (hE.trans' hE4).size⟩⟩
  · refine vc_skip ?_
    refine hK _ _ ?_
    clear hK K
    have hW : ByWords := by
      rcases hW with h | h
      · omega
      · exact h
    with_reducible refine vc_seq fun K hK => ?_
    refine vc_reg ?_
    try simp only [go_sem, opsV, undef, vsD, intV, arith, seval, Tryd.underlying22]
    refine (hW w3 ra rb A B ha hb (by omega) htA htB (by omega) (by rw [hnA, hnB]; exact hge)).mono ?_
    rw [hnA, hnB]
    rintro r w4 ⟨hE4, q, t, rfl, hq, ht⟩
    try simp only [go_sem, opsV, undef, vsD, intV, arith, seval, Tryd.underlying22]
    refine hK _ _ ?_
    clear hK K
    with_reducible refine vc_seq fun K hK => ?_
    refine vc_reg ?_
    try simp only [go_sem, opsV, undef, vsD, intV, arith, seval, Tryd.underlying22]
    refine hK _ _ ?_
    clear hK K
    refine vc_ret ?_
    simp only [retV, resL, one, go_sem, opsV, undef, vsD, intV, arith, seval, Tryd.underlying22]
    exact ⟨hE.trans' hE4, .inr ⟨hpos, _, _, rfl, hq.base hE.size, ht.base hE.size⟩⟩

end Go.V
namespace Go.V
open Go Go.RowKit Go.Proofs

theorem OW.append {P : Program} {t el bytes : Nat} {z : Value} (T : SlT P t el 1 bytes z) (hz : z.cells.size = 1) {k : IntKind} {B : Nat} {w : World} {base : Nat} {v src : Value} {xs ys : List Nat} (h : OW el k B w base v xs) (hbase : base ≤ w.heap.size) (hs : Ws k B w.heap src ys)
    (hb : (xs.length + ys.length) * bytes ≤ 140737488355328) (hm : xs.length + ys.length ≤ 140737488355328) {t' : TypeId} (ht' : t' = t) {ty : TypeId} :
    ∃ v' w', Does P (Builtin.append_ #[t, t'] ty #[v, src]) w v' w' ∧ OW el k B w' base v' (xs ++ ys) ∧ ∀ w0, Bel base w0 w → Bel base w0 w' := by
  obtain ⟨v', w', h1, h2, h3⟩ := append_own (P := P) T hz (by decide) h.own hbase hs.1 (fun j _ => rfl) hb hm ht' (ty := ty)
  refine ⟨v', w', h1, ⟨?_, ?_, by simpa using hm⟩, fun w0 hw => Bel.grown hw (run_drawn _ _ h1) h3 hbase ?_⟩
  · rw [wc_range] at h2
    rw [List.length_append]
    simpa [wc] using h2
  · intro x hx
    rcases List.mem_append.1 hx with h' | h'
    · exact h.lt x h'
    · exact hs.2 x h'
  · intro g hg
    rcases h.own.2 with ⟨rfl, _⟩ | ⟨g', cap, cur, rfl, hb, _⟩
    · simp [Value.ownBlock] at hg
    · simp only [Value.ownBlock, Option.some.injEq] at hg
      omega

theorem T32 : SlT Tryd.prog 25 51 1 4 (.int .u32 0) := ⟨Tryd.underlying25, by kernel_rfl⟩
theorem S32 : scalB Tryd.prog 51 = true := by kernel_rfl
abbrev U32s (H : Array Obj) (v : Value) (xs : List Nat) : Prop := Ws .u32 4294967296 H v xs
abbrev N32 (xs : List Nat) : Nat := nval 4294967296 xs
abbrev D32 (n : Nat) : List Nat := digs 4294967296 n
abbrev O32 (w : World) (base : Nat) (v : Value) (xs : List Nat) : Prop := OW 51 .u32 4294967296 w base v xs
theorem two32 : 2 ≤ 4294967296 := by decide
theorem Ws.get32 {w : World} {v : Value} {xs : List Nat} (h : U32s w.heap v xs) {k : IntKind} {i : Nat} (h1 : i < xs.length) :
    ∃ ad, IxA Tryd.prog 25 v (.int k (i : Int)) ad ∧ ∀ w', Ext w w' → Ld Tryd.prog w' 51 (.pointer (some ad)) (.int .u32 ((xs.getD i 0 : Nat) : Int)) := by
  obtain ⟨ad, h2, h3⟩ := h.1.get T32 S32 (k := k) (i := i) (by omega) (by omega)
  exact ⟨ad, h2, h3⟩

set_option maxHeartbeats 400000 in
theorem r_trim {w : World} {v : Value} {xs : List Nat} (h : U32s w.heap v xs) : FC Tryd.prog 33 #[v] w fun r w' => Ext w w' ∧ U32s w'.heap r (D32 (N32 xs)) := by
  have hb := h.1.1
  refine FC.body (l := [v]) (rs := [.tmp 2]) mixed Tryd.func33 rfl (by kernel_rfl) (by kernel_rfl) (Nat.le_of_ble_eq_true rfl) rfl ?_
  with_reducible refine vc_seq fun K hK => ?_
  with_reducible refine vc_reg ?_
  simp only [go_sem, opsV, undef, vsD, intV, arith, seval, Tryd.underlying25]
  refine hK _ _ ?_
  clear hK K
  refine vc_seq fun K hK => ?_
  refine vc_reg ?_
  try simp only [go_sem, opsV, undef, vsD, intV, arith, seval, Tryd.underlying25]
  refine ⟨_, h.len, ?_⟩
  refine hK _ _ ?_
  clear hK K
  refine vc_seq fun K hK => ?_
  have J : ∀ (e : Env) (w' : World) (k : Nat), k ≤ xs.length → e 0 = v → e 3 = .int .i64 (k : Int) → Ext w w' → (∀ j, k ≤ j → xs.getD j 0 = 0) → (k ≠ 0 → xs.getD (k - 1) 0 ≠ 0) → K e w' := by
    intro e w' k hk h0 h3 hE hz hnz
    refine hK _ _ ?_
    clear hK K
    with_reducible refine vc_seq fun K hK => ?_
    with_reducible refine vc_reg ?_
    simp only [go_sem, opsV, undef, vsD, intV, arith, seval, Tryd.underlying25]
    simp only [h0, h3]
    have ht : xs.take k = D32 (N32 xs) := take_digs two32 h.2 hk hz hnz
    have hl : (D32 (N32 xs)).length = k := by rw [← ht]; simp; omega
    refine ⟨_, sl_cutC T32 h.1 hk, ?_⟩
    refine hK _ _ ?_
    clear hK K
    refine vc_ret ?_
    simp only [retV, resL, one, go_sem, opsV, undef, vsD, intV, arith, seval, Tryd.underlying25]
    refine ⟨hE, ?_⟩
    rw [← ht]
    exact (h.takeC hk).up hE
  refine vc_block ?_
  refine vc_loop (fun e w' => ∃ k : Nat, k ≤ xs.length ∧ e 0 = v ∧ e 3 = .int .i64 (k : Int) ∧ Ext w w' ∧ ∀ j, k ≤ j → xs.getD j 0 = 0) (fun e _ => (intOf (e 3)).toNat) ?_ ?_
  · refine ⟨xs.length, Nat.le_refl _, ?_, ?_, Ext.refl _, fun j hj => ?_⟩
    · simp only [go_sem, opsV, undef, vsD, intV, arith, seval, Tryd.underlying25]
    · simp only [go_sem, opsV, undef, vsD, intV, arith, seval, Tryd.underlying25]
    · simp [List.getD, List.getElem?_eq_none hj]
  · rintro e w' ⟨k, hk, h0, h3, hE, hz⟩
    have hmz : (intOf (e 3)).toNat = k := by rw [h3]; rfl
    refine vc_seq fun K1 hK1 => ?_
    refine vc_seq fun K2 hK2 => ?_
    rcases Nat.eq_zero_or_pos k with rfl | hp
    · refine vc_reg ?_
      simp only [go_sem, opsV, undef, vsD, intV, arith, seval, Tryd.underlying25, h0, h3, Nat.lt_irrefl]
      refine hK2 _ _ ?_
      refine vc_condF (by simp only [go_sem, opsV, undef, vsD, intV, arith, seval, Tryd.underlying25] <;> rfl) ?_
      refine vc_exit ?_
      simp only [↓reduceIte]
      exact J _ _ 0 (Nat.zero_le _) (by simp only [go_sem, opsV, undef, vsD, intV, arith, seval, Tryd.underlying25, h0]) (by simp only [go_sem, opsV, undef, vsD, intV, arith, seval, Tryd.underlying25, h3] <;> rfl) hE hz (fun h => absurd rfl h)
    · obtain ⟨m, rfl⟩ : ∃ m, k = m + 1 := ⟨k - 1, by omega⟩
      obtain ⟨ad, ha, hld⟩ := h.get32 (k := .i64) (i := m) (by omega)
      refine vc_reg ?_
      simp only [go_sem, opsV, undef, vsD, intV, arith, seval, Tryd.underlying25, h0, h3, hp]
      refine ⟨(by unfold R64; omega), ad, ha, _, hld _ hE, ?_⟩
      simp only [go_sem, opsV, undef, vsD, intV, arith, seval, Tryd.underlying25]
      refine hK2 _ _ ?_
      clear hK2
      refine vc_condD (by simp only [go_sem, opsV, undef, vsD, intV, arith, seval, Tryd.underlying25] <;> rfl) (fun hx => ?_) (fun hx => ?_)
      · refine vc_skip ?_
        refine hK1 _ _ ?_
        refine vc_block ?_
        refine vc_reg ?_
        simp only [go_sem, opsV, undef, vsD, intV, arith, seval, Tryd.underlying25, h0, h3]
        refine ⟨(by unfold R64; omega), ⟨m, by omega, rfl, hE, fun j hj => ?_⟩, by simp only [intOf]; omega⟩
        rcases Nat.lt_or_ge m j with hj' | hj'
        · exact hz j hj'
        · obtain rfl : j = m := by omega
          exact hx
      · refine vc_exit ?_
        simp only [↓reduceIte]
        exact J _ _ (m + 1) hk (by simp only [go_sem, opsV, undef, vsD, intV, arith, seval, Tryd.underlying25, h0]) (by simp only [go_sem, opsV, undef, vsD, intV, arith, seval, Tryd.underlying25, h3]) hE hz (fun _ => by simpa using hx)

/-- Each word as two digits. -/
def parts : List Nat → List Nat
  | [] => []
  | x :: r => x % 4294967296 :: x / 4294967296 :: parts r
theorem parts_len : ∀ xs : List Nat, (parts xs).length = 2 * xs.length
  | [] => rfl
  | x :: r => by simp [parts, parts_len r]; omega
theorem parts_val : ∀ xs : List Nat, nval 4294967296 (parts xs) = nval 18446744073709551616 xs
  | [] => rfl
  | x :: r => by simp only [parts, nval, parts_val r]; omega
theorem parts_append : ∀ xs ys : List Nat, parts (xs ++ ys) = parts xs ++ parts ys
  | [], ys => rfl
  | x :: r, ys => by simp [parts, parts_append r ys]
theorem take_one {xs : List Nat} {k : Nat} (h : k < xs.length) : xs.take (k + 1) = xs.take k ++ [xs.getD k 0] := by
  rw [List.take_add_one]
  simp [List.getD, h]

set_option maxHeartbeats 400000 in
theorem r_Part {w : World} {v : Value} {xs : List Nat} (h : U64s w.heap v xs) (hl : xs.length ≤ 1099511627776) : FC Tryd.prog 12 #[v] w fun r w' => Ext w w' ∧ U32s w'.heap r (D32 (N64 xs)) := by
  refine FC.body (l := [v]) (rs := [.tmp 2]) mixed Tryd.func12 rfl (by kernel_rfl) (by kernel_rfl) (Nat.le_of_ble_eq_true rfl) rfl ?_
  with_reducible refine vc_seq fun K hK => ?_
  with_reducible refine vc_reg ?_
  simp only [go_sem, opsV, undef, vsD, intV, arith, seval, Tryd.underlying25]
  refine hK _ _ ?_
  clear hK K
  with_reducible refine vc_seq fun K hK => ?_
  with_reducible refine vc_reg ?_
  simp only [go_sem, opsV, undef, vsD, intV, arith, seval, Tryd.underlying25]
  refine hK _ _ ?_
  clear hK K
  with_reducible refine vc_seq fun K hK => ?_
  with_reducible refine vc_seq fun K hK => ?_
  with_reducible refine vc_reg ?_
  simp only [go_sem, opsV, undef, vsD, intV, arith, seval, Tryd.underlying25]
  refine hK _ _ ?_
  clear hK K
  have J : ∀ (e : Env) (w' : World) (so : Value), e 3 = so → O32 w' w.heap.size so (parts xs) → Ext w w' → K e w' := by
    intro e w' so g3 own hE
    refine hK _ _ ?_
    clear hK K
    with_reducible refine vc_seq fun K hK => ?_
    refine vc_reg ?_
    try simp only [go_sem, opsV, undef, vsD, intV, arith, seval, Tryd.underlying25, g3]
    refine (r_trim own.ws).mono ?_
    rintro r w2 ⟨hE2, hr⟩
    try simp only [go_sem, opsV, undef, vsD, intV, arith, seval, Tryd.underlying25, g3]
    refine hK _ _ ?_
    clear hK K
    refine vc_ret ?_
    simp only [retV, resL, one, go_sem, opsV, undef, vsD, intV, arith, seval, Tryd.underlying25, g3]
    rw [show N32 (parts xs) = N64 xs from parts_val xs] at hr
    exact ⟨hE.trans' hE2, hr⟩
  refine vc_block ?_
  refine vc_loop (fun e w' => ∃ (so : Value) (k : Nat), k ≤ xs.length ∧ O32 w' w.heap.size so (parts (xs.take k)) ∧ Ext w w' ∧ e 0 = v ∧ e 3 = so ∧ e 4 = .int .i64 (k : Int)) (fun e _ => xs.length - (intOf (e 4)).toNat) ?_ ?_
  · refine ⟨.slice none 0 0, 0, Nat.zero_le _, ⟨⟨rfl, .inl ⟨rfl, rfl⟩⟩, by simp [parts], by simp [parts]⟩, Ext.refl _, ?_⟩
    try simp only [go_sem, opsV, undef, vsD, intV, arith, seval, true_and]
    try rfl
  · rintro e w' ⟨so, k, hk, own, hE, g0, g3, g4⟩
    have hmz : (intOf (e 4)).toNat = k := by rw [g4]; rfl
    refine vc_seq fun K1 hK1 => ?_
    refine vc_seq fun K2 hK2 => ?_
    refine vc_reg ?_
    try simp only [go_sem, opsV, undef, vsD, intV, arith, seval, Tryd.underlying25, Tryd.underlying22, g0, g3, g4]
    refine ⟨_, (h.up hE).len, ?_⟩
    try simp only [go_sem, opsV, undef, vsD, intV, arith, seval, Tryd.underlying25, Tryd.underlying22, g0, g3, g4]
    refine hK2 _ _ ?_
    clear hK2
    refine vc_condD (by simp only [go_sem, opsV, undef, vsD, intV, arith, seval, Tryd.underlying25, Tryd.underlying22, g0, g3, g4] <;> rfl) (fun ht => ?_) (fun ht => ?_)
    · refine vc_skip ?_
      refine hK1 _ _ ?_
      clear hK1
      refine vc_seq fun K1 hK1 => ?_
      refine vc_block ?_
      obtain ⟨ad, hix, hld⟩ := (h.up hE).get (k := .i64) (i := k) ht
      have hx := h.lt (by decide) k
      have hx1 : xs.getD k 0 % 4294967296 < 4294967296 := Nat.mod_lt _ (by decide)
      have hx2 : xs.getD k 0 / 4294967296 < 4294967296 := by omega
      refine vc_draw [(0, 0), (1, 0), (2, 0), (3, 0), (4, 1), (5, 0), (6, 0), (7, 0), (8, 0), (9, 0), (10, 1), (11, 0), (12, 0), (13, 3), (14, 3), (15, 0)] (by kernel_rfl) ?_
      try simp only [go_sem, opsV, undef, vsD, intV, arith, seval, Tryd.underlying25, Tryd.underlying22, g0, g3, g4, convV_int Tryd.underlying51, Tryd.underlying27, Option.isSome_some, low32 _ hx, Nat.mod_mod, Nat.mod_eq_of_lt hx2, pconv_int Tryd.underlying51]
      refine ⟨ad, hix, _, hld _ (ext_drew _), ?_⟩
      try simp only [go_sem, opsV, undef, vsD, intV, arith, seval, Tryd.underlying25, Tryd.underlying22, g0, g3, g4, convV_int Tryd.underlying51, Tryd.underlying27, Option.isSome_some, low32 _ hx, Nat.mod_mod, Nat.mod_eq_of_lt hx2, pconv_int Tryd.underlying51]
      refine ⟨ad, hix, _, hld _ (ext_drew _), ?_⟩
      try simp only [go_sem, opsV, undef, vsD, intV, arith, seval, Tryd.underlying25, Tryd.underlying22, g0, g3, g4, convV_int Tryd.underlying51, Tryd.underlying27, Option.isSome_some, low32 _ hx, Nat.mod_mod, Nat.mod_eq_of_lt hx2, pconv_int Tryd.underlying51]
      obtain ⟨b2, w2, hs, hn⟩ := slice_lit (w := w'.drew) T32 [.int .u32 ((xs.getD k 0 % 4294967296 : Nat) : Int), .int .u32 ((xs.getD k 0 / 4294967296 : Nat) : Int)] (by simp [Value.cells]) (by simp)
      refine ⟨_, w2, hs, ?_⟩
      have hr : U32s w2.heap (.slice (some ⟨b2, 0, none⟩) 2 2) [xs.getD k 0 % 4294967296, xs.getD k 0 / 4294967296] := by
        have := own_row (w := w2) hn.row (n := 2) (cap := 2) (by simp [Value.cells]) (Nat.le_refl _) (by omega)
        exact own_ws (by simpa [wc, Value.cells] using this) (by intro x hx; simp only [List.mem_cons, List.not_mem_nil, or_false] at hx; rcases hx with rfl | rfl <;> assumption) (by simp)
      have own2 := (own.up (ext_drew _)).up hn.ext
      have hE2 := hE.drew'.trans' hn.ext
      have hpl := parts_len (xs.take k)
      rw [List.length_take, Nat.min_eq_left hk] at hpl
      obtain ⟨v', w3, hap, own3, hE3⟩ := own2.append (P := Tryd.prog) T32 rfl hE2.size hr (by simp [hpl]; omega) (by simp [hpl]; omega) (t' := 25) rfl (ty := 25)
      refine ⟨v', w3, hap, ?_⟩
      try simp only [go_sem, opsV, undef, vsD, intV, arith, seval, Tryd.underlying25, Tryd.underlying22, g0, g3, g4, convV_int Tryd.underlying51, Tryd.underlying27, Option.isSome_some, low32 _ hx, Nat.mod_mod, Nat.mod_eq_of_lt hx2, pconv_int Tryd.underlying51]
      refine hK1 _ _ ?_
      refine vc_reg ?_
      try simp only [go_sem, opsV, undef, vsD, intV, arith, seval, Tryd.underlying25, Tryd.underlying22, g0, g3, g4, convV_int Tryd.underlying51, Tryd.underlying27, Option.isSome_some, low32 _ hx, Nat.mod_mod, Nat.mod_eq_of_lt hx2, pconv_int Tryd.underlying51]
      refine ⟨(by unfold R64; omega), ⟨v', k + 1, by omega, ?_, hE3 _ hE2, ?_⟩, ?_⟩
      · rw [take_one ht, parts_append]
        exact own3
      · try simp only [go_sem, opsV, undef, vsD, intV, arith, seval, Tryd.underlying25, Tryd.underlying22, g0, g3, g4, convV_int Tryd.underlying51, Tryd.underlying27, Option.isSome_some, low32 _ hx, Nat.mod_mod, Nat.mod_eq_of_lt hx2, pconv_int Tryd.underlying51]
      · (try rw [hmz])
        simp only [intOf]; omega
    · refine vc_exit ?_
      simp only [↓reduceIte]
      obtain rfl : k = xs.length := by omega
      rw [List.take_length] at own
      exact J _ _ so (by try simp only [go_sem, opsV, undef, vsD, intV, arith, seval, Tryd.underlying25, g0, g3, g4]) own hE

theorem shl32 (a : Nat) : (a : Int) * 4294967296 = ((a * 4294967296 : Nat) : Int) := by omega
theorem or_shift32 {a b : Nat} (ha : a < 4294967296) (hb : b < 4294967296) : a ||| b * 4294967296 % 18446744073709551616 = a + 4294967296 * b := by
  rw [Nat.mod_eq_of_lt (by omega), Nat.mul_comm, Nat.or_comm]
  have := Nat.two_pow_add_eq_or_of_lt (i := 32) ha b
  rw [show (2 : Nat) ^ 32 = 4294967296 from rfl] at this
  omega

/-- Words of a number whose digits there are: as many as the number has. -/
theorem words_digs {n : Nat} {os : List Nat} (hv : nval 18446744073709551616 os = n) (hlt : ∀ x ∈ os, x < 18446744073709551616) (hl : os.length = ((D32 n).length + 1) / 2) : os = D64 n := by
  subst hv
  symm
  apply digs_nval two64 _ hlt
  rw [← digs_len_eq two64 hlt]
  have h1 := digs_len_le two64 (nval_lt (by decide) os hlt)
  refine Nat.le_antisymm h1 ?_
  by_cases h0 : nval 18446744073709551616 os = 0
  · rw [h0, show D32 0 = [] from digs_zero _] at hl
    simp at hl; simp [hl]
  · have h2 := pow_len_le two32 h0
    have h3 := lt_pow_len two64 (nval 18446744073709551616 os)
    have h4 : (18446744073709551616 : Nat) ^ (os.length - 1) ≤ 4294967296 ^ ((digs 4294967296 (nval 18446744073709551616 os)).length - 1) := by
      rw [show (18446744073709551616 : Nat) = 4294967296 ^ 2 from rfl, ← Nat.pow_mul]
      apply Nat.pow_le_pow_right (by decide)
      show 2 * (os.length - 1) ≤ (D32 (nval 18446744073709551616 os)).length - 1
      omega
    have h5 : os.length - 1 < (digs 18446744073709551616 (nval 18446744073709551616 os)).length :=
      (Nat.pow_lt_pow_iff_right (by decide : 1 < 18446744073709551616)).1 (Nat.lt_of_le_of_lt (Nat.le_trans h4 h2) h3)
    omega

set_option maxHeartbeats 400000 in
theorem r_Words {w : World} {v : Value} {n : Nat} (h : U32s w.heap v (D32 n)) (hl : (D32 n).length ≤ 1099511627776) : FC Tryd.prog 16 #[v] w fun r w' => Ext w w' ∧ U64s w'.heap r (D64 n) := by
  have hn : N32 (D32 n) = n := nval_digs two32 n
  have hW : ∀ os : List Nat, nval 18446744073709551616 os = n → (∀ x ∈ os, x < 18446744073709551616) → os.length = ((D32 n).length + 1) / 2 → os = D64 n := fun os a b c => words_digs a b c
  generalize D32 n = xs at *
  refine FC.body (l := [v]) (rs := [.tmp 2]) mixed Tryd.func16 rfl (by kernel_rfl) (by kernel_rfl) (Nat.le_of_ble_eq_true rfl) rfl ?_
  with_reducible refine vc_seq fun K hK => ?_
  with_reducible refine vc_reg ?_
  simp only [go_sem, opsV, undef, vsD, intV, arith, seval, Tryd.underlying25]
  refine hK _ _ ?_
  clear hK K
  with_reducible refine vc_seq fun K hK => ?_
  with_reducible refine vc_reg ?_
  simp only [go_sem, opsV, undef, vsD, intV, arith, seval, Tryd.underlying25]
  refine hK _ _ ?_
  clear hK K
  with_reducible refine vc_seq fun K hK => ?_
  with_reducible refine vc_seq fun K hK => ?_
  with_reducible refine vc_reg ?_
  simp only [go_sem, opsV, undef, vsD, intV, arith, seval, Tryd.underlying25]
  refine hK _ _ ?_
  clear hK K
  have J : ∀ (e : Env) (w' : World) (so : Value) (os : List Nat), e 3 = so → O64 w' w.heap.size so os → Ext w w' → nval 18446744073709551616 os = n → os.length = (xs.length + 1) / 2 → K e w' := by
    intro e w' so os g3 own hE h1 h2
    refine hK _ _ ?_
    clear hK K
    with_reducible refine vc_seq fun K hK => ?_
    refine vc_reg ?_
    try simp only [go_sem, opsV, undef, vsD, intV, arith, seval, g3]
    refine hK _ _ ?_
    clear hK K
    refine vc_ret ?_
    simp only [retV, resL, one, go_sem, opsV, undef, vsD, intV, arith, seval, g3]
    have := own.ws
    rw [hW os h1 own.lt h2] at this
    exact ⟨hE, this⟩
  refine vc_block ?_
  refine vc_loop (fun e w' => ∃ (so : Value) (os : List Nat) (k : Nat), 2 * k ≤ xs.length + 1 ∧ O64 w' w.heap.size so os ∧ os.length = k ∧ nval 18446744073709551616 os = nval 4294967296 (xs.take (2 * k)) ∧ Ext w w' ∧ e 0 = v ∧ e 3 = so ∧ e 4 = .int .i64 ((2 * k : Nat) : Int)) (fun e _ => xs.length + 2 - (intOf (e 4)).toNat) ?_ ?_
  · refine ⟨.slice none 0 0, [], 0, by omega, ⟨⟨rfl, .inl ⟨rfl, rfl⟩⟩, by simp, by simp⟩, rfl, rfl, Ext.refl _, ?_⟩
    try simp only [go_sem, opsV, undef, vsD, intV, arith, seval, true_and]
    try rfl
  · rintro e w' ⟨so, os, k, hk, own, hol, hv, hE, g0, g3, g4⟩
    have hmz : (intOf (e 4)).toNat = 2 * k := by rw [g4]; rfl
    refine vc_seq fun K1 hK1 => ?_
    refine vc_seq fun K2 hK2 => ?_
    refine vc_reg ?_
    try simp only [go_sem, opsV, undef, vsD, intV, arith, seval, Tryd.underlying25, Tryd.underlying22, g0, g3, g4]
    refine ⟨_, (h.up hE).len, ?_⟩
    try simp only [go_sem, opsV, undef, vsD, intV, arith, seval, Tryd.underlying25, Tryd.underlying22, g0, g3, g4]
    refine hK2 _ _ ?_
    clear hK2
    refine vc_condD (by simp only [go_sem, opsV, undef, vsD, intV, arith, seval, Tryd.underlying25, Tryd.underlying22, g0, g3, g4] <;> rfl) (fun ht => ?_) (fun ht => ?_)
    · refine vc_skip ?_
      refine hK1 _ _ ?_
      clear hK1
      refine vc_seq fun K1 hK1 => ?_
      refine vc_block ?_
      obtain ⟨ad, hix, hld⟩ := (h.up hE).get32 (k := .i64) (i := 2 * k) ht
      have hx := h.lt (by decide) (2 * k)
      have hx' : xs.getD (2 * k) 0 < 18446744073709551616 := Nat.lt_trans hx (by decide)
      have hy := h.lt (by decide) (2 * k + 1)
      have hy' : xs.getD (2 * k + 1) 0 < 18446744073709551616 := Nat.lt_trans hy (by decide)
      refine vc_seq fun K2 hK2 => ?_
      refine vc_reg ?_
      try simp only [go_sem, opsV, undef, vsD, intV, arith, seval, Tryd.underlying25, Tryd.underlying22, g0, g3, g4, convV_int Tryd.underlying27, Tryd.underlying51, Option.isSome_some, Nat.mod_eq_of_lt hx', Nat.mod_eq_of_lt hy', pconv_int Tryd.underlying27]
      refine ⟨ad, hix, _, hld _ (Ext.refl _), ?_⟩
      try simp only [go_sem, opsV, undef, vsD, intV, arith, seval, Tryd.underlying25, Tryd.underlying22, g0, g3, g4, convV_int Tryd.underlying27, Tryd.underlying51, Option.isSome_some, Nat.mod_eq_of_lt hx', Nat.mod_eq_of_lt hy', pconv_int Tryd.underlying27]
      refine hK2 _ _ ?_
      clear hK2
      refine vc_seq fun K2 hK2 => ?_
      have J2 : ∀ (e : Env) (x : Nat), x = xs.getD (2 * k) 0 + 4294967296 * xs.getD (2 * k + 1) 0 → e 0 = v → e 3 = so → e 4 = .int .i64 ((2 * k : Nat) : Int) → e 5 = .int .u64 (x : Int) → K2 e w' := by
        intro e x hxe g0 g3 g4 g5
        have hmz2 : (intOf (e 4)).toNat = 2 * k := by rw [g4]; rfl
        refine hK2 _ _ ?_
        clear hK2
        refine vc_reg ?_
        try simp only [go_sem, opsV, undef, vsD, intV, arith, seval, Tryd.underlying22, g0, g3, g4, g5]
        obtain ⟨b2, w2, hs, hn2⟩ := slice_lit (w := w') T64 [.int .u64 (x : Int)] (by simp [Value.cells]) (by simp)
        refine ⟨_, w2, hs, ?_⟩
        have hr : U64s w2.heap (.slice (some ⟨b2, 0, none⟩) 1 1) [x] := by
          have := own_row (w := w2) hn2.row (n := 1) (cap := 1) (by simp [Value.cells]) (Nat.le_refl _) (by omega)
          exact own_ws (by simpa [wc, Value.cells] using this) (by intro y hy; simp only [List.mem_singleton] at hy; omega) (by simp)
        have hE2 := hE.trans' hn2.ext
        obtain ⟨v', w3, hap, own3, hE3⟩ := (own.up hn2.ext).append (P := Tryd.prog) T64 rfl hE2.size hr (by simp [hol]; omega) (by simp [hol]; omega) (t' := 22) rfl (ty := 22)
        refine ⟨v', w3, hap, ?_⟩
        try simp only [go_sem, opsV, undef, vsD, intV, arith, seval, Tryd.underlying22, g0, g3, g4, g5]
        refine hK1 _ _ ?_
        refine vc_reg ?_
        try simp only [go_sem, opsV, undef, vsD, intV, arith, seval, Tryd.underlying22, g0, g3, g4, g5]
        refine ⟨(by unfold R64; omega), ⟨v', os ++ [x], k + 1, by omega, own3, by simp [hol], ?_, hE3 _ hE2, ?_⟩, ?_⟩
        · rw [nval_append, hv, hol, show (18446744073709551616 : Nat) = 4294967296 ^ 2 from rfl, ← Nat.pow_mul, hxe]
          rw [show 2 * (k + 1) = 2 * k + 1 + 1 by omega, List.take_add_one, take_one ht, nval_append, nval_append]
          have hpl : (xs.take (2 * k)).length = 2 * k := by rw [List.length_take]; omega
          by_cases h2 : 2 * k + 1 < xs.length
          · simp only [List.getElem?_eq_getElem h2, List.getD, Option.getD_some, Option.toList_some, nval, List.length_append, hpl, List.length_singleton, Nat.mul_zero, Nat.add_zero]
            rw [Nat.mul_add, Nat.pow_succ, Nat.mul_assoc, Nat.add_assoc]
          · simp only [List.getElem?_eq_none (Nat.le_of_not_lt h2), List.getD, Option.getD_none, Option.toList_none, nval, hpl, Nat.mul_zero, Nat.add_zero]
        · first | exact ⟨trivial, rfl⟩ | exact ⟨rfl, rfl⟩ | rfl
        · rw [hmz]
          simp only [intOf]; omega
      clear hK1
      refine vc_seq fun K3 hK3 => ?_
      refine vc_reg ?_
      try simp only [go_sem, opsV, undef, vsD, intV, arith, seval, Tryd.underlying25, Tryd.underlying22, g0, g3, g4, convV_int Tryd.underlying27, Tryd.underlying51, Option.isSome_some, Nat.mod_eq_of_lt hx', Nat.mod_eq_of_lt hy', pconv_int Tryd.underlying27, shl32]
      refine ⟨(by unfold R64; omega), _, (h.up hE).len, ?_⟩
      try simp only [go_sem, opsV, undef, vsD, intV, arith, seval, Tryd.underlying25, Tryd.underlying22, g0, g3, g4, convV_int Tryd.underlying27, Tryd.underlying51, Option.isSome_some, Nat.mod_eq_of_lt hx', Nat.mod_eq_of_lt hy', pconv_int Tryd.underlying27, shl32]
      refine hK3 _ _ ?_
      clear hK3
      refine vc_condD (by simp only [go_sem, opsV, undef, vsD, intV, arith, seval, Tryd.underlying25, Tryd.underlying22, g0, g3, g4, convV_int Tryd.underlying27, Tryd.underlying51, Option.isSome_some, Nat.mod_eq_of_lt hx', Nat.mod_eq_of_lt hy', pconv_int Tryd.underlying27, shl32] <;> rfl) (fun h2 => ?_) (fun h2 => ?_)
      · obtain ⟨bd, hib, hlb⟩ := (h.up hE).get32 (k := .i64) (i := 2 * k + 1) h2
        refine vc_reg ?_
        try simp only [go_sem, opsV, undef, vsD, intV, arith, seval, Tryd.underlying25, Tryd.underlying22, g0, g3, g4, convV_int Tryd.underlying27, Tryd.underlying51, Option.isSome_some, Nat.mod_eq_of_lt hx', Nat.mod_eq_of_lt hy', pconv_int Tryd.underlying27, shl32]
        refine ⟨(by unfold R64; omega), bd, hib, _, hlb _ (Ext.refl _), ?_⟩
        try simp only [go_sem, opsV, undef, vsD, intV, arith, seval, Tryd.underlying25, Tryd.underlying22, g0, g3, g4, convV_int Tryd.underlying27, Tryd.underlying51, Option.isSome_some, Nat.mod_eq_of_lt hx', Nat.mod_eq_of_lt hy', pconv_int Tryd.underlying27, shl32]
        rw [or64_nat _ _ hx' (mod64 _), or_shift32 hx hy]
        refine J2 _ _ rfl ?_ ?_ ?_ ?_
        all_goals try simp only [go_sem, opsV, undef, vsD, intV, arith, seval, Tryd.underlying25, Tryd.underlying22, g0, g3, g4, convV_int Tryd.underlying27, Tryd.underlying51, Option.isSome_some, Nat.mod_eq_of_lt hx', Nat.mod_eq_of_lt hy', pconv_int Tryd.underlying27, shl32]
      · refine vc_skip ?_
        refine J2 _ (xs.getD (2 * k) 0) ?_ ?_ ?_ ?_ ?_
        · simp [List.getD, List.getElem?_eq_none (Nat.le_of_not_lt h2)]
        all_goals try simp only [go_sem, opsV, undef, vsD, intV, arith, seval, Tryd.underlying25, Tryd.underlying22, g0, g3, g4, convV_int Tryd.underlying27, Tryd.underlying51, Option.isSome_some, Nat.mod_eq_of_lt hx', Nat.mod_eq_of_lt hy', pconv_int Tryd.underlying27, shl32]
    · refine vc_exit ?_
      simp only [↓reduceIte]
      rw [List.take_of_length_le (by omega)] at hv
      exact J _ _ so os (by try simp only [go_sem, opsV, undef, vsD, intV, arith, seval, Tryd.underlying25, g0, g3, g4]) own hE (hv.trans hn) (by omega)

end Go.V
namespace Go.V
open Go Go.RowKit Go.Proofs

theorem bitLen_half {x : Nat} (h : x ≠ 0) : bitLen x = bitLen (x / 2) + 1 := by
  obtain ⟨a1, a2⟩ := bitLen_spec (x / 2)
  apply bitLen_unique
  · rw [Nat.pow_succ]; omega
  · intro _
    rw [Nat.add_sub_cancel]
    by_cases h2 : x / 2 = 0
    · rw [h2, bitLen_zero]; omega
    · have := a2 h2
      have hp := bitLen_pos h2
      rw [show bitLen (x / 2) = bitLen (x / 2) - 1 + 1 by omega, Nat.pow_succ]
      omega
theorem bits_digs {n m x : Nat} (hm : (D32 n).length = m + 1) (hx : x = (D32 n).getD m 0) : bitLen n = 32 * m + bitLen x := by
  have hlast : (D32 n).getD m 0 ≠ 0 := by
    refine digs_noTail two32 n _ ?_
    rw [List.getLast?_eq_getElem?, hm]
    simp [List.getD, hm]
  have e := nval_last (B := 4294967296) (xs := D32 n) (by intro h0; rw [h0] at hm; simp at hm)
  rw [nval_digs two32, hm, Nat.add_sub_cancel] at e
  have hlow := nval_lt (B := 4294967296) (by decide) ((D32 n).take m) (fun x hx => digs_lt two32 n x (List.mem_of_mem_take hx))
  rw [List.length_take, hm, Nat.min_eq_left (by omega), show (4294967296 : Nat) = 2 ^ 32 from rfl, ← Nat.pow_mul] at hlow
  have hb := bitLen_top (b := 32) (m := m) hlast hlow
  rw [show (2 : Nat) ^ (32 * m) = 4294967296 ^ m by rw [Nat.pow_mul]] at hb
  rw [show nval (2 ^ 32) (List.take m (D32 n)) + 4294967296 ^ m * (D32 n).getD m 0 = n from e.symm] at hb
  rw [hb, hx]
theorem and1 {x : Nat} (h : x < 4294967296) : bitsV .and .u32 (x : Int) 1 = ((x % 2 : Nat) : Int) := by
  have := and32_nat x 1 h (by decide)
  rw [show ((1 : Nat) : Int) = 1 from rfl] at this
  rw [this, Nat.and_one_is_mod]
theorem tz_even {x : Nat} (h0 : x ≠ 0) (h : x % 2 = 0) : tz x = 1 + tz (x / 2) := by
  have := tz_double (n := x / 2) (by omega)
  rwa [show 2 * (x / 2) = x by omega] at this

theorem r_Bits {w : World} {v : Value} {n : Nat} (h : U32s w.heap v (D32 n)) (hl : (D32 n).length ≤ 1099511627776) : FC Tryd.prog 18 #[v] w fun r w' => Ext w w' ∧ r = .int .i64 ((bitLen n : Nat) : Int) := by
  have hb := @bits_digs n
  have h0 : (D32 n).length = 0 → n = 0 := fun h => (digs_eq_nil two32).1 (List.eq_nil_of_length_eq_zero h)
  generalize D32 n = xs at *
  refine FC.body (l := [v]) (rs := [.tmp 2]) mixed Tryd.func18 rfl (by kernel_rfl) (by kernel_rfl) (Nat.le_of_ble_eq_true rfl) rfl ?_
  with_reducible refine vc_seq fun K hK => ?_
  with_reducible refine vc_reg ?_
  simp only [go_sem, opsV, undef, vsD, intV, arith, seval, Tryd.underlying25]
  refine hK _ _ ?_
  clear hK K
  with_reducible refine vc_seq fun K hK => ?_
  with_reducible refine vc_seq fun K hK => ?_
  refine vc_reg ?_
  try simp only [go_sem, opsV, undef, vsD, intV, arith, seval, Tryd.underlying25]
  refine ⟨_, h.len, ?_⟩
  try simp only [go_sem, opsV, undef, vsD, intV, arith, seval, Tryd.underlying25]
  refine hK _ _ ?_
  clear hK K
  refine vc_condD (by simp only [go_sem, opsV, undef, vsD, intV, arith, seval, Tryd.underlying25] <;> rfl) (fun ht => ?_) (fun ht => ?_)
  · repeat (first
      | (with_reducible refine vc_seq fun K hK => ?_)
      | (with_reducible refine vc_reg ?_)
      | (with_reducible refine vc_skip ?_)
      | (with_reducible refine vc_block ?_)
      | (with_reducible refine vc_scope ?_)
      | (with_reducible refine vc_label ?_)
      | (with_reducible refine vc_condT ?_ ?_; · simp only [go_sem, opsV, undef, vsD, intV, arith, seval, Tryd.underlying25] <;> rfl)
      | (with_reducible refine vc_condF ?_ ?_; · simp only [go_sem, opsV, undef, vsD, intV, arith, seval, Tryd.underlying25] <;> rfl)
      | (with_reducible refine vc_exit ?_; simp only [↓reduceIte, Nat.reduceEqDiff])
      | (with_reducible refine vc_ret ?_; simp only [retV, resL, one])
      | (with_reducible refine hK _ _ ?_; clear hK)
      | (clear hK; with_reducible refine hK _ _ ?_; clear hK)
      | (clear hK; clear hK; with_reducible refine hK _ _ ?_; clear hK)
      | (simp only [go_sem, opsV, undef, vsD, intV, arith, seval, Tryd.underlying25]))
    rw [h0 ht, bitLen_zero]
    first | exact ⟨Ext.refl _, rfl⟩ | exact Ext.refl _
  obtain ⟨m, hm⟩ : ∃ m, xs.length = m + 1 := ⟨xs.length - 1, by omega⟩
  have hb := hb hm rfl
  obtain ⟨ad, hix, hld⟩ := h.get32 (k := .i64) (i := m) (by omega)
  have hx := h.lt (by decide) m
  have hbl := bitLen_le (n := xs.getD m 0) (k := 32) hx
  generalize xs.getD m 0 = x0 at *
  refine vc_skip ?_
  refine hK _ _ ?_
  clear hK K
  with_reducible refine vc_seq fun K hK => ?_
  refine vc_reg ?_
  try simp only [go_sem, opsV, undef, vsD, intV, arith, seval, Tryd.underlying25]
  refine ⟨_, h.len.cast hm, ?_⟩
  try simp only [go_sem, opsV, undef, vsD, intV, arith, seval, Tryd.underlying25]
  refine ⟨(by unfold R64; omega), ?_⟩
  have e32 : (32 : Int) * (m : Int) = ((32 * m : Nat) : Int) := by omega
  rw [e32]
  refine ⟨(by unfold R64; omega), ?_⟩
  refine hK _ _ ?_
  clear hK K
  with_reducible refine vc_seq fun K hK => ?_
  with_reducible refine vc_seq fun K hK => ?_
  refine vc_reg ?_
  try simp only [go_sem, opsV, undef, vsD, intV, arith, seval, Tryd.underlying25]
  refine ⟨_, h.len.cast hm, ?_⟩
  try simp only [go_sem, opsV, undef, vsD, intV, arith, seval, Tryd.underlying25]
  refine ⟨(by unfold R64; omega), ad, hix, _, hld _ (Ext.refl _), ?_⟩
  try simp only [go_sem, opsV, undef, vsD, intV, arith, seval, Tryd.underlying25]
  refine hK _ _ ?_
  clear hK K
  refine vc_block ?_
  refine vc_loop (fun e w' => w' = w ∧ ∃ c x : Nat, c + bitLen x = bitLen n ∧ x < 4294967296 ∧ e 3 = .int .i64 (c : Int) ∧ e 4 = .int .u32 (x : Int)) (fun e _ => (intOf (e 4)).toNat) ?_ ?_
  · refine ⟨rfl, 32 * m, x0, hb.symm, hx, ?_⟩
    try simp only [go_sem, opsV, undef, vsD, intV, arith, seval, Tryd.underlying25]
  · rintro e w' ⟨rfl, c, x, hc, hx, g3, g4⟩
    have hmz : (intOf (e 4)).toNat = x := by rw [g4]; rfl
    refine vc_seq fun K1 hK1 => ?_
    refine vc_seq fun K2 hK2 => ?_
    refine vc_reg ?_
    try simp only [go_sem, opsV, undef, vsD, intV, arith, seval, Tryd.underlying25, g3, g4]
    refine hK2 _ _ ?_
    clear hK2
    refine vc_condD (by simp only [go_sem, opsV, undef, vsD, intV, arith, seval, Tryd.underlying25, g3, g4] <;> rfl) (fun ht => ?_) (fun ht => ?_)
    · have hh := bitLen_half (x := x) (by omega)
      refine vc_skip ?_
      refine hK1 _ _ ?_
      clear hK1
      refine vc_seq fun K1 hK1 => ?_
      refine vc_block ?_
      refine vc_reg ?_
      try simp only [go_sem, opsV, undef, vsD, intV, arith, seval, Tryd.underlying25, g3, g4]
      refine ⟨(by unfold R64; omega), ?_⟩
      refine hK1 _ _ ?_
      refine vc_reg ?_
      try simp only [go_sem, opsV, undef, vsD, intV, arith, seval, Tryd.underlying25, g3, g4]
      refine ⟨⟨c + 1, x / 2, by omega, by omega, ?_⟩, ?_⟩
      · try simp only [go_sem, opsV, undef, vsD, intV, arith, seval, Tryd.underlying25, g3, g4]
      · (try rw [hmz])
        simp only [intOf]; omega
    · refine vc_exit ?_
      simp only [↓reduceIte]
      have hx0 : x = 0 := by omega
      rw [hx0, bitLen_zero] at hc
      repeat (first
        | (with_reducible refine vc_seq fun K hK => ?_)
        | (with_reducible refine vc_reg ?_)
        | (with_reducible refine vc_skip ?_)
        | (with_reducible refine vc_block ?_)
        | (with_reducible refine vc_scope ?_)
        | (with_reducible refine vc_label ?_)
        | (with_reducible refine vc_condT ?_ ?_; · simp only [go_sem, opsV, undef, vsD, intV, arith, seval, Tryd.underlying25, g3, g4] <;> rfl)
        | (with_reducible refine vc_condF ?_ ?_; · simp only [go_sem, opsV, undef, vsD, intV, arith, seval, Tryd.underlying25, g3, g4] <;> rfl)
        | (with_reducible refine vc_exit ?_; simp only [↓reduceIte, Nat.reduceEqDiff])
        | (with_reducible refine vc_ret ?_; simp only [retV, resL, one])
        | (with_reducible refine hK _ _ ?_; clear hK)
        | (clear hK; with_reducible refine hK _ _ ?_; clear hK)
        | (clear hK; clear hK; with_reducible refine hK _ _ ?_; clear hK)
        | (simp only [go_sem, opsV, undef, vsD, intV, arith, seval, Tryd.underlying25, g3, g4]))
      refine ⟨Ext.refl _, ?_⟩
      rw [← hc]; rfl

theorem r_Zeros_l1 {w : World} {N : Env → World → Prop} {X : Nat → Env → World → Prop} {R : Env → World → Prop} {T : Nat} (hT : T ≤ 281474976710656) (J : ∀ e : Env, e 3 = .int .i64 (T : Int) → X 2 e w) (e : Env) (c x : Nat) (hx0 : x ≠ 0) (hx : x < 4294967296) (hc : c + tz x = T) (g3 : e 3 = .int .i64 (c : Int)) (g5 : e 5 = .int .u32 (x : Int)) :
    vc Tryd.prog (nthLoop Tryd.f20 1) N X R e w := by
  change vc _ (.loop _) _ _ _ _ _
  refine vc_loop (fun e w' => w' = w ∧ ∃ c x : Nat, x ≠ 0 ∧ x < 4294967296 ∧ c + tz x = T ∧ e 3 = .int .i64 (c : Int) ∧ e 5 = .int .u32 (x : Int)) (fun e _ => (intOf (e 5)).toNat) ⟨rfl, c, x, hx0, hx, hc, g3, g5⟩ ?_
  clear hx0 hx hc g3 g5
  clear c x e
  rintro e w' ⟨rfl, c, x, hx0, hx, hc, g3, g5⟩
  have hmz : (intOf (e 5)).toNat = x := by rw [g5]; rfl
  refine vc_seq fun K1 hK1 => ?_
  refine vc_seq fun K2 hK2 => ?_
  refine vc_reg ?_
  try simp only [go_sem, opsV, undef, vsD, intV, arith, seval, Tryd.underlying25, g3, g5, and1 hx]
  refine hK2 _ _ ?_
  clear hK2
  refine vc_condD (by simp only [go_sem, opsV, undef, vsD, intV, arith, seval, Tryd.underlying25, g3, g5, and1 hx] <;> rfl) (fun ht => ?_) (fun ht => ?_)
  · have hh := tz_even hx0 (by omega)
    refine vc_skip ?_
    refine hK1 _ _ ?_
    clear hK1
    refine vc_seq fun K1 hK1 => ?_
    refine vc_block ?_
    refine vc_reg ?_
    try simp only [go_sem, opsV, undef, vsD, intV, arith, seval, Tryd.underlying25, g3, g5, and1 hx]
    refine ⟨(by unfold R64; omega), ?_⟩
    refine hK1 _ _ ?_
    refine vc_reg ?_
    try simp only [go_sem, opsV, undef, vsD, intV, arith, seval, Tryd.underlying25, g3, g5, and1 hx]
    refine ⟨⟨c + 1, x / 2, by omega, by omega, by omega, ?_⟩, ?_⟩
    · try simp only [go_sem, opsV, undef, vsD, intV, arith, seval, Tryd.underlying25, g3, g5, and1 hx]
    · (try rw [hmz])
      simp only [intOf]; omega
  · have hh := tz_odd (n := x) (by omega)
    refine vc_exit ?_
    refine J _ ?_
    try simp only [go_sem, opsV, undef, vsD, intV, arith, seval, Tryd.underlying25, g3, g5, and1 hx]
    rw [← hc, hh]; rfl

set_option maxHeartbeats 400000 in
theorem r_Zeros {w : World} {v : Value} {n : Nat} (h : U32s w.heap v (D32 n)) (hl : (D32 n).length ≤ 1099511627776) : FC Tryd.prog 20 #[v] w fun r w' => Ext w w' ∧ r = .int .i64 ((tz n : Nat) : Int) := by
  have hn : nval 4294967296 (D32 n) = n := nval_digs two32 n
  generalize D32 n = xs at *
  refine FC.body (l := [v]) (rs := [.tmp 2]) mixed Tryd.func20 rfl (by kernel_rfl) (by kernel_rfl) (Nat.le_of_ble_eq_true rfl) rfl ?_
  with_reducible refine vc_seq fun K hK => ?_
  with_reducible refine vc_reg ?_
  simp only [go_sem, opsV, undef, vsD, intV, arith, seval, Tryd.underlying25]
  refine hK _ _ ?_
  clear hK K
  with_reducible refine vc_seq fun K hK => ?_
  with_reducible refine vc_reg ?_
  simp only [go_sem, opsV, undef, vsD, intV, arith, seval, Tryd.underlying25]
  refine hK _ _ ?_
  clear hK K
  with_reducible refine vc_seq fun K hK => ?_
  with_reducible refine vc_seq fun K hK => ?_
  with_reducible refine vc_reg ?_
  simp only [go_sem, opsV, undef, vsD, intV, arith, seval, Tryd.underlying25]
  refine hK _ _ ?_
  clear hK K
  have J : ∀ (e : Env), (∀ j, j < xs.length → xs.getD j 0 = 0) → K e w := by
    rintro e hz
    repeat (first
      | (with_reducible refine vc_seq fun K hK => ?_)
      | (with_reducible refine vc_reg ?_)
      | (with_reducible refine vc_skip ?_)
      | (with_reducible refine vc_block ?_)
      | (with_reducible refine vc_scope ?_)
      | (with_reducible refine vc_label ?_)
      | (with_reducible refine vc_condT ?_ ?_; · simp only [go_sem, opsV, undef, vsD, intV, arith, seval, Tryd.underlying25] <;> rfl)
      | (with_reducible refine vc_condF ?_ ?_; · simp only [go_sem, opsV, undef, vsD, intV, arith, seval, Tryd.underlying25] <;> rfl)
      | (with_reducible refine vc_exit ?_; simp only [↓reduceIte, Nat.reduceEqDiff])
      | (with_reducible refine vc_ret ?_; simp only [retV, resL, one])
      | (with_reducible refine hK _ _ ?_; clear hK)
      | (clear hK; with_reducible refine hK _ _ ?_; clear hK)
      | (clear hK; clear hK; with_reducible refine hK _ _ ?_; clear hK)
      | (simp only [go_sem, opsV, undef, vsD, intV, arith, seval, Tryd.underlying25]))
    exact ⟨Ext.refl _, by rw [← hn, nval_none hz, tz_zero]; rfl⟩
  refine vc_block ?_
  refine vc_loop (fun e w' => w' = w ∧ ∃ k : Nat, k ≤ xs.length ∧ e 0 = v ∧ e 3 = .int .i64 ((32 * k : Nat) : Int) ∧ e 4 = .int .i64 (k : Int) ∧ ∀ j, j < k → xs.getD j 0 = 0) (fun e _ => xs.length - (intOf (e 4)).toNat) ?_ ?_
  · refine ⟨rfl, 0, Nat.zero_le _, ?_⟩
    try simp only [go_sem, opsV, undef, vsD, intV, arith, seval, true_and]
    first | exact ⟨rfl, rfl, fun j hj => absurd hj (Nat.not_lt_zero j)⟩ | exact ⟨rfl, fun j hj => absurd hj (Nat.not_lt_zero j)⟩ | exact fun j hj => absurd hj (Nat.not_lt_zero j)
  · rintro e w' ⟨rfl, k, hk, g0, g3, g4, hz⟩
    have hmz : (intOf (e 4)).toNat = k := by rw [g4]; rfl
    refine vc_seq fun K1 hK1 => ?_
    refine vc_seq fun K2 hK2 => ?_
    refine vc_reg ?_
    try simp only [go_sem, opsV, undef, vsD, intV, arith, seval, Tryd.underlying25, g0, g3, g4]
    refine ⟨_, h.len, ?_⟩
    try simp only [go_sem, opsV, undef, vsD, intV, arith, seval, Tryd.underlying25, g0, g3, g4]
    refine hK2 _ _ ?_
    clear hK2
    refine vc_condD (by simp only [go_sem, opsV, undef, vsD, intV, arith, seval, Tryd.underlying25, g0, g3, g4] <;> rfl) (fun ht => ?_) (fun ht => ?_)
    · refine vc_skip ?_
      refine hK1 _ _ ?_
      clear hK1
      refine vc_seq fun K1 hK1 => ?_
      refine vc_block ?_
      refine vc_seq fun K2 hK2 => ?_
      refine vc_seq fun K3 hK3 => ?_
      obtain ⟨ad, ha, hld⟩ := h.get32 (k := .i64) (i := k) ht
      have hxl := h.lt (by decide) k
      refine vc_reg ?_
      try simp only [go_sem, opsV, undef, vsD, intV, arith, seval, Tryd.underlying25, g0, g3, g4]
      refine ⟨ad, ha, _, hld _ (Ext.refl _), ?_⟩
      try simp only [go_sem, opsV, undef, vsD, intV, arith, seval, Tryd.underlying25, g0, g3, g4]
      refine hK3 _ _ ?_
      clear hK3
      refine vc_condD (by simp only [go_sem, opsV, undef, vsD, intV, arith, seval, Tryd.underlying25, g0, g3, g4] <;> rfl) (fun hx => ?_) (fun hx => ?_)
      · clear hK2
        have e32 : ((32 * k : Nat) : Int) + 32 = ((32 * (k + 1) : Nat) : Int) := by omega
        refine vc_seq fun K2 hK2 => ?_
        refine vc_reg ?_
        try simp only [go_sem, opsV, undef, vsD, intV, arith, seval, Tryd.underlying25, g0, g3, g4, e32]
        refine ⟨(by unfold R64; omega), ?_⟩
        refine hK2 _ _ ?_
        refine vc_exit ?_
        simp only [↓reduceIte]
        refine hK1 _ _ ?_
        refine vc_reg ?_
        try simp only [go_sem, opsV, undef, vsD, intV, arith, seval, Tryd.underlying25, g0, g3, g4, e32]
        refine ⟨(by unfold R64; omega), ⟨k + 1, by omega, ?_⟩, ?_⟩
        · try simp only [go_sem, opsV, undef, vsD, intV, arith, seval, Tryd.underlying25, g0, g3, g4, e32]
          refine fun j hj => ?_
          rcases Nat.lt_or_ge j k with h' | h'
          · exact hz j h'
          · obtain rfl : j = k := by omega
            exact hx
        · (try rw [hmz])
          simp only [intOf]; omega
      · clear hK1
        have htz := tz_low (b := 32) (i := k) (r := nval 4294967296 (xs.drop (k + 1))) hx hxl
        rw [Nat.pow_mul, show (2 : Nat) ^ 32 = 4294967296 from rfl, ← nval_low ht hz, hn] at htz
        have hlt : tz (xs.getD k 0) < 32 := by
          obtain ⟨m, hm⟩ := tz_spec _ hx
          have : 2 ^ tz (xs.getD k 0) ≤ xs.getD k 0 := by
            conv => rhs; rw [hm]
            exact Nat.le_mul_of_pos_right _ (by omega)
          exact (Nat.pow_lt_pow_iff_right (by decide : 1 < 2)).1 (Nat.lt_of_le_of_lt this hxl)
        refine vc_skip ?_
        refine hK2 _ _ ?_
        clear hK2
        refine vc_seq fun K2 hK2 => ?_
        refine vc_seq fun K3 hK3 => ?_
        refine vc_reg ?_
        try simp only [go_sem, opsV, undef, vsD, intV, arith, seval, Tryd.underlying25, g0, g3, g4]
        refine ⟨ad, ha, _, hld _ (Ext.refl _), ?_⟩
        try simp only [go_sem, opsV, undef, vsD, intV, arith, seval, Tryd.underlying25, g0, g3, g4]
        refine hK3 _ _ ?_
        clear hK3
        refine vc_block ?_
        refine r_Zeros_l1 (T := tz n) (by omega) (fun e g3 => ?_) _ (32 * k) (xs.getD k 0) hx hxl htz.symm ?_ ?_
        · simp only [↓reduceIte]
          refine hK2 _ _ ?_
          repeat (first
            | (with_reducible refine vc_seq fun K hK => ?_)
            | (with_reducible refine vc_reg ?_)
            | (with_reducible refine vc_skip ?_)
            | (with_reducible refine vc_block ?_)
            | (with_reducible refine vc_scope ?_)
            | (with_reducible refine vc_label ?_)
            | (with_reducible refine vc_condT ?_ ?_; · simp only [go_sem, opsV, undef, vsD, intV, arith, seval, g3] <;> rfl)
            | (with_reducible refine vc_condF ?_ ?_; · simp only [go_sem, opsV, undef, vsD, intV, arith, seval, g3] <;> rfl)
            | (with_reducible refine vc_exit ?_; simp only [↓reduceIte, Nat.reduceEqDiff])
            | (with_reducible refine vc_ret ?_; simp only [retV, resL, one])
            | (with_reducible refine hK _ _ ?_; clear hK)
            | (clear hK; with_reducible refine hK _ _ ?_; clear hK)
            | (clear hK; clear hK; with_reducible refine hK _ _ ?_; clear hK)
            | (simp only [go_sem, opsV, undef, vsD, intV, arith, seval, g3]))
          exact Ext.refl _
        all_goals try simp only [go_sem, opsV, undef, vsD, intV, arith, seval, Tryd.underlying25, g0, g3, g4]
    · refine vc_exit ?_
      simp only [↓reduceIte]
      exact J _ (fun j hj => hz j (by omega))

theorem h_Words {w : World} {va vb : Value} {xs ys : List Nat} (ha : U64s w.heap va xs) (hb : U64s w.heap vb ys) (hlx : xs.length ≤ 1099511627776) (hly : ys.length ≤ 1099511627776) :
    FC Tryd.prog 14 #[va, vb] w fun r w' => Ext w w' ∧ r = .bool (decide (xs = ys)) := by
  refine FC.body (l := [va, vb]) (rs := [.tmp 4]) mixed Tryd.func14 rfl (by kernel_rfl) (by kernel_rfl) (Nat.le_of_ble_eq_true rfl) rfl ?_
  with_reducible refine vc_seq fun K hK => ?_
  with_reducible refine vc_reg ?_
  simp only [go_sem, opsV, undef, vsD, intV, arith, seval, Tryd.underlying22]
  refine hK _ _ ?_
  clear hK K
  with_reducible refine vc_seq fun K hK => ?_
  with_reducible refine vc_seq fun K hK => ?_
  refine vc_reg ?_
  try simp only [go_sem, opsV, undef, vsD, intV, arith, seval, Tryd.underlying22]
  refine ⟨_, ha.len, _, hb.len, ?_⟩
  try simp only [go_sem, opsV, undef, vsD, intV, arith, seval, Tryd.underlying22]
  refine hK _ _ ?_
  clear hK K
  refine vc_condD (by simp only [go_sem, opsV, undef, vsD, intV, arith, seval, Tryd.underlying22] <;> rfl) (fun ht => ?_) (fun ht => ?_)
  · repeat (first
      | (with_reducible refine vc_seq fun K hK => ?_)
      | (with_reducible refine vc_reg ?_)
      | (with_reducible refine vc_skip ?_)
      | (with_reducible refine vc_block ?_)
      | (with_reducible refine vc_scope ?_)
      | (with_reducible refine vc_label ?_)
      | (with_reducible refine vc_condT ?_ ?_; · simp only [go_sem, opsV, undef, vsD, intV, arith, seval, Tryd.underlying22] <;> rfl)
      | (with_reducible refine vc_condF ?_ ?_; · simp only [go_sem, opsV, undef, vsD, intV, arith, seval, Tryd.underlying22] <;> rfl)
      | (with_reducible refine vc_exit ?_; simp only [↓reduceIte, Nat.reduceEqDiff])
      | (with_reducible refine vc_ret ?_; simp only [retV, resL, one])
      | (with_reducible refine hK _ _ ?_; clear hK)
      | (clear hK; with_reducible refine hK _ _ ?_; clear hK)
      | (clear hK; clear hK; with_reducible refine hK _ _ ?_; clear hK)
      | (simp only [go_sem, opsV, undef, vsD, intV, arith, seval, Tryd.underlying22]))
    refine ⟨Ext.refl _, ?_⟩
    have : xs ≠ ys := fun h => ht (by rw [h])
    simp [this]
  have hlen : xs.length = ys.length := by omega
  refine vc_skip ?_
  refine hK _ _ ?_
  clear hK K
  with_reducible refine vc_seq fun K hK => ?_
  with_reducible refine vc_seq fun K hK => ?_
  with_reducible refine vc_reg ?_
  simp only [go_sem, opsV, undef, vsD, intV, arith, seval, Tryd.underlying22]
  refine hK _ _ ?_
  clear hK K
  have J : ∀ (e : Env) (w' : World), Ext w w' → (∀ j, j < xs.length → xs.getD j 0 = ys.getD j 0) → K e w' := by
    rintro e w' hE hz
    repeat (first
      | (with_reducible refine vc_seq fun K hK => ?_)
      | (with_reducible refine vc_reg ?_)
      | (with_reducible refine vc_skip ?_)
      | (with_reducible refine vc_block ?_)
      | (with_reducible refine vc_scope ?_)
      | (with_reducible refine vc_label ?_)
      | (with_reducible refine vc_condT ?_ ?_; · simp only [go_sem, opsV, undef, vsD, intV, arith, seval, Tryd.underlying22] <;> rfl)
      | (with_reducible refine vc_condF ?_ ?_; · simp only [go_sem, opsV, undef, vsD, intV, arith, seval, Tryd.underlying22] <;> rfl)
      | (with_reducible refine vc_exit ?_; simp only [↓reduceIte, Nat.reduceEqDiff])
      | (with_reducible refine vc_ret ?_; simp only [retV, resL, one])
      | (with_reducible refine hK _ _ ?_; clear hK)
      | (clear hK; with_reducible refine hK _ _ ?_; clear hK)
      | (clear hK; clear hK; with_reducible refine hK _ _ ?_; clear hK)
      | (simp only [go_sem, opsV, undef, vsD, intV, arith, seval, Tryd.underlying22]))
    have : xs = ys := list_ext_getD hlen fun j => by
      by_cases hj : j < xs.length
      · exact hz j hj
      · simp [List.getD, List.getElem?_eq_none (Nat.le_of_not_lt hj), List.getElem?_eq_none (hlen ▸ Nat.le_of_not_lt hj)]
    exact ⟨hE, by simp [this]⟩
  refine vc_block ?_
  refine vc_loop (fun e w' => Ext w w' ∧ ∃ k : Nat, k ≤ xs.length ∧ e 0 = va ∧ e 1 = vb ∧ e 5 = .int .i64 (k : Int) ∧ ∀ j, j < k → xs.getD j 0 = ys.getD j 0) (fun e _ => xs.length - (intOf (e 5)).toNat) ?_ ?_
  · refine ⟨Ext.refl _, 0, Nat.zero_le _, ?_⟩
    try simp only [go_sem, opsV, undef, vsD, intV, arith, seval, true_and]
    first | exact ⟨rfl, fun j hj => absurd hj (Nat.not_lt_zero j)⟩ | exact fun j hj => absurd hj (Nat.not_lt_zero j)
  · rintro e w' ⟨hE, k, hk, g0, g1, g5, hz⟩
    have hmz : (intOf (e 5)).toNat = k := by rw [g5]; rfl
    refine vc_seq fun K1 hK1 => ?_
    refine vc_seq fun K2 hK2 => ?_
    refine vc_reg ?_
    try simp only [go_sem, opsV, undef, vsD, intV, arith, seval, Tryd.underlying22, g0, g1, g5]
    refine ⟨_, (ha.up hE).len, ?_⟩
    try simp only [go_sem, opsV, undef, vsD, intV, arith, seval, Tryd.underlying22, g0, g1, g5]
    refine hK2 _ _ ?_
    clear hK2
    refine vc_condD (by simp only [go_sem, opsV, undef, vsD, intV, arith, seval, Tryd.underlying22, g0, g1, g5] <;> rfl) (fun ht => ?_) (fun ht => ?_)
    · refine vc_skip ?_
      refine hK1 _ _ ?_
      clear hK1
      refine vc_seq fun K1 hK1 => ?_
      refine vc_block ?_
      refine vc_seq fun K2 hK2 => ?_
      obtain ⟨ad, hia, hla⟩ := (ha.up hE).get (k := .i64) (i := k) ht
      obtain ⟨bd, hib, hlb⟩ := (hb.up hE).get (k := .i64) (i := k) (by omega)
      refine vc_draw [(0, 0), (1, 0), (2, 0), (3, 1), (4, 0), (5, 0), (6, 0), (7, 1), (8, 0)] (by kernel_rfl) ?_
      try simp only [go_sem, opsV, undef, vsD, intV, arith, seval, Tryd.underlying22, g0, g1, g5]
      refine ⟨ad, hia, _, hla _ (ext_drew _), bd, hib, _, hlb _ (ext_drew _), ?_⟩
      try simp only [go_sem, opsV, undef, vsD, intV, arith, seval, Tryd.underlying22, g0, g1, g5]
      refine hK2 _ _ ?_
      clear hK2
      refine vc_condD (by simp only [go_sem, opsV, undef, vsD, intV, arith, seval, Tryd.underlying22, g0, g1, g5] <;> rfl) (fun hx => ?_) (fun hx => ?_)
      · repeat (first
          | (with_reducible refine vc_seq fun K hK => ?_)
          | (with_reducible refine vc_reg ?_)
          | (with_reducible refine vc_skip ?_)
          | (with_reducible refine vc_block ?_)
          | (with_reducible refine vc_scope ?_)
          | (with_reducible refine vc_label ?_)
          | (with_reducible refine vc_condT ?_ ?_; · simp only [go_sem, opsV, undef, vsD, intV, arith, seval, Tryd.underlying22, g0, g1, g5] <;> rfl)
          | (with_reducible refine vc_condF ?_ ?_; · simp only [go_sem, opsV, undef, vsD, intV, arith, seval, Tryd.underlying22, g0, g1, g5] <;> rfl)
          | (with_reducible refine vc_exit ?_; simp only [↓reduceIte, Nat.reduceEqDiff])
          | (with_reducible refine vc_ret ?_; simp only [retV, resL, one])
          | (with_reducible refine hK _ _ ?_; clear hK)
          | (clear hK; with_reducible refine hK _ _ ?_; clear hK)
          | (clear hK; clear hK; with_reducible refine hK _ _ ?_; clear hK)
          | (simp only [go_sem, opsV, undef, vsD, intV, arith, seval, Tryd.underlying22, g0, g1, g5]))
        refine ⟨hE.drew', ?_⟩
        have : xs ≠ ys := fun h => hx (by rw [h])
        simp [this]
      · refine vc_skip ?_
        refine hK1 _ _ ?_
        refine vc_reg ?_
        try simp only [go_sem, opsV, undef, vsD, intV, arith, seval, Tryd.underlying22, g0, g1, g5]
        refine ⟨(by unfold R64; omega), ⟨hE.drew', k + 1, by omega, ?_⟩, ?_⟩
        · try simp only [go_sem, opsV, undef, vsD, intV, arith, seval, Tryd.underlying22, g0, g1, g5]
          refine fun j hj => ?_
          rcases Nat.lt_or_ge j k with h' | h'
          · exact hz j h'
          · obtain rfl : j = k := by omega
            exact Decidable.not_not.1 hx
        · (try rw [hmz])
          simp only [intOf]; omega
    · refine vc_exit ?_
      simp only [↓reduceIte]
      exact J _ _ hE (fun j hj => hz j (by omega))

end Go.V

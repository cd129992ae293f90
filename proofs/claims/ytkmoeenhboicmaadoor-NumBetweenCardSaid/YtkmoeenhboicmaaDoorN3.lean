/- The walks of package nat: Add, Sub. -/
import Derived.Test.YtkmoeenhboicmaaDoorN2
set_option linter.unusedSimpArgs false
set_option linter.unusedVariables false
set_option maxRecDepth 100000

namespace Go.V
open Go Go.RowKit Go.Proofs

section
variable {P : Program}
/-- An element of an owned row: it can be reached, read, written. -/
theorem own_at {t el bytes : Nat} {z : Value} (T : SlT P t el 1 bytes z) (hsc : scalB P el = true) {w : World} {base : Nat} {v : Value} {n : Nat} {cs : List Value} (h : w.ownsRow base el 1 v n cs) {k : IntKind} {i : Nat} (hi : i < n) :
    ∃ ad, IxA P t v (.int k (i : Int)) ad ∧ (∀ u, cs[i]? = some u → Ld P w el (.pointer (some ad)) u) ∧
      ∀ u : Value, u.oneCell' = true → ∃ w', St P w el (.pointer (some ad)) u w' ∧ w'.ownsRow base el 1 v n (cs.set i u) ∧ w'.heap.size = w.heap.size ∧ ∀ (B : Nat) (w0 : World), Below B w0 w → B ≤ base → Below B w0 w' := by
  rcases h.2 with ⟨rfl, h0⟩ | ⟨g, cap, cur, rfl, hbase, hg, hn, hm, hcs, htake⟩
  · omega
  · have hrow : Row w g el cur.toList := by unfold Row; simpa using hg
    have hc : cur.size = cap := by rw [hcs, Nat.mul_one]
    refine ⟨⟨g, i, none⟩, ?_, ?_, ?_⟩
    · have := ix_lit T (b := g) (off := 0) (n := n) (cap := cap) (k := k) (i := (i : Int)) (by omega) (by omega)
      simpa using this
    · intro u hu
      refine hrow.ld hsc ?_
      rw [← htake, List.getElem?_take] at hu
      split at hu
      · exact hu
      · cases hu
    · intro u hu
      obtain ⟨w', h1, h2, h3⟩ := hrow.st (P := P) hsc (i := i) (by simp; omega) hu
      refine ⟨w', h1, ⟨by rw [List.length_set]; exact h.1, .inr ⟨g, cap, (cur.toList.set i u).toArray, rfl, hbase, h2, hn, hm, by simp [hc], ?_⟩⟩, h3.size, fun B w0 hb hB => Upd.below hb h3 (Nat.le_trans hB hbase)⟩
      rw [← htake]
      simp [List.take_set]
theorem own_len {w : World} {base el : Nat} {v : Value} {n : Nat} {cs : List Value} (h : w.ownsRow base el 1 v n cs) : LenIs v n := by
  rcases h.2 with ⟨rfl, rfl⟩ | ⟨g, cap, cur, rfl, _⟩
  · exact ⟨_, _, rfl⟩
  · exact ⟨_, _, rfl⟩
theorem wc_set (k : IntKind) (xs : List Nat) (i y : Nat) : (wc k xs).set i (.int k (y : Int)) = wc k (xs.set i y) := by simp [wc, List.map_set]
/-- An owned row stays while what lies above it, or below, turns. -/
theorem own_ext {w w' : World} {base el s : Nat} {v : Value} {n : Nat} {cs : List Value} (h : w.ownsRow base el s v n cs) (hE : Ext w w') : w'.ownsRow base el s v n cs := by
  refine ⟨h.1, h.2.imp id ?_⟩
  rintro ⟨g, cap, cur, h1, h2, h3, rest⟩
  exact ⟨g, cap, cur, h1, h2, hE.at h3, rest⟩
theorem own_base {w : World} {base base' el s : Nat} {v : Value} {n : Nat} {cs : List Value} (h : w.ownsRow base el s v n cs) (hb : base' ≤ base) : w.ownsRow base' el s v n cs := by
  refine ⟨h.1, h.2.imp id ?_⟩
  rintro ⟨g, cap, cur, h1, h2, rest⟩
  exact ⟨g, cap, cur, h1, Nat.le_trans hb h2, rest⟩
theorem own_row {w : World} {b el : Nat} {xs : List Value} {n cap : Nat} (h : Row w b el xs) (hl : xs.length = cap) (hn : n ≤ cap) (hc : cap ≤ 9223372036854775807) : w.ownsRow b el 1 (.slice (some ⟨b, 0, none⟩) n cap) n (xs.take n) :=
  ⟨by simp; omega, .inr ⟨b, cap, xs.toArray, rfl, Nat.le_refl _, h, hn, by unfold maxLen; omega, by simp [hl], by simp⟩⟩
/-- The front of an owned row. -/
theorem own_take {w : World} {base el : Nat} {v : Value} {n m : Nat} {cs : List Value} (h : w.ownsRow base el 1 v n cs) (hm : m ≤ n) : w.ownsRow base el 1 (resl v m) m (cs.take m) := by
  have hl := h.1
  refine ⟨by rw [List.length_take]; omega, ?_⟩
  rcases h.2 with ⟨rfl, h0⟩ | ⟨g, cap, cur, rfl, hbase, hg, hn, hmx, hcs, htake⟩
  · left; exact ⟨by obtain rfl : m = 0 := by omega
                    rfl, by omega⟩
  · right
    refine ⟨g, cap, cur, rfl, hbase, hg, by omega, hmx, hcs, ?_⟩
    rw [← htake, List.take_take]
    congr 1
    omega
end

theorem own_drew {w : World} {base el s : Nat} {v : Value} {n : Nat} {cs : List Value} (h : w.ownsRow base el s v n cs) : w.drew.ownsRow base el s v n cs := own_ext h (ext_drew w)
/-- An owned row of words. -/
structure OW (el : TypeId) (k : IntKind) (B : Nat) (w : World) (base : Nat) (v : Value) (xs : List Nat) : Prop where
  own : w.ownsRow base el 1 v xs.length (wc k xs)
  lt : ∀ x ∈ xs, x < B
  le : xs.length ≤ 140737488355328
theorem OW.ws {el : TypeId} {k : IntKind} {B : Nat} {w : World} {base : Nat} {v : Value} {xs : List Nat} (h : OW el k B w base v xs) : Ws k B w.heap v xs := own_ws h.own h.lt h.le
theorem OW.len {el : TypeId} {k : IntKind} {B : Nat} {w : World} {base : Nat} {v : Value} {xs : List Nat} (h : OW el k B w base v xs) : LenIs v xs.length := own_len h.own
theorem OW.up {el : TypeId} {k : IntKind} {B : Nat} {w w' : World} {base : Nat} {v : Value} {xs : List Nat} (h : OW el k B w base v xs) (hE : Ext w w') : OW el k B w' base v xs := ⟨own_ext h.own hE, h.lt, h.le⟩
theorem OW.base {el : TypeId} {k : IntKind} {B : Nat} {w : World} {base base' : Nat} {v : Value} {xs : List Nat} (h : OW el k B w base v xs) (hb : base' ≤ base) : OW el k B w base' v xs := ⟨own_base h.own hb, h.lt, h.le⟩
theorem OW.take {el : TypeId} {k : IntKind} {B : Nat} {w : World} {base : Nat} {v : Value} {xs : List Nat} (h : OW el k B w base v xs) {m : Nat} (hm : m ≤ xs.length) : OW el k B w base (resl v m) (xs.take m) := by
  have := own_take h.own hm
  refine ⟨?_, fun x hx => h.lt x (List.mem_of_mem_take hx), by rw [List.length_take]; have := h.le; omega⟩
  rw [List.length_take, Nat.min_eq_left hm]
  simpa [wc, List.map_take] using this
theorem OW.at {P : Program} {t el bytes : Nat} {z : Value} (T : SlT P t el 1 bytes z) (hsc : scalB P el = true) {k : IntKind} {B : Nat} {w : World} {base : Nat} {v : Value} {xs : List Nat} (h : OW el k B w base v xs) {ki : IntKind} {i : Nat} (hi : i < xs.length) :
    ∃ ad, IxA P t v (.int ki (i : Int)) ad ∧ Ld P w el (.pointer (some ad)) (.int k ((xs.getD i 0 : Nat) : Int)) ∧
      ∀ y : Nat, y < B → ∃ w', St P w el (.pointer (some ad)) (.int k (y : Int)) w' ∧ OW el k B w' base v (xs.set i y) ∧ w'.heap.size = w.heap.size ∧ ∀ (B : Nat) (w0 : World), Below B w0 w → B ≤ base → Below B w0 w' := by
  obtain ⟨ad, h1, h2, h3⟩ := own_at T hsc h.own (k := ki) hi
  refine ⟨ad, h1, h2 _ (wc_get hi), fun y hy => ?_⟩
  obtain ⟨w', h4, h5, h6, h7⟩ := h3 (.int k (y : Int)) rfl
  refine ⟨w', h4, ⟨by rw [List.length_set, ← wc_set]; exact h5, ?_, by rw [List.length_set]; exact h.le⟩, h6, h7⟩
  intro x hx
  rcases List.mem_or_eq_of_mem_set hx with h' | rfl
  · exact h.lt x h'
  · exact hy
/-- Cut to its digits. -/
theorem OW.digs {el : TypeId} {k : IntKind} {B : Nat} (hB : 2 ≤ B) {w : World} {base : Nat} {v : Value} {xs : List Nat} (h : OW el k B w base v xs) : OW el k B w base (resl v (Go.V.digs B (nval B xs)).length) (Go.V.digs B (nval B xs)) := by
  have hl : (Go.V.digs B (nval B xs)).length ≤ xs.length := digs_len_le hB (nval_lt (by omega) xs h.lt)
  have := h.take hl
  rwa [take_digs_len hB h.lt] at this


theorem mod64 (n : Nat) : n % 18446744073709551616 < 18446744073709551616 := Nat.mod_lt _ (by decide)

abbrev O64 (w : World) (base : Nat) (v : Value) (xs : List Nat) : Prop := OW 54 .u64 18446744073709551616 w base v xs

theorem own_zeros {w2 w3 : World} {b n : Nat} (hnew : New w2 b 54 (madeCells (Value.int .u64 0).cells (n * 1)).toList w3) (hn : n ≤ 140737488355328) :
    O64 w3 w2.heap.size (.slice (some ⟨b, 0, none⟩) n n) (List.replicate n 0) := by
  have hrow := hnew.row
  rw [show (Value.int .u64 0).cells = #[.int .u64 0] from rfl, Nat.mul_one, toList_madeCells_one] at hrow
  have := own_row (w := w3) hrow (n := n) (cap := n) (by simp) (Nat.le_refl _) (by omega)
  refine ⟨?_, fun x hx => by rw [List.eq_of_mem_replicate hx]; decide, by simp; omega⟩
  have e : (List.replicate n (Value.int .u64 0)).take n = wc .u64 (List.replicate n 0) := by
    rw [List.take_of_length_le (by simp)]; simp [wc]
  rw [e] at this
  rw [List.length_replicate]
  exact own_base this hnew.fresh

theorem nat_Add_l1 {w2 : World} {so : Value} {N : Env → World → Prop} {X : Nat → Env → World → Prop} {R : Env → World → Prop} {L T : Nat} (hTlt : T < 18446744073709551616 ^ (L + 1)) (hL : L ≤ 1099511627776)
    (J : ∀ (e : Env) (w' : World) (os : List Nat), N64 os = T → O64 w' w2.heap.size so os → Ext w2 w' → e 5 = so → X 2 e w')
    (e : Env) (w' : World) (os : List Nat) (c i : Nat) (hi : i ≤ L + 1) (hol : os.length = L + 1) (hc : c ≤ 1) (hsum : nval 18446744073709551616 os + 18446744073709551616 ^ i * c = T)
    (own : O64 w' w2.heap.size so os) (hB : Ext w2 w') (g5 : e 5 = so) (g6 : e 6 = .int .u64 (c : Int)) (g8 : e 8 = .int .i64 (i : Int)) :
    vc Tryd.prog (nthLoop Tryd.f74 1) N X R e w' := by
  change vc _ (.loop _) _ _ _ _ _
  refine vc_loop (fun e w' => ∃ (os : List Nat) (c i : Nat), i ≤ L + 1 ∧ os.length = L + 1 ∧ c ≤ 1 ∧ nval 18446744073709551616 os + 18446744073709551616 ^ i * c = T ∧ O64 w' w2.heap.size so os ∧ Ext w2 w' ∧ e 5 = so ∧ e 6 = .int .u64 (c : Int) ∧ e 8 = .int .i64 (i : Int)) (fun e _ => L + 1 - (intOf (e 8)).toNat) ?_ ?_
  · exact ⟨os, c, i, hi, hol, hc, hsum, own, hB, g5, g6, g8⟩
  · clear hsum own hol hc hB g5 g6 g8 hi
    clear os c i e w'
    rintro e w' ⟨os, c, i, hi, hol, hc, hsum, own, hB, g5, g6, g8⟩
    have hmz : (intOf (e 8)).toNat = i := by rw [g8]; rfl
    refine vc_seq fun K1 hK1 => ?_
    refine vc_seq fun K2 hK2 => ?_
    refine vc_reg ?_
    try simp only [go_sem, opsV, undef, binV_int, binV_eqB, binV_neB, pbin_int, pbin_eqB, pbin_neB, intV, arith, unV_not, unV_neg, Nat.reduceBEq, Nat.reduceEqDiff, ↓reduceIte, reduceCtorEq, Int.reduceToNat, Nat.reduceLeDiff, Int.reduceLE, Int.reduceLT, Int.reducePow, Int.reduceNeg, Nat.reduceAdd, Nat.reduceMul, Nat.reducePow, Tryd.underlying22, g5, g6, g8]
    refine ⟨_, own.len.cast hol, ?_⟩
    refine hK2 _ _ ?_
    clear hK2
    refine vc_condD (by simp only [go_sem, opsV, undef, binV_int, binV_eqB, binV_neB, pbin_int, pbin_eqB, pbin_neB, intV, arith, unV_not, unV_neg, Nat.reduceBEq, Nat.reduceEqDiff, ↓reduceIte, reduceCtorEq, Int.reduceToNat, Nat.reduceLeDiff, Int.reduceLE, Int.reduceLT, Int.reducePow, Int.reduceNeg, Nat.reduceAdd, Nat.reduceMul, Nat.reducePow, Tryd.underlying22, g5, g6, g8] <;> rfl) (fun ht => ?_) (fun ht => ?_)
    · refine vc_skip ?_
      refine hK1 _ _ ?_
      clear hK1
      refine vc_seq fun K1 hK1 => ?_
      refine vc_block ?_
      refine vc_seq fun K2 hK2 => ?_
      refine vc_seq fun K3 hK3 => ?_
      refine vc_reg ?_
      try simp only [go_sem, opsV, undef, binV_int, binV_eqB, binV_neB, pbin_int, pbin_eqB, pbin_neB, intV, arith, unV_not, unV_neg, Nat.reduceBEq, Nat.reduceEqDiff, ↓reduceIte, reduceCtorEq, Int.reduceToNat, Nat.reduceLeDiff, Int.reduceLE, Int.reduceLT, Int.reducePow, Int.reduceNeg, Nat.reduceAdd, Nat.reduceMul, Nat.reducePow, Tryd.underlying22, g5, g6, g8]
      refine hK3 _ _ ?_
      clear hK3
      refine vc_condD (by simp only [go_sem, opsV, undef, binV_int, binV_eqB, binV_neB, pbin_int, pbin_eqB, pbin_neB, intV, arith, unV_not, unV_neg, Nat.reduceBEq, Nat.reduceEqDiff, ↓reduceIte, reduceCtorEq, Int.reduceToNat, Nat.reduceLeDiff, Int.reduceLE, Int.reduceLT, Int.reducePow, Int.reduceNeg, Nat.reduceAdd, Nat.reduceMul, Nat.reducePow, Tryd.underlying22, g5, g6, g8] <;> rfl) (fun hc0 => ?_) (fun hc0 => ?_)
      · refine vc_exit ?_
        simp only [↓reduceIte, Nat.reduceEqDiff]
        have hc0 : c = 0 := hc0
        rw [hc0, Nat.mul_zero, Nat.add_zero] at hsum
        refine J _ _ os hsum own hB ?_
        try simp only [go_sem, opsV, undef, binV_int, binV_eqB, binV_neB, pbin_int, pbin_eqB, pbin_neB, intV, arith, unV_not, unV_neg, Nat.reduceBEq, Nat.reduceEqDiff, ↓reduceIte, reduceCtorEq, Int.reduceToNat, Nat.reduceLeDiff, Int.reduceLE, Int.reduceLT, Int.reducePow, Int.reduceNeg, Nat.reduceAdd, Nat.reduceMul, Nat.reducePow, Tryd.underlying22, g5, g6, g8]
      · refine vc_skip ?_
        refine hK2 _ _ ?_
        clear hK2
        obtain ⟨ad, hix, hld, hst⟩ := own.at T64 S64 (ki := .i64) (i := i) (by omega)
        refine vc_reg ?_
        try simp only [go_sem, opsV, undef, binV_int, binV_eqB, binV_neB, pbin_int, pbin_eqB, pbin_neB, intV, arith, unV_not, unV_neg, Nat.reduceBEq, Nat.reduceEqDiff, ↓reduceIte, reduceCtorEq, Int.reduceToNat, Nat.reduceLeDiff, Int.reduceLE, Int.reduceLT, Int.reducePow, Int.reduceNeg, Nat.reduceAdd, Nat.reduceMul, Nat.reducePow, Tryd.underlying22, g5, g6, g8]
        refine ⟨ad, hix, _, hld, ?_⟩
        refine add64 (os.getD i 0) 0 c hc ?_
        obtain ⟨w'', h1, h2, h3, h4⟩ := hst ((os.getD i 0 + 0 + c) % 18446744073709551616) (mod64 _)
        try simp only [go_sem, opsV, undef, binV_int, binV_eqB, binV_neB, pbin_int, pbin_eqB, pbin_neB, intV, arith, unV_not, unV_neg, Nat.reduceBEq, Nat.reduceEqDiff, ↓reduceIte, reduceCtorEq, Int.reduceToNat, Nat.reduceLeDiff, Int.reduceLE, Int.reduceLT, Int.reducePow, Int.reduceNeg, Nat.reduceAdd, Nat.reduceMul, Nat.reducePow, Tryd.underlying22, g5, g6, g8]
        refine ⟨ad, hix, w'', h1, ?_⟩
        refine hK1 _ _ ?_
        refine vc_reg ?_
        try simp only [go_sem, opsV, undef, binV_int, binV_eqB, binV_neB, pbin_int, pbin_eqB, pbin_neB, intV, arith, unV_not, unV_neg, Nat.reduceBEq, Nat.reduceEqDiff, ↓reduceIte, reduceCtorEq, Int.reduceToNat, Nat.reduceLeDiff, Int.reduceLE, Int.reduceLT, Int.reducePow, Int.reduceNeg, Nat.reduceAdd, Nat.reduceMul, Nat.reducePow, Tryd.underlying22, g5, g6, g8]
        refine ⟨(by unfold R64; omega), ⟨os.set i ((os.getD i 0 + 0 + c) % 18446744073709551616), (os.getD i 0 + 0 + c) / 18446744073709551616, i + 1, by omega, by rw [List.length_set]; exact hol, ?_, ?_, h2, h4 _ _ hB (Nat.le_refl _), ?_⟩, ?_⟩
        · have := own.ws.lt (by decide) i; omega
        · exact add_step (d := 0) (by decide) (by omega) rfl hsum
        · try simp only [go_sem, opsV, undef, binV_int, binV_eqB, binV_neB, pbin_int, pbin_eqB, pbin_neB, intV, arith, unV_not, unV_neg, Nat.reduceBEq, Nat.reduceEqDiff, ↓reduceIte, reduceCtorEq, Int.reduceToNat, Nat.reduceLeDiff, Int.reduceLE, Int.reduceLT, Int.reducePow, Int.reduceNeg, Nat.reduceAdd, Nat.reduceMul, Nat.reducePow, Tryd.underlying22, g5, g6, g8]
        · (try rw [hmz])
          simp only [intOf]; omega
    · refine vc_exit ?_
      obtain rfl : i = L + 1 := by omega
      have hc0 : c = 0 := by
        rcases Nat.eq_zero_or_pos c with h | h
        · exact h
        · have := Nat.mul_le_mul_left (18446744073709551616 ^ (L + 1)) h
          rw [Nat.mul_one] at this
          omega
      rw [hc0, Nat.mul_zero, Nat.add_zero] at hsum
      refine J _ _ os hsum own hB ?_
      try simp only [go_sem, opsV, undef, binV_int, binV_eqB, binV_neB, pbin_int, pbin_eqB, pbin_neB, intV, arith, unV_not, unV_neg, Nat.reduceBEq, Nat.reduceEqDiff, ↓reduceIte, reduceCtorEq, Int.reduceToNat, Nat.reduceLeDiff, Int.reduceLE, Int.reduceLT, Int.reducePow, Int.reduceNeg, Nat.reduceAdd, Nat.reduceMul, Nat.reducePow, Tryd.underlying22, g5, g6, g8]

theorem nat_Add_l0 {w2 : World} {so rb : Value} {B : List Nat} (hb : U64s w2.heap rb B) {N : Env → World → Prop} {X : Nat → Env → World → Prop} {R : Env → World → Prop} {L T : Nat} (hL : L ≤ 1099511627776) (hle : B.length ≤ L)
    (J : ∀ (e : Env) (w' : World) (os : List Nat) (c : Nat), os.length = L + 1 → c ≤ 1 → nval 18446744073709551616 os + 18446744073709551616 ^ B.length * c = T → O64 w' w2.heap.size so os → Ext w2 w' → e 1 = rb → e 5 = so → e 6 = .int .u64 (c : Int) → X 0 e w')
    (e : Env) (w' : World) (os : List Nat) (hol : os.length = L + 1) (hsum : nval 18446744073709551616 os + nval 18446744073709551616 B = T)
    (own : O64 w' w2.heap.size so os) (hB : Ext w2 w') (g1 : e 1 = rb) (g5 : e 5 = so) (g6 : e 6 = .int .u64 0) (g28 : e 28 = .int .i64 (B.length : Int)) (g29 : e 29 = .int .i64 0) :
    vc Tryd.prog (nthLoop Tryd.f74 0) N X R e w' := by
  change vc _ (.loop _) _ _ _ _ _
  refine vc_loop (fun e w' => ∃ (os : List Nat) (c i : Nat), i ≤ B.length ∧ os.length = L + 1 ∧ c ≤ 1 ∧ nval 18446744073709551616 os + 18446744073709551616 ^ i * (c + nval 18446744073709551616 (B.drop i)) = T ∧ O64 w' w2.heap.size so os ∧ Ext w2 w' ∧ e 1 = rb ∧ e 5 = so ∧ e 6 = .int .u64 (c : Int) ∧ e 28 = .int .i64 (B.length : Int) ∧ e 29 = .int .i64 (i : Int)) (fun e _ => B.length - (intOf (e 29)).toNat) ?_ ?_
  · refine ⟨os, 0, 0, Nat.zero_le _, hol, by omega, ?_, own, hB, g1, g5, g6, g28, g29⟩
    rw [List.drop_zero, Nat.pow_zero, Nat.one_mul, Nat.zero_add]
    exact hsum
  · clear hsum own hol hB g1 g5 g6 g28 g29
    clear os e w'
    rintro e w' ⟨os, c, i, hi, hol, hc, hsum, own, hB, g1, g5, g6, g28, g29⟩
    have hmz : (intOf (e 29)).toNat = i := by rw [g29]; rfl
    refine vc_seq fun K1 hK1 => ?_
    refine vc_reg ?_
    try simp only [go_sem, opsV, undef, binV_int, binV_eqB, binV_neB, pbin_int, pbin_eqB, pbin_neB, intV, arith, unV_not, unV_neg, Nat.reduceBEq, Nat.reduceEqDiff, ↓reduceIte, reduceCtorEq, Int.reduceToNat, Nat.reduceLeDiff, Int.reduceLE, Int.reduceLT, Int.reducePow, Int.reduceNeg, Nat.reduceAdd, Nat.reduceMul, Nat.reducePow, Tryd.underlying22, g1, g5, g6, g28, g29]
    refine hK1 _ _ ?_
    clear hK1
    refine vc_seq fun K1 hK1 => ?_
    refine vc_condD (by simp only [go_sem, opsV, undef, binV_int, binV_eqB, binV_neB, pbin_int, pbin_eqB, pbin_neB, intV, arith, unV_not, unV_neg, Nat.reduceBEq, Nat.reduceEqDiff, ↓reduceIte, reduceCtorEq, Int.reduceToNat, Nat.reduceLeDiff, Int.reduceLE, Int.reduceLT, Int.reducePow, Int.reduceNeg, Nat.reduceAdd, Nat.reduceMul, Nat.reducePow, Tryd.underlying22, g1, g5, g6, g28, g29] <;> rfl) (fun ht => ?_) (fun ht => ?_)
    · refine vc_skip ?_
      refine hK1 _ _ ?_
      clear hK1
      refine vc_seq fun K1 hK1 => ?_
      refine vc_block ?_
      refine vc_seq fun K2 hK2 => ?_
      refine vc_reg ?_
      try simp only [go_sem, opsV, undef, binV_int, binV_eqB, binV_neB, pbin_int, pbin_eqB, pbin_neB, intV, arith, unV_not, unV_neg, Nat.reduceBEq, Nat.reduceEqDiff, ↓reduceIte, reduceCtorEq, Int.reduceToNat, Nat.reduceLeDiff, Int.reduceLE, Int.reduceLT, Int.reducePow, Int.reduceNeg, Nat.reduceAdd, Nat.reduceMul, Nat.reducePow, Tryd.underlying22, g1, g5, g6, g28, g29]
      refine hK2 _ _ ?_
      clear hK2
      obtain ⟨ad, hix, hld, hst⟩ := (own.up (ext_drew _)).at T64 S64 (ki := .i64) (i := i) (by omega)
      obtain ⟨bd, hib, hlb⟩ := (hb.up hB).get (k := .i64) (i := i) ht
      refine vc_draw [(0, 0), (1, 0), (2, 0), (3, 0), (4, 0), (5, 1), (6, 0), (7, 0), (8, 0), (9, 1), (10, 0), (11, 3), (12, 0), (13, 0), (14, 0), (15, 0), (16, 3), (17, 0)] (by kernel_rfl) ?_
      try simp only [go_sem, opsV, undef, binV_int, binV_eqB, binV_neB, pbin_int, pbin_eqB, pbin_neB, intV, arith, unV_not, unV_neg, Nat.reduceBEq, Nat.reduceEqDiff, ↓reduceIte, reduceCtorEq, Int.reduceToNat, Nat.reduceLeDiff, Int.reduceLE, Int.reduceLT, Int.reducePow, Int.reduceNeg, Nat.reduceAdd, Nat.reduceMul, Nat.reducePow, Tryd.underlying22, g1, g5, g6, g28, g29]
      refine ⟨ad, hix, _, hld, bd, hib, _, hlb _ (ext_drew _), ?_⟩
      refine add64 (os.getD i 0) (B.getD i 0) c hc ?_
      obtain ⟨w'', h1, h2, h3, h4⟩ := hst ((os.getD i 0 + B.getD i 0 + c) % 18446744073709551616) (mod64 _)
      try simp only [go_sem, opsV, undef, binV_int, binV_eqB, binV_neB, pbin_int, pbin_eqB, pbin_neB, intV, arith, unV_not, unV_neg, Nat.reduceBEq, Nat.reduceEqDiff, ↓reduceIte, reduceCtorEq, Int.reduceToNat, Nat.reduceLeDiff, Int.reduceLE, Int.reduceLT, Int.reducePow, Int.reduceNeg, Nat.reduceAdd, Nat.reduceMul, Nat.reducePow, Tryd.underlying22, g1, g5, g6, g28, g29]
      refine ⟨ad, hix, w'', h1, ?_⟩
      refine hK1 _ _ ?_
      refine vc_reg ?_
      try simp only [go_sem, opsV, undef, binV_int, binV_eqB, binV_neB, pbin_int, pbin_eqB, pbin_neB, intV, arith, unV_not, unV_neg, Nat.reduceBEq, Nat.reduceEqDiff, ↓reduceIte, reduceCtorEq, Int.reduceToNat, Nat.reduceLeDiff, Int.reduceLE, Int.reduceLT, Int.reducePow, Int.reduceNeg, Nat.reduceAdd, Nat.reduceMul, Nat.reducePow, Tryd.underlying22, g1, g5, g6, g28, g29]
      refine ⟨(by unfold R64; omega), ⟨os.set i ((os.getD i 0 + B.getD i 0 + c) % 18446744073709551616), (os.getD i 0 + B.getD i 0 + c) / 18446744073709551616, i + 1, by omega, by rw [List.length_set]; exact hol, ?_, ?_, h2, h4 _ _ hB.drew' (Nat.le_refl _), ?_⟩, ?_⟩
      · have h5 := own.ws.lt (by decide) i
        have h6 := hb.lt (by decide) i
        omega
      · refine add_step (by decide) (by omega) rfl ?_
        rw [← nval_drop ht]; exact hsum
      · try simp only [go_sem, opsV, undef, binV_int, binV_eqB, binV_neB, pbin_int, pbin_eqB, pbin_neB, intV, arith, unV_not, unV_neg, Nat.reduceBEq, Nat.reduceEqDiff, ↓reduceIte, reduceCtorEq, Int.reduceToNat, Nat.reduceLeDiff, Int.reduceLE, Int.reduceLT, Int.reducePow, Int.reduceNeg, Nat.reduceAdd, Nat.reduceMul, Nat.reducePow, Tryd.underlying22, g1, g5, g6, g28, g29]
      · (try rw [hmz])
        simp only [intOf]; omega
    · refine vc_exit ?_
      obtain rfl : i = B.length := by omega
      rw [nval_drop_all (Nat.le_refl _), Nat.add_zero] at hsum
      exact J _ _ os c hol hc hsum own hB (by try simp only [go_sem, opsV, undef, binV_int, binV_eqB, binV_neB, pbin_int, pbin_eqB, pbin_neB, intV, arith, unV_not, unV_neg, Nat.reduceBEq, Nat.reduceEqDiff, ↓reduceIte, reduceCtorEq, Int.reduceToNat, Nat.reduceLeDiff, Int.reduceLE, Int.reduceLT, Int.reducePow, Int.reduceNeg, Nat.reduceAdd, Nat.reduceMul, Nat.reducePow, Tryd.underlying22, g1, g5, g6, g28, g29]) (by try simp only [go_sem, opsV, undef, binV_int, binV_eqB, binV_neB, pbin_int, pbin_eqB, pbin_neB, intV, arith, unV_not, unV_neg, Nat.reduceBEq, Nat.reduceEqDiff, ↓reduceIte, reduceCtorEq, Int.reduceToNat, Nat.reduceLeDiff, Int.reduceLE, Int.reduceLT, Int.reducePow, Int.reduceNeg, Nat.reduceAdd, Nat.reduceMul, Nat.reducePow, Tryd.underlying22, g1, g5, g6, g28, g29]) (by try simp only [go_sem, opsV, undef, binV_int, binV_eqB, binV_neB, pbin_int, pbin_eqB, pbin_neB, intV, arith, unV_not, unV_neg, Nat.reduceBEq, Nat.reduceEqDiff, ↓reduceIte, reduceCtorEq, Int.reduceToNat, Nat.reduceLeDiff, Int.reduceLE, Int.reduceLT, Int.reducePow, Int.reduceNeg, Nat.reduceAdd, Nat.reduceMul, Nat.reducePow, Tryd.underlying22, g1, g5, g6, g28, g29])

set_option maxHeartbeats 1000000 in
theorem nat_Add {w : World} {va vb : Value} {xs ys : List Nat} (hx : U64s w.heap va xs) (hy : U64s w.heap vb ys) (hlx : xs.length ≤ 1099511627776) (hly : ys.length ≤ 1099511627776) :
    FC Tryd.prog 74 #[va, vb] w fun r w' => Ext w w' ∧ O64 w' w.heap.size r (D64 (N64 xs + N64 ys)) := by
  have hda := digs_le hx.2
  have hdb := digs_le hy.2
  refine FC.body (l := [va, vb]) (rs := [.tmp 4]) mixed Tryd.func74 rfl (by kernel_rfl) (by kernel_rfl) (Nat.le_of_ble_eq_true rfl) rfl ?_
  with_reducible refine vc_seq fun K hK => ?_
  with_reducible refine vc_reg ?_
  simp only [go_sem, opsV, undef, binV_int, binV_eqB, binV_neB, pbin_int, pbin_eqB, pbin_neB, intV, arith, unV_not, unV_neg, Nat.reduceBEq, Nat.reduceEqDiff, ↓reduceIte, reduceCtorEq, Int.reduceToNat, Nat.reduceLeDiff, Int.reduceLE, Int.reduceLT, Int.reducePow, Int.reduceNeg, Nat.reduceAdd, Nat.reduceMul, Nat.reducePow, Tryd.underlying22]
  refine hK _ _ ?_
  clear hK K
  with_reducible refine vc_scope ?_
  with_reducible refine vc_seq fun K hK => ?_
  refine vc_reg ?_
  try simp only [go_sem, opsV, undef, binV_int, binV_eqB, binV_neB, pbin_int, pbin_eqB, pbin_neB, intV, arith, unV_not, unV_neg, Nat.reduceBEq, Nat.reduceEqDiff, ↓reduceIte, reduceCtorEq, Int.reduceToNat, Nat.reduceLeDiff, Int.reduceLE, Int.reduceLT, Int.reducePow, Int.reduceNeg, Nat.reduceAdd, Nat.reduceMul, Nat.reducePow, Tryd.underlying22]
  refine (nat_cut hx).mono ?_
  rintro ra w1 ⟨hE1, hra, ha⟩
  try simp only [go_sem, opsV, undef, binV_int, binV_eqB, binV_neB, pbin_int, pbin_eqB, pbin_neB, intV, arith, unV_not, unV_neg, Nat.reduceBEq, Nat.reduceEqDiff, ↓reduceIte, reduceCtorEq, Int.reduceToNat, Nat.reduceLeDiff, Int.reduceLE, Int.reduceLT, Int.reducePow, Int.reduceNeg, Nat.reduceAdd, Nat.reduceMul, Nat.reducePow, Tryd.underlying22]
  refine (nat_cut (hy.up hE1)).mono ?_
  rintro rb w2 ⟨hE2, hrb, hb⟩
  have ha := ha.up hE2
  have hE := hE1.trans' hE2
  clear hra hrb
  try simp only [go_sem, opsV, undef, binV_int, binV_eqB, binV_neB, pbin_int, pbin_eqB, pbin_neB, intV, arith, unV_not, unV_neg, Nat.reduceBEq, Nat.reduceEqDiff, ↓reduceIte, reduceCtorEq, Int.reduceToNat, Nat.reduceLeDiff, Int.reduceLE, Int.reduceLT, Int.reducePow, Int.reduceNeg, Nat.reduceAdd, Nat.reduceMul, Nat.reducePow, Tryd.underlying22]
  refine hK _ _ ?_
  clear hK K
  with_reducible refine vc_seq fun K hK => ?_
  have hnA : N64 (D64 (N64 xs)) = N64 xs := nval_digs two64 _
  have hnB : N64 (D64 (N64 ys)) = N64 ys := nval_digs two64 _
  have J : ∀ (e : Env) (ra rb : Value) (A B : List Nat), e 0 = ra → e 1 = rb → U64s w2.heap ra A → U64s w2.heap rb B → B.length ≤ A.length → A.length ≤ 1099511627776 → N64 A + N64 B = N64 xs + N64 ys → K e w2 := by
    clear hnA hnB
    intro e ra rb A B h0 h1 ha hb hle hlA hT
    refine hK _ _ ?_
    clear hK K
    with_reducible refine vc_seq fun K hK => ?_
    refine vc_reg ?_
    try simp only [go_sem, opsV, undef, binV_int, binV_eqB, binV_neB, pbin_int, pbin_eqB, pbin_neB, intV, arith, unV_not, unV_neg, Nat.reduceBEq, Nat.reduceEqDiff, ↓reduceIte, reduceCtorEq, Int.reduceToNat, Nat.reduceLeDiff, Int.reduceLE, Int.reduceLT, Int.reducePow, Int.reduceNeg, Nat.reduceAdd, Nat.reduceMul, Nat.reducePow, Tryd.underlying22, h0, h1]
    refine ⟨_, ha.len, (by unfold R64; omega), ?_⟩
    obtain ⟨b, w3, hmk, hnew⟩ := make_any (w := w2) T64 (kl := .i64) (kc := .i64) (n := A.length + 1) (by omega) (by omega)
    refine ⟨_, w3, hmk, ?_⟩
    refine hK _ _ ?_
    clear hK K
    have hB2 : Below w2.heap.size w2 w3 := hnew.ext
    have hrow := hnew.row
    rw [show (Value.int .u64 0).cells = #[.int .u64 0] from rfl, Nat.mul_one, toList_madeCells_one] at hrow
    with_reducible refine vc_seq fun K hK => ?_
    refine vc_reg ?_
    try simp only [go_sem, opsV, undef, binV_int, binV_eqB, binV_neB, pbin_int, pbin_eqB, pbin_neB, intV, arith, unV_not, unV_neg, Nat.reduceBEq, Nat.reduceEqDiff, ↓reduceIte, reduceCtorEq, Int.reduceToNat, Nat.reduceLeDiff, Int.reduceLE, Int.reduceLT, Int.reducePow, Int.reduceNeg, Nat.reduceAdd, Nat.reduceMul, Nat.reducePow, Tryd.underlying22, h0, h1]
    obtain ⟨w4, hcp, hrow4, hup4⟩ := copy_row (P := Tryd.prog) (w := w3) T64 (off := 0) (n := A.length + 1) (cap := A.length + 1) hrow (ha.up hB2).1 (by simp <;> omega) (fun j _ => rfl) (t' := 22) rfl (ty := 3)
    refine ⟨_, w4, hcp, ?_⟩
    refine hK _ _ ?_
    clear hK K
    have own : O64 w4 w2.heap.size (.slice (some ⟨b, 0, none⟩) (A.length + 1) (A.length + 1)) (A ++ [0]) := by
      have := own_row (w := w4) hrow4 (n := A.length + 1) (cap := A.length + 1) (by simp <;> omega) (Nat.le_refl _) (by omega)
      have e : (((List.replicate (A.length + 1) (Value.int .u64 0)).take 0 ++ (List.range (min A.length (A.length + 1))).map (fun j => Value.int .u64 ((A.getD j 0 : Nat) : Int)) ++ (List.replicate (A.length + 1) (Value.int .u64 0)).drop (0 + min A.length (A.length + 1))).take (A.length + 1)) = wc .u64 (A ++ [0]) := by
        have e1 := wc_range .u64 A
        rw [Nat.mul_one] at e1
        rw [Nat.min_eq_left (Nat.le_succ _), e1, List.take_of_length_le (by simp [wc])]
        simp [wc]
      rw [e] at this
      refine ⟨own_base (by simpa using this) hnew.fresh, ?_, by simp; omega⟩
      intro x hx
      rcases List.mem_append.1 hx with h | h
      · exact ha.2 x h
      · simp at h; omega
    have hB4 : Below w2.heap.size w2 w4 := Upd.below hB2 hup4 hnew.fresh
    have hS4 : w2.heap.size ≤ w4.heap.size := hB4.size
    clear hrow hrow4 hup4 hcp hmk hnew hB2
    obtain ⟨so, hso⟩ : ∃ so, so = Value.slice (some ⟨b, 0, none⟩) (A.length + 1) (A.length + 1) := ⟨_, rfl⟩
    rw [← hso] at own
    with_reducible refine vc_seq fun K hK => ?_
    with_reducible refine vc_reg ?_
    simp only [go_sem, opsV, undef, binV_int, binV_eqB, binV_neB, pbin_int, pbin_eqB, pbin_neB, intV, arith, unV_not, unV_neg, Nat.reduceBEq, Nat.reduceEqDiff, ↓reduceIte, reduceCtorEq, Int.reduceToNat, Nat.reduceLeDiff, Int.reduceLE, Int.reduceLT, Int.reducePow, Int.reduceNeg, Nat.reduceAdd, Nat.reduceMul, Nat.reducePow, Tryd.underlying22, h0, h1, ← hso]
    refine hK _ _ ?_
    clear hK K
    with_reducible refine vc_seq fun K hK => ?_
    with_reducible refine vc_seq fun K hK => ?_
    refine vc_reg ?_
    try simp only [go_sem, opsV, undef, binV_int, binV_eqB, binV_neB, pbin_int, pbin_eqB, pbin_neB, intV, arith, unV_not, unV_neg, Nat.reduceBEq, Nat.reduceEqDiff, ↓reduceIte, reduceCtorEq, Int.reduceToNat, Nat.reduceLeDiff, Int.reduceLE, Int.reduceLT, Int.reducePow, Int.reduceNeg, Nat.reduceAdd, Nat.reduceMul, Nat.reducePow, Tryd.underlying22, h0, h1, ← hso]
    refine ⟨_, hb.len, ?_⟩
    refine hK _ _ ?_
    clear hK K
    -- the second loop and what follows
    have J2 : ∀ (e : Env) (w' : World) (os : List Nat) (c : Nat), os.length = A.length + 1 → c ≤ 1 → nval 18446744073709551616 os + 18446744073709551616 ^ B.length * c = N64 xs + N64 ys →
        O64 w' w2.heap.size so os → Ext w2 w' →
        e 1 = rb → e 5 = so → e 6 = .int .u64 (c : Int) → K e w' := by
      intro e w' os c hol hc hsum own hB g1 g5 g6
      have hb' := hb.up hB
      refine hK _ _ ?_
      clear hK K
      with_reducible refine vc_seq fun K hK => ?_
      with_reducible refine vc_label ?_
      refine hK _ _ ?_
      clear hK K
      with_reducible refine vc_seq fun K hK => ?_
      with_reducible refine vc_seq fun K hK => ?_
      with_reducible refine vc_reg ?_
      try simp only [go_sem, opsV, undef, binV_int, binV_eqB, binV_neB, pbin_int, pbin_eqB, pbin_neB, intV, arith, unV_not, unV_neg, Nat.reduceBEq, Nat.reduceEqDiff, ↓reduceIte, reduceCtorEq, Int.reduceToNat, Nat.reduceLeDiff, Int.reduceLE, Int.reduceLT, Int.reducePow, Int.reduceNeg, Nat.reduceAdd, Nat.reduceMul, Nat.reducePow, Tryd.underlying22, g1, g5, g6]
      refine ⟨_, hb'.len, ?_⟩
      refine hK _ _ ?_
      clear hK K
      have J3 : ∀ (e : Env) (w' : World) (os : List Nat), N64 os = N64 xs + N64 ys →
          O64 w' w2.heap.size so os → Ext w2 w' → e 5 = so → K e w' := by
        intro e w' os hsum own hB g5
        refine hK _ _ ?_
        clear hK K
        with_reducible refine vc_seq fun K hK => ?_
        with_reducible refine vc_reg ?_
        try simp only [go_sem, opsV, undef, binV_int, binV_eqB, binV_neB, pbin_int, pbin_eqB, pbin_neB, intV, arith, unV_not, unV_neg, Nat.reduceBEq, Nat.reduceEqDiff, ↓reduceIte, reduceCtorEq, Int.reduceToNat, Nat.reduceLeDiff, Int.reduceLE, Int.reduceLT, Int.reducePow, Int.reduceNeg, Nat.reduceAdd, Nat.reduceMul, Nat.reducePow, g5]
        refine (nat_cut own.ws).mono ?_
        rintro r w5 ⟨hE5, rfl, hr⟩
        try simp only [go_sem, opsV, undef, binV_int, binV_eqB, binV_neB, pbin_int, pbin_eqB, pbin_neB, intV, arith, unV_not, unV_neg, Nat.reduceBEq, Nat.reduceEqDiff, ↓reduceIte, reduceCtorEq, Int.reduceToNat, Nat.reduceLeDiff, Int.reduceLE, Int.reduceLT, Int.reducePow, Int.reduceNeg, Nat.reduceAdd, Nat.reduceMul, Nat.reducePow, g5]
        refine hK _ _ ?_
        clear hK K
        refine vc_ret ?_
        simp only [retV, resL, one, go_sem, opsV, undef, binV_int, binV_eqB, binV_neB, pbin_int, pbin_eqB, pbin_neB, intV, arith, unV_not, unV_neg, Nat.reduceBEq, Nat.reduceEqDiff, ↓reduceIte, reduceCtorEq, Int.reduceToNat, Nat.reduceLeDiff, Int.reduceLE, Int.reduceLT, Int.reducePow, Int.reduceNeg, Nat.reduceAdd, Nat.reduceMul, Nat.reducePow, g5]
        have o2 := (own.digs two64).up hE5
        rw [show nval 18446744073709551616 os = N64 xs + N64 ys from hsum] at o2
        rw [show N64 os = N64 xs + N64 ys from hsum]
        exact ⟨(hE.trans' hB).trans' hE5, o2.base hE.size⟩
      have hTlt : N64 xs + N64 ys < 18446744073709551616 ^ (A.length + 1) := by
        have h1 := nval_lt (B := 18446744073709551616) (by decide) A ha.2
        have h2 := nval_lt (B := 18446744073709551616) (by decide) B hb.2
        have h3 : (18446744073709551616 : Nat) ^ B.length ≤ 18446744073709551616 ^ A.length := Nat.pow_le_pow_right (by decide) hle
        rw [← hT, Nat.pow_succ]
        show nval _ A + nval _ B < _
        omega
      refine vc_block ?_
      refine nat_Add_l1 (so := so) hTlt hlA (fun e w' os h1 h2 h3 h4 => ?_) _ w' os c B.length (by omega) hol hc hsum own hB ?_ ?_ ?_
      · simp only [↓reduceIte]
        exact J3 e w' os h1 h2 h3 h4
      · try simp only [go_sem, opsV, undef, binV_int, binV_eqB, binV_neB, pbin_int, pbin_eqB, pbin_neB, intV, arith, unV_not, unV_neg, Nat.reduceBEq, Nat.reduceEqDiff, ↓reduceIte, reduceCtorEq, Int.reduceToNat, Nat.reduceLeDiff, Int.reduceLE, Int.reduceLT, Int.reducePow, Int.reduceNeg, Nat.reduceAdd, Nat.reduceMul, Nat.reducePow, Tryd.underlying22, g1, g5, g6]
      · try simp only [go_sem, opsV, undef, binV_int, binV_eqB, binV_neB, pbin_int, pbin_eqB, pbin_neB, intV, arith, unV_not, unV_neg, Nat.reduceBEq, Nat.reduceEqDiff, ↓reduceIte, reduceCtorEq, Int.reduceToNat, Nat.reduceLeDiff, Int.reduceLE, Int.reduceLT, Int.reducePow, Int.reduceNeg, Nat.reduceAdd, Nat.reduceMul, Nat.reducePow, Tryd.underlying22, g1, g5, g6]
      · try simp only [go_sem, opsV, undef, binV_int, binV_eqB, binV_neB, pbin_int, pbin_eqB, pbin_neB, intV, arith, unV_not, unV_neg, Nat.reduceBEq, Nat.reduceEqDiff, ↓reduceIte, reduceCtorEq, Int.reduceToNat, Nat.reduceLeDiff, Int.reduceLE, Int.reduceLT, Int.reducePow, Int.reduceNeg, Nat.reduceAdd, Nat.reduceMul, Nat.reducePow, Tryd.underlying22, g1, g5, g6]
    refine vc_block ?_
    refine nat_Add_l0 (so := so) hb hlA hle (T := N64 xs + N64 ys) (fun e w' os c h1 h2 h3 h4 h5 h6 h7 h8 => ?_) _ w4 (A ++ [0]) (by simp) ?_ own hB4 ?_ ?_ ?_ ?_ ?_
    · simp only [↓reduceIte]
      exact J2 e w' os c h1 h2 h3 h4 h5 h6 h7 h8
    · rw [nval_append]
      simp only [nval, Nat.mul_zero, Nat.add_zero]
      exact hT
    · try simp only [go_sem, opsV, undef, binV_int, binV_eqB, binV_neB, pbin_int, pbin_eqB, pbin_neB, intV, arith, unV_not, unV_neg, Nat.reduceBEq, Nat.reduceEqDiff, ↓reduceIte, reduceCtorEq, Int.reduceToNat, Nat.reduceLeDiff, Int.reduceLE, Int.reduceLT, Int.reducePow, Int.reduceNeg, Nat.reduceAdd, Nat.reduceMul, Nat.reducePow, Tryd.underlying22, h0, h1, ← hso]
    · try simp only [go_sem, opsV, undef, binV_int, binV_eqB, binV_neB, pbin_int, pbin_eqB, pbin_neB, intV, arith, unV_not, unV_neg, Nat.reduceBEq, Nat.reduceEqDiff, ↓reduceIte, reduceCtorEq, Int.reduceToNat, Nat.reduceLeDiff, Int.reduceLE, Int.reduceLT, Int.reducePow, Int.reduceNeg, Nat.reduceAdd, Nat.reduceMul, Nat.reducePow, Tryd.underlying22, h0, h1, ← hso]
    · try simp only [go_sem, opsV, undef, binV_int, binV_eqB, binV_neB, pbin_int, pbin_eqB, pbin_neB, intV, arith, unV_not, unV_neg, Nat.reduceBEq, Nat.reduceEqDiff, ↓reduceIte, reduceCtorEq, Int.reduceToNat, Nat.reduceLeDiff, Int.reduceLE, Int.reduceLT, Int.reducePow, Int.reduceNeg, Nat.reduceAdd, Nat.reduceMul, Nat.reducePow, Tryd.underlying22, h0, h1, ← hso]
    · try simp only [go_sem, opsV, undef, binV_int, binV_eqB, binV_neB, pbin_int, pbin_eqB, pbin_neB, intV, arith, unV_not, unV_neg, Nat.reduceBEq, Nat.reduceEqDiff, ↓reduceIte, reduceCtorEq, Int.reduceToNat, Nat.reduceLeDiff, Int.reduceLE, Int.reduceLT, Int.reducePow, Int.reduceNeg, Nat.reduceAdd, Nat.reduceMul, Nat.reducePow, Tryd.underlying22, h0, h1, ← hso]
    · try simp only [go_sem, opsV, undef, binV_int, binV_eqB, binV_neB, pbin_int, pbin_eqB, pbin_neB, intV, arith, unV_not, unV_neg, Nat.reduceBEq, Nat.reduceEqDiff, ↓reduceIte, reduceCtorEq, Int.reduceToNat, Nat.reduceLeDiff, Int.reduceLE, Int.reduceLT, Int.reducePow, Int.reduceNeg, Nat.reduceAdd, Nat.reduceMul, Nat.reducePow, Tryd.underlying22, h0, h1, ← hso]
  with_reducible refine vc_seq fun K hK => ?_
  with_reducible refine vc_reg ?_
  try simp only [go_sem, opsV, undef, binV_int, binV_eqB, binV_neB, pbin_int, pbin_eqB, pbin_neB, intV, arith, unV_not, unV_neg, Nat.reduceBEq, Nat.reduceEqDiff, ↓reduceIte, reduceCtorEq, Int.reduceToNat, Nat.reduceLeDiff, Int.reduceLE, Int.reduceLT, Int.reducePow, Int.reduceNeg, Nat.reduceAdd, Nat.reduceMul, Nat.reducePow, Tryd.underlying22]
  refine ⟨_, ha.len, _, hb.len, ?_⟩
  refine hK _ _ ?_
  clear hK K
  refine vc_condD (by simp only [go_sem, opsV, undef, binV_int, binV_eqB, binV_neB, pbin_int, pbin_eqB, pbin_neB, intV, arith, unV_not, unV_neg, Nat.reduceBEq, Nat.reduceEqDiff, ↓reduceIte, reduceCtorEq, Int.reduceToNat, Nat.reduceLeDiff, Int.reduceLE, Int.reduceLT, Int.reducePow, Int.reduceNeg, Nat.reduceAdd, Nat.reduceMul, Nat.reducePow, Tryd.underlying22] <;> rfl) (fun ht => ?_) (fun ht => ?_)
  · refine vc_reg ?_
    try simp only [go_sem, opsV, undef, binV_int, binV_eqB, binV_neB, pbin_int, pbin_eqB, pbin_neB, intV, arith, unV_not, unV_neg, Nat.reduceBEq, Nat.reduceEqDiff, ↓reduceIte, reduceCtorEq, Int.reduceToNat, Nat.reduceLeDiff, Int.reduceLE, Int.reduceLT, Int.reducePow, Int.reduceNeg, Nat.reduceAdd, Nat.reduceMul, Nat.reducePow, Tryd.underlying22]
    refine J _ rb ra _ _ (by try simp only [go_sem, opsV, undef, binV_int, binV_eqB, binV_neB, pbin_int, pbin_eqB, pbin_neB, intV, arith, unV_not, unV_neg, Nat.reduceBEq, Nat.reduceEqDiff, ↓reduceIte, reduceCtorEq, Int.reduceToNat, Nat.reduceLeDiff, Int.reduceLE, Int.reduceLT, Int.reducePow, Int.reduceNeg, Nat.reduceAdd, Nat.reduceMul, Nat.reducePow, Tryd.underlying22]) (by try simp only [go_sem, opsV, undef, binV_int, binV_eqB, binV_neB, pbin_int, pbin_eqB, pbin_neB, intV, arith, unV_not, unV_neg, Nat.reduceBEq, Nat.reduceEqDiff, ↓reduceIte, reduceCtorEq, Int.reduceToNat, Nat.reduceLeDiff, Int.reduceLE, Int.reduceLT, Int.reducePow, Int.reduceNeg, Nat.reduceAdd, Nat.reduceMul, Nat.reducePow, Tryd.underlying22]) hb ha (by omega) (by omega) (by rw [hnA, hnB, Nat.add_comm])
  · refine vc_skip ?_
    refine J _ ra rb _ _ (by try simp only [go_sem, opsV, undef, binV_int, binV_eqB, binV_neB, pbin_int, pbin_eqB, pbin_neB, intV, arith, unV_not, unV_neg, Nat.reduceBEq, Nat.reduceEqDiff, ↓reduceIte, reduceCtorEq, Int.reduceToNat, Nat.reduceLeDiff, Int.reduceLE, Int.reduceLT, Int.reducePow, Int.reduceNeg, Nat.reduceAdd, Nat.reduceMul, Nat.reducePow, Tryd.underlying22]) (by try simp only [go_sem, opsV, undef, binV_int, binV_eqB, binV_neB, pbin_int, pbin_eqB, pbin_neB, intV, arith, unV_not, unV_neg, Nat.reduceBEq, Nat.reduceEqDiff, ↓reduceIte, reduceCtorEq, Int.reduceToNat, Nat.reduceLeDiff, Int.reduceLE, Int.reduceLT, Int.reducePow, Int.reduceNeg, Nat.reduceAdd, Nat.reduceMul, Nat.reducePow, Tryd.underlying22]) ha hb (by omega) (by omega) (by rw [hnA, hnB])

end Go.V

/- The walks of package nat: cut, Right, Trim, Bits, Zeros, Cmp. -/
import Derived.Test.YtkmoeenhboicmaaDoorL
import Derived.Test.YtkmoeenhboicmaaDoorD2
set_option linter.unusedSimpArgs false
set_option linter.unusedVariables false
set_option maxRecDepth 100000
namespace Go.V
open Go Go.RowKit Go.Proofs

theorem T64 : SlT Tryd.prog 22 54 1 8 (.int .u64 0) := ⟨Tryd.underlying22, by kernel_rfl⟩
theorem S64 : scalB Tryd.prog 54 = true := by kernel_rfl

/-- A slice of words. -/
def Ws (k : IntKind) (B : Nat) (H : Array Obj) (v : Value) (xs : List Nat) : Prop := Sl H v xs.length 1 (fun j => .int k ((xs.getD j 0 : Nat) : Int)) ∧ ∀ x ∈ xs, x < B
abbrev U64s (H : Array Obj) (v : Value) (xs : List Nat) : Prop := Ws .u64 18446744073709551616 H v xs
abbrev N64 (xs : List Nat) : Nat := nval 18446744073709551616 xs
abbrev D64 (n : Nat) : List Nat := digs 18446744073709551616 n
theorem Ws.up {k : IntKind} {B : Nat} {w w' : World} {v : Value} {xs : List Nat} (h : Ws k B w.heap v xs) (hE : Ext w w') : Ws k B w'.heap v xs := ⟨h.1.up hE, h.2⟩
theorem Ws.len {k : IntKind} {B : Nat} {H : Array Obj} {v : Value} {xs : List Nat} (h : Ws k B H v xs) : LenIs v xs.length := h.1.len
theorem Ws.lt {k : IntKind} {B : Nat} {H : Array Obj} {v : Value} {xs : List Nat} (h : Ws k B H v xs) (hB : 0 < B) (i : Nat) : xs.getD i 0 < B := by
  by_cases hi : i < xs.length
  · simp only [List.getD, List.getElem?_eq_getElem hi, Option.getD_some]; exact h.2 _ (List.getElem_mem hi)
  · simp only [List.getD, List.getElem?_eq_none (Nat.le_of_not_lt hi), Option.getD_none]; exact hB
theorem two64 : 2 ≤ 18446744073709551616 := by decide

theorem Ws.get {w : World} {v : Value} {xs : List Nat} (h : U64s w.heap v xs) {k : IntKind} {i : Nat} (h1 : i < xs.length) :
    ∃ ad, IxA Tryd.prog 22 v (.int k (i : Int)) ad ∧ ∀ w', Ext w w' → Ld Tryd.prog w' 54 (.pointer (some ad)) (.int .u64 ((xs.getD i 0 : Nat) : Int)) := by
  obtain ⟨ad, h2, h3⟩ := h.1.get T64 S64 (k := k) (i := i) (by omega) (by omega)
  exact ⟨ad, h2, h3⟩

/-- A slice of the same words cut at m. -/
theorem Ws.take {k : IntKind} {B : Nat} {H : Array Obj} {v : Value} {xs : List Nat} (h : Ws k B H v xs) {m : Nat} (hm : m ≤ xs.length) : Ws k B H (resl v m) (xs.take m) := by
  refine ⟨?_, fun x hx => h.2 x (List.mem_of_mem_take hx)⟩
  rw [List.length_take, Nat.min_eq_left hm]
  refine (h.1.take hm).congr fun j hj => ?_
  simp only [List.getD, List.getElem?_take]
  rw [if_pos (by omega)]
theorem Ws.takeC {k : IntKind} {B : Nat} {H : Array Obj} {v : Value} {xs : List Nat} (h : Ws k B H v xs) {m : Nat} (hm : m ≤ xs.length) : Ws k B H (reslC v m) (xs.take m) := by
  refine ⟨?_, fun x hx => h.2 x (List.mem_of_mem_take hx)⟩
  rw [List.length_take, Nat.min_eq_left hm]
  refine (h.1.takeC hm).congr fun j hj => ?_
  simp only [List.getD, List.getElem?_take]
  rw [if_pos (by omega)]


set_option maxHeartbeats 400000 in
theorem nat_cut {w : World} {v : Value} {xs : List Nat} (h : U64s w.heap v xs) : FC Tryd.prog 64 #[v] w fun r w' => Ext w w' ∧ r = resl v (D64 (N64 xs)).length ∧ U64s w'.heap r (D64 (N64 xs)) := by
  have hb := h.1.1
  refine FC.body (l := [v]) (rs := [.tmp 2]) mixed Tryd.func64 rfl (by kernel_rfl) (by kernel_rfl) (Nat.le_of_ble_eq_true rfl) rfl ?_
  with_reducible refine vc_seq fun K hK => ?_
  with_reducible refine vc_reg ?_
  simp only [opsV, dV, modeV, pureV, guardV, undef, opV, callV, intV, arith, ne_eq, Nat.min_def, vsB, seval, Tryd.underlying22]
  refine hK _ _ ?_
  clear hK K
  refine vc_seq fun K hK => ?_
  refine vc_reg ?_
  try simp only [opsV, dV, modeV, pureV, guardV, undef, opV, callV, intV, arith, ne_eq, Nat.min_def, vsB, seval, Tryd.underlying22]
  refine ⟨_, h.len, ?_⟩
  refine hK _ _ ?_
  clear hK K
  refine vc_seq fun K hK => ?_
  have J : ∀ (e : Env) (w' : World) (k : Nat), k ≤ xs.length → e 0 = v → e 3 = .int .i64 (k : Int) → Ext w w' → (∀ j, k ≤ j → xs.getD j 0 = 0) → (k ≠ 0 → xs.getD (k - 1) 0 ≠ 0) → K e w' := by
    intro e w' k hk h0 h3 hE hz hnz
    refine hK _ _ ?_
    clear hK K
    with_reducible refine vc_seq fun K hK => ?_
    with_reducible refine vc_reg ?_
    simp only [opsV, dV, modeV, pureV, guardV, undef, opV, callV, intV, arith, ne_eq, Nat.min_def, vsB, seval, Tryd.underlying22]
    simp only [h0, h3]
    have ht : xs.take k = D64 (N64 xs) := take_digs two64 h.2 hk hz hnz
    have hl : (D64 (N64 xs)).length = k := by rw [← ht]; simp; omega
    refine ⟨_, sl_cut T64 h.1 hk, ?_⟩
    refine hK _ _ ?_
    clear hK K
    refine vc_ret ?_
    simp only [retV, resL, one, opsV, dV, modeV, pureV, guardV, undef, opV, callV, intV, arith, ne_eq, Nat.min_def, vsB, seval, Tryd.underlying22]
    rw [hl]
    refine ⟨hE, rfl, ?_⟩
    rw [← ht]
    exact (h.take hk).up hE
  refine vc_block ?_
  refine vc_loop (fun e w' => ∃ k : Nat, k ≤ xs.length ∧ e 0 = v ∧ e 3 = .int .i64 (k : Int) ∧ Ext w w' ∧ ∀ j, k ≤ j → xs.getD j 0 = 0) (fun e _ => (intOf (e 3)).toNat) ?_ ?_
  · refine ⟨xs.length, Nat.le_refl _, ?_, ?_, Ext.refl _, fun j hj => ?_⟩
    · simp only [opsV, dV, modeV, pureV, guardV, undef, opV, callV, intV, arith, ne_eq, Nat.min_def, vsB, seval, Tryd.underlying22]
    · simp only [opsV, dV, modeV, pureV, guardV, undef, opV, callV, intV, arith, ne_eq, Nat.min_def, vsB, seval, Tryd.underlying22]
    · simp [List.getD, List.getElem?_eq_none hj]
  · rintro e w' ⟨k, hk, h0, h3, hE, hz⟩
    have hmz : (intOf (e 3)).toNat = k := by rw [h3]; rfl
    refine vc_seq fun K1 hK1 => ?_
    refine vc_seq fun K2 hK2 => ?_
    rcases Nat.eq_zero_or_pos k with rfl | hp
    · refine vc_reg ?_
      simp only [opsV, dV, modeV, pureV, guardV, undef, opV, callV, intV, arith, ne_eq, Nat.min_def, vsB, seval, Tryd.underlying22, h0, h3, Nat.lt_irrefl]
      refine hK2 _ _ ?_
      refine vc_condF (by simp only [opsV, dV, modeV, pureV, guardV, undef, opV, callV, intV, arith, ne_eq, Nat.min_def, vsB, seval, Tryd.underlying22] <;> rfl) ?_
      refine vc_exit ?_
      simp only [↓reduceIte]
      exact J _ _ 0 (Nat.zero_le _) (by simp only [opsV, dV, modeV, pureV, guardV, undef, opV, callV, intV, arith, ne_eq, Nat.min_def, vsB, seval, Tryd.underlying22, h0]) (by simp only [opsV, dV, modeV, pureV, guardV, undef, opV, callV, intV, arith, ne_eq, Nat.min_def, vsB, seval, Tryd.underlying22, h3] <;> rfl) hE hz (fun h => absurd rfl h)
    · obtain ⟨m, rfl⟩ : ∃ m, k = m + 1 := ⟨k - 1, by omega⟩
      obtain ⟨ad, ha, hld⟩ := h.get (k := .i64) (i := m) (by omega)
      refine vc_reg ?_
      simp only [opsV, dV, modeV, pureV, guardV, undef, opV, callV, intV, arith, ne_eq, Nat.min_def, vsB, seval, Tryd.underlying22, h0, h3, hp]
      refine ⟨(by unfold R64; omega), ad, ha, _, hld _ hE, ?_⟩
      simp only [opsV, dV, modeV, pureV, guardV, undef, opV, callV, intV, arith, ne_eq, Nat.min_def, vsB, seval, Tryd.underlying22]
      refine hK2 _ _ ?_
      clear hK2
      refine vc_condD (by simp only [opsV, dV, modeV, pureV, guardV, undef, opV, callV, intV, arith, ne_eq, Nat.min_def, vsB, seval, Tryd.underlying22] <;> rfl) (fun hx => ?_) (fun hx => ?_)
      · refine vc_skip ?_
        refine hK1 _ _ ?_
        refine vc_block ?_
        refine vc_reg ?_
        simp only [opsV, dV, modeV, pureV, guardV, undef, opV, callV, intV, arith, ne_eq, Nat.min_def, vsB, seval, Tryd.underlying22, h0, h3]
        refine ⟨(by unfold R64; omega), ⟨m, by omega, rfl, hE, fun j hj => ?_⟩, by simp only [intOf]; omega⟩
        rcases Nat.lt_or_ge m j with hj' | hj'
        · exact hz j hj'
        · obtain rfl : j = m := by omega
          exact hx
      · refine vc_exit ?_
        simp only [↓reduceIte]
        exact J _ _ (m + 1) hk (by simp only [opsV, dV, modeV, pureV, guardV, undef, opV, callV, intV, arith, ne_eq, Nat.min_def, vsB, seval, Tryd.underlying22, h0]) (by simp only [opsV, dV, modeV, pureV, guardV, undef, opV, callV, intV, arith, ne_eq, Nat.min_def, vsB, seval, Tryd.underlying22, h3]) hE hz (fun _ => by simpa using hx)

theorem digs_le {xs : List Nat} (h : ∀ x ∈ xs, x < 18446744073709551616) : (D64 (N64 xs)).length ≤ xs.length := digs_len_le two64 (nval_lt (by decide) xs h)

theorem nat_Right {w : World} {v : Value} {xs : List Nat} (h : U64s w.heap v xs) : FC Tryd.prog 43 #[v] w fun r w' => Ext w w' ∧ r = .bool (decide ((D64 (N64 xs)).length = xs.length)) := by
  refine FC.body (l := [v]) (rs := [.tmp 2]) mixed Tryd.func43 rfl (by kernel_rfl) (by kernel_rfl) (Nat.le_of_ble_eq_true rfl) rfl ?_
  repeat (first
    | (with_reducible refine vc_seq fun K hK => ?_)
    | (with_reducible refine vc_reg ?_)
    | (with_reducible refine vc_skip ?_)
    | (with_reducible refine vc_block ?_)
    | (with_reducible refine vc_scope ?_)
    | (with_reducible refine vc_label ?_)
    | (with_reducible refine vc_condT ?_ ?_; · simp only [opsV, dV, modeV, pureV, guardV, undef, opV, callV, intV, arith, ne_eq, Nat.min_def, vsB, seval, Tryd.underlying22] <;> rfl)
    | (with_reducible refine vc_condF ?_ ?_; · simp only [opsV, dV, modeV, pureV, guardV, undef, opV, callV, intV, arith, ne_eq, Nat.min_def, vsB, seval, Tryd.underlying22] <;> rfl)
    | (with_reducible refine vc_exit ?_; simp only [↓reduceIte, Nat.reduceEqDiff])
    | (with_reducible refine vc_ret ?_; simp only [retV, resL, one])
    | (with_reducible refine hK _ _ ?_; clear hK)
    | (clear hK; with_reducible refine hK _ _ ?_; clear hK)
    | (clear hK; clear hK; with_reducible refine hK _ _ ?_; clear hK)
    | (simp only [opsV, dV, modeV, pureV, guardV, undef, opV, callV, intV, arith, ne_eq, Nat.min_def, vsB, seval, Tryd.underlying22]))
  refine (nat_cut h).mono ?_
  rintro r w1 ⟨hE, rfl, hr⟩
  try simp only [opsV, dV, modeV, pureV, guardV, undef, opV, callV, intV, arith, ne_eq, Nat.min_def, vsB, seval, Tryd.underlying22]
  refine ⟨_, hr.len, _, h.len, ?_⟩
  repeat (first
    | (with_reducible refine vc_seq fun K hK => ?_)
    | (with_reducible refine vc_reg ?_)
    | (with_reducible refine vc_skip ?_)
    | (with_reducible refine vc_block ?_)
    | (with_reducible refine vc_scope ?_)
    | (with_reducible refine vc_label ?_)
    | (with_reducible refine vc_condT ?_ ?_; · simp only [opsV, dV, modeV, pureV, guardV, undef, opV, callV, intV, arith, ne_eq, Nat.min_def, vsB, seval, Tryd.underlying22] <;> rfl)
    | (with_reducible refine vc_condF ?_ ?_; · simp only [opsV, dV, modeV, pureV, guardV, undef, opV, callV, intV, arith, ne_eq, Nat.min_def, vsB, seval, Tryd.underlying22] <;> rfl)
    | (with_reducible refine vc_exit ?_; simp only [↓reduceIte, Nat.reduceEqDiff])
    | (with_reducible refine vc_ret ?_; simp only [retV, resL, one])
    | (with_reducible refine hK _ _ ?_; clear hK)
    | (clear hK; with_reducible refine hK _ _ ?_; clear hK)
    | (clear hK; clear hK; with_reducible refine hK _ _ ?_; clear hK)
    | (simp only [opsV, dV, modeV, pureV, guardV, undef, opV, callV, intV, arith, ne_eq, Nat.min_def, vsB, seval, Tryd.underlying22]))
  first | exact ⟨hE, rfl⟩ | exact hE

/-! ### slices.Clone -/

theorem eq_nil_none {P : Program} {w : World} {t el : TypeId} (ht : P.underlying t = some (.slice el)) {ox oy : Operand} : Does P (do eqGuard .eql t ox oy (.slice none 0 0) (.slice none 0 0); binOp .eql t (.slice none 0 0) (.slice none 0 0)) w (.bool true) w := by
  have : ∀ w, (Op.equal t (.slice none 0 0) (.slice none 0 0)).run P w = .ok true w := fun w => by
    have : ∀ d, (Op.equalIn (d + 1) t (.slice none 0 0) (.slice none 0 0)).run P w = .ok true w := fun d => by simp [Op.equalIn, run_underlying ht]
    exact this 9999
  simp [Does, eqGuard, binOp, this]
theorem eq_nil_some {P : Program} {w : World} {t el : TypeId} (ht : P.underlying t = some (.slice el)) {ox oy : Operand} (a : Addr) (n c : Nat) : Does P (do eqGuard .eql t ox oy (.slice (some a) n c) (.slice none 0 0); binOp .eql t (.slice (some a) n c) (.slice none 0 0)) w (.bool false) w := by
  have : ∀ w, (Op.equal t (.slice (some a) n c) (.slice none 0 0)).run P w = .ok false w := fun w => by
    have : ∀ d, (Op.equalIn (d + 1) t (.slice (some a) n c) (.slice none 0 0)).run P w = .ok false w := fun d => by simp [Op.equalIn, run_underlying ht]
    exact this 9999
  simp [Does, eqGuard, binOp, this]

/-- The words as cells. -/
def wc (k : IntKind) (xs : List Nat) : List Value := xs.map fun (x : Nat) => Value.int k (x : Int)
theorem wc_len (k : IntKind) (xs : List Nat) : (wc k xs).length = xs.length := by simp [wc]
theorem wc_get {k : IntKind} {xs : List Nat} {j : Nat} (h : j < xs.length) : (wc k xs)[j]? = some (.int k ((xs.getD j 0 : Nat) : Int)) := by
  simp [wc, h]
theorem wc_range (k : IntKind) (xs : List Nat) : (List.range (xs.length * 1)).map (fun j => Value.int k ((xs.getD j 0 : Nat) : Int)) = wc k xs := by
  apply List.ext_getElem?
  intro j
  by_cases hj : j < xs.length
  · rw [wc_get hj]; simp [hj]
  · simp [wc, hj, List.getElem?_eq_none (Nat.le_of_not_lt hj)]
theorem wc_one (k : IntKind) (xs : List Nat) : ∀ u ∈ wc k xs, u.oneCell' = true := by
  intro u hu
  simp only [wc, List.mem_map] at hu
  obtain ⟨x, _, rfl⟩ := hu
  rfl

/-- An owned row of words reads as the words. -/
theorem own_ws {k : IntKind} {B : Nat} {w : World} {base el : Nat} {v : Value} {xs : List Nat} (h : w.ownsRow base el 1 v xs.length (wc k xs)) (hx : ∀ x ∈ xs, x < B) (hl : xs.length ≤ 140737488355328) : Ws k B w.heap v xs := by
  refine ⟨⟨hl, ?_⟩, hx⟩
  rcases h.2 with ⟨rfl, h0⟩ | ⟨g, cap, cur, rfl, _, hg, hn, _, _, htake⟩
  · exact .inl ⟨rfl, h0⟩
  · refine .inr ⟨g, 0, cap, cur, el, (0, 0), rfl, hn, hg, fun j hj => ?_⟩
    have hj' : j < xs.length := by omega
    have := wc_get (k := k) hj'
    rw [← htake, List.getElem?_take, if_pos hj] at this
    simpa using this

theorem clone64 {w : World} {v : Value} {xs : List Nat} (h : U64s w.heap v xs) (hl : xs.length ≤ 17592186044416) : FC Tryd.prog 84 #[v] w fun r w' => Ext w w' ∧ w'.ownsRow w.heap.size 54 1 r xs.length (wc .u64 xs) := by
  refine FC.body (l := [v]) (rs := [.tmp 2]) mixed Tryd.func84 rfl (by kernel_rfl) (by kernel_rfl) (Nat.le_of_ble_eq_true rfl) rfl ?_
  rcases h.1.2 with ⟨rfl, h0⟩ | ⟨b, off, cap, c, ty, fr, rfl, _⟩
  · obtain rfl := List.eq_nil_of_length_eq_zero h0
    repeat (first
      | (with_reducible refine vc_seq fun K hK => ?_)
      | (with_reducible refine vc_reg ?_)
      | (with_reducible refine vc_skip ?_)
      | (with_reducible refine vc_block ?_)
      | (with_reducible refine vc_scope ?_)
      | (with_reducible refine vc_label ?_)
      | (with_reducible refine vc_condT ?_ ?_; · simp only [opsV, dV, modeV, pureV, guardV, undef, opV, callV, intV, arith, ne_eq, Nat.min_def, vsB, seval, Tryd.underlying22] <;> rfl)
      | (with_reducible refine vc_condF ?_ ?_; · simp only [opsV, dV, modeV, pureV, guardV, undef, opV, callV, intV, arith, ne_eq, Nat.min_def, vsB, seval, Tryd.underlying22] <;> rfl)
      | (with_reducible refine vc_exit ?_; simp only [↓reduceIte, Nat.reduceEqDiff])
      | (with_reducible refine vc_ret ?_; simp only [retV, resL, one])
      | (with_reducible refine hK _ _ ?_; clear hK)
      | (clear hK; with_reducible refine hK _ _ ?_; clear hK)
      | (clear hK; clear hK; with_reducible refine hK _ _ ?_; clear hK)
      | (simp only [opsV, dV, modeV, pureV, guardV, undef, opV, callV, intV, arith, ne_eq, Nat.min_def, vsB, seval, Tryd.underlying22]))
    unfold binV
    refine ⟨_, _, eq_nil_none Tryd.underlying22, ?_⟩
    repeat (first
      | (with_reducible refine vc_seq fun K hK => ?_)
      | (with_reducible refine vc_reg ?_)
      | (with_reducible refine vc_skip ?_)
      | (with_reducible refine vc_block ?_)
      | (with_reducible refine vc_scope ?_)
      | (with_reducible refine vc_label ?_)
      | (with_reducible refine vc_condT ?_ ?_; · simp only [opsV, dV, modeV, pureV, guardV, undef, opV, callV, intV, arith, ne_eq, Nat.min_def, vsB, seval, Tryd.underlying22] <;> rfl)
      | (with_reducible refine vc_condF ?_ ?_; · simp only [opsV, dV, modeV, pureV, guardV, undef, opV, callV, intV, arith, ne_eq, Nat.min_def, vsB, seval, Tryd.underlying22] <;> rfl)
      | (with_reducible refine vc_exit ?_; simp only [↓reduceIte, Nat.reduceEqDiff])
      | (with_reducible refine vc_ret ?_; simp only [retV, resL, one])
      | (with_reducible refine hK _ _ ?_; clear hK)
      | (clear hK; with_reducible refine hK _ _ ?_; clear hK)
      | (clear hK; clear hK; with_reducible refine hK _ _ ?_; clear hK)
      | (simp only [opsV, dV, modeV, pureV, guardV, undef, opV, callV, intV, arith, ne_eq, Nat.min_def, vsB, seval, Tryd.underlying22]))
    exact ⟨Ext.refl _, rfl, .inl ⟨rfl, rfl⟩⟩
  · repeat (first
      | (with_reducible refine vc_seq fun K hK => ?_)
      | (with_reducible refine vc_reg ?_)
      | (with_reducible refine vc_skip ?_)
      | (with_reducible refine vc_block ?_)
      | (with_reducible refine vc_scope ?_)
      | (with_reducible refine vc_label ?_)
      | (with_reducible refine vc_condT ?_ ?_; · simp only [opsV, dV, modeV, pureV, guardV, undef, opV, callV, intV, arith, ne_eq, Nat.min_def, vsB, seval, Tryd.underlying22] <;> rfl)
      | (with_reducible refine vc_condF ?_ ?_; · simp only [opsV, dV, modeV, pureV, guardV, undef, opV, callV, intV, arith, ne_eq, Nat.min_def, vsB, seval, Tryd.underlying22] <;> rfl)
      | (with_reducible refine vc_exit ?_; simp only [↓reduceIte, Nat.reduceEqDiff])
      | (with_reducible refine vc_ret ?_; simp only [retV, resL, one])
      | (with_reducible refine hK _ _ ?_; clear hK)
      | (clear hK; with_reducible refine hK _ _ ?_; clear hK)
      | (clear hK; clear hK; with_reducible refine hK _ _ ?_; clear hK)
      | (simp only [opsV, dV, modeV, pureV, guardV, undef, opV, callV, intV, arith, ne_eq, Nat.min_def, vsB, seval, Tryd.underlying22]))
    unfold binV
    refine ⟨_, _, eq_nil_some Tryd.underlying22 _ _ _, ?_⟩
    repeat (first
      | (with_reducible refine vc_seq fun K hK => ?_)
      | (with_reducible refine vc_reg ?_)
      | (with_reducible refine vc_skip ?_)
      | (with_reducible refine vc_block ?_)
      | (with_reducible refine vc_scope ?_)
      | (with_reducible refine vc_label ?_)
      | (with_reducible refine vc_condT ?_ ?_; · simp only [opsV, dV, modeV, pureV, guardV, undef, opV, callV, intV, arith, ne_eq, Nat.min_def, vsB, seval, Tryd.underlying22] <;> rfl)
      | (with_reducible refine vc_condF ?_ ?_; · simp only [opsV, dV, modeV, pureV, guardV, undef, opV, callV, intV, arith, ne_eq, Nat.min_def, vsB, seval, Tryd.underlying22] <;> rfl)
      | (with_reducible refine vc_exit ?_; simp only [↓reduceIte, Nat.reduceEqDiff])
      | (with_reducible refine vc_ret ?_; simp only [retV, resL, one])
      | (with_reducible refine hK _ _ ?_; clear hK)
      | (clear hK; with_reducible refine hK _ _ ?_; clear hK)
      | (clear hK; clear hK; with_reducible refine hK _ _ ?_; clear hK)
      | (simp only [opsV, dV, modeV, pureV, guardV, undef, opV, callV, intV, arith, ne_eq, Nat.min_def, vsB, seval, Tryd.underlying22]))
    obtain ⟨b2, w1, hs, hn⟩ := slice_lit (w := w) T64 [] (by simp) (by simp)
    refine ⟨_, w1, hs, ?_⟩
    try simp only [opsV, dV, modeV, pureV, guardV, undef, opV, callV, intV, arith, ne_eq, Nat.min_def, vsB, seval, Tryd.underlying22]
    have own : w1.ownsRow w.heap.size 54 1 (.slice (some ⟨b2, 0, none⟩) 0 0) 0 [] := by
      refine ⟨rfl, .inr ⟨b2, 0, #[], rfl, hn.fresh, ?_, Nat.le_refl _, Nat.zero_le _, rfl, rfl⟩⟩
      exact hn.row
    obtain ⟨v', w2, h1, h2, h3⟩ := append_own (P := Tryd.prog) T64 rfl (by decide) own (by have := hn.ext.size; omega) (h.up hn.ext).1 (fun j _ => rfl) (by omega) (by omega) (t' := 22) rfl (ty := 22)
    refine ⟨v', w2, h1, ?_⟩
    repeat (first
      | (with_reducible refine vc_seq fun K hK => ?_)
      | (with_reducible refine vc_reg ?_)
      | (with_reducible refine vc_skip ?_)
      | (with_reducible refine vc_block ?_)
      | (with_reducible refine vc_scope ?_)
      | (with_reducible refine vc_label ?_)
      | (with_reducible refine vc_condT ?_ ?_; · simp only [opsV, dV, modeV, pureV, guardV, undef, opV, callV, intV, arith, ne_eq, Nat.min_def, vsB, seval, Tryd.underlying22] <;> rfl)
      | (with_reducible refine vc_condF ?_ ?_; · simp only [opsV, dV, modeV, pureV, guardV, undef, opV, callV, intV, arith, ne_eq, Nat.min_def, vsB, seval, Tryd.underlying22] <;> rfl)
      | (with_reducible refine vc_exit ?_; simp only [↓reduceIte, Nat.reduceEqDiff])
      | (with_reducible refine vc_ret ?_; simp only [retV, resL, one])
      | (with_reducible refine hK _ _ ?_; clear hK)
      | (clear hK; with_reducible refine hK _ _ ?_; clear hK)
      | (clear hK; clear hK; with_reducible refine hK _ _ ?_; clear hK)
      | (simp only [opsV, dV, modeV, pureV, guardV, undef, opV, callV, intV, arith, ne_eq, Nat.min_def, vsB, seval, Tryd.underlying22]))
    simp only [List.nil_append, wc_range, Nat.zero_add] at h2
    refine ⟨?_, h2⟩
    refine Below.grown hn.ext h3 (by have := hn.ext.size; omega) ?_
    intro k hk
    simp only [Value.ownBlock, Option.some.injEq] at hk
    rw [← hk]; exact hn.fresh

theorem nat_Trim {w : World} {v : Value} {xs : List Nat} (h : U64s w.heap v xs) (hl : xs.length ≤ 17592186044416) : FC Tryd.prog 71 #[v] w fun r w' => Ext w w' ∧ w'.ownsRow w.heap.size 54 1 r (D64 (N64 xs)).length (wc .u64 (D64 (N64 xs))) := by
  have hd := digs_le h.2
  refine FC.body (l := [v]) (rs := [.tmp 2]) mixed Tryd.func71 rfl (by kernel_rfl) (by kernel_rfl) (Nat.le_of_ble_eq_true rfl) rfl ?_
  repeat (first
    | (with_reducible refine vc_seq fun K hK => ?_)
    | (with_reducible refine vc_reg ?_)
    | (with_reducible refine vc_skip ?_)
    | (with_reducible refine vc_block ?_)
    | (with_reducible refine vc_scope ?_)
    | (with_reducible refine vc_label ?_)
    | (with_reducible refine vc_condT ?_ ?_; · simp only [opsV, dV, modeV, pureV, guardV, undef, opV, callV, intV, arith, ne_eq, Nat.min_def, vsB, seval, Tryd.underlying22] <;> rfl)
    | (with_reducible refine vc_condF ?_ ?_; · simp only [opsV, dV, modeV, pureV, guardV, undef, opV, callV, intV, arith, ne_eq, Nat.min_def, vsB, seval, Tryd.underlying22] <;> rfl)
    | (with_reducible refine vc_exit ?_; simp only [↓reduceIte, Nat.reduceEqDiff])
    | (with_reducible refine vc_ret ?_; simp only [retV, resL, one])
    | (with_reducible refine hK _ _ ?_; clear hK)
    | (clear hK; with_reducible refine hK _ _ ?_; clear hK)
    | (clear hK; clear hK; with_reducible refine hK _ _ ?_; clear hK)
    | (simp only [opsV, dV, modeV, pureV, guardV, undef, opV, callV, intV, arith, ne_eq, Nat.min_def, vsB, seval, Tryd.underlying22]))
  refine (nat_cut h).mono ?_
  rintro r w1 ⟨hE, rfl, hr⟩
  repeat (first
    | (with_reducible refine vc_seq fun K hK => ?_)
    | (with_reducible refine vc_reg ?_)
    | (with_reducible refine vc_skip ?_)
    | (with_reducible refine vc_block ?_)
    | (with_reducible refine vc_scope ?_)
    | (with_reducible refine vc_label ?_)
    | (with_reducible refine vc_condT ?_ ?_; · simp only [opsV, dV, modeV, pureV, guardV, undef, opV, callV, intV, arith, ne_eq, Nat.min_def, vsB, seval, Tryd.underlying22] <;> rfl)
    | (with_reducible refine vc_condF ?_ ?_; · simp only [opsV, dV, modeV, pureV, guardV, undef, opV, callV, intV, arith, ne_eq, Nat.min_def, vsB, seval, Tryd.underlying22] <;> rfl)
    | (with_reducible refine vc_exit ?_; simp only [↓reduceIte, Nat.reduceEqDiff])
    | (with_reducible refine vc_ret ?_; simp only [retV, resL, one])
    | (with_reducible refine hK _ _ ?_; clear hK)
    | (clear hK; with_reducible refine hK _ _ ?_; clear hK)
    | (clear hK; clear hK; with_reducible refine hK _ _ ?_; clear hK)
    | (simp only [opsV, dV, modeV, pureV, guardV, undef, opV, callV, intV, arith, ne_eq, Nat.min_def, vsB, seval, Tryd.underlying22]))
  refine (clone64 hr (by omega)).mono ?_
  rintro r w2 ⟨hE2, hr2⟩
  repeat (first
    | (with_reducible refine vc_seq fun K hK => ?_)
    | (with_reducible refine vc_reg ?_)
    | (with_reducible refine vc_skip ?_)
    | (with_reducible refine vc_block ?_)
    | (with_reducible refine vc_scope ?_)
    | (with_reducible refine vc_label ?_)
    | (with_reducible refine vc_condT ?_ ?_; · simp only [opsV, dV, modeV, pureV, guardV, undef, opV, callV, intV, arith, ne_eq, Nat.min_def, vsB, seval, Tryd.underlying22] <;> rfl)
    | (with_reducible refine vc_condF ?_ ?_; · simp only [opsV, dV, modeV, pureV, guardV, undef, opV, callV, intV, arith, ne_eq, Nat.min_def, vsB, seval, Tryd.underlying22] <;> rfl)
    | (with_reducible refine vc_exit ?_; simp only [↓reduceIte, Nat.reduceEqDiff])
    | (with_reducible refine vc_ret ?_; simp only [retV, resL, one])
    | (with_reducible refine hK _ _ ?_; clear hK)
    | (clear hK; with_reducible refine hK _ _ ?_; clear hK)
    | (clear hK; clear hK; with_reducible refine hK _ _ ?_; clear hK)
    | (simp only [opsV, dV, modeV, pureV, guardV, undef, opV, callV, intV, arith, ne_eq, Nat.min_def, vsB, seval, Tryd.underlying22]))
  refine ⟨hE.trans' hE2, hr2.1, ?_⟩
  rcases hr2.2 with hn | ⟨g, cap, cur, h1, h2, rest⟩
  · exact .inl hn
  · exact .inr ⟨g, cap, cur, h1, Nat.le_trans hE.size h2, rest⟩

theorem nat_Bits {w : World} {v : Value} {xs : List Nat} (h : U64s w.heap v xs) (hl : xs.length ≤ 17592186044416) : FC Tryd.prog 44 #[v] w fun r w' => Ext w w' ∧ r = .int .i64 ((bitLen (N64 xs) : Nat) : Int) := by
  have hd := digs_le h.2
  refine FC.body (l := [v]) (rs := [.tmp 2]) mixed Tryd.func44 rfl (by kernel_rfl) (by kernel_rfl) (Nat.le_of_ble_eq_true rfl) rfl ?_
  repeat (first
    | (with_reducible refine vc_seq fun K hK => ?_)
    | (with_reducible refine vc_reg ?_)
    | (with_reducible refine vc_skip ?_)
    | (with_reducible refine vc_block ?_)
    | (with_reducible refine vc_scope ?_)
    | (with_reducible refine vc_label ?_)
    | (with_reducible refine vc_condT ?_ ?_; · simp only [opsV, dV, modeV, pureV, guardV, undef, opV, callV, intV, arith, ne_eq, Nat.min_def, vsB, seval, Tryd.underlying22] <;> rfl)
    | (with_reducible refine vc_condF ?_ ?_; · simp only [opsV, dV, modeV, pureV, guardV, undef, opV, callV, intV, arith, ne_eq, Nat.min_def, vsB, seval, Tryd.underlying22] <;> rfl)
    | (with_reducible refine vc_exit ?_; simp only [↓reduceIte, Nat.reduceEqDiff])
    | (with_reducible refine vc_ret ?_; simp only [retV, resL, one])
    | (with_reducible refine hK _ _ ?_; clear hK)
    | (clear hK; with_reducible refine hK _ _ ?_; clear hK)
    | (clear hK; clear hK; with_reducible refine hK _ _ ?_; clear hK)
    | (simp only [opsV, dV, modeV, pureV, guardV, undef, opV, callV, intV, arith, ne_eq, Nat.min_def, vsB, seval, Tryd.underlying22]))
  refine (nat_cut h).mono ?_
  rintro r w1 ⟨hE, rfl, hr⟩
  repeat (first
    | (with_reducible refine vc_seq fun K hK => ?_)
    | (with_reducible refine vc_reg ?_)
    | (with_reducible refine vc_skip ?_)
    | (with_reducible refine vc_block ?_)
    | (with_reducible refine vc_scope ?_)
    | (with_reducible refine vc_label ?_)
    | (with_reducible refine vc_condT ?_ ?_; · simp only [opsV, dV, modeV, pureV, guardV, undef, opV, callV, intV, arith, ne_eq, Nat.min_def, vsB, seval, Tryd.underlying22] <;> rfl)
    | (with_reducible refine vc_condF ?_ ?_; · simp only [opsV, dV, modeV, pureV, guardV, undef, opV, callV, intV, arith, ne_eq, Nat.min_def, vsB, seval, Tryd.underlying22] <;> rfl)
    | (with_reducible refine vc_exit ?_; simp only [↓reduceIte, Nat.reduceEqDiff])
    | (with_reducible refine vc_ret ?_; simp only [retV, resL, one])
    | (with_reducible refine hK _ _ ?_; clear hK)
    | (clear hK; with_reducible refine hK _ _ ?_; clear hK)
    | (clear hK; clear hK; with_reducible refine hK _ _ ?_; clear hK)
    | (simp only [opsV, dV, modeV, pureV, guardV, undef, opV, callV, intV, arith, ne_eq, Nat.min_def, vsB, seval, Tryd.underlying22]))
  refine ⟨_, hr.len, ?_⟩
  repeat (first
    | (with_reducible refine vc_seq fun K hK => ?_)
    | (with_reducible refine vc_reg ?_)
    | (with_reducible refine vc_skip ?_)
    | (with_reducible refine vc_block ?_)
    | (with_reducible refine vc_scope ?_)
    | (with_reducible refine vc_label ?_)
    | (with_reducible refine vc_condT ?_ ?_; · simp only [opsV, dV, modeV, pureV, guardV, undef, opV, callV, intV, arith, ne_eq, Nat.min_def, vsB, seval, Tryd.underlying22] <;> rfl)
    | (with_reducible refine vc_condF ?_ ?_; · simp only [opsV, dV, modeV, pureV, guardV, undef, opV, callV, intV, arith, ne_eq, Nat.min_def, vsB, seval, Tryd.underlying22] <;> rfl)
    | (with_reducible refine vc_exit ?_; simp only [↓reduceIte, Nat.reduceEqDiff])
    | (with_reducible refine vc_ret ?_; simp only [retV, resL, one])
    | (with_reducible refine hK _ _ ?_; clear hK)
    | (clear hK; with_reducible refine hK _ _ ?_; clear hK)
    | (clear hK; clear hK; with_reducible refine hK _ _ ?_; clear hK)
    | (simp only [opsV, dV, modeV, pureV, guardV, undef, opV, callV, intV, arith, ne_eq, Nat.min_def, vsB, seval, Tryd.underlying22]))
  refine vc_condD (by simp only [opsV, dV, modeV, pureV, guardV, undef, opV, callV, intV, arith, ne_eq, Nat.min_def, vsB, seval, Tryd.underlying22] <;> rfl) (fun ht => ?_) (fun ht => ?_)
  · repeat (first
      | (with_reducible refine vc_seq fun K hK => ?_)
      | (with_reducible refine vc_reg ?_)
      | (with_reducible refine vc_skip ?_)
      | (with_reducible refine vc_block ?_)
      | (with_reducible refine vc_scope ?_)
      | (with_reducible refine vc_label ?_)
      | (with_reducible refine vc_condT ?_ ?_; · simp only [opsV, dV, modeV, pureV, guardV, undef, opV, callV, intV, arith, ne_eq, Nat.min_def, vsB, seval, Tryd.underlying22] <;> rfl)
      | (with_reducible refine vc_condF ?_ ?_; · simp only [opsV, dV, modeV, pureV, guardV, undef, opV, callV, intV, arith, ne_eq, Nat.min_def, vsB, seval, Tryd.underlying22] <;> rfl)
      | (with_reducible refine vc_exit ?_; simp only [↓reduceIte, Nat.reduceEqDiff])
      | (with_reducible refine vc_ret ?_; simp only [retV, resL, one])
      | (with_reducible refine hK _ _ ?_; clear hK)
      | (clear hK; with_reducible refine hK _ _ ?_; clear hK)
      | (clear hK; clear hK; with_reducible refine hK _ _ ?_; clear hK)
      | (simp only [opsV, dV, modeV, pureV, guardV, undef, opV, callV, intV, arith, ne_eq, Nat.min_def, vsB, seval, Tryd.underlying22]))
    have : N64 xs = 0 := (digs_eq_nil two64).1 (List.eq_nil_of_length_eq_zero ht)
    exact ⟨hE, by rw [this, bitLen_zero]; rfl⟩
  · obtain ⟨m, hm⟩ : ∃ m, (D64 (N64 xs)).length = m + 1 := ⟨_, (Nat.succ_pred_eq_of_ne_zero ht).symm⟩
    obtain ⟨ad, ha, hld⟩ := hr.get (k := .i64) (i := m) (by omega)
    repeat (first
      | (with_reducible refine vc_seq fun K hK => ?_)
      | (with_reducible refine vc_reg ?_)
      | (with_reducible refine vc_skip ?_)
      | (with_reducible refine vc_block ?_)
      | (with_reducible refine vc_scope ?_)
      | (with_reducible refine vc_label ?_)
      | (with_reducible refine vc_condT ?_ ?_; · simp only [opsV, dV, modeV, pureV, guardV, undef, opV, callV, intV, arith, ne_eq, Nat.min_def, vsB, seval, Tryd.underlying22] <;> rfl)
      | (with_reducible refine vc_condF ?_ ?_; · simp only [opsV, dV, modeV, pureV, guardV, undef, opV, callV, intV, arith, ne_eq, Nat.min_def, vsB, seval, Tryd.underlying22] <;> rfl)
      | (with_reducible refine vc_exit ?_; simp only [↓reduceIte, Nat.reduceEqDiff])
      | (with_reducible refine vc_ret ?_; simp only [retV, resL, one])
      | (with_reducible refine hK _ _ ?_; clear hK)
      | (clear hK; with_reducible refine hK _ _ ?_; clear hK)
      | (clear hK; clear hK; with_reducible refine hK _ _ ?_; clear hK)
      | (simp only [opsV, dV, modeV, pureV, guardV, undef, opV, callV, intV, arith, ne_eq, Nat.min_def, vsB, seval, Tryd.underlying22]))
    refine ⟨_, hr.len.cast hm, ?_⟩
    repeat (first
      | (with_reducible refine vc_seq fun K hK => ?_)
      | (with_reducible refine vc_reg ?_)
      | (with_reducible refine vc_skip ?_)
      | (with_reducible refine vc_block ?_)
      | (with_reducible refine vc_scope ?_)
      | (with_reducible refine vc_label ?_)
      | (with_reducible refine vc_condT ?_ ?_; · simp only [opsV, dV, modeV, pureV, guardV, undef, opV, callV, intV, arith, ne_eq, Nat.min_def, vsB, seval, Tryd.underlying22] <;> rfl)
      | (with_reducible refine vc_condF ?_ ?_; · simp only [opsV, dV, modeV, pureV, guardV, undef, opV, callV, intV, arith, ne_eq, Nat.min_def, vsB, seval, Tryd.underlying22] <;> rfl)
      | (with_reducible refine vc_exit ?_; simp only [↓reduceIte, Nat.reduceEqDiff])
      | (with_reducible refine vc_ret ?_; simp only [retV, resL, one])
      | (with_reducible refine hK _ _ ?_; clear hK)
      | (clear hK; with_reducible refine hK _ _ ?_; clear hK)
      | (clear hK; clear hK; with_reducible refine hK _ _ ?_; clear hK)
      | (simp only [opsV, dV, modeV, pureV, guardV, undef, opV, callV, intV, arith, ne_eq, Nat.min_def, vsB, seval, Tryd.underlying22]))
    refine ⟨(by unfold R64; omega), (by unfold R64; omega), _, hr.len.cast hm, ?_⟩
    repeat (first
      | (with_reducible refine vc_seq fun K hK => ?_)
      | (with_reducible refine vc_reg ?_)
      | (with_reducible refine vc_skip ?_)
      | (with_reducible refine vc_block ?_)
      | (with_reducible refine vc_scope ?_)
      | (with_reducible refine vc_label ?_)
      | (with_reducible refine vc_condT ?_ ?_; · simp only [opsV, dV, modeV, pureV, guardV, undef, opV, callV, intV, arith, ne_eq, Nat.min_def, vsB, seval, Tryd.underlying22] <;> rfl)
      | (with_reducible refine vc_condF ?_ ?_; · simp only [opsV, dV, modeV, pureV, guardV, undef, opV, callV, intV, arith, ne_eq, Nat.min_def, vsB, seval, Tryd.underlying22] <;> rfl)
      | (with_reducible refine vc_exit ?_; simp only [↓reduceIte, Nat.reduceEqDiff])
      | (with_reducible refine vc_ret ?_; simp only [retV, resL, one])
      | (with_reducible refine hK _ _ ?_; clear hK)
      | (clear hK; with_reducible refine hK _ _ ?_; clear hK)
      | (clear hK; clear hK; with_reducible refine hK _ _ ?_; clear hK)
      | (simp only [opsV, dV, modeV, pureV, guardV, undef, opV, callV, intV, arith, ne_eq, Nat.min_def, vsB, seval, Tryd.underlying22]))
    refine ⟨(by unfold R64; omega), ad, ha, _, hld _ (Ext.refl _), ?_⟩
    repeat (first
      | (with_reducible refine vc_seq fun K hK => ?_)
      | (with_reducible refine vc_reg ?_)
      | (with_reducible refine vc_skip ?_)
      | (with_reducible refine vc_block ?_)
      | (with_reducible refine vc_scope ?_)
      | (with_reducible refine vc_label ?_)
      | (with_reducible refine vc_condT ?_ ?_; · simp only [opsV, dV, modeV, pureV, guardV, undef, opV, callV, intV, arith, ne_eq, Nat.min_def, vsB, seval, Tryd.underlying22] <;> rfl)
      | (with_reducible refine vc_condF ?_ ?_; · simp only [opsV, dV, modeV, pureV, guardV, undef, opV, callV, intV, arith, ne_eq, Nat.min_def, vsB, seval, Tryd.underlying22] <;> rfl)
      | (with_reducible refine vc_exit ?_; simp only [↓reduceIte, Nat.reduceEqDiff])
      | (with_reducible refine vc_ret ?_; simp only [retV, resL, one])
      | (with_reducible refine hK _ _ ?_; clear hK)
      | (clear hK; with_reducible refine hK _ _ ?_; clear hK)
      | (clear hK; clear hK; with_reducible refine hK _ _ ?_; clear hK)
      | (simp only [opsV, dV, modeV, pureV, guardV, undef, opV, callV, intV, arith, ne_eq, Nat.min_def, vsB, seval, Tryd.underlying22]))
    refine len64 _ (hr.lt (by decide) m) ?_
    have hlast : (D64 (N64 xs)).getD m 0 ≠ 0 := by
      refine digs_noTail two64 (N64 xs) _ ?_
      rw [List.getLast?_eq_getElem?, hm]
      simp [List.getD, hm]
    have e := nval_last (B := 18446744073709551616) (xs := D64 (N64 xs)) (by intro h0; rw [h0] at hm; simp at hm)
    rw [nval_digs two64, hm, Nat.add_sub_cancel] at e
    have hlow := nval_lt (B := 18446744073709551616) (by decide) ((D64 (N64 xs)).take m) (fun x hx => hr.2 x (List.mem_of_mem_take hx))
    rw [List.length_take, hm, Nat.min_eq_left (by omega), show (18446744073709551616 : Nat) = 2 ^ 64 from rfl, ← Nat.pow_mul] at hlow
    have hb := bitLen_top (b := 64) (m := m) hlast hlow
    rw [show (2 : Nat) ^ (64 * m) = 18446744073709551616 ^ m by rw [Nat.pow_mul]] at hb
    have hbl := bitLen_le (n := (D64 (N64 xs)).getD m 0) (k := 64) (hr.lt (by decide) m)
    rw [show nval (2 ^ 64) (List.take m (D64 (N64 xs))) + 18446744073709551616 ^ m * (D64 (N64 xs)).getD m 0 = N64 xs from e.symm] at hb
    try simp only [opsV, dV, modeV, pureV, guardV, undef, opV, callV, intV, arith, ne_eq, Nat.min_def, vsB, seval, Tryd.underlying22]
    refine ⟨(by unfold R64; omega), ?_⟩
    repeat (first
      | (with_reducible refine vc_seq fun K hK => ?_)
      | (with_reducible refine vc_reg ?_)
      | (with_reducible refine vc_skip ?_)
      | (with_reducible refine vc_block ?_)
      | (with_reducible refine vc_scope ?_)
      | (with_reducible refine vc_label ?_)
      | (with_reducible refine vc_condT ?_ ?_; · simp only [opsV, dV, modeV, pureV, guardV, undef, opV, callV, intV, arith, ne_eq, Nat.min_def, vsB, seval, Tryd.underlying22] <;> rfl)
      | (with_reducible refine vc_condF ?_ ?_; · simp only [opsV, dV, modeV, pureV, guardV, undef, opV, callV, intV, arith, ne_eq, Nat.min_def, vsB, seval, Tryd.underlying22] <;> rfl)
      | (with_reducible refine vc_exit ?_; simp only [↓reduceIte, Nat.reduceEqDiff])
      | (with_reducible refine vc_ret ?_; simp only [retV, resL, one])
      | (with_reducible refine hK _ _ ?_; clear hK)
      | (clear hK; with_reducible refine hK _ _ ?_; clear hK)
      | (clear hK; clear hK; with_reducible refine hK _ _ ?_; clear hK)
      | (simp only [opsV, dV, modeV, pureV, guardV, undef, opV, callV, intV, arith, ne_eq, Nat.min_def, vsB, seval, Tryd.underlying22]))
    refine ⟨hE, ?_⟩
    congr 1
    omega

end Go.V

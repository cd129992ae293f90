/- The walks of package nat: cut, Right, Trim, Bits, Zeros, Cmp. The walks of package nat: Zeros, Cmp. The walks of package nat: Add, Sub. The walks of package nat: Sub. -/
import Derived.Test.YtilnmcabjkpohaaDoorPD
set_option linter.unusedSimpArgs false
set_option linter.unusedVariables false
set_option maxRecDepth 100000
namespace Go.V
open Go Go.RowKit Go.Proofs

theorem T64 : SlT Tryd.prog 22 27 1 8 (.int .u64 0) := ⟨Tryd.underlying22, by kernel_rfl⟩
theorem S64 : scalB Tryd.prog 27 = true := by kernel_rfl

/-- A slice of words. -/
def Ws (k : IntKind) (B : Nat) (H : Array Obj) (v : Value) (xs : List Nat) : Prop := Sl H v xs.length 1 (fun j => .int k ((xs.getD j 0 : Nat) : Int)) ∧ ∀ x ∈ xs, x < B
abbrev U64s (H : Array Obj) (v : Value) (xs : List Nat) : Prop := Ws .u64 18446744073709551616 H v xs
abbrev N64 (xs : List Nat) : Nat := nval 18446744073709551616 xs
abbrev D64 (n : Nat) : List Nat := digs 18446744073709551616 n
theorem Ws.up {k : IntKind} {B : Nat} {w w' : World} {v : Value} {xs : List Nat} (h : Ws k B w.heap v xs) (hE : Ext w w') : Ws k B w'.heap v xs := ⟨h.1.up hE, h.2⟩
theorem Ws.len {k : IntKind} {B : Nat} {H : Array Obj} {v : Value} {xs : List Nat} (h : Ws k B H v xs) : LenIs v xs.length := h.1.len
theorem Ws.lt {k : IntKind} {B : Nat} {H : Array Obj} {v : Value} {xs : List Nat} (h : Ws k B H v xs) (hB : 0 < B) (i : Nat) : xs.getD i 0 < B := by
  by_cases hi : i < xs.length
  · simp only [List.getD, List.getElem?_eq_getElem hi, Option.getD_some]; exact h.2 _ (List.getElem_mem hi)
  · simp only [List.getD, List.getElem?_eq_none (Nat.le_of_not_lt hi), Option.getD_none]; exact hB
theorem two64 : 2 ≤ 18446744073709551616 := by decide

theorem Ws.get {w : World} {v : Value} {xs : List Nat} (h : U64s w.heap v xs) {k : IntKind} {i : Nat} (h1 : i < xs.length) :
    ∃ ad, IxA Tryd.prog 22 v (.int k (i : Int)) ad ∧ ∀ w', Ext w w' → Ld Tryd.prog w' 27 (.pointer (some ad)) (.int .u64 ((xs.getD i 0 : Nat) : Int)) := by
  obtain ⟨ad, h2, h3⟩ := h.1.get T64 S64 (k := k) (i := i) (by omega) (by omega)
  exact ⟨ad, h2, h3⟩

/-- A slice of the same words cut at m. -/
theorem Ws.take {k : IntKind} {B : Nat} {H : Array Obj} {v : Value} {xs : List Nat} (h : Ws k B H v xs) {m : Nat} (hm : m ≤ xs.length) : Ws k B H (resl v m) (xs.take m) := by
  refine ⟨?_, fun x hx => h.2 x (List.mem_of_mem_take hx)⟩
  rw [List.length_take, Nat.min_eq_left hm]
  refine (h.1.take hm).congr fun j hj => ?_
  simp only [List.getD, List.getElem?_take]
  rw [if_pos (by omega)]
theorem Ws.takeC {k : IntKind} {B : Nat} {H : Array Obj} {v : Value} {xs : List Nat} (h : Ws k B H v xs) {m : Nat} (hm : m ≤ xs.length) : Ws k B H (reslC v m) (xs.take m) := by
  refine ⟨?_, fun x hx => h.2 x (List.mem_of_mem_take hx)⟩
  rw [List.length_take, Nat.min_eq_left hm]
  refine (h.1.takeC hm).congr fun j hj => ?_
  simp only [List.getD, List.getElem?_take]
  rw [if_pos (by omega)]


set_option maxHeartbeats 400000 in
theorem nat_cut {w : World} {v : Value} {xs : List Nat} (h : U64s w.heap v xs) : FC Tryd.prog 34 #[v] w fun r w' => Ext w w' ∧ r = resl v (D64 (N64 xs)).length ∧ U64s w'.heap r (D64 (N64 xs)) := by
  have hb := h.1.1
  refine FC.body (l := [v]) (rs := [.tmp 2]) mixed Tryd.func34 rfl (by kernel_rfl) (by kernel_rfl) (Nat.le_of_ble_eq_true rfl) rfl ?_
  with_reducible refine vc_seq fun K hK => ?_
  with_reducible refine vc_reg ?_
  simp only [opsV, dV, modeV, pureV, guardV, undef, opV, callV, intV, arith, ne_eq, Nat.min_def, vsB, seval, Tryd.underlying22]
  refine hK _ _ ?_
  clear hK K
  refine vc_seq fun K hK => ?_
  refine vc_reg ?_
  try simp only [opsV, dV, modeV, pureV, guardV, undef, opV, callV, intV, arith, ne_eq, Nat.min_def, vsB, seval, Tryd.underlying22]
  refine ⟨_, h.len, ?_⟩
  refine hK _ _ ?_
  clear hK K
  refine vc_seq fun K hK => ?_
  have J : ∀ (e : Env) (w' : World) (k : Nat), k ≤ xs.length → e 0 = v → e 3 = .int .i64 (k : Int) → Ext w w' → (∀ j, k ≤ j → xs.getD j 0 = 0) → (k ≠ 0 → xs.getD (k - 1) 0 ≠ 0) → K e w' := by
    intro e w' k hk h0 h3 hE hz hnz
    refine hK _ _ ?_
    clear hK K
    with_reducible refine vc_seq fun K hK => ?_
    with_reducible refine vc_reg ?_
    simp only [opsV, dV, modeV, pureV, guardV, undef, opV, callV, intV, arith, ne_eq, Nat.min_def, vsB, seval, Tryd.underlying22]
    simp only [h0, h3]
    have ht : xs.take k = D64 (N64 xs) := take_digs two64 h.2 hk hz hnz
    have hl : (D64 (N64 xs)).length = k := by rw [← ht]; simp; omega
    refine ⟨_, sl_cut T64 h.1 hk, ?_⟩
    refine hK _ _ ?_
    clear hK K
    refine vc_ret ?_
    simp only [retV, resL, one, opsV, dV, modeV, pureV, guardV, undef, opV, callV, intV, arith, ne_eq, Nat.min_def, vsB, seval, Tryd.underlying22]
    rw [hl]
    refine ⟨hE, rfl, ?_⟩
    rw [← ht]
    exact (h.take hk).up hE
  refine vc_block ?_
  refine vc_loop (fun e w' => ∃ k : Nat, k ≤ xs.length ∧ e 0 = v ∧ e 3 = .int .i64 (k : Int) ∧ Ext w w' ∧ ∀ j, k ≤ j → xs.getD j 0 = 0) (fun e _ => (intOf (e 3)).toNat) ?_ ?_
  · refine ⟨xs.length, Nat.le_refl _, ?_, ?_, Ext.refl _, fun j hj => ?_⟩
    · simp only [opsV, dV, modeV, pureV, guardV, undef, opV, callV, intV, arith, ne_eq, Nat.min_def, vsB, seval, Tryd.underlying22]
    · simp only [opsV, dV, modeV, pureV, guardV, undef, opV, callV, intV, arith, ne_eq, Nat.min_def, vsB, seval, Tryd.underlying22]
    · simp [List.getD, List.getElem?_eq_none hj]
  · rintro e w' ⟨k, hk, h0, h3, hE, hz⟩
    have hmz : (intOf (e 3)).toNat = k := by rw [h3]; rfl
    refine vc_seq fun K1 hK1 => ?_
    refine vc_seq fun K2 hK2 => ?_
    rcases Nat.eq_zero_or_pos k with rfl | hp
    · refine vc_reg ?_
      simp only [opsV, dV, modeV, pureV, guardV, undef, opV, callV, intV, arith, ne_eq, Nat.min_def, vsB, seval, Tryd.underlying22, h0, h3, Nat.lt_irrefl]
      refine hK2 _ _ ?_
      refine vc_condF (by simp only [opsV, dV, modeV, pureV, guardV, undef, opV, callV, intV, arith, ne_eq, Nat.min_def, vsB, seval, Tryd.underlying22] <;> rfl) ?_
      refine vc_exit ?_
      simp only [↓reduceIte]
      exact J _ _ 0 (Nat.zero_le _) (by simp only [opsV, dV, modeV, pureV, guardV, undef, opV, callV, intV, arith, ne_eq, Nat.min_def, vsB, seval, Tryd.underlying22, h0]) (by simp only [opsV, dV, modeV, pureV, guardV, undef, opV, callV, intV, arith, ne_eq, Nat.min_def, vsB, seval, Tryd.underlying22, h3] <;> rfl) hE hz (fun h => absurd rfl h)
    · obtain ⟨m, rfl⟩ : ∃ m, k = m + 1 := ⟨k - 1, by omega⟩
      obtain ⟨ad, ha, hld⟩ := h.get (k := .i64) (i := m) (by omega)
      refine vc_reg ?_
      simp only [opsV, dV, modeV, pureV, guardV, undef, opV, callV, intV, arith, ne_eq, Nat.min_def, vsB, seval, Tryd.underlying22, h0, h3, hp]
      refine ⟨(by unfold R64; omega), ad, ha, _, hld _ hE, ?_⟩
      simp only [opsV, dV, modeV, pureV, guardV, undef, opV, callV, intV, arith, ne_eq, Nat.min_def, vsB, seval, Tryd.underlying22]
      refine hK2 _ _ ?_
      clear hK2
      refine vc_condD (by simp only [opsV, dV, modeV, pureV, guardV, undef, opV, callV, intV, arith, ne_eq, Nat.min_def, vsB, seval, Tryd.underlying22] <;> rfl) (fun hx => ?_) (fun hx => ?_)
      · refine vc_skip ?_
        refine hK1 _ _ ?_
        refine vc_block ?_
        refine vc_reg ?_
        simp only [opsV, dV, modeV, pureV, guardV, undef, opV, callV, intV, arith, ne_eq, Nat.min_def, vsB, seval, Tryd.underlying22, h0, h3]
        refine ⟨(by unfold R64; omega), ⟨m, by omega, rfl, hE, fun j hj => ?_⟩, by simp only [intOf]; omega⟩
        rcases Nat.lt_or_ge m j with hj' | hj'
        · exact hz j hj'
        · obtain rfl : j = m := by omega
          exact hx
      · refine vc_exit ?_
        simp only [↓reduceIte]
        exact J _ _ (m + 1) hk (by simp only [opsV, dV, modeV, pureV, guardV, undef, opV, callV, intV, arith, ne_eq, Nat.min_def, vsB, seval, Tryd.underlying22, h0]) (by simp only [opsV, dV, modeV, pureV, guardV, undef, opV, callV, intV, arith, ne_eq, Nat.min_def, vsB, seval, Tryd.underlying22, h3]) hE hz (fun _ => by simpa using hx)

theorem digs_le {xs : List Nat} (h : ∀ x ∈ xs, x < 18446744073709551616) : (D64 (N64 xs)).length ≤ xs.length := digs_len_le two64 (nval_lt (by decide) xs h)

theorem nat_Right {w : World} {v : Value} {xs : List Nat} (h : U64s w.heap v xs) : FC Tryd.prog 13 #[v] w fun r w' => Ext w w' ∧ r = .bool (decide ((D64 (N64 xs)).length = xs.length)) := by
  refine FC.body (l := [v]) (rs := [.tmp 2]) mixed Tryd.func13 rfl (by kernel_rfl) (by kernel_rfl) (Nat.le_of_ble_eq_true rfl) rfl ?_
  repeat (first
    | (with_reducible refine vc_seq fun K hK => ?_)
    | (with_reducible refine vc_reg ?_)
    | (with_reducible refine vc_skip ?_)
    | (with_reducible refine vc_block ?_)
    | (with_reducible refine vc_scope ?_)
    | (with_reducible refine vc_label ?_)
    | (with_reducible refine vc_condT ?_ ?_; · simp only [opsV, dV, modeV, pureV, guardV, undef, opV, callV, intV, arith, ne_eq, Nat.min_def, vsB, seval, Tryd.underlying22] <;> rfl)
    | (with_reducible refine vc_condF ?_ ?_; · simp only [opsV, dV, modeV, pureV, guardV, undef, opV, callV, intV, arith, ne_eq, Nat.min_def, vsB, seval, Tryd.underlying22] <;> rfl)
    | (with_reducible refine vc_exit ?_; simp only [↓reduceIte, Nat.reduceEqDiff])
    | (with_reducible refine vc_ret ?_; simp only [retV, resL, one])
    | (with_reducible refine hK _ _ ?_; clear hK)
    | (clear hK; with_reducible refine hK _ _ ?_; clear hK)
    | (clear hK; clear hK; with_reducible refine hK _ _ ?_; clear hK)
    | (simp only [opsV, dV, modeV, pureV, guardV, undef, opV, callV, intV, arith, ne_eq, Nat.min_def, vsB, seval, Tryd.underlying22]))
  refine (nat_cut h).mono ?_
  rintro r w1 ⟨hE, rfl, hr⟩
  try simp only [opsV, dV, modeV, pureV, guardV, undef, opV, callV, intV, arith, ne_eq, Nat.min_def, vsB, seval, Tryd.underlying22]
  refine ⟨_, hr.len, _, h.len, ?_⟩
  repeat (first
    | (with_reducible refine vc_seq fun K hK => ?_)
    | (with_reducible refine vc_reg ?_)
    | (with_reducible refine vc_skip ?_)
    | (with_reducible refine vc_block ?_)
    | (with_reducible refine vc_scope ?_)
    | (with_reducible refine vc_label ?_)
    | (with_reducible refine vc_condT ?_ ?_; · simp only [opsV, dV, modeV, pureV, guardV, undef, opV, callV, intV, arith, ne_eq, Nat.min_def, vsB, seval, Tryd.underlying22] <;> rfl)
    | (with_reducible refine vc_condF ?_ ?_; · simp only [opsV, dV, modeV, pureV, guardV, undef, opV, callV, intV, arith, ne_eq, Nat.min_def, vsB, seval, Tryd.underlying22] <;> rfl)
    | (with_reducible refine vc_exit ?_; simp only [↓reduceIte, Nat.reduceEqDiff])
    | (with_reducible refine vc_ret ?_; simp only [retV, resL, one])
    | (with_reducible refine hK _ _ ?_; clear hK)
    | (clear hK; with_reducible refine hK _ _ ?_; clear hK)
    | (clear hK; clear hK; with_reducible refine hK _ _ ?_; clear hK)
    | (simp only [opsV, dV, modeV, pureV, guardV, undef, opV, callV, intV, arith, ne_eq, Nat.min_def, vsB, seval, Tryd.underlying22]))
  first | exact ⟨hE, rfl⟩ | exact hE

/-! ### slices.Clone -/

theorem eq_nil_none {P : Program} {w : World} {t el : TypeId} (ht : P.underlying t = some (.slice el)) {ox oy : Operand} : Does P (do eqGuard .eql t ox oy (.slice none 0 0) (.slice none 0 0); binOp .eql t (.slice none 0 0) (.slice none 0 0)) w (.bool true) w := by
  have : ∀ w, (Op.equal t (.slice none 0 0) (.slice none 0 0)).run P w = .ok true w := fun w => by
    have : ∀ d, (Op.equalIn (d + 1) t (.slice none 0 0) (.slice none 0 0)).run P w = .ok true w := fun d => by simp [Op.equalIn, run_underlying ht]
    exact this 9999
  simp [Does, eqGuard, binOp, this]
theorem eq_nil_some {P : Program} {w : World} {t el : TypeId} (ht : P.underlying t = some (.slice el)) {ox oy : Operand} (a : Addr) (n c : Nat) : Does P (do eqGuard .eql t ox oy (.slice (some a) n c) (.slice none 0 0); binOp .eql t (.slice (some a) n c) (.slice none 0 0)) w (.bool false) w := by
  have : ∀ w, (Op.equal t (.slice (some a) n c) (.slice none 0 0)).run P w = .ok false w := fun w => by
    have : ∀ d, (Op.equalIn (d + 1) t (.slice (some a) n c) (.slice none 0 0)).run P w = .ok false w := fun d => by simp [Op.equalIn, run_underlying ht]
    exact this 9999
  simp [Does, eqGuard, binOp, this]

/-- The words as cells. -/
def wc (k : IntKind) (xs : List Nat) : List Value := xs.map fun (x : Nat) => Value.int k (x : Int)
theorem wc_len (k : IntKind) (xs : List Nat) : (wc k xs).length = xs.length := by simp [wc]
theorem wc_get {k : IntKind} {xs : List Nat} {j : Nat} (h : j < xs.length) : (wc k xs)[j]? = some (.int k ((xs.getD j 0 : Nat) : Int)) := by
  simp [wc, h]
theorem wc_range (k : IntKind) (xs : List Nat) : (List.range (xs.length * 1)).map (fun j => Value.int k ((xs.getD j 0 : Nat) : Int)) = wc k xs := by
  apply List.ext_getElem?
  intro j
  by_cases hj : j < xs.length
  · rw [wc_get hj]; simp [hj]
  · simp [wc, hj, List.getElem?_eq_none (Nat.le_of_not_lt hj)]
theorem wc_one (k : IntKind) (xs : List Nat) : ∀ u ∈ wc k xs, u.oneCell' = true := by
  intro u hu
  simp only [wc, List.mem_map] at hu
  obtain ⟨x, _, rfl⟩ := hu
  rfl

/-- An owned row of words reads as the words. -/
theorem own_ws {k : IntKind} {B : Nat} {w : World} {base el : Nat} {v : Value} {xs : List Nat} (h : w.ownsRow base el 1 v xs.length (wc k xs)) (hx : ∀ x ∈ xs, x < B) (hl : xs.length ≤ 140737488355328) : Ws k B w.heap v xs := by
  refine ⟨⟨hl, ?_⟩, hx⟩
  rcases h.2 with ⟨rfl, h0⟩ | ⟨g, cap, cur, rfl, _, hg, hn, _, _, htake⟩
  · exact .inl ⟨⟨_, rfl⟩, h0⟩
  · refine .inr ⟨g, 0, cap, cur, el, (0, 0), rfl, hn, hg, fun j hj => ?_⟩
    have hj' : j < xs.length := by omega
    have := wc_get (k := k) hj'
    rw [← htake, List.getElem?_take, if_pos hj] at this
    simpa using this

theorem clone64 {w : World} {v : Value} {xs : List Nat} (h : U64s w.heap v xs) (hl : xs.length ≤ 17592186044416) : FC Tryd.prog 35 #[v] w fun r w' => Ext w w' ∧ w'.ownsRow w.heap.size 27 1 r xs.length (wc .u64 xs) := by
  refine FC.body (l := [v]) (rs := [.tmp 2]) mixed Tryd.func35 rfl (by kernel_rfl) (by kernel_rfl) (Nat.le_of_ble_eq_true rfl) rfl ?_
  rcases h.1.addr with ⟨rfl, h0⟩ | ⟨ad, cap, rfl⟩
  · obtain rfl := List.eq_nil_of_length_eq_zero h0
    repeat (first
      | (with_reducible refine vc_seq fun K hK => ?_)
      | (with_reducible refine vc_reg ?_)
      | (with_reducible refine vc_skip ?_)
      | (with_reducible refine vc_block ?_)
      | (with_reducible refine vc_scope ?_)
      | (with_reducible refine vc_label ?_)
      | (with_reducible refine vc_condT ?_ ?_; · simp only [opsV, dV, modeV, pureV, guardV, undef, opV, callV, intV, arith, ne_eq, Nat.min_def, vsB, seval, Tryd.underlying22] <;> rfl)
      | (with_reducible refine vc_condF ?_ ?_; · simp only [opsV, dV, modeV, pureV, guardV, undef, opV, callV, intV, arith, ne_eq, Nat.min_def, vsB, seval, Tryd.underlying22] <;> rfl)
      | (with_reducible refine vc_exit ?_; simp only [↓reduceIte, Nat.reduceEqDiff])
      | (with_reducible refine vc_ret ?_; simp only [retV, resL, one])
      | (with_reducible refine hK _ _ ?_; clear hK)
      | (clear hK; with_reducible refine hK _ _ ?_; clear hK)
      | (clear hK; clear hK; with_reducible refine hK _ _ ?_; clear hK)
      | (simp only [opsV, dV, modeV, pureV, guardV, undef, opV, callV, intV, arith, ne_eq, Nat.min_def, vsB, seval, Tryd.underlying22]))
    unfold binV
    refine ⟨_, _, eq_nil_none Tryd.underlying22, ?_⟩
    repeat (first
      | (with_reducible refine vc_seq fun K hK => ?_)
      | (with_reducible refine vc_reg ?_)
      | (with_reducible refine vc_skip ?_)
      | (with_reducible refine vc_block ?_)
      | (with_reducible refine vc_scope ?_)
      | (with_reducible refine vc_label ?_)
      | (with_reducible refine vc_condT ?_ ?_; · simp only [opsV, dV, modeV, pureV, guardV, undef, opV, callV, intV, arith, ne_eq, Nat.min_def, vsB, seval, Tryd.underlying22] <;> rfl)
      | (with_reducible refine vc_condF ?_ ?_; · simp only [opsV, dV, modeV, pureV, guardV, undef, opV, callV, intV, arith, ne_eq, Nat.min_def, vsB, seval, Tryd.underlying22] <;> rfl)
      | (with_reducible refine vc_exit ?_; simp only [↓reduceIte, Nat.reduceEqDiff])
      | (with_reducible refine vc_ret ?_; simp only [retV, resL, one])
      | (with_reducible refine hK _ _ ?_; clear hK)
      | (clear hK; with_reducible refine hK _ _ ?_; clear hK)
      | (clear hK; clear hK; with_reducible refine hK _ _ ?_; clear hK)
      | (simp only [opsV, dV, modeV, pureV, guardV, undef, opV, callV, intV, arith, ne_eq, Nat.min_def, vsB, seval, Tryd.underlying22]))
    exact ⟨Ext.refl _, rfl, .inl ⟨rfl, rfl⟩⟩
  · repeat (first
      | (with_reducible refine vc_seq fun K hK => ?_)
      | (with_reducible refine vc_reg ?_)
      | (with_reducible refine vc_skip ?_)
      | (with_reducible refine vc_block ?_)
      | (with_reducible refine vc_scope ?_)
      | (with_reducible refine vc_label ?_)
      | (with_reducible refine vc_condT ?_ ?_; · simp only [opsV, dV, modeV, pureV, guardV, undef, opV, callV, intV, arith, ne_eq, Nat.min_def, vsB, seval, Tryd.underlying22] <;> rfl)
      | (with_reducible refine vc_condF ?_ ?_; · simp only [opsV, dV, modeV, pureV, guardV, undef, opV, callV, intV, arith, ne_eq, Nat.min_def, vsB, seval, Tryd.underlying22] <;> rfl)
      | (with_reducible refine vc_exit ?_; simp only [↓reduceIte, Nat.reduceEqDiff])
      | (with_reducible refine vc_ret ?_; simp only [retV, resL, one])
      | (with_reducible refine hK _ _ ?_; clear hK)
      | (clear hK; with_reducible refine hK _ _ ?_; clear hK)
      | (clear hK; clear hK; with_reducible refine hK _ _ ?_; clear hK)
      | (simp only [opsV, dV, modeV, pureV, guardV, undef, opV, callV, intV, arith, ne_eq, Nat.min_def, vsB, seval, Tryd.underlying22]))
    unfold binV
    refine ⟨_, _, eq_nil_some Tryd.underlying22 _ _ _, ?_⟩
    repeat (first
      | (with_reducible refine vc_seq fun K hK => ?_)
      | (with_reducible refine vc_reg ?_)
      | (with_reducible refine vc_skip ?_)
      | (with_reducible refine vc_block ?_)
      | (with_reducible refine vc_scope ?_)
      | (with_reducible refine vc_label ?_)
      | (with_reducible refine vc_condT ?_ ?_; · simp only [opsV, dV, modeV, pureV, guardV, undef, opV, callV, intV, arith, ne_eq, Nat.min_def, vsB, seval, Tryd.underlying22] <;> rfl)
      | (with_reducible refine vc_condF ?_ ?_; · simp only [opsV, dV, modeV, pureV, guardV, undef, opV, callV, intV, arith, ne_eq, Nat.min_def, vsB, seval, Tryd.underlying22] <;> rfl)
      | (with_reducible refine vc_exit ?_; simp only [↓reduceIte, Nat.reduceEqDiff])
      | (with_reducible refine vc_ret ?_; simp only [retV, resL, one])
      | (with_reducible refine hK _ _ ?_; clear hK)
      | (clear hK; with_reducible refine hK _ _ ?_; clear hK)
      | (clear hK; clear hK; with_reducible refine hK _ _ ?_; clear hK)
      | (simp only [opsV, dV, modeV, pureV, guardV, undef, opV, callV, intV, arith, ne_eq, Nat.min_def, vsB, seval, Tryd.underlying22]))
    obtain ⟨b2, w1, hs, hn⟩ := slice_lit (w := w) T64 [] (by simp) (by simp)
    refine ⟨_, w1, hs, ?_⟩
    try simp only [opsV, dV, modeV, pureV, guardV, undef, opV, callV, intV, arith, ne_eq, Nat.min_def, vsB, seval, Tryd.underlying22]
    have own : w1.ownsRow w.heap.size 27 1 (.slice (some ⟨b2, 0, none⟩) 0 0) 0 [] := by
      refine ⟨rfl, .inr ⟨b2, 0, #[], rfl, hn.fresh, ?_, Nat.le_refl _, Nat.zero_le _, rfl, rfl⟩⟩
      exact hn.row
    obtain ⟨v', w2, h1, h2, h3⟩ := append_own (P := Tryd.prog) T64 rfl (by decide) own (by have := hn.ext.size; omega) (h.up hn.ext).1 (fun j _ => rfl) (by omega) (by omega) (t' := 22) rfl (ty := 22)
    refine ⟨v', w2, h1, ?_⟩
    repeat (first
      | (with_reducible refine vc_seq fun K hK => ?_)
      | (with_reducible refine vc_reg ?_)
      | (with_reducible refine vc_skip ?_)
      | (with_reducible refine vc_block ?_)
      | (with_reducible refine vc_scope ?_)
      | (with_reducible refine vc_label ?_)
      | (with_reducible refine vc_condT ?_ ?_; · simp only [opsV, dV, modeV, pureV, guardV, undef, opV, callV, intV, arith, ne_eq, Nat.min_def, vsB, seval, Tryd.underlying22] <;> rfl)
      | (with_reducible refine vc_condF ?_ ?_; · simp only [opsV, dV, modeV, pureV, guardV, undef, opV, callV, intV, arith, ne_eq, Nat.min_def, vsB, seval, Tryd.underlying22] <;> rfl)
      | (with_reducible refine vc_exit ?_; simp only [↓reduceIte, Nat.reduceEqDiff])
      | (with_reducible refine vc_ret ?_; simp only [retV, resL, one])
      | (with_reducible refine hK _ _ ?_; clear hK)
      | (clear hK; with_reducible refine hK _ _ ?_; clear hK)
      | (clear hK; clear hK; with_reducible refine hK _ _ ?_; clear hK)
      | (simp only [opsV, dV, modeV, pureV, guardV, undef, opV, callV, intV, arith, ne_eq, Nat.min_def, vsB, seval, Tryd.underlying22]))
    simp only [List.nil_append, wc_range, Nat.zero_add] at h2
    refine ⟨?_, h2⟩
    refine Bel.grown hn.ext (run_drawn _ _ h1) h3 (by have := hn.ext.size; omega) ?_
    intro k hk
    simp only [Value.ownBlock, Option.some.injEq] at hk
    rw [← hk]; exact hn.fresh

theorem nat_Trim {w : World} {v : Value} {xs : List Nat} (h : U64s w.heap v xs) (hl : xs.length ≤ 17592186044416) : FC Tryd.prog 15 #[v] w fun r w' => Ext w w' ∧ w'.ownsRow w.heap.size 27 1 r (D64 (N64 xs)).length (wc .u64 (D64 (N64 xs))) := by
  have hd := digs_le h.2
  refine FC.body (l := [v]) (rs := [.tmp 2]) mixed Tryd.func15 rfl (by kernel_rfl) (by kernel_rfl) (Nat.le_of_ble_eq_true rfl) rfl ?_
  repeat (first
    | (with_reducible refine vc_seq fun K hK => ?_)
    | (with_reducible refine vc_reg ?_)
    | (with_reducible refine vc_skip ?_)
    | (with_reducible refine vc_block ?_)
    | (with_reducible refine vc_scope ?_)
    | (with_reducible refine vc_label ?_)
    | (with_reducible refine vc_condT ?_ ?_; · simp only [opsV, dV, modeV, pureV, guardV, undef, opV, callV, intV, arith, ne_eq, Nat.min_def, vsB, seval, Tryd.underlying22] <;> rfl)
    | (with_reducible refine vc_condF ?_ ?_; · simp only [opsV, dV, modeV, pureV, guardV, undef, opV, callV, intV, arith, ne_eq, Nat.min_def, vsB, seval, Tryd.underlying22] <;> rfl)
    | (with_reducible refine vc_exit ?_; simp only [↓reduceIte, Nat.reduceEqDiff])
    | (with_reducible refine vc_ret ?_; simp only [retV, resL, one])
    | (with_reducible refine hK _ _ ?_; clear hK)
    | (clear hK; with_reducible refine hK _ _ ?_; clear hK)
    | (clear hK; clear hK; with_reducible refine hK _ _ ?_; clear hK)
    | (simp only [opsV, dV, modeV, pureV, guardV, undef, opV, callV, intV, arith, ne_eq, Nat.min_def, vsB, seval, Tryd.underlying22]))
  refine (nat_cut h).mono ?_
  rintro r w1 ⟨hE, rfl, hr⟩
  repeat (first
    | (with_reducible refine vc_seq fun K hK => ?_)
    | (with_reducible refine vc_reg ?_)
    | (with_reducible refine vc_skip ?_)
    | (with_reducible refine vc_block ?_)
    | (with_reducible refine vc_scope ?_)
    | (with_reducible refine vc_label ?_)
    | (with_reducible refine vc_condT ?_ ?_; · simp only [opsV, dV, modeV, pureV, guardV, undef, opV, callV, intV, arith, ne_eq, Nat.min_def, vsB, seval, Tryd.underlying22] <;> rfl)
    | (with_reducible refine vc_condF ?_ ?_; · simp only [opsV, dV, modeV, pureV, guardV, undef, opV, callV, intV, arith, ne_eq, Nat.min_def, vsB, seval, Tryd.underlying22] <;> rfl)
    | (with_reducible refine vc_exit ?_; simp only [↓reduceIte, Nat.reduceEqDiff])
    | (with_reducible refine vc_ret ?_; simp only [retV, resL, one])
    | (with_reducible refine hK _ _ ?_; clear hK)
    | (clear hK; with_reducible refine hK _ _ ?_; clear hK)
    | (clear hK; clear hK; with_reducible refine hK _ _ ?_; clear hK)
    | (simp only [opsV, dV, modeV, pureV, guardV, undef, opV, callV, intV, arith, ne_eq, Nat.min_def, vsB, seval, Tryd.underlying22]))
  refine (clone64 hr (by omega)).mono ?_
  rintro r w2 ⟨hE2, hr2⟩
  repeat (first
    | (with_reducible refine vc_seq fun K hK => ?_)
    | (with_reducible refine vc_reg ?_)
    | (with_reducible refine vc_skip ?_)
    | (with_reducible refine vc_block ?_)
    | (with_reducible refine vc_scope ?_)
    | (with_reducible refine vc_label ?_)
    | (with_reducible refine vc_condT ?_ ?_; · simp only [opsV, dV, modeV, pureV, guardV, undef, opV, callV, intV, arith, ne_eq, Nat.min_def, vsB, seval, Tryd.underlying22] <;> rfl)
    | (with_reducible refine vc_condF ?_ ?_; · simp only [opsV, dV, modeV, pureV, guardV, undef, opV, callV, intV, arith, ne_eq, Nat.min_def, vsB, seval, Tryd.underlying22] <;> rfl)
    | (with_reducible refine vc_exit ?_; simp only [↓reduceIte, Nat.reduceEqDiff])
    | (with_reducible refine vc_ret ?_; simp only [retV, resL, one])
    | (with_reducible refine hK _ _ ?_; clear hK)
    | (clear hK; with_reducible refine hK _ _ ?_; clear hK)
    | (clear hK; clear hK; with_reducible refine hK _ _ ?_; clear hK)
    | (simp only [opsV, dV, modeV, pureV, guardV, undef, opV, callV, intV, arith, ne_eq, Nat.min_def, vsB, seval, Tryd.underlying22]))
  refine ⟨hE.trans' hE2, hr2.1, ?_⟩
  rcases hr2.2 with hn | ⟨g, cap, cur, h1, h2, rest⟩
  · exact .inl hn
  · exact .inr ⟨g, cap, cur, h1, Nat.le_trans hE.size h2, rest⟩

theorem nat_Bits {w : World} {v : Value} {xs : List Nat} (h : U64s w.heap v xs) (hl : xs.length ≤ 17592186044416) : FC Tryd.prog 17 #[v] w fun r w' => Ext w w' ∧ r = .int .i64 ((bitLen (N64 xs) : Nat) : Int) := by
  have hd := digs_le h.2
  refine FC.body (l := [v]) (rs := [.tmp 2]) mixed Tryd.func17 rfl (by kernel_rfl) (by kernel_rfl) (Nat.le_of_ble_eq_true rfl) rfl ?_
  repeat (first
    | (with_reducible refine vc_seq fun K hK => ?_)
    | (with_reducible refine vc_reg ?_)
    | (with_reducible refine vc_skip ?_)
    | (with_reducible refine vc_block ?_)
    | (with_reducible refine vc_scope ?_)
    | (with_reducible refine vc_label ?_)
    | (with_reducible refine vc_condT ?_ ?_; · simp only [opsV, dV, modeV, pureV, guardV, undef, opV, callV, intV, arith, ne_eq, Nat.min_def, vsB, seval, Tryd.underlying22] <;> rfl)
    | (with_reducible refine vc_condF ?_ ?_; · simp only [opsV, dV, modeV, pureV, guardV, undef, opV, callV, intV, arith, ne_eq, Nat.min_def, vsB, seval, Tryd.underlying22] <;> rfl)
    | (with_reducible refine vc_exit ?_; simp only [↓reduceIte, Nat.reduceEqDiff])
    | (with_reducible refine vc_ret ?_; simp only [retV, resL, one])
    | (with_reducible refine hK _ _ ?_; clear hK)
    | (clear hK; with_reducible refine hK _ _ ?_; clear hK)
    | (clear hK; clear hK; with_reducible refine hK _ _ ?_; clear hK)
    | (simp only [opsV, dV, modeV, pureV, guardV, undef, opV, callV, intV, arith, ne_eq, Nat.min_def, vsB, seval, Tryd.underlying22]))
  refine (nat_cut h).mono ?_
  rintro r w1 ⟨hE, rfl, hr⟩
  repeat (first
    | (with_reducible refine vc_seq fun K hK => ?_)
    | (with_reducible refine vc_reg ?_)
    | (with_reducible refine vc_skip ?_)
    | (with_reducible refine vc_block ?_)
    | (with_reducible refine vc_scope ?_)
    | (with_reducible refine vc_label ?_)
    | (with_reducible refine vc_condT ?_ ?_; · simp only [opsV, dV, modeV, pureV, guardV, undef, opV, callV, intV, arith, ne_eq, Nat.min_def, vsB, seval, Tryd.underlying22] <;> rfl)
    | (with_reducible refine vc_condF ?_ ?_; · simp only [opsV, dV, modeV, pureV, guardV, undef, opV, callV, intV, arith, ne_eq, Nat.min_def, vsB, seval, Tryd.underlying22] <;> rfl)
    | (with_reducible refine vc_exit ?_; simp only [↓reduceIte, Nat.reduceEqDiff])
    | (with_reducible refine vc_ret ?_; simp only [retV, resL, one])
    | (with_reducible refine hK _ _ ?_; clear hK)
    | (clear hK; with_reducible refine hK _ _ ?_; clear hK)
    | (clear hK; clear hK; with_reducible refine hK _ _ ?_; clear hK)
    | (simp only [opsV, dV, modeV, pureV, guardV, undef, opV, callV, intV, arith, ne_eq, Nat.min_def, vsB, seval, Tryd.underlying22]))
  refine ⟨_, hr.len, ?_⟩
  repeat (first
    | (with_reducible refine vc_seq fun K hK => ?_)
    | (with_reducible refine vc_reg ?_)
    | (with_reducible refine vc_skip ?_)
    | (with_reducible refine vc_block ?_)
    | (with_reducible refine vc_scope ?_)
    | (with_reducible refine vc_label ?_)
    | (with_reducible refine vc_condT ?_ ?_; · simp only [opsV, dV, modeV, pureV, guardV, undef, opV, callV, intV, arith, ne_eq, Nat.min_def, vsB, seval, Tryd.underlying22] <;> rfl)
    | (with_reducible refine vc_condF ?_ ?_; · simp only [opsV, dV, modeV, pureV, guardV, undef, opV, callV, intV, arith, ne_eq, Nat.min_def, vsB, seval, Tryd.underlying22] <;> rfl)
    | (with_reducible refine vc_exit ?_; simp only [↓reduceIte, Nat.reduceEqDiff])
    | (with_reducible refine vc_ret ?_; simp only [retV, resL, one])
    | (with_reducible refine hK _ _ ?_; clear hK)
    | (clear hK; with_reducible refine hK _ _ ?_; clear hK)
    | (clear hK; clear hK; with_reducible refine hK _ _ ?_; clear hK)
    | (simp only [opsV, dV, modeV, pureV, guardV, undef, opV, callV, intV, arith, ne_eq, Nat.min_def, vsB, seval, Tryd.underlying22]))
  refine vc_condD (by simp only [opsV, dV, modeV, pureV, guardV, undef, opV, callV, intV, arith, ne_eq, Nat.min_def, vsB, seval, Tryd.underlying22] <;> rfl) (fun ht => ?_) (fun ht => ?_)
  · repeat (first
      | (with_reducible refine vc_seq fun K hK => ?_)
      | (with_reducible refine vc_reg ?_)
      | (with_reducible refine vc_skip ?_)
      | (with_reducible refine vc_block ?_)
      | (with_reducible refine vc_scope ?_)
      | (with_reducible refine vc_label ?_)
      | (with_reducible refine vc_condT ?_ ?_; · simp only [opsV, dV, modeV, pureV, guardV, undef, opV, callV, intV, arith, ne_eq, Nat.min_def, vsB, seval, Tryd.underlying22] <;> rfl)
      | (with_reducible refine vc_condF ?_ ?_; · simp only [opsV, dV, modeV, pureV, guardV, undef, opV, callV, intV, arith, ne_eq, Nat.min_def, vsB, seval, Tryd.underlying22] <;> rfl)
      | (with_reducible refine vc_exit ?_; simp only [↓reduceIte, Nat.reduceEqDiff])
      | (with_reducible refine vc_ret ?_; simp only [retV, resL, one])
      | (with_reducible refine hK _ _ ?_; clear hK)
      | (clear hK; with_reducible refine hK _ _ ?_; clear hK)
      | (clear hK; clear hK; with_reducible refine hK _ _ ?_; clear hK)
      | (simp only [opsV, dV, modeV, pureV, guardV, undef, opV, callV, intV, arith, ne_eq, Nat.min_def, vsB, seval, Tryd.underlying22]))
    have : N64 xs = 0 := (digs_eq_nil two64).1 (List.eq_nil_of_length_eq_zero ht)
    exact ⟨hE, by rw [this, bitLen_zero]; rfl⟩
  · obtain ⟨m, hm⟩ : ∃ m, (D64 (N64 xs)).length = m + 1 := ⟨_, (Nat.succ_pred_eq_of_ne_zero ht).symm⟩
    obtain ⟨ad, ha, hld⟩ := hr.get (k := .i64) (i := m) (by omega)
    repeat (first
      | (with_reducible refine vc_seq fun K hK => ?_)
      | (with_reducible refine vc_reg ?_)
      | (with_reducible refine vc_skip ?_)
      | (with_reducible refine vc_block ?_)
      | (with_reducible refine vc_scope ?_)
      | (with_reducible refine vc_label ?_)
      | (with_reducible refine vc_condT ?_ ?_; · simp only [opsV, dV, modeV, pureV, guardV, undef, opV, callV, intV, arith, ne_eq, Nat.min_def, vsB, seval, Tryd.underlying22] <;> rfl)
      | (with_reducible refine vc_condF ?_ ?_; · simp only [opsV, dV, modeV, pureV, guardV, undef, opV, callV, intV, arith, ne_eq, Nat.min_def, vsB, seval, Tryd.underlying22] <;> rfl)
      | (with_reducible refine vc_exit ?_; simp only [↓reduceIte, Nat.reduceEqDiff])
      | (with_reducible refine vc_ret ?_; simp only [retV, resL, one])
      | (with_reducible refine hK _ _ ?_; clear hK)
      | (clear hK; with_reducible refine hK _ _ ?_; clear hK)
      | (clear hK; clear hK; with_reducible refine hK _ _ ?_; clear hK)
      | (simp only [opsV, dV, modeV, pureV, guardV, undef, opV, callV, intV, arith, ne_eq, Nat.min_def, vsB, seval, Tryd.underlying22]))
    refine ⟨_, hr.len.cast hm, ?_⟩
    repeat (first
      | (with_reducible refine vc_seq fun K hK => ?_)
      | (with_reducible refine vc_reg ?_)
      | (with_reducible refine vc_skip ?_)
      | (with_reducible refine vc_block ?_)
      | (with_reducible refine vc_scope ?_)
      | (with_reducible refine vc_label ?_)
      | (with_reducible refine vc_condT ?_ ?_; · simp only [opsV, dV, modeV, pureV, guardV, undef, opV, callV, intV, arith, ne_eq, Nat.min_def, vsB, seval, Tryd.underlying22] <;> rfl)
      | (with_reducible refine vc_condF ?_ ?_; · simp only [opsV, dV, modeV, pureV, guardV, undef, opV, callV, intV, arith, ne_eq, Nat.min_def, vsB, seval, Tryd.underlying22] <;> rfl)
      | (with_reducible refine vc_exit ?_; simp only [↓reduceIte, Nat.reduceEqDiff])
      | (with_reducible refine vc_ret ?_; simp only [retV, resL, one])
      | (with_reducible refine hK _ _ ?_; clear hK)
      | (clear hK; with_reducible refine hK _ _ ?_; clear hK)
      | (clear hK; clear hK; with_reducible refine hK _ _ ?_; clear hK)
      | (simp only [opsV, dV, modeV, pureV, guardV, undef, opV, callV, intV, arith, ne_eq, Nat.min_def, vsB, seval, Tryd.underlying22]))
    refine ⟨(by unfold R64; omega), (by unfold R64; omega), _, hr.len.cast hm, ?_⟩
    repeat (first
      | (with_reducible refine vc_seq fun K hK => ?_)
      | (with_reducible refine vc_reg ?_)
      | (with_reducible refine vc_skip ?_)
      | (with_reducible refine vc_block ?_)
      | (with_reducible refine vc_scope ?_)
      | (with_reducible refine vc_label ?_)
      | (with_reducible refine vc_condT ?_ ?_; · simp only [opsV, dV, modeV, pureV, guardV, undef, opV, callV, intV, arith, ne_eq, Nat.min_def, vsB, seval, Tryd.underlying22] <;> rfl)
      | (with_reducible refine vc_condF ?_ ?_; · simp only [opsV, dV, modeV, pureV, guardV, undef, opV, callV, intV, arith, ne_eq, Nat.min_def, vsB, seval, Tryd.underlying22] <;> rfl)
      | (with_reducible refine vc_exit ?_; simp only [↓reduceIte, Nat.reduceEqDiff])
      | (with_reducible refine vc_ret ?_; simp only [retV, resL, one])
      | (with_reducible refine hK _ _ ?_; clear hK)
      | (clear hK; with_reducible refine hK _ _ ?_; clear hK)
      | (clear hK; clear hK; with_reducible refine hK _ _ ?_; clear hK)
      | (simp only [opsV, dV, modeV, pureV, guardV, undef, opV, callV, intV, arith, ne_eq, Nat.min_def, vsB, seval, Tryd.underlying22]))
    refine ⟨(by unfold R64; omega), ad, ha, _, hld _ (Ext.refl _), ?_⟩
    repeat (first
      | (with_reducible refine vc_seq fun K hK => ?_)
      | (with_reducible refine vc_reg ?_)
      | (with_reducible refine vc_skip ?_)
      | (with_reducible refine vc_block ?_)
      | (with_reducible refine vc_scope ?_)
      | (with_reducible refine vc_label ?_)
      | (with_reducible refine vc_condT ?_ ?_; · simp only [opsV, dV, modeV, pureV, guardV, undef, opV, callV, intV, arith, ne_eq, Nat.min_def, vsB, seval, Tryd.underlying22] <;> rfl)
      | (with_reducible refine vc_condF ?_ ?_; · simp only [opsV, dV, modeV, pureV, guardV, undef, opV, callV, intV, arith, ne_eq, Nat.min_def, vsB, seval, Tryd.underlying22] <;> rfl)
      | (with_reducible refine vc_exit ?_; simp only [↓reduceIte, Nat.reduceEqDiff])
      | (with_reducible refine vc_ret ?_; simp only [retV, resL, one])
      | (with_reducible refine hK _ _ ?_; clear hK)
      | (clear hK; with_reducible refine hK _ _ ?_; clear hK)
      | (clear hK; clear hK; with_reducible refine hK _ _ ?_; clear hK)
      | (simp only [opsV, dV, modeV, pureV, guardV, undef, opV, callV, intV, arith, ne_eq, Nat.min_def, vsB, seval, Tryd.underlying22]))
    refine len64 _ (hr.lt (by decide) m) ?_
    have hlast : (D64 (N64 xs)).getD m 0 ≠ 0 := by
      refine digs_noTail two64 (N64 xs) _ ?_
      rw [List.getLast?_eq_getElem?, hm]
      simp [List.getD, hm]
    have e := nval_last (B := 18446744073709551616) (xs := D64 (N64 xs)) (by intro h0; rw [h0] at hm; simp at hm)
    rw [nval_digs two64, hm, Nat.add_sub_cancel] at e
    have hlow := nval_lt (B := 18446744073709551616) (by decide) ((D64 (N64 xs)).take m) (fun x hx => hr.2 x (List.mem_of_mem_take hx))
    rw [List.length_take, hm, Nat.min_eq_left (by omega), show (18446744073709551616 : Nat) = 2 ^ 64 from rfl, ← Nat.pow_mul] at hlow
    have hb := bitLen_top (b := 64) (m := m) hlast hlow
    rw [show (2 : Nat) ^ (64 * m) = 18446744073709551616 ^ m by rw [Nat.pow_mul]] at hb
    have hbl := bitLen_le (n := (D64 (N64 xs)).getD m 0) (k := 64) (hr.lt (by decide) m)
    rw [show nval (2 ^ 64) (List.take m (D64 (N64 xs))) + 18446744073709551616 ^ m * (D64 (N64 xs)).getD m 0 = N64 xs from e.symm] at hb
    try simp only [opsV, dV, modeV, pureV, guardV, undef, opV, callV, intV, arith, ne_eq, Nat.min_def, vsB, seval, Tryd.underlying22]
    refine ⟨(by unfold R64; omega), ?_⟩
    repeat (first
      | (with_reducible refine vc_seq fun K hK => ?_)
      | (with_reducible refine vc_reg ?_)
      | (with_reducible refine vc_skip ?_)
      | (with_reducible refine vc_block ?_)
      | (with_reducible refine vc_scope ?_)
      | (with_reducible refine vc_label ?_)
      | (with_reducible refine vc_condT ?_ ?_; · simp only [opsV, dV, modeV, pureV, guardV, undef, opV, callV, intV, arith, ne_eq, Nat.min_def, vsB, seval, Tryd.underlying22] <;> rfl)
      | (with_reducible refine vc_condF ?_ ?_; · simp only [opsV, dV, modeV, pureV, guardV, undef, opV, callV, intV, arith, ne_eq, Nat.min_def, vsB, seval, Tryd.underlying22] <;> rfl)
      | (with_reducible refine vc_exit ?_; simp only [↓reduceIte, Nat.reduceEqDiff])
      | (with_reducible refine vc_ret ?_; simp only [retV, resL, one])
      | (with_reducible refine hK _ _ ?_; clear hK)
      | (clear hK; with_reducible refine hK _ _ ?_; clear hK)
      | (clear hK; clear hK; with_reducible refine hK _ _ ?_; clear hK)
      | (simp only [opsV, dV, modeV, pureV, guardV, undef, opV, callV, intV, arith, ne_eq, Nat.min_def, vsB, seval, Tryd.underlying22]))
    refine ⟨hE, ?_⟩
    congr 1
    omega

end Go.V
namespace Go.V
open Go Go.RowKit Go.Proofs


theorem nat_Zeros {w : World} {v : Value} {xs : List Nat} (hT : Tab w.heap) (h : U64s w.heap v xs) (hl : xs.length ≤ 17592186044416) : FC Tryd.prog 19 #[v] w fun r w' => Ext w w' ∧ r = .int .i64 ((tz (N64 xs) : Nat) : Int) := by
  refine FC.body (l := [v]) (rs := [.tmp 2]) mixed Tryd.func19 rfl (by kernel_rfl) (by kernel_rfl) (Nat.le_of_ble_eq_true rfl) rfl ?_
  with_reducible refine vc_seq fun K hK => ?_
  with_reducible refine vc_reg ?_
  simp only [go_sem, opsV, undef, vsD, intV, arith, seval, Tryd.underlying22]
  refine hK _ _ ?_
  clear hK K
  with_reducible refine vc_seq fun K hK => ?_
  with_reducible refine vc_seq fun K hK => ?_
  refine vc_reg ?_
  try simp only [go_sem, opsV, undef, vsD, intV, arith, seval, Tryd.underlying22]
  refine ⟨_, h.len, ?_⟩
  refine hK _ _ ?_
  clear hK K
  have J : ∀ (e : Env) (w' : World), w' = w → (∀ j, j < xs.length → xs.getD j 0 = 0) → K e w' := by
    rintro e w' rfl hz
    repeat (first
      | (with_reducible refine vc_seq fun K hK => ?_)
      | (with_reducible refine vc_reg ?_)
      | (with_reducible refine vc_skip ?_)
      | (with_reducible refine vc_block ?_)
      | (with_reducible refine vc_scope ?_)
      | (with_reducible refine vc_label ?_)
      | (with_reducible refine vc_condT ?_ ?_; · simp only [go_sem, opsV, undef, vsD, intV, arith, seval, Tryd.underlying22] <;> rfl)
      | (with_reducible refine vc_condF ?_ ?_; · simp only [go_sem, opsV, undef, vsD, intV, arith, seval, Tryd.underlying22] <;> rfl)
      | (with_reducible refine vc_exit ?_; simp only [↓reduceIte, Nat.reduceEqDiff])
      | (with_reducible refine vc_ret ?_; simp only [retV, resL, one])
      | (with_reducible refine hK _ _ ?_; clear hK)
      | (clear hK; with_reducible refine hK _ _ ?_; clear hK)
      | (clear hK; clear hK; with_reducible refine hK _ _ ?_; clear hK)
      | (simp only [go_sem, opsV, undef, vsD, intV, arith, seval, Tryd.underlying22]))
    exact ⟨Ext.refl _, by rw [show N64 xs = 0 from nval_none hz, tz_zero]; rfl⟩
  refine vc_block ?_
  refine vc_loop (fun e w' => w' = w ∧ ∃ k : Nat, k ≤ xs.length ∧ e 5 = v ∧ e 6 = .int .i64 (xs.length : Int) ∧ e 7 = .int .i64 (k : Int) ∧ ∀ j, j < k → xs.getD j 0 = 0) (fun e _ => xs.length - (intOf (e 7)).toNat) ?_ ?_
  · refine ⟨rfl, 0, Nat.zero_le _, ?_⟩
    try simp only [go_sem, opsV, undef, vsD, intV, arith, seval, Tryd.underlying22]
    first | exact ⟨rfl, fun j hj => absurd hj (Nat.not_lt_zero j)⟩ | exact fun j hj => absurd hj (Nat.not_lt_zero j)
  · rintro e w' ⟨rfl, k, hk, h5, h6, h7, hz⟩
    have hmz : (intOf (e 7)).toNat = k := by rw [h7]; rfl
    refine vc_seq fun K1 hK1 => ?_
    refine vc_reg ?_
    try simp only [go_sem, opsV, undef, vsD, intV, arith, seval, Tryd.underlying22, h5, h6, h7]
    refine hK1 _ _ ?_
    clear hK1
    refine vc_seq fun K1 hK1 => ?_
    refine vc_condD (by simp only [go_sem, opsV, undef, vsD, intV, arith, seval, Tryd.underlying22, h5, h6, h7] <;> rfl) (fun ht => ?_) (fun ht => ?_)
    · refine vc_skip ?_
      refine hK1 _ _ ?_
      clear hK1
      refine vc_seq fun K1 hK1 => ?_
      refine vc_block ?_
      refine vc_seq fun K2 hK2 => ?_
      obtain ⟨ad, ha, hld⟩ := h.get (k := .i64) (i := k) ht
      refine vc_reg ?_
      try simp only [go_sem, opsV, undef, vsD, intV, arith, seval, Tryd.underlying22, h5, h6, h7]
      refine ⟨ad, ha, _, hld _ (Ext.refl _), ?_⟩
      refine hK2 _ _ ?_
      clear hK2
      refine vc_seq fun K2 hK2 => ?_
      refine vc_reg ?_
      try simp only [go_sem, opsV, undef, vsD, intV, arith, seval, Tryd.underlying22, h5, h6, h7]
      refine hK2 _ _ ?_
      clear hK2
      refine vc_condD (by simp only [go_sem, opsV, undef, vsD, intV, arith, seval, Tryd.underlying22, h5, h6, h7] <;> rfl) (fun hx => ?_) (fun hx => ?_)
      · have hx0 : xs.getD k 0 ≠ 0 := hx
        refine vc_seq fun K2 hK2 => ?_
        refine vc_reg ?_
        try simp only [go_sem, opsV, undef, vsD, intV, arith, seval, Tryd.underlying22, h5, h6, h7]
        refine ⟨(by unfold R64; omega), ?_⟩
        refine tz64 hT _ (h.lt (by decide) k) hx0 ?_
        have hc := ctz_tz (b := 64) hx0 (h.lt (by decide) k)
        have htz := tz_low (b := 64) (i := k) (r := nval 18446744073709551616 (xs.drop (k + 1))) hx0 (h.lt (by decide) k)
        rw [Nat.pow_mul, show (2 : Nat) ^ 64 = 18446744073709551616 from rfl, ← nval_low ht hz] at htz
        have hb : tz (xs.getD k 0) < 64 := by
          rw [← hc]; exact (Lib.lowest_bit 64 _ hx0 (h.lt (by decide) k)).2
        rw [hc]
        try simp only [go_sem, opsV, undef, vsD, intV, arith, seval, Tryd.underlying22, h5, h6, h7]
        refine ⟨(by unfold R64; omega), ?_⟩
        refine hK2 _ _ ?_
        refine vc_ret ?_
        simp only [retV, resL, one, go_sem, opsV, undef, vsD, intV, arith, seval, Tryd.underlying22, h5, h6, h7]
        refine ⟨Ext.refl _, ?_⟩
        show Value.int .i64 _ = Value.int .i64 ((tz (nval 18446744073709551616 xs) : Nat) : Int)
        rw [htz]
        congr 1 <;> omega
      · have hx0 : xs.getD k 0 = 0 := by omega
        refine vc_skip ?_
        refine hK1 _ _ ?_
        refine vc_reg ?_
        try simp only [go_sem, opsV, undef, vsD, intV, arith, seval, Tryd.underlying22, h5, h6, h7]
        refine ⟨(by unfold R64; omega), ⟨k + 1, by omega, rfl, fun j hj => ?_⟩, ?_⟩
        · rcases Nat.lt_or_ge j k with h' | h'
          · exact hz j h'
          · obtain rfl : j = k := by omega
            exact hx0
        · (try rw [hmz])
          simp only [intOf]
          omega
    · refine vc_exit ?_
      simp only [↓reduceIte]
      exact J _ _ rfl (fun j hj => hz j (by omega))

theorem nat_Cmp {w : World} {va vb : Value} {xs ys : List Nat} (hx : U64s w.heap va xs) (hy : U64s w.heap vb ys) (hlx : xs.length ≤ 17592186044416) (hly : ys.length ≤ 17592186044416) :
    FC Tryd.prog 23 #[va, vb] w fun r w' => Ext w w' ∧ r = .int .i64 (cmpI (N64 xs : Int) (N64 ys : Int)) := by
  have hda := digs_le hx.2
  have hdb := digs_le hy.2
  refine FC.body (l := [va, vb]) (rs := [.tmp 4]) mixed Tryd.func23 rfl (by kernel_rfl) (by kernel_rfl) (Nat.le_of_ble_eq_true rfl) rfl ?_
  with_reducible refine vc_seq fun K hK => ?_
  with_reducible refine vc_reg ?_
  simp only [go_sem, opsV, undef, vsD, intV, arith, seval, Tryd.underlying22]
  refine hK _ _ ?_
  clear hK K
  with_reducible refine vc_seq fun K hK => ?_
  refine vc_reg ?_
  try simp only [go_sem, opsV, undef, vsD, intV, arith, seval, Tryd.underlying22]
  refine (nat_cut hx).mono ?_
  rintro ra w1 ⟨hE1, hra, ha⟩
  try simp only [go_sem, opsV, undef, vsD, intV, arith, seval, Tryd.underlying22]
  refine (nat_cut (hy.up hE1)).mono ?_
  rintro rb w2 ⟨hE2, hrb, hb⟩
  have ha := ha.up hE2
  have hE := hE1.trans' hE2
  clear hra hrb
  obtain ⟨A, hA⟩ : ∃ A, A = D64 (N64 xs) := ⟨_, rfl⟩
  obtain ⟨B, hB⟩ : ∃ B, B = D64 (N64 ys) := ⟨_, rfl⟩
  rw [← hA] at ha hda
  rw [← hB] at hb hdb
  have hnA : nval 18446744073709551616 A = N64 xs := by rw [hA]; exact nval_digs two64 _
  have hnB : nval 18446744073709551616 B = N64 ys := by rw [hB]; exact nval_digs two64 _
  try simp only [go_sem, opsV, undef, vsD, intV, arith, seval, Tryd.underlying22]
  refine hK _ _ ?_
  clear hK K
  with_reducible refine vc_seq fun K hK => ?_
  with_reducible refine vc_seq fun K hK => ?_
  refine vc_reg ?_
  try simp only [go_sem, opsV, undef, vsD, intV, arith, seval, Tryd.underlying22]
  refine ⟨_, ha.len, _, hb.len, ?_⟩
  refine hK _ _ ?_
  clear hK K
  refine vc_condD (by simp only [go_sem, opsV, undef, vsD, intV, arith, seval, Tryd.underlying22] <;> rfl) (fun ht => ?_) (fun ht => ?_)
  · with_reducible refine vc_seq fun K hK => ?_
    refine vc_reg ?_
    try simp only [go_sem, opsV, undef, vsD, intV, arith, seval, Tryd.underlying22]
    refine ⟨_, ha.len, _, hb.len, ?_⟩
    refine compare_int _ _ ?_
    refine hK _ _ ?_
    clear hK K
    refine vc_ret ?_
    simp only [retV, resL, one, go_sem, opsV, undef, vsD, intV, arith, seval, Tryd.underlying22]
    refine ⟨hE, ?_⟩
    congr 1
    unfold cmpI
    simp only [Int.ofNat_lt]
    rcases Nat.lt_or_gt_of_ne ht with h' | h'
    · have := nval_lt_of_len two64 (n := N64 xs) (m := N64 ys) (by rw [← show A = digs 18446744073709551616 (N64 xs) from hA, ← show B = digs 18446744073709551616 (N64 ys) from hB]; exact h')
      rw [if_pos h', if_pos this]
    · have := nval_lt_of_len two64 (n := N64 ys) (m := N64 xs) (by rw [← show A = digs 18446744073709551616 (N64 xs) from hA, ← show B = digs 18446744073709551616 (N64 ys) from hB]; exact h')
      rw [if_neg (by omega), if_pos h', if_neg (by omega), if_pos this]
  · have hlen : A.length = B.length := by omega
    refine vc_skip ?_
    refine hK _ _ ?_
    clear hK
    with_reducible refine vc_seq fun K hK => ?_
    with_reducible refine vc_seq fun K hK => ?_
    refine vc_reg ?_
    try simp only [go_sem, opsV, undef, vsD, intV, arith, seval, Tryd.underlying22]
    refine ⟨_, ha.len, (by unfold R64; omega), ?_⟩
    refine hK _ _ ?_
    clear hK K
    have J : ∀ (e : Env) (w' : World), Ext w w' → (∀ j, A.getD j 0 = B.getD j 0) → K e w' := by
      intro e w' hE' hab
      repeat (first
        | (with_reducible refine vc_seq fun K hK => ?_)
        | (with_reducible refine vc_reg ?_)
        | (with_reducible refine vc_skip ?_)
        | (with_reducible refine vc_block ?_)
        | (with_reducible refine vc_scope ?_)
        | (with_reducible refine vc_label ?_)
        | (with_reducible refine vc_condT ?_ ?_; · simp only [go_sem, opsV, undef, vsD, intV, arith, seval, Tryd.underlying22] <;> rfl)
        | (with_reducible refine vc_condF ?_ ?_; · simp only [go_sem, opsV, undef, vsD, intV, arith, seval, Tryd.underlying22] <;> rfl)
        | (with_reducible refine vc_exit ?_; simp only [↓reduceIte, Nat.reduceEqDiff])
        | (with_reducible refine vc_ret ?_; simp only [retV, resL, one])
        | (with_reducible refine hK _ _ ?_; clear hK)
        | (clear hK; with_reducible refine hK _ _ ?_; clear hK)
        | (clear hK; clear hK; with_reducible refine hK _ _ ?_; clear hK)
        | (simp only [go_sem, opsV, undef, vsD, intV, arith, seval, Tryd.underlying22]))
      refine ⟨hE', ?_⟩
      have : A = B := list_ext_getD hlen hab
      rw [← hnA, ← hnB, this]
      simp [cmpI]
    refine vc_block ?_
    refine vc_loop (fun e w' => Ext w2 w' ∧ ∃ k : Nat, k ≤ A.length ∧ e 0 = ra ∧ e 1 = rb ∧ e 5 = .int .i64 ((k : Int) - 1) ∧ ∀ j, k ≤ j → A.getD j 0 = B.getD j 0) (fun e _ => (intOf (e 5) + 1).toNat) ?_ ?_
    · refine ⟨Ext.refl _, A.length, Nat.le_refl _, ?_⟩
      try simp only [go_sem, opsV, undef, vsD, intV, arith, seval, Tryd.underlying22]
      refine fun j hj => ?_
      simp [List.getD, List.getElem?_eq_none hj, List.getElem?_eq_none (hlen ▸ hj)]
    · rintro e w' ⟨hE', k, hk, h0, h1, h5, hab⟩
      have hmz : (intOf (e 5) + 1).toNat = k := by rw [h5]; simp only [intOf]; omega
      refine vc_seq fun K1 hK1 => ?_
      refine vc_seq fun K2 hK2 => ?_
      rcases Nat.eq_zero_or_pos k with rfl | hp
      · have hneg : ¬ ((0 : Int) ≤ ((0 : Nat) : Int) - 1) := by omega
        refine vc_reg ?_
        simp only [go_sem, opsV, undef, vsD, intV, arith, seval, Tryd.underlying22, h5, hneg]
        refine hK2 _ _ ?_
        refine vc_condF (by simp only [go_sem, opsV, undef, vsD, intV, arith, seval, Tryd.underlying22] <;> rfl) ?_
        refine vc_exit ?_
        simp only [↓reduceIte]
        exact J _ _ (hE.trans' hE') (fun j => hab j (Nat.zero_le j))
      · obtain ⟨m, rfl⟩ : ∃ m, k = m + 1 := ⟨k - 1, by omega⟩
        rw [cast_succ_sub] at h5
        obtain ⟨ad, hia, hla⟩ := (ha.up hE').get (k := .i64) (i := m) (by omega)
        obtain ⟨bd, hib, hlb⟩ := (hb.up hE').get (k := .i64) (i := m) (by omega)
        refine vc_reg ?_
        simp only [go_sem, opsV, undef, vsD, intV, arith, seval, Tryd.underlying22, h5]
        refine hK2 _ _ ?_
        clear hK2
        refine vc_condT (by simp only [go_sem, opsV, undef, vsD, intV, arith, seval, Tryd.underlying22] <;> rfl) ?_
        refine vc_skip ?_
        refine hK1 _ _ ?_
        clear hK1
        refine vc_seq fun K1 hK1 => ?_
        refine vc_block ?_
        refine vc_seq fun K2 hK2 => ?_
        refine vc_draw [(0, 0), (1, 0), (2, 0), (3, 1), (4, 0), (5, 0), (6, 0), (7, 1), (8, 0)] (by kernel_rfl) ?_
        simp only [go_sem, opsV, undef, vsD, intV, arith, seval, Tryd.underlying22, h0, h1, h5]
        refine ⟨ad, hia, _, hla _ (ext_drew _), bd, hib, _, hlb _ (ext_drew _), ?_⟩
        simp only [go_sem, opsV, undef, vsD, intV, arith, seval, Tryd.underlying22]
        refine hK2 _ _ ?_
        clear hK2
        refine vc_condD (by simp only [go_sem, opsV, undef, vsD, intV, arith, seval, Tryd.underlying22] <;> rfl) (fun ht => ?_) (fun ht => ?_)
        · refine vc_seq fun K2 hK2 => ?_
          refine vc_draw [(0, 0), (1, 0), (2, 0), (3, 1), (4, 0), (5, 0), (6, 0), (7, 1), (8, 3), (9, 0)] (by kernel_rfl) ?_
          simp only [go_sem, opsV, undef, vsD, intV, arith, seval, Tryd.underlying22, h0, h1, h5]
          refine ⟨ad, hia, _, hla _ ((ext_drew _).trans' (ext_drew _)), bd, hib, _, hlb _ ((ext_drew _).trans' (ext_drew _)), ?_⟩
          refine compare_u64 _ _ ?_
          try simp only [go_sem, opsV, undef, vsD, intV, arith, seval, Tryd.underlying22]
          refine hK2 _ _ ?_
          refine vc_ret ?_
          simp only [retV, resL, one, go_sem, opsV, undef, vsD, intV, arith, seval, Tryd.underlying22]
          refine ⟨((hE.trans' hE').drew').drew', ?_⟩
          congr 1
          unfold cmpI
          simp only [Int.ofNat_lt]
          have hab' : ∀ j, m < j → A.getD j 0 = B.getD j 0 := fun j hj => hab j hj
          rw [← hnA, ← hnB]
          rcases Nat.lt_or_gt_of_ne ht with h' | h'
          · have := nval_part (B := 18446744073709551616) (by decide) ha.2 hlen (i := m) (by omega) hab' h'
            rw [if_pos h', if_pos this]
          · have := nval_part (B := 18446744073709551616) (by decide) hb.2 hlen.symm (i := m) (by omega) (fun j hj => (hab' j hj).symm) h'
            rw [if_neg (by omega), if_pos h', if_neg (by omega), if_pos this]
        · refine vc_skip ?_
          refine hK1 _ _ ?_
          refine vc_reg ?_
          simp only [go_sem, opsV, undef, vsD, intV, arith, seval, Tryd.underlying22, h0, h1, h5]
          refine ⟨(by unfold R64; omega), ⟨Bel.drew hE', m, by omega, rfl, fun j hj => ?_⟩, ?_⟩
          · rcases Nat.lt_or_ge m j with h' | h'
            · exact hab j h'
            · obtain rfl : j = m := by omega
              simpa using ht
          · (try rw [hmz])
            simp only [intOf]
            omega

end Go.V
namespace Go.V
open Go Go.RowKit Go.Proofs

section
variable {P : Program}
/-- An element of an owned row: it can be reached, read, written. -/
theorem own_at {t el bytes : Nat} {z : Value} (T : SlT P t el 1 bytes z) (hsc : scalB P el = true) {w : World} {base : Nat} {v : Value} {n : Nat} {cs : List Value} (h : w.ownsRow base el 1 v n cs) {k : IntKind} {i : Nat} (hi : i < n) :
    ∃ ad, IxA P t v (.int k (i : Int)) ad ∧ (∀ u, cs[i]? = some u → Ld P w el (.pointer (some ad)) u) ∧
      ∀ u : Value, u.oneCell' = true → ∃ w', St P w el (.pointer (some ad)) u w' ∧ w'.ownsRow base el 1 v n (cs.set i u) ∧ w'.heap.size = w.heap.size ∧ ∀ (B : Nat) (w0 : World), Bel B w0 w → B ≤ base → Bel B w0 w' := by
  rcases h.2 with ⟨rfl, h0⟩ | ⟨g, cap, cur, rfl, hbase, hg, hn, hm, hcs, htake⟩
  · omega
  · have hrow : Row w g el cur.toList := by unfold Row; simpa using hg
    have hc : cur.size = cap := by rw [hcs, Nat.mul_one]
    refine ⟨⟨g, i, none⟩, ?_, ?_, ?_⟩
    · have := ix_lit T (b := g) (off := 0) (n := n) (cap := cap) (k := k) (i := (i : Int)) (by omega) (by omega)
      simpa using this
    · intro u hu
      refine hrow.ld hsc ?_
      rw [← htake, List.getElem?_take] at hu
      split at hu
      · exact hu
      · cases hu
    · intro u hu
      obtain ⟨w', h1, h2, h3⟩ := hrow.st (P := P) hsc (i := i) (by simp; omega) hu
      refine ⟨w', h1, ⟨by rw [List.length_set]; exact h.1, .inr ⟨g, cap, (cur.toList.set i u).toArray, rfl, hbase, h2, hn, hm, by simp [hc], ?_⟩⟩, h3.size, fun B w0 hb hB => Upd.below hb h3 (Nat.le_trans hB hbase)⟩
      rw [← htake]
      simp [List.take_set]
theorem own_len {w : World} {base el : Nat} {v : Value} {n : Nat} {cs : List Value} (h : w.ownsRow base el 1 v n cs) : LenIs v n := by
  rcases h.2 with ⟨rfl, rfl⟩ | ⟨g, cap, cur, rfl, _⟩
  · exact ⟨_, _, rfl⟩
  · exact ⟨_, _, rfl⟩
theorem wc_set (k : IntKind) (xs : List Nat) (i y : Nat) : (wc k xs).set i (.int k (y : Int)) = wc k (xs.set i y) := by simp [wc, List.map_set]
/-- An owned row stays while what lies above it, or below, turns. -/
theorem own_ext {w w' : World} {base el s : Nat} {v : Value} {n : Nat} {cs : List Value} (h : w.ownsRow base el s v n cs) (hE : Ext w w') : w'.ownsRow base el s v n cs := by
  refine ⟨h.1, h.2.imp id ?_⟩
  rintro ⟨g, cap, cur, h1, h2, h3, rest⟩
  exact ⟨g, cap, cur, h1, h2, hE.at h3, rest⟩
theorem own_base {w : World} {base base' el s : Nat} {v : Value} {n : Nat} {cs : List Value} (h : w.ownsRow base el s v n cs) (hb : base' ≤ base) : w.ownsRow base' el s v n cs := by
  refine ⟨h.1, h.2.imp id ?_⟩
  rintro ⟨g, cap, cur, h1, h2, rest⟩
  exact ⟨g, cap, cur, h1, Nat.le_trans hb h2, rest⟩
theorem own_row {w : World} {b el : Nat} {xs : List Value} {n cap : Nat} (h : Row w b el xs) (hl : xs.length = cap) (hn : n ≤ cap) (hc : cap ≤ 9223372036854775807) : w.ownsRow b el 1 (.slice (some ⟨b, 0, none⟩) n cap) n (xs.take n) :=
  ⟨by simp; omega, .inr ⟨b, cap, xs.toArray, rfl, Nat.le_refl _, h, hn, by unfold maxLen; omega, by simp [hl], by simp⟩⟩
/-- The front of an owned row. -/
theorem own_take {w : World} {base el : Nat} {v : Value} {n m : Nat} {cs : List Value} (h : w.ownsRow base el 1 v n cs) (hm : m ≤ n) : w.ownsRow base el 1 (resl v m) m (cs.take m) := by
  have hl := h.1
  refine ⟨by rw [List.length_take]; omega, ?_⟩
  rcases h.2 with ⟨rfl, h0⟩ | ⟨g, cap, cur, rfl, hbase, hg, hn, hmx, hcs, htake⟩
  · left; exact ⟨by obtain rfl : m = 0 := by omega
                    rfl, by omega⟩
  · right
    refine ⟨g, cap, cur, rfl, hbase, hg, by omega, hmx, hcs, ?_⟩
    rw [← htake, List.take_take]
    congr 1
    omega
end

theorem own_drew {w : World} {base el s : Nat} {v : Value} {n : Nat} {cs : List Value} (h : w.ownsRow base el s v n cs) : w.drew.ownsRow base el s v n cs := own_ext h (ext_drew w)
/-- An owned row of words. -/
structure OW (el : TypeId) (k : IntKind) (B : Nat) (w : World) (base : Nat) (v : Value) (xs : List Nat) : Prop where
  own : w.ownsRow base el 1 v xs.length (wc k xs)
  lt : ∀ x ∈ xs, x < B
  le : xs.length ≤ 140737488355328
theorem OW.ws {el : TypeId} {k : IntKind} {B : Nat} {w : World} {base : Nat} {v : Value} {xs : List Nat} (h : OW el k B w base v xs) : Ws k B w.heap v xs := own_ws h.own h.lt h.le
theorem OW.len {el : TypeId} {k : IntKind} {B : Nat} {w : World} {base : Nat} {v : Value} {xs : List Nat} (h : OW el k B w base v xs) : LenIs v xs.length := own_len h.own
theorem OW.up {el : TypeId} {k : IntKind} {B : Nat} {w w' : World} {base : Nat} {v : Value} {xs : List Nat} (h : OW el k B w base v xs) (hE : Ext w w') : OW el k B w' base v xs := ⟨own_ext h.own hE, h.lt, h.le⟩
theorem OW.base {el : TypeId} {k : IntKind} {B : Nat} {w : World} {base base' : Nat} {v : Value} {xs : List Nat} (h : OW el k B w base v xs) (hb : base' ≤ base) : OW el k B w base' v xs := ⟨own_base h.own hb, h.lt, h.le⟩
theorem OW.take {el : TypeId} {k : IntKind} {B : Nat} {w : World} {base : Nat} {v : Value} {xs : List Nat} (h : OW el k B w base v xs) {m : Nat} (hm : m ≤ xs.length) : OW el k B w base (resl v m) (xs.take m) := by
  have := own_take h.own hm
  refine ⟨?_, fun x hx => h.lt x (List.mem_of_mem_take hx), by rw [List.length_take]; have := h.le; omega⟩
  rw [List.length_take, Nat.min_eq_left hm]
  simpa [wc, List.map_take] using this
theorem OW.at {P : Program} {t el bytes : Nat} {z : Value} (T : SlT P t el 1 bytes z) (hsc : scalB P el = true) {k : IntKind} {B : Nat} {w : World} {base : Nat} {v : Value} {xs : List Nat} (h : OW el k B w base v xs) {ki : IntKind} {i : Nat} (hi : i < xs.length) :
    ∃ ad, IxA P t v (.int ki (i : Int)) ad ∧ Ld P w el (.pointer (some ad)) (.int k ((xs.getD i 0 : Nat) : Int)) ∧
      ∀ y : Nat, y < B → ∃ w', St P w el (.pointer (some ad)) (.int k (y : Int)) w' ∧ OW el k B w' base v (xs.set i y) ∧ w'.heap.size = w.heap.size ∧ ∀ (B : Nat) (w0 : World), Bel B w0 w → B ≤ base → Bel B w0 w' := by
  obtain ⟨ad, h1, h2, h3⟩ := own_at T hsc h.own (k := ki) hi
  refine ⟨ad, h1, h2 _ (wc_get hi), fun y hy => ?_⟩
  obtain ⟨w', h4, h5, h6, h7⟩ := h3 (.int k (y : Int)) rfl
  refine ⟨w', h4, ⟨by rw [List.length_set, ← wc_set]; exact h5, ?_, by rw [List.length_set]; exact h.le⟩, h6, h7⟩
  intro x hx
  rcases List.mem_or_eq_of_mem_set hx with h' | rfl
  · exact h.lt x h'
  · exact hy
/-- Cut to its digits. -/
theorem OW.digs {el : TypeId} {k : IntKind} {B : Nat} (hB : 2 ≤ B) {w : World} {base : Nat} {v : Value} {xs : List Nat} (h : OW el k B w base v xs) : OW el k B w base (resl v (Go.V.digs B (nval B xs)).length) (Go.V.digs B (nval B xs)) := by
  have hl : (Go.V.digs B (nval B xs)).length ≤ xs.length := digs_len_le hB (nval_lt (by omega) xs h.lt)
  have := h.take hl
  rwa [take_digs_len hB h.lt] at this


theorem mod64 (n : Nat) : n % 18446744073709551616 < 18446744073709551616 := Nat.mod_lt _ (by decide)

abbrev O64 (w : World) (base : Nat) (v : Value) (xs : List Nat) : Prop := OW 27 .u64 18446744073709551616 w base v xs

theorem own_zeros {w2 w3 : World} {b n : Nat} (hnew : New w2 b 27 (madeCells (Value.int .u64 0).cells (n * 1)).toList w3) (hn : n ≤ 140737488355328) :
    O64 w3 w2.heap.size (.slice (some ⟨b, 0, none⟩) n n) (List.replicate n 0) := by
  have hrow := hnew.row
  rw [show (Value.int .u64 0).cells = #[.int .u64 0] from rfl, Nat.mul_one, toList_madeCells_one] at hrow
  have := own_row (w := w3) hrow (n := n) (cap := n) (by simp) (Nat.le_refl _) (by omega)
  refine ⟨?_, fun x hx => by rw [List.eq_of_mem_replicate hx]; decide, by simp; omega⟩
  have e : (List.replicate n (Value.int .u64 0)).take n = wc .u64 (List.replicate n 0) := by
    rw [List.take_of_length_le (by simp)]; simp [wc]
  rw [e] at this
  rw [List.length_replicate]
  exact own_base this hnew.fresh

theorem nat_Add_l1 {w2 : World} {so : Value} {N : Env → World → Prop} {X : Nat → Env → World → Prop} {R : Env → World → Prop} {L T : Nat} (hTlt : T < 18446744073709551616 ^ (L + 1)) (hL : L ≤ 1099511627776)
    (J : ∀ (e : Env) (w' : World) (os : List Nat), N64 os = T → O64 w' w2.heap.size so os → Ext w2 w' → e 5 = so → X 2 e w')
    (e : Env) (w' : World) (os : List Nat) (c i : Nat) (hi : i ≤ L + 1) (hol : os.length = L + 1) (hc : c ≤ 1) (hsum : nval 18446744073709551616 os + 18446744073709551616 ^ i * c = T)
    (own : O64 w' w2.heap.size so os) (hB : Ext w2 w') (g5 : e 5 = so) (g6 : e 6 = .int .u64 (c : Int)) (g8 : e 8 = .int .i64 (i : Int)) :
    vc Tryd.prog (nthLoop Tryd.f24 1) N X R e w' := by
  change vc _ (.loop _) _ _ _ _ _
  refine vc_loop (fun e w' => ∃ (os : List Nat) (c i : Nat), i ≤ L + 1 ∧ os.length = L + 1 ∧ c ≤ 1 ∧ nval 18446744073709551616 os + 18446744073709551616 ^ i * c = T ∧ O64 w' w2.heap.size so os ∧ Ext w2 w' ∧ e 5 = so ∧ e 6 = .int .u64 (c : Int) ∧ e 8 = .int .i64 (i : Int)) (fun e _ => L + 1 - (intOf (e 8)).toNat) ?_ ?_
  · exact ⟨os, c, i, hi, hol, hc, hsum, own, hB, g5, g6, g8⟩
  · clear hsum own hol hc hB g5 g6 g8 hi
    clear os c i e w'
    rintro e w' ⟨os, c, i, hi, hol, hc, hsum, own, hB, g5, g6, g8⟩
    have hmz : (intOf (e 8)).toNat = i := by rw [g8]; rfl
    refine vc_seq fun K1 hK1 => ?_
    refine vc_seq fun K2 hK2 => ?_
    refine vc_reg ?_
    try simp only [go_sem, opsV, undef, vsD, intV, arith, seval, Tryd.underlying22, g5, g6, g8]
    refine ⟨_, own.len.cast hol, ?_⟩
    refine hK2 _ _ ?_
    clear hK2
    refine vc_condD (by simp only [go_sem, opsV, undef, vsD, intV, arith, seval, Tryd.underlying22, g5, g6, g8] <;> rfl) (fun ht => ?_) (fun ht => ?_)
    · refine vc_skip ?_
      refine hK1 _ _ ?_
      clear hK1
      refine vc_seq fun K1 hK1 => ?_
      refine vc_block ?_
      refine vc_seq fun K2 hK2 => ?_
      refine vc_seq fun K3 hK3 => ?_
      refine vc_reg ?_
      try simp only [go_sem, opsV, undef, vsD, intV, arith, seval, Tryd.underlying22, g5, g6, g8]
      refine hK3 _ _ ?_
      clear hK3
      refine vc_condD (by simp only [go_sem, opsV, undef, vsD, intV, arith, seval, Tryd.underlying22, g5, g6, g8] <;> rfl) (fun hc0 => ?_) (fun hc0 => ?_)
      · refine vc_exit ?_
        simp only [↓reduceIte, Nat.reduceEqDiff]
        have hc0 : c = 0 := hc0
        rw [hc0, Nat.mul_zero, Nat.add_zero] at hsum
        refine J _ _ os hsum own hB ?_
        try simp only [go_sem, opsV, undef, vsD, intV, arith, seval, Tryd.underlying22, g5, g6, g8]
      · refine vc_skip ?_
        refine hK2 _ _ ?_
        clear hK2
        obtain ⟨ad, hix, hld, hst⟩ := own.at T64 S64 (ki := .i64) (i := i) (by omega)
        refine vc_reg ?_
        try simp only [go_sem, opsV, undef, vsD, intV, arith, seval, Tryd.underlying22, g5, g6, g8]
        refine ⟨ad, hix, _, hld, ?_⟩
        refine add64 (os.getD i 0) 0 c hc ?_
        obtain ⟨w'', h1, h2, h3, h4⟩ := hst ((os.getD i 0 + 0 + c) % 18446744073709551616) (mod64 _)
        try simp only [go_sem, opsV, undef, vsD, intV, arith, seval, Tryd.underlying22, g5, g6, g8]
        refine ⟨ad, hix, w'', h1, ?_⟩
        refine hK1 _ _ ?_
        refine vc_reg ?_
        try simp only [go_sem, opsV, undef, vsD, intV, arith, seval, Tryd.underlying22, g5, g6, g8]
        refine ⟨(by unfold R64; omega), ⟨os.set i ((os.getD i 0 + 0 + c) % 18446744073709551616), (os.getD i 0 + 0 + c) / 18446744073709551616, i + 1, by omega, by rw [List.length_set]; exact hol, ?_, ?_, h2, h4 _ _ hB (Nat.le_refl _), ?_⟩, ?_⟩
        · have := own.ws.lt (by decide) i; omega
        · exact add_step (d := 0) (by decide) (by omega) rfl hsum
        · try simp only [go_sem, opsV, undef, vsD, intV, arith, seval, Tryd.underlying22, g5, g6, g8]
        · (try rw [hmz])
          simp only [intOf]; omega
    · refine vc_exit ?_
      obtain rfl : i = L + 1 := by omega
      have hc0 : c = 0 := by
        rcases Nat.eq_zero_or_pos c with h | h
        · exact h
        · have := Nat.mul_le_mul_left (18446744073709551616 ^ (L + 1)) h
          rw [Nat.mul_one] at this
          omega
      rw [hc0, Nat.mul_zero, Nat.add_zero] at hsum
      refine J _ _ os hsum own hB ?_
      try simp only [go_sem, opsV, undef, vsD, intV, arith, seval, Tryd.underlying22, g5, g6, g8]

theorem nat_Add_l0 {w2 : World} {so rb : Value} {B : List Nat} (hb : U64s w2.heap rb B) {N : Env → World → Prop} {X : Nat → Env → World → Prop} {R : Env → World → Prop} {L T : Nat} (hL : L ≤ 1099511627776) (hle : B.length ≤ L)
    (J : ∀ (e : Env) (w' : World) (os : List Nat) (c : Nat), os.length = L + 1 → c ≤ 1 → nval 18446744073709551616 os + 18446744073709551616 ^ B.length * c = T → O64 w' w2.heap.size so os → Ext w2 w' → e 1 = rb → e 5 = so → e 6 = .int .u64 (c : Int) → X 0 e w')
    (e : Env) (w' : World) (os : List Nat) (hol : os.length = L + 1) (hsum : nval 18446744073709551616 os + nval 18446744073709551616 B = T)
    (own : O64 w' w2.heap.size so os) (hB : Ext w2 w') (g1 : e 1 = rb) (g5 : e 5 = so) (g6 : e 6 = .int .u64 0) (g28 : e 28 = .int .i64 (B.length : Int)) (g29 : e 29 = .int .i64 0) :
    vc Tryd.prog (nthLoop Tryd.f24 0) N X R e w' := by
  change vc _ (.loop _) _ _ _ _ _
  refine vc_loop (fun e w' => ∃ (os : List Nat) (c i : Nat), i ≤ B.length ∧ os.length = L + 1 ∧ c ≤ 1 ∧ nval 18446744073709551616 os + 18446744073709551616 ^ i * (c + nval 18446744073709551616 (B.drop i)) = T ∧ O64 w' w2.heap.size so os ∧ Ext w2 w' ∧ e 1 = rb ∧ e 5 = so ∧ e 6 = .int .u64 (c : Int) ∧ e 28 = .int .i64 (B.length : Int) ∧ e 29 = .int .i64 (i : Int)) (fun e _ => B.length - (intOf (e 29)).toNat) ?_ ?_
  · refine ⟨os, 0, 0, Nat.zero_le _, hol, by omega, ?_, own, hB, g1, g5, g6, g28, g29⟩
    rw [List.drop_zero, Nat.pow_zero, Nat.one_mul, Nat.zero_add]
    exact hsum
  · clear hsum own hol hB g1 g5 g6 g28 g29
    clear os e w'
    rintro e w' ⟨os, c, i, hi, hol, hc, hsum, own, hB, g1, g5, g6, g28, g29⟩
    have hmz : (intOf (e 29)).toNat = i := by rw [g29]; rfl
    refine vc_seq fun K1 hK1 => ?_
    refine vc_reg ?_
    try simp only [go_sem, opsV, undef, vsD, intV, arith, seval, Tryd.underlying22, g1, g5, g6, g28, g29]
    refine hK1 _ _ ?_
    clear hK1
    refine vc_seq fun K1 hK1 => ?_
    refine vc_condD (by simp only [go_sem, opsV, undef, vsD, intV, arith, seval, Tryd.underlying22, g1, g5, g6, g28, g29] <;> rfl) (fun ht => ?_) (fun ht => ?_)
    · refine vc_skip ?_
      refine hK1 _ _ ?_
      clear hK1
      refine vc_seq fun K1 hK1 => ?_
      refine vc_block ?_
      refine vc_seq fun K2 hK2 => ?_
      refine vc_reg ?_
      try simp only [go_sem, opsV, undef, vsD, intV, arith, seval, Tryd.underlying22, g1, g5, g6, g28, g29]
      refine hK2 _ _ ?_
      clear hK2
      obtain ⟨ad, hix, hld, hst⟩ := (own.up (ext_drew _)).at T64 S64 (ki := .i64) (i := i) (by omega)
      obtain ⟨bd, hib, hlb⟩ := (hb.up hB).get (k := .i64) (i := i) ht
      refine vc_draw [(0, 0), (1, 0), (2, 0), (3, 0), (4, 0), (5, 1), (6, 0), (7, 0), (8, 0), (9, 1), (10, 0), (11, 3), (12, 0), (13, 0), (14, 0), (15, 0), (16, 3), (17, 0)] (by kernel_rfl) ?_
      try simp only [go_sem, opsV, undef, vsD, intV, arith, seval, Tryd.underlying22, g1, g5, g6, g28, g29]
      refine ⟨ad, hix, _, hld, bd, hib, _, hlb _ (ext_drew _), ?_⟩
      refine add64 (os.getD i 0) (B.getD i 0) c hc ?_
      obtain ⟨w'', h1, h2, h3, h4⟩ := hst ((os.getD i 0 + B.getD i 0 + c) % 18446744073709551616) (mod64 _)
      try simp only [go_sem, opsV, undef, vsD, intV, arith, seval, Tryd.underlying22, g1, g5, g6, g28, g29]
      refine ⟨ad, hix, w'', h1, ?_⟩
      refine hK1 _ _ ?_
      refine vc_reg ?_
      try simp only [go_sem, opsV, undef, vsD, intV, arith, seval, Tryd.underlying22, g1, g5, g6, g28, g29]
      refine ⟨(by unfold R64; omega), ⟨os.set i ((os.getD i 0 + B.getD i 0 + c) % 18446744073709551616), (os.getD i 0 + B.getD i 0 + c) / 18446744073709551616, i + 1, by omega, by rw [List.length_set]; exact hol, ?_, ?_, h2, h4 _ _ hB.drew' (Nat.le_refl _), ?_⟩, ?_⟩
      · have h5 := own.ws.lt (by decide) i
        have h6 := hb.lt (by decide) i
        omega
      · refine add_step (by decide) (by omega) rfl ?_
        rw [← nval_drop ht]; exact hsum
      · try simp only [go_sem, opsV, undef, vsD, intV, arith, seval, Tryd.underlying22, g1, g5, g6, g28, g29]
      · (try rw [hmz])
        simp only [intOf]; omega
    · refine vc_exit ?_
      obtain rfl : i = B.length := by omega
      rw [nval_drop_all (Nat.le_refl _), Nat.add_zero] at hsum
      exact J _ _ os c hol hc hsum own hB (by try simp only [go_sem, opsV, undef, vsD, intV, arith, seval, Tryd.underlying22, g1, g5, g6, g28, g29]) (by try simp only [go_sem, opsV, undef, vsD, intV, arith, seval, Tryd.underlying22, g1, g5, g6, g28, g29]) (by try simp only [go_sem, opsV, undef, vsD, intV, arith, seval, Tryd.underlying22, g1, g5, g6, g28, g29])

set_option maxHeartbeats 1000000 in
theorem nat_Add {w : World} {va vb : Value} {xs ys : List Nat} (hx : U64s w.heap va xs) (hy : U64s w.heap vb ys) (hlx : xs.length ≤ 1099511627776) (hly : ys.length ≤ 1099511627776) :
    FC Tryd.prog 24 #[va, vb] w fun r w' => Ext w w' ∧ O64 w' w.heap.size r (D64 (N64 xs + N64 ys)) := by
  have hda := digs_le hx.2
  have hdb := digs_le hy.2
  refine FC.body (l := [va, vb]) (rs := [.tmp 4]) mixed Tryd.func24 rfl (by kernel_rfl) (by kernel_rfl) (Nat.le_of_ble_eq_true rfl) rfl ?_
  with_reducible refine vc_seq fun K hK => ?_
  with_reducible refine vc_reg ?_
  simp only [go_sem, opsV, undef, vsD, intV, arith, seval, Tryd.underlying22]
  refine hK _ _ ?_
  clear hK K
  with_reducible refine vc_scope ?_
  with_reducible refine vc_seq fun K hK => ?_
  refine vc_reg ?_
  try simp only [go_sem, opsV, undef, vsD, intV, arith, seval, Tryd.underlying22]
  refine (nat_cut hx).mono ?_
  rintro ra w1 ⟨hE1, hra, ha⟩
  try simp only [go_sem, opsV, undef, vsD, intV, arith, seval, Tryd.underlying22]
  refine (nat_cut (hy.up hE1)).mono ?_
  rintro rb w2 ⟨hE2, hrb, hb⟩
  have ha := ha.up hE2
  have hE := hE1.trans' hE2
  clear hra hrb
  try simp only [go_sem, opsV, undef, vsD, intV, arith, seval, Tryd.underlying22]
  refine hK _ _ ?_
  clear hK K
  with_reducible refine vc_seq fun K hK => ?_
  have hnA : N64 (D64 (N64 xs)) = N64 xs := nval_digs two64 _
  have hnB : N64 (D64 (N64 ys)) = N64 ys := nval_digs two64 _
  have J : ∀ (e : Env) (ra rb : Value) (A B : List Nat), e 0 = ra → e 1 = rb → U64s w2.heap ra A → U64s w2.heap rb B → B.length ≤ A.length → A.length ≤ 1099511627776 → N64 A + N64 B = N64 xs + N64 ys → K e w2 := by
    clear hnA hnB
    intro e ra rb A B h0 h1 ha hb hle hlA hT
    refine hK _ _ ?_
    clear hK K
    with_reducible refine vc_seq fun K hK => ?_
    refine vc_reg ?_
    try simp only [go_sem, opsV, undef, vsD, intV, arith, seval, Tryd.underlying22, h0, h1]
    refine ⟨_, ha.len, (by unfold R64; omega), ?_⟩
    obtain ⟨b, w3, hmk, hnew⟩ := make_any (w := w2) T64 (kl := .i64) (kc := .i64) (n := A.length + 1) (by omega) (by omega)
    refine ⟨_, w3, hmk, ?_⟩
    refine hK _ _ ?_
    clear hK K
    have hB2 : Bel w2.heap.size w2 w3 := hnew.ext
    have hrow := hnew.row
    rw [show (Value.int .u64 0).cells = #[.int .u64 0] from rfl, Nat.mul_one, toList_madeCells_one] at hrow
    with_reducible refine vc_seq fun K hK => ?_
    refine vc_reg ?_
    try simp only [go_sem, opsV, undef, vsD, intV, arith, seval, Tryd.underlying22, h0, h1]
    obtain ⟨w4, hcp, hrow4, hup4⟩ := copy_row (P := Tryd.prog) (w := w3) T64 (off := 0) (n := A.length + 1) (cap := A.length + 1) hrow (ha.up hB2).1 (by simp <;> omega) (fun j _ => rfl) (t' := 22) rfl (ty := 3)
    refine ⟨_, w4, hcp, ?_⟩
    refine hK _ _ ?_
    clear hK K
    have own : O64 w4 w2.heap.size (.slice (some ⟨b, 0, none⟩) (A.length + 1) (A.length + 1)) (A ++ [0]) := by
      have := own_row (w := w4) hrow4 (n := A.length + 1) (cap := A.length + 1) (by simp <;> omega) (Nat.le_refl _) (by omega)
      have e : (((List.replicate (A.length + 1) (Value.int .u64 0)).take 0 ++ (List.range (min A.length (A.length + 1))).map (fun j => Value.int .u64 ((A.getD j 0 : Nat) : Int)) ++ (List.replicate (A.length + 1) (Value.int .u64 0)).drop (0 + min A.length (A.length + 1))).take (A.length + 1)) = wc .u64 (A ++ [0]) := by
        have e1 := wc_range .u64 A
        rw [Nat.mul_one] at e1
        rw [Nat.min_eq_left (Nat.le_succ _), e1, List.take_of_length_le (by simp [wc])]
        simp [wc]
      rw [e] at this
      refine ⟨own_base (by simpa using this) hnew.fresh, ?_, by simp; omega⟩
      intro x hx
      rcases List.mem_append.1 hx with h | h
      · exact ha.2 x h
      · simp at h; omega
    have hB4 : Bel w2.heap.size w2 w4 := Upd.below hB2 hup4 hnew.fresh
    have hS4 : w2.heap.size ≤ w4.heap.size := hB4.size
    clear hrow hrow4 hup4 hcp hmk hnew hB2
    obtain ⟨so, hso⟩ : ∃ so, so = Value.slice (some ⟨b, 0, none⟩) (A.length + 1) (A.length + 1) := ⟨_, rfl⟩
    rw [← hso] at own
    with_reducible refine vc_seq fun K hK => ?_
    with_reducible refine vc_reg ?_
    simp only [go_sem, opsV, undef, vsD, intV, arith, seval, Tryd.underlying22, h0, h1, ← hso]
    refine hK _ _ ?_
    clear hK K
    with_reducible refine vc_seq fun K hK => ?_
    with_reducible refine vc_seq fun K hK => ?_
    refine vc_reg ?_
    try simp only [go_sem, opsV, undef, vsD, intV, arith, seval, Tryd.underlying22, h0, h1, ← hso]
    refine ⟨_, hb.len, ?_⟩
    refine hK _ _ ?_
    clear hK K
    -- the second loop and what follows
    have J2 : ∀ (e : Env) (w' : World) (os : List Nat) (c : Nat), os.length = A.length + 1 → c ≤ 1 → nval 18446744073709551616 os + 18446744073709551616 ^ B.length * c = N64 xs + N64 ys →
        O64 w' w2.heap.size so os → Ext w2 w' →
        e 1 = rb → e 5 = so → e 6 = .int .u64 (c : Int) → K e w' := by
      intro e w' os c hol hc hsum own hB g1 g5 g6
      have hb' := hb.up hB
      refine hK _ _ ?_
      clear hK K
      with_reducible refine vc_seq fun K hK => ?_
      with_reducible refine vc_label ?_
      refine hK _ _ ?_
      clear hK K
      with_reducible refine vc_seq fun K hK => ?_
      with_reducible refine vc_seq fun K hK => ?_
      with_reducible refine vc_reg ?_
      try simp only [go_sem, opsV, undef, vsD, intV, arith, seval, Tryd.underlying22, g1, g5, g6]
      refine ⟨_, hb'.len, ?_⟩
      refine hK _ _ ?_
      clear hK K
      have J3 : ∀ (e : Env) (w' : World) (os : List Nat), N64 os = N64 xs + N64 ys →
          O64 w' w2.heap.size so os → Ext w2 w' → e 5 = so → K e w' := by
        intro e w' os hsum own hB g5
        refine hK _ _ ?_
        clear hK K
        with_reducible refine vc_seq fun K hK => ?_
        with_reducible refine vc_reg ?_
        try simp only [go_sem, opsV, undef, vsD, intV, arith, seval, g5]
        refine (nat_cut own.ws).mono ?_
        rintro r w5 ⟨hE5, rfl, hr⟩
        try simp only [go_sem, opsV, undef, vsD, intV, arith, seval, g5]
        refine hK _ _ ?_
        clear hK K
        refine vc_ret ?_
        simp only [retV, resL, one, go_sem, opsV, undef, vsD, intV, arith, seval, g5]
        have o2 := (own.digs two64).up hE5
        rw [show nval 18446744073709551616 os = N64 xs + N64 ys from hsum] at o2
        rw [show N64 os = N64 xs + N64 ys from hsum]
        exact ⟨(hE.trans' hB).trans' hE5, o2.base hE.size⟩
      have hTlt : N64 xs + N64 ys < 18446744073709551616 ^ (A.length + 1) := by
        have h1 := nval_lt (B := 18446744073709551616) (by decide) A ha.2
        have h2 := nval_lt (B := 18446744073709551616) (by decide) B hb.2
        have h3 : (18446744073709551616 : Nat) ^ B.length ≤ 18446744073709551616 ^ A.length := Nat.pow_le_pow_right (by decide) hle
        rw [← hT, Nat.pow_succ]
        show nval _ A + nval _ B < _
        omega
      refine vc_block ?_
      refine nat_Add_l1 (so := so) hTlt hlA (fun e w' os h1 h2 h3 h4 => ?_) _ w' os c B.length (by omega) hol hc hsum own hB ?_ ?_ ?_
      · simp only [↓reduceIte]
        exact J3 e w' os h1 h2 h3 h4
      · try simp only [go_sem, opsV, undef, vsD, intV, arith, seval, Tryd.underlying22, g1, g5, g6]
      · try simp only [go_sem, opsV, undef, vsD, intV, arith, seval, Tryd.underlying22, g1, g5, g6]
      · try simp only [go_sem, opsV, undef, vsD, intV, arith, seval, Tryd.underlying22, g1, g5, g6]
    refine vc_block ?_
    refine nat_Add_l0 (so := so) hb hlA hle (T := N64 xs + N64 ys) (fun e w' os c h1 h2 h3 h4 h5 h6 h7 h8 => ?_) _ w4 (A ++ [0]) (by simp) ?_ own hB4 ?_ ?_ ?_ ?_ ?_
    · simp only [↓reduceIte]
      exact J2 e w' os c h1 h2 h3 h4 h5 h6 h7 h8
    · rw [nval_append]
      simp only [nval, Nat.mul_zero, Nat.add_zero]
      exact hT
    · try simp only [go_sem, opsV, undef, vsD, intV, arith, seval, Tryd.underlying22, h0, h1, ← hso]
    · try simp only [go_sem, opsV, undef, vsD, intV, arith, seval, Tryd.underlying22, h0, h1, ← hso]
    · try simp only [go_sem, opsV, undef, vsD, intV, arith, seval, Tryd.underlying22, h0, h1, ← hso]
    · try simp only [go_sem, opsV, undef, vsD, intV, arith, seval, Tryd.underlying22, h0, h1, ← hso]
    · try simp only [go_sem, opsV, undef, vsD, intV, arith, seval, Tryd.underlying22, h0, h1, ← hso]
  with_reducible refine vc_seq fun K hK => ?_
  with_reducible refine vc_reg ?_
  try simp only [go_sem, opsV, undef, vsD, intV, arith, seval, Tryd.underlying22]
  refine ⟨_, ha.len, _, hb.len, ?_⟩
  refine hK _ _ ?_
  clear hK K
  refine vc_condD (by simp only [go_sem, opsV, undef, vsD, intV, arith, seval, Tryd.underlying22] <;> rfl) (fun ht => ?_) (fun ht => ?_)
  · refine vc_reg ?_
    try simp only [go_sem, opsV, undef, vsD, intV, arith, seval, Tryd.underlying22]
    refine J _ rb ra _ _ (by try simp only [go_sem, opsV, undef, vsD, intV, arith, seval, Tryd.underlying22]) (by try simp only [go_sem, opsV, undef, vsD, intV, arith, seval, Tryd.underlying22]) hb ha (by omega) (by omega) (by rw [hnA, hnB, Nat.add_comm])
  · refine vc_skip ?_
    refine J _ ra rb _ _ (by try simp only [go_sem, opsV, undef, vsD, intV, arith, seval, Tryd.underlying22]) (by try simp only [go_sem, opsV, undef, vsD, intV, arith, seval, Tryd.underlying22]) ha hb (by omega) (by omega) (by rw [hnA, hnB])

end Go.V
namespace Go.V
open Go Go.RowKit Go.Proofs

theorem sub_word {x b c : Nat} (hx : x < 18446744073709551616) (hb : b < 18446744073709551616) (hc : c ≤ 1) : (x + 18446744073709551616 - b - c) % 18446744073709551616 + b + c = x + 18446744073709551616 * (if x < b + c then 1 else 0) := by
  split <;> omega

theorem Ws.digs {H : Array Obj} {v : Value} {xs : List Nat} (h : U64s H v xs) : U64s H (resl v (D64 (N64 xs)).length) (D64 (N64 xs)) := by
  have := h.take (digs_le h.2)
  rwa [take_digs_len two64 h.2] at this

theorem nat_TrimO {w : World} {v : Value} {xs : List Nat} (h : U64s w.heap v xs) (hl : xs.length ≤ 1099511627776) : FC Tryd.prog 15 #[v] w fun r w' => Ext w w' ∧ O64 w' w.heap.size r (D64 (N64 xs)) := by
  refine (nat_Trim h (by omega)).mono ?_
  rintro r w' ⟨h1, h2⟩
  exact ⟨h1, h2, digs_lt two64 _, by have := digs_le h.2; omega⟩

theorem nat_Sub_l1 {w2 : World} {so : Value} {N : Env → World → Prop} {X : Nat → Env → World → Prop} {R : Env → World → Prop} {L T S : Nat} (hST : S ≤ T) (hL : L ≤ 1099511627776)
    (J : ∀ (e : Env) (w' : World) (os : List Nat), N64 os + S = T → O64 w' w2.heap.size so os → Ext w2 w' → e 6 = so → X 2 e w')
    (e : Env) (w' : World) (os : List Nat) (c i : Nat) (hi : i ≤ L) (hol : os.length = L) (hc : c ≤ 1) (hsum : nval 18446744073709551616 os + S = T + 18446744073709551616 ^ i * c)
    (own : O64 w' w2.heap.size so os) (hB : Ext w2 w') (g6 : e 6 = so) (g7 : e 7 = .int .u64 (c : Int)) (g9 : e 9 = .int .i64 (i : Int)) :
    vc Tryd.prog (nthLoop Tryd.f22 1) N X R e w' := by
  change vc _ (.loop _) _ _ _ _ _
  refine vc_loop (fun e w' => ∃ (os : List Nat) (c i : Nat), i ≤ L ∧ os.length = L ∧ c ≤ 1 ∧ nval 18446744073709551616 os + S = T + 18446744073709551616 ^ i * c ∧ O64 w' w2.heap.size so os ∧ Ext w2 w' ∧ e 6 = so ∧ e 7 = .int .u64 (c : Int) ∧ e 9 = .int .i64 (i : Int)) (fun e _ => L - (intOf (e 9)).toNat) ?_ ?_
  · exact ⟨os, c, i, hi, hol, hc, hsum, own, hB, g6, g7, g9⟩
  · clear hsum own hol hc hB g6 g7 g9 hi
    clear os c i e w'
    rintro e w' ⟨os, c, i, hi, hol, hc, hsum, own, hB, g6, g7, g9⟩
    have hmz : (intOf (e 9)).toNat = i := by rw [g9]; rfl
    refine vc_seq fun K1 hK1 => ?_
    refine vc_seq fun K2 hK2 => ?_
    refine vc_reg ?_
    try simp only [go_sem, opsV, undef, vsD, intV, arith, seval, Tryd.underlying22, g6, g7, g9]
    refine ⟨_, own.len.cast hol, ?_⟩
    refine hK2 _ _ ?_
    clear hK2
    refine vc_condD (by simp only [go_sem, opsV, undef, vsD, intV, arith, seval, Tryd.underlying22, g6, g7, g9] <;> rfl) (fun ht => ?_) (fun ht => ?_)
    · refine vc_skip ?_
      refine hK1 _ _ ?_
      clear hK1
      refine vc_seq fun K1 hK1 => ?_
      refine vc_block ?_
      refine vc_seq fun K2 hK2 => ?_
      refine vc_seq fun K3 hK3 => ?_
      refine vc_reg ?_
      try simp only [go_sem, opsV, undef, vsD, intV, arith, seval, Tryd.underlying22, g6, g7, g9]
      refine hK3 _ _ ?_
      clear hK3
      refine vc_condD (by simp only [go_sem, opsV, undef, vsD, intV, arith, seval, Tryd.underlying22, g6, g7, g9] <;> rfl) (fun hc0 => ?_) (fun hc0 => ?_)
      · refine vc_exit ?_
        simp only [↓reduceIte, Nat.reduceEqDiff]
        have hc0 : c = 0 := hc0
        rw [hc0, Nat.mul_zero, Nat.add_zero] at hsum
        refine J _ _ os hsum own hB ?_
        try simp only [go_sem, opsV, undef, vsD, intV, arith, seval, Tryd.underlying22, g6, g7, g9]
      · refine vc_skip ?_
        refine hK2 _ _ ?_
        clear hK2
        obtain ⟨ad, hix, hld, hst⟩ := own.at T64 S64 (ki := .i64) (i := i) (by omega)
        refine vc_reg ?_
        try simp only [go_sem, opsV, undef, vsD, intV, arith, seval, Tryd.underlying22, g6, g7, g9]
        refine ⟨ad, hix, _, hld, ?_⟩
        refine sub64 (os.getD i 0) 0 c hc ?_
        obtain ⟨w'', h1, h2, h3, h4⟩ := hst ((os.getD i 0 + 18446744073709551616 - 0 - c) % 18446744073709551616) (mod64 _)
        try simp only [go_sem, opsV, undef, vsD, intV, arith, seval, Tryd.underlying22, g6, g7, g9]
        refine ⟨ad, hix, w'', h1, ?_⟩
        refine hK1 _ _ ?_
        refine vc_reg ?_
        try simp only [go_sem, opsV, undef, vsD, intV, arith, seval, Tryd.underlying22, g6, g7, g9]
        refine ⟨(by unfold R64; omega), ⟨os.set i ((os.getD i 0 + 18446744073709551616 - 0 - c) % 18446744073709551616), if os.getD i 0 < 0 + c then 1 else 0, i + 1, by omega, by rw [List.length_set]; exact hol, ?_, ?_, h2, h4 _ _ hB (Nat.le_refl _), ?_⟩, ?_⟩
        · split <;> omega
        · exact sub_step (b := 0) (d := 0) (by omega) (sub_word (own.ws.lt (by decide) i) (by decide) hc) hsum
        · try simp only [go_sem, opsV, undef, vsD, intV, arith, seval, Tryd.underlying22, g6, g7, g9]
        · (try rw [hmz])
          simp only [intOf]; omega
    · refine vc_exit ?_
      have hiL : L = i := by omega
      subst hiL
      have hc0 : c = 0 := by
        rcases Nat.eq_zero_or_pos c with h | h
        · exact h
        · have h1 := Nat.mul_le_mul_left (18446744073709551616 ^ L) h
          have h2 := nval_lt (B := 18446744073709551616) (by decide) os own.lt
          rw [Nat.mul_one] at h1
          rw [hol] at h2
          omega
      subst hc0
      rw [Nat.mul_zero, Nat.add_zero] at hsum
      refine J _ _ os hsum own hB ?_
      try simp only [go_sem, opsV, undef, vsD, intV, arith, seval, Tryd.underlying22, g6, g7, g9]

theorem nat_Sub_l0 {w2 : World} {so rb : Value} {B : List Nat} (hb : U64s w2.heap rb B) {N : Env → World → Prop} {X : Nat → Env → World → Prop} {R : Env → World → Prop} {L T S : Nat} (hL : L ≤ 1099511627776) (hle : B.length ≤ L)
    (J : ∀ (e : Env) (w' : World) (os : List Nat) (c : Nat), os.length = L → c ≤ 1 → nval 18446744073709551616 os + S = T + 18446744073709551616 ^ B.length * c → O64 w' w2.heap.size so os → Ext w2 w' → e 1 = rb → e 6 = so → e 7 = .int .u64 (c : Int) → X 0 e w')
    (e : Env) (w' : World) (os : List Nat) (hol : os.length = L) (hsum : nval 18446744073709551616 os + S = T + nval 18446744073709551616 B)
    (own : O64 w' w2.heap.size so os) (hB : Ext w2 w') (g1 : e 1 = rb) (g6 : e 6 = so) (g7 : e 7 = .int .u64 0) (g19 : e 19 = .int .i64 (B.length : Int)) (g20 : e 20 = .int .i64 0) :
    vc Tryd.prog (nthLoop Tryd.f22 0) N X R e w' := by
  change vc _ (.loop _) _ _ _ _ _
  refine vc_loop (fun e w' => ∃ (os : List Nat) (c i : Nat), i ≤ B.length ∧ os.length = L ∧ c ≤ 1 ∧ nval 18446744073709551616 os + S = T + 18446744073709551616 ^ i * (c + nval 18446744073709551616 (B.drop i)) ∧ O64 w' w2.heap.size so os ∧ Ext w2 w' ∧ e 1 = rb ∧ e 6 = so ∧ e 7 = .int .u64 (c : Int) ∧ e 19 = .int .i64 (B.length : Int) ∧ e 20 = .int .i64 (i : Int)) (fun e _ => B.length - (intOf (e 20)).toNat) ?_ ?_
  · refine ⟨os, 0, 0, Nat.zero_le _, hol, by omega, ?_, own, hB, g1, g6, g7, g19, g20⟩
    rw [List.drop_zero, Nat.pow_zero, Nat.one_mul, Nat.zero_add]
    exact hsum
  · clear hsum own hol hB g1 g6 g7 g19 g20
    clear os e w'
    rintro e w' ⟨os, c, i, hi, hol, hc, hsum, own, hB, g1, g6, g7, g19, g20⟩
    have hmz : (intOf (e 20)).toNat = i := by rw [g20]; rfl
    refine vc_seq fun K1 hK1 => ?_
    refine vc_reg ?_
    try simp only [go_sem, opsV, undef, vsD, intV, arith, seval, Tryd.underlying22, g1, g6, g7, g19, g20]
    refine hK1 _ _ ?_
    clear hK1
    refine vc_seq fun K1 hK1 => ?_
    refine vc_condD (by simp only [go_sem, opsV, undef, vsD, intV, arith, seval, Tryd.underlying22, g1, g6, g7, g19, g20] <;> rfl) (fun ht => ?_) (fun ht => ?_)
    · refine vc_skip ?_
      refine hK1 _ _ ?_
      clear hK1
      refine vc_seq fun K1 hK1 => ?_
      refine vc_block ?_
      refine vc_seq fun K2 hK2 => ?_
      refine vc_reg ?_
      try simp only [go_sem, opsV, undef, vsD, intV, arith, seval, Tryd.underlying22, g1, g6, g7, g19, g20]
      refine hK2 _ _ ?_
      clear hK2
      obtain ⟨ad, hix, hld, hst⟩ := (own.up (ext_drew _)).at T64 S64 (ki := .i64) (i := i) (by omega)
      obtain ⟨bd, hib, hlb⟩ := (hb.up hB).get (k := .i64) (i := i) ht
      refine vc_draw [(0, 0), (1, 0), (2, 0), (3, 0), (4, 0), (5, 1), (6, 0), (7, 0), (8, 0), (9, 1), (10, 0), (11, 3), (12, 0), (13, 0), (14, 0), (15, 0), (16, 3), (17, 0)] (by kernel_rfl) ?_
      try simp only [go_sem, opsV, undef, vsD, intV, arith, seval, Tryd.underlying22, g1, g6, g7, g19, g20]
      refine ⟨ad, hix, _, hld, bd, hib, _, hlb _ (ext_drew _), ?_⟩
      refine sub64 (os.getD i 0) (B.getD i 0) c hc ?_
      obtain ⟨w'', h1, h2, h3, h4⟩ := hst ((os.getD i 0 + 18446744073709551616 - B.getD i 0 - c) % 18446744073709551616) (mod64 _)
      try simp only [go_sem, opsV, undef, vsD, intV, arith, seval, Tryd.underlying22, g1, g6, g7, g19, g20]
      refine ⟨ad, hix, w'', h1, ?_⟩
      refine hK1 _ _ ?_
      refine vc_reg ?_
      try simp only [go_sem, opsV, undef, vsD, intV, arith, seval, Tryd.underlying22, g1, g6, g7, g19, g20]
      refine ⟨(by unfold R64; omega), ⟨os.set i ((os.getD i 0 + 18446744073709551616 - B.getD i 0 - c) % 18446744073709551616), if os.getD i 0 < B.getD i 0 + c then 1 else 0, i + 1, by omega, by rw [List.length_set]; exact hol, ?_, ?_, h2, h4 _ _ hB.drew' (Nat.le_refl _), ?_⟩, ?_⟩
      · split <;> omega
      · refine sub_step (by omega) (sub_word (own.ws.lt (by decide) i) (hb.lt (by decide) i) hc) ?_
        rw [← nval_drop ht]; exact hsum
      · try simp only [go_sem, opsV, undef, vsD, intV, arith, seval, Tryd.underlying22, g1, g6, g7, g19, g20]
      · (try rw [hmz])
        simp only [intOf]; omega
    · refine vc_exit ?_
      obtain rfl : i = B.length := by omega
      rw [nval_drop_all (Nat.le_refl _), Nat.add_zero] at hsum
      exact J _ _ os c hol hc hsum own hB (by try simp only [go_sem, opsV, undef, vsD, intV, arith, seval, Tryd.underlying22, g1, g6, g7, g19, g20]) (by try simp only [go_sem, opsV, undef, vsD, intV, arith, seval, Tryd.underlying22, g1, g6, g7, g19, g20]) (by try simp only [go_sem, opsV, undef, vsD, intV, arith, seval, Tryd.underlying22, g1, g6, g7, g19, g20])

set_option maxHeartbeats 1000000 in
theorem nat_Sub {w : World} {va vb : Value} {xs ys : List Nat} (hx : U64s w.heap va xs) (hy : U64s w.heap vb ys) (hlx : xs.length ≤ 1099511627776) (hly : ys.length ≤ 1099511627776) :
    FC Tryd.prog 22 #[va, vb] w fun r w' => Ext w w' ∧ ((N64 ys ≤ N64 xs ∧ ∃ d, r = .tuple [d, .bool true].toArray ∧ O64 w' w.heap.size d (D64 (N64 xs - N64 ys))) ∨ (N64 xs < N64 ys ∧ r = .tuple [.slice none 0 0, .bool false].toArray)) := by
  have hda := digs_le hx.2
  have hdb := digs_le hy.2
  refine FC.body (l := [va, vb]) (rs := [.tmp 4, .tmp 5]) mixed Tryd.func22 rfl (by kernel_rfl) (by kernel_rfl) (Nat.le_of_ble_eq_true rfl) rfl ?_
  with_reducible refine vc_seq fun K hK => ?_
  with_reducible refine vc_reg ?_
  simp only [go_sem, opsV, undef, vsD, intV, arith, seval, Tryd.underlying22]
  refine hK _ _ ?_
  clear hK K
  with_reducible refine vc_scope ?_
  with_reducible refine vc_seq fun K hK => ?_
  with_reducible refine vc_seq fun K hK => ?_
  refine vc_reg ?_
  try simp only [go_sem, opsV, undef, vsD, intV, arith, seval, Tryd.underlying22]
  refine (nat_Cmp hx hy (by omega) (by omega)).mono ?_
  rintro rc w0 ⟨hE0, rfl⟩
  try simp only [go_sem, opsV, undef, vsD, intV, arith, seval, Tryd.underlying22]
  refine hK _ _ ?_
  clear hK K
  refine vc_condD (by simp only [go_sem, opsV, undef, vsD, intV, arith, seval, Tryd.underlying22] <;> rfl) (fun ht => ?_) (fun ht => ?_)
  · have hlt : N64 xs < N64 ys := by
      unfold cmpI at ht
      split at ht
      · omega
      · split at ht <;> omega
    repeat (first
      | (with_reducible refine vc_seq fun K hK => ?_)
      | (with_reducible refine vc_reg ?_)
      | (with_reducible refine vc_skip ?_)
      | (with_reducible refine vc_block ?_)
      | (with_reducible refine vc_scope ?_)
      | (with_reducible refine vc_label ?_)
      | (with_reducible refine vc_condT ?_ ?_; · simp only [go_sem, opsV, undef, vsD, intV, arith, seval, Tryd.underlying22] <;> rfl)
      | (with_reducible refine vc_condF ?_ ?_; · simp only [go_sem, opsV, undef, vsD, intV, arith, seval, Tryd.underlying22] <;> rfl)
      | (with_reducible refine vc_exit ?_; simp only [↓reduceIte, Nat.reduceEqDiff])
      | (with_reducible refine vc_ret ?_; simp only [retV, resL, one])
      | (with_reducible refine hK _ _ ?_; clear hK)
      | (clear hK; with_reducible refine hK _ _ ?_; clear hK)
      | (clear hK; clear hK; with_reducible refine hK _ _ ?_; clear hK)
      | (simp only [go_sem, opsV, undef, vsD, intV, arith, seval, Tryd.underlying22]))
    first | exact ⟨hE0, .inr ⟨hlt, rfl⟩⟩ | exact ⟨hE0, .inr hlt⟩
  have hge : N64 ys ≤ N64 xs := by
    unfold cmpI at ht
    split at ht
    · omega
    · split at ht <;> omega
  refine vc_skip ?_
  refine hK _ _ ?_
  clear hK K
  with_reducible refine vc_seq fun K hK => ?_
  refine vc_reg ?_
  try simp only [go_sem, opsV, undef, vsD, intV, arith, seval, Tryd.underlying22]
  refine (nat_TrimO (hx.up hE0) (by omega)).mono ?_
  rintro so w1 ⟨hE1, own⟩
  try simp only [go_sem, opsV, undef, vsD, intV, arith, seval, Tryd.underlying22]
  refine (nat_cut ((hy.up hE0).up hE1)).mono ?_
  rintro rb w2 ⟨hE2, hrb, hb⟩
  have own := own.up hE2
  have hE20 := hE1.trans' hE2
  have hS1 : w.heap.size ≤ w0.heap.size := hE0.size
  have hb : U64s w0.heap rb (D64 (N64 ys)) := hrb ▸ (hy.up hE0).digs
  clear hrb
  try simp only [go_sem, opsV, undef, vsD, intV, arith, seval, Tryd.underlying22]
  refine hK _ _ ?_
  clear hK K
  have hnA : N64 (D64 (N64 xs)) = N64 xs := nval_digs two64 _
  have hnB : N64 (D64 (N64 ys)) = N64 ys := nval_digs two64 _
  have hlen : (D64 (N64 ys)).length ≤ (D64 (N64 xs)).length := by
    rcases Nat.lt_or_ge (D64 (N64 xs)).length (D64 (N64 ys)).length with h | h
    · have := nval_lt_of_len two64 h; omega
    · exact h
  generalize hA : D64 (N64 xs) = A at *
  generalize hB : D64 (N64 ys) = B at *
  with_reducible refine vc_seq fun K hK => ?_
  with_reducible refine vc_reg ?_
  simp only [go_sem, opsV, undef, vsD, intV, arith, seval, Tryd.underlying22]
  refine hK _ _ ?_
  clear hK K
  with_reducible refine vc_seq fun K hK => ?_
  with_reducible refine vc_seq fun K hK => ?_
  refine vc_reg ?_
  try simp only [go_sem, opsV, undef, vsD, intV, arith, seval, Tryd.underlying22]
  refine ⟨_, hb.len, ?_⟩
  refine hK _ _ ?_
  clear hK K
  have J2 : ∀ (e : Env) (w' : World) (os : List Nat) (c : Nat), os.length = A.length → c ≤ 1 → nval 18446744073709551616 os + N64 ys = N64 xs + 18446744073709551616 ^ B.length * c →
      O64 w' w0.heap.size so os → Ext w0 w' → e 1 = rb → e 6 = so → e 7 = .int .u64 (c : Int) → K e w' := by
    intro e w' os c hol hc hsum own hB g1 g6 g7
    have hb' := hb.up hB
    refine hK _ _ ?_
    clear hK K
    with_reducible refine vc_seq fun K hK => ?_
    with_reducible refine vc_label ?_
    refine hK _ _ ?_
    clear hK K
    with_reducible refine vc_seq fun K hK => ?_
    with_reducible refine vc_seq fun K hK => ?_
    with_reducible refine vc_reg ?_
    try simp only [go_sem, opsV, undef, vsD, intV, arith, seval, Tryd.underlying22, g1, g6, g7]
    refine ⟨_, hb'.len, ?_⟩
    refine hK _ _ ?_
    clear hK K
    have J3 : ∀ (e : Env) (w' : World) (os : List Nat), N64 os + N64 ys = N64 xs →
        O64 w' w0.heap.size so os → Ext w0 w' → e 6 = so → K e w' := by
      intro e w' os hsum own hB g6
      refine hK _ _ ?_
      clear hK K
      with_reducible refine vc_seq fun K hK => ?_
      with_reducible refine vc_reg ?_
      try simp only [go_sem, opsV, undef, vsD, intV, arith, seval, g6]
      refine (nat_cut own.ws).mono ?_
      rintro r w5 ⟨hE5, rfl, hr⟩
      try simp only [go_sem, opsV, undef, vsD, intV, arith, seval, g6]
      refine hK _ _ ?_
      clear hK K
      refine vc_ret ?_
      simp only [retV, resL, one, go_sem, opsV, undef, vsD, intV, arith, seval, g6]
      have o2 := (own.digs two64).up hE5
      have hd : N64 os = N64 xs - N64 ys := by omega
      rw [show nval 18446744073709551616 os = N64 xs - N64 ys from hd] at o2
      rw [hd]
      exact ⟨(hE0.trans' hB).trans' hE5, .inl ⟨hge, _, rfl, o2.base hS1⟩⟩
    refine vc_block ?_
    refine nat_Sub_l1 (so := so) (w2 := w0) hge (L := A.length) (by omega) (fun e w' os h1 h2 h3 h4 => ?_) _ w' os c B.length hlen hol hc hsum own hB ?_ ?_ ?_
    · simp only [↓reduceIte]
      exact J3 e w' os h1 h2 h3 h4
    · try simp only [go_sem, opsV, undef, vsD, intV, arith, seval, Tryd.underlying22, g1, g6, g7]
    · try simp only [go_sem, opsV, undef, vsD, intV, arith, seval, Tryd.underlying22, g1, g6, g7]
    · try simp only [go_sem, opsV, undef, vsD, intV, arith, seval, Tryd.underlying22, g1, g6, g7]
  refine vc_block ?_
  refine nat_Sub_l0 (so := so) (rb := rb) (w2 := w0) (B := B) (L := A.length) (T := N64 xs) (S := N64 ys) hb (by omega) hlen (fun e w' os c h1 h2 h3 h4 h5 h6 h7 h8 => ?_) _ w2 A rfl ?_ own hE20 ?_ ?_ ?_ ?_ ?_
  · simp only [↓reduceIte]
    exact J2 e w' os c h1 h2 h3 h4 h5 h6 h7 h8
  · show N64 A + N64 ys = N64 xs + N64 B
    omega
  · try simp only [go_sem, opsV, undef, vsD, intV, arith, seval, Tryd.underlying22]
  · try simp only [go_sem, opsV, undef, vsD, intV, arith, seval, Tryd.underlying22]
  · try simp only [go_sem, opsV, undef, vsD, intV, arith, seval, Tryd.underlying22]
  · try simp only [go_sem, opsV, undef, vsD, intV, arith, seval, Tryd.underlying22]
  · try simp only [go_sem, opsV, undef, vsD, intV, arith, seval, Tryd.underlying22]

end Go.V

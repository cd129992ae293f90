/- Numbers as digits, the lowest first. Plain arithmetic: no program, no model. Division of numbers by their digits: the plain laws. No program, no model. What the Go library's functions that package nat calls hand back. Bits of numbers, by their digits. Plain arithmetic. math/bits.Div64: a number of two words by one word. -/
import Init
import Derived.Test.YtilnmcabjkpohaaDoorRows
import Derived.Test.YtilnmcabjkpohaaDoorPA
import Derived.Laws.Externs
import Derived.Laws.MathBits
import Derived.Lib.Mul64
import Derived.Lib.TrailingZeros
set_option linter.unusedSimpArgs false
set_option linter.unusedVariables false
set_option maxRecDepth 100000
namespace Go.V

def cmpI (a b : Int) : Int := if a < b then -1 else if b < a then 1 else 0
def nval (B : Nat) : List Nat → Nat
  | [] => 0
  | x :: r => x + B * nval B r

/-- The digits of a number, no nought at the end. -/
def digs (B n : Nat) : List Nat := if h : n = 0 ∨ B < 2 then [] else n % B :: digs B (n / B)
termination_by n
decreasing_by exact Nat.div_lt_self (by omega) (by omega)

theorem digs_zero (B : Nat) : digs B 0 = [] := by rw [digs]; simp
theorem digs_pos {B n : Nat} (hB : 2 ≤ B) (hn : n ≠ 0) : digs B n = n % B :: digs B (n / B) := by rw [digs]; rw [dif_neg (by omega)]
theorem digs_small {B n : Nat} (hB : 2 ≤ B) (h0 : n ≠ 0) (hn : n < B) : digs B n = [n] := by rw [digs_pos hB h0, Nat.mod_eq_of_lt hn, Nat.div_eq_of_lt hn, digs_zero]

theorem nval_nil (B : Nat) : nval B [] = 0 := rfl
theorem nval_cons (B x : Nat) (r : List Nat) : nval B (x :: r) = x + B * nval B r := rfl

theorem nval_digs {B : Nat} (hB : 2 ≤ B) : ∀ n, nval B (digs B n) = n := by
  intro n
  induction n using Nat.strongRecOn with
  | _ n ih =>
    by_cases h0 : n = 0
    · subst h0; rw [digs_zero]; rfl
    · rw [digs_pos hB h0, nval_cons, ih (n / B) (Nat.div_lt_self (by omega) (by omega)), Nat.mod_add_div]

theorem digs_lt {B : Nat} (hB : 2 ≤ B) : ∀ n x, x ∈ digs B n → x < B := by
  intro n
  induction n using Nat.strongRecOn with
  | _ n ih =>
    intro x hx
    by_cases h0 : n = 0
    · subst h0; rw [digs_zero] at hx; cases hx
    · rw [digs_pos hB h0] at hx
      rcases List.mem_cons.1 hx with rfl | hx
      · exact Nat.mod_lt _ (by omega)
      · exact ih (n / B) (Nat.div_lt_self (by omega) (by omega)) x hx

theorem nval_append (B : Nat) : ∀ (xs ys : List Nat), nval B (xs ++ ys) = nval B xs + B ^ xs.length * nval B ys
  | [], ys => by simp [nval]
  | x :: xs, ys => by
    simp only [List.cons_append, nval_cons, nval_append B xs ys, List.length_cons, Nat.pow_succ, Nat.mul_add, Nat.add_assoc]
    congr 2
    rw [Nat.mul_comm (B ^ xs.length) B, Nat.mul_assoc]

theorem nval_lt {B : Nat} (hB : 1 ≤ B) : ∀ (xs : List Nat), (∀ x ∈ xs, x < B) → nval B xs < B ^ xs.length
  | [], _ => by simp [nval]
  | x :: xs, h => by
    have h1 := nval_lt hB xs (fun y hy => h y (by simp [hy]))
    have h0 := h x (by simp)
    rw [nval_cons, List.length_cons, Nat.pow_succ, Nat.mul_comm _ B]
    have : B * (nval B xs + 1) ≤ B * B ^ xs.length := Nat.mul_le_mul_left B h1
    rw [Nat.mul_add] at this; omega

/-- The last digit, if there is one, is none that is 0. -/
def NoTail (xs : List Nat) : Prop := ∀ x, xs.getLast? = some x → x ≠ 0

theorem digs_noTail {B : Nat} (hB : 2 ≤ B) : ∀ n, NoTail (digs B n) := by
  intro n
  induction n using Nat.strongRecOn with
  | _ n ih =>
    by_cases h0 : n = 0
    · subst h0; rw [digs_zero]; intro x hx; simp at hx
    · rw [digs_pos hB h0]
      intro x hx
      have ih' := ih (n / B) (Nat.div_lt_self (by omega) (by omega))
      cases hd : digs B (n / B) with
      | nil =>
        rw [hd] at hx
        simp at hx
        have h1 := nval_digs hB (n / B)
        rw [hd, nval_nil] at h1
        have := Nat.mod_add_div n B
        rw [← h1] at this
        omega
      | cons y r =>
        rw [hd] at hx ih'
        exact ih' x (by simpa using hx)

theorem nval_pos {B : Nat} (hB : 2 ≤ B) : ∀ (xs : List Nat), NoTail xs → xs ≠ [] → nval B xs ≠ 0
  | [], _, h => absurd rfl h
  | [x], ht, _ => by have := ht x (by simp); simp [nval]; exact this
  | x :: y :: r, ht, _ => by
    have := nval_pos hB (y :: r) (fun z hz => ht z (by simpa using hz)) (by simp)
    rw [nval_cons]
    have h2 : 0 < B * nval B (y :: r) := Nat.mul_pos (by omega) (Nat.pos_of_ne_zero this)
    omega

theorem digs_nval {B : Nat} (hB : 2 ≤ B) : ∀ (xs : List Nat), (∀ x ∈ xs, x < B) → NoTail xs → digs B (nval B xs) = xs
  | [], _, _ => digs_zero B
  | x :: r, h, ht => by
    have h0 := h x (by simp)
    rw [digs_pos hB (nval_pos hB _ ht (by simp)), nval_cons]
    have e1 : (x + B * nval B r) % B = x := by rw [Nat.add_mul_mod_self_left, Nat.mod_eq_of_lt h0]
    have e2 : (x + B * nval B r) / B = nval B r := by rw [Nat.add_mul_div_left _ _ (by omega), Nat.div_eq_of_lt h0, Nat.zero_add]
    rw [e1, e2, digs_nval hB r (fun y hy => h y (by simp [hy])) (fun z hz => ?_)]
    cases r with
    | nil => simp at hz
    | cons y r => exact ht z (by simpa using hz)

/-- Digits behind which there are noughts alone. -/
theorem nval_zeros (B : Nat) : ∀ (ys : List Nat), (∀ y ∈ ys, y = 0) → nval B ys = 0
  | [], _ => rfl
  | y :: r, h => by rw [nval_cons, h y (by simp), nval_zeros B r (fun z hz => h z (by simp [hz]))]; simp

theorem nval_take {B m : Nat} {xs : List Nat} (h : ∀ j, m ≤ j → xs.getD j 0 = 0) : nval B (xs.take m) = nval B xs := by
  have e : xs.take m ++ xs.drop m = xs := List.take_append_drop m xs
  have := nval_append B (xs.take m) (xs.drop m)
  rw [e] at this
  rw [this, nval_zeros B (xs.drop m), Nat.mul_zero, Nat.add_zero]
  intro y hy
  obtain ⟨j, hj, rfl⟩ := List.getElem_of_mem hy
  have := h (m + j) (by omega)
  rw [List.getElem_drop]
  simp at hj
  simpa [List.getD, List.getElem?_eq_getElem (show m + j < xs.length by omega)] using this

/-- What a cut comes to: the digits of the number. -/
theorem take_digs {B m : Nat} (hB : 2 ≤ B) {xs : List Nat} (hx : ∀ x ∈ xs, x < B) (hm : m ≤ xs.length) (h0 : ∀ j, m ≤ j → xs.getD j 0 = 0) (h1 : m ≠ 0 → xs.getD (m - 1) 0 ≠ 0) :
    xs.take m = digs B (nval B xs) := by
  rw [← nval_take h0, digs_nval hB]
  · intro x hxx; exact hx x (List.mem_of_mem_take hxx)
  · intro x hl
    by_cases hm0 : m = 0
    · subst hm0; simp at hl
    · have := h1 hm0
      rw [List.getLast?_eq_getElem?, List.length_take, Nat.min_eq_left hm, List.getElem?_take, if_pos (by omega)] at hl
      rw [List.getD, hl] at this
      exact this

theorem digs_len_le {B : Nat} (hB : 2 ≤ B) {n k : Nat} (h : n < B ^ k) : (digs B n).length ≤ k := by
  induction k generalizing n with
  | zero => simp at h; subst h; simp [digs_zero]
  | succ k ih =>
    by_cases h0 : n = 0
    · subst h0; simp [digs_zero]
    · rw [digs_pos hB h0, List.length_cons]
      have := ih (n := n / B) (by rw [Nat.div_lt_iff_lt_mul (by omega)]; rwa [Nat.pow_succ] at h)
      omega

theorem lt_pow_len {B : Nat} (hB : 2 ≤ B) (n : Nat) : n < B ^ (digs B n).length := by
  have := nval_lt (B := B) (by omega) (digs B n) (digs_lt hB n)
  rwa [nval_digs hB] at this

theorem pow_len_le {B : Nat} (hB : 2 ≤ B) {n : Nat} (h0 : n ≠ 0) : B ^ ((digs B n).length - 1) ≤ n := by
  induction n using Nat.strongRecOn with
  | _ n ih =>
    rw [digs_pos hB h0, List.length_cons]
    by_cases h1 : n / B = 0
    · rw [h1, digs_zero]; simp; omega
    · have := ih (n / B) (Nat.div_lt_self (by omega) (by omega)) h1
      have hl : (digs B (n / B)).length ≠ 0 := by
        intro hl
        have := List.eq_nil_of_length_eq_zero hl
        have h2 := nval_digs hB (n / B)
        rw [this, nval_nil] at h2
        omega
      have e : (digs B (n / B)).length + 1 - 1 = ((digs B (n / B)).length - 1) + 1 := by omega
      rw [e, Nat.pow_succ]
      calc B ^ ((digs B (n / B)).length - 1) * B ≤ n / B * B := Nat.mul_le_mul_right B this
        _ ≤ n := Nat.div_mul_le_self n B

theorem digs_eq_nil {B n : Nat} (hB : 2 ≤ B) : digs B n = [] ↔ n = 0 := by
  constructor
  · intro h; have := nval_digs hB n; rw [h] at this; exact this.symm
  · rintro rfl; exact digs_zero B

end Go.V
namespace Go.V

theorem q_lt_iff {u d y1 y0 q r B : Nat} (hy : 0 < y1 * B + y0) (e : q * y1 + r = u) : (u * B + d) / (y1 * B + y0) < q ↔ B * r + d < q * y0 := by
  rw [Nat.div_lt_iff_lt_mul hy, ← e, Nat.mul_add, Nat.add_mul, ← Nat.mul_assoc, Nat.mul_comm r B]
  omega

theorem q_lt {u d y1 y0 B : Nat} (hu : u < y1 * B + y0) (hd : d < B) : (u * B + d) / (y1 * B + y0) < B := by
  rw [Nat.div_lt_iff_lt_mul (by omega)]
  have : (u + 1) * B ≤ (y1 * B + y0) * B := Nat.mul_le_mul_right B hu
  rw [Nat.add_mul, Nat.mul_comm (y1 * B + y0) B] at this
  omega

theorem q_down {u d y1 y0 q r B : Nat} (hu : u < y1 * B + y0) (hd : d < B) (e : q * y1 + r = u) (c : B ≤ q ∨ B * r + d < q * y0) : (u * B + d) / (y1 * B + y0) < q := by
  rcases c with c | c
  · exact Nat.lt_of_lt_of_le (q_lt hu hd) c
  · exact (q_lt_iff (by omega) e).2 c

theorem q_stop {u d y1 y0 q r B : Nat} (hu : u < y1 * B + y0) (e : q * y1 + r = u) (hQ : (u * B + d) / (y1 * B + y0) ≤ q) (c : ¬ B * r + d < q * y0) : q = (u * B + d) / (y1 * B + y0) := by
  have : ¬ (u * B + d) / (y1 * B + y0) < q := fun h => c ((q_lt_iff (by omega) e).1 h)
  omega

theorem q_high {u d y1 y0 q r B : Nat} (hu : u < y1 * B + y0) (h0 : y0 < B) (e : q * y1 + r = u) (hQ : (u * B + d) / (y1 * B + y0) ≤ q) (hr : B ≤ r) : q = (u * B + d) / (y1 * B + y0) := by
  refine q_stop hu e hQ ?_
  have hq : q < B := by
    rcases Nat.lt_or_ge q B with h | h
    · exact h
    · have := Nat.mul_le_mul_right y1 h
      rw [Nat.mul_comm B y1] at this
      omega
  have h1 : q * y0 ≤ B * y0 := Nat.mul_le_mul_right y0 (Nat.le_of_lt hq)
  have h2 : B * y0 ≤ B * r := Nat.mul_le_mul_left B (by omega)
  omega

/-- The first guess is not below the digit. -/
theorem q_guess {u d y1 y0 B : Nat} (h1 : 0 < y1) (hd : d < B) : (u * B + d) / (y1 * B + y0) ≤ u / y1 := by
  have hB : 0 < B := by omega
  have hyB : 0 < y1 * B := Nat.mul_pos h1 hB
  calc (u * B + d) / (y1 * B + y0) ≤ (u * B + d) / (y1 * B) := Nat.div_le_div_left (by omega) hyB
    _ = (u * B + d) / B / y1 := by rw [Nat.mul_comm y1 B, Nat.div_div_eq_div_mul]
    _ = u / y1 := by
      congr 1
      rw [Nat.add_comm, Nat.add_mul_div_right _ _ hB, Nat.div_eq_of_lt hd, Nat.zero_add]

/-- Two digits, one behind the other, are the quotient of both. -/
theorem two_digits {u d1 d0 y B : Nat} (hy : 0 < y) (hB : 0 < B) : (u * B + d1) / y * B + ((u * B + d1) % y * B + d0) / y = (u * (B * B) + (d1 * B + d0)) / y ∧
    ((u * B + d1) % y * B + d0) % y = (u * (B * B) + (d1 * B + d0)) % y := by
  have e : u * (B * B) + (d1 * B + d0) = y * ((u * B + d1) / y * B) + ((u * B + d1) % y * B + d0) := by
    have h := Nat.div_add_mod (u * B + d1) y
    have h2 : (u * B + d1) * B = (y * ((u * B + d1) / y) + (u * B + d1) % y) * B := by rw [h]
    rw [Nat.add_mul, Nat.add_mul, Nat.mul_assoc u, Nat.mul_assoc y] at h2
    omega
  rw [e]
  exact ⟨by rw [Nat.mul_add_div hy], by rw [Nat.mul_add_mod]⟩

/-- A number of two words, shifted up. -/
theorem shifted {hi lo s W : Nat} (hs : s ≤ 64) (hW : W = 2 ^ 64) : (hi * 2 ^ s + lo / 2 ^ (64 - s)) * W + lo * 2 ^ s % W = (hi * W + lo) * 2 ^ s := by
  have e : W = 2 ^ (64 - s) * 2 ^ s := by rw [hW, ← Nat.pow_add]; congr 1; omega
  have h1 : lo * 2 ^ s / W = lo / 2 ^ (64 - s) := by rw [e, Nat.mul_div_mul_right _ _ (Nat.two_pow_pos s)]
  have h2 := Nat.div_add_mod (lo * 2 ^ s) W
  rw [h1] at h2
  rw [Nat.add_mul, Nat.add_mul, Nat.mul_assoc hi, Nat.mul_comm (2 ^ s) W, ← Nat.mul_assoc hi, Nat.mul_comm (lo / 2 ^ (64 - s)) W]
  omega

end Go.V
namespace Go.V
open Go Go.RowKit Go.Proofs

set_option linter.defProp false in
/-- What every step of a walk rewrites with. -/
def vsB := And.intro @gv_bool <| And.intro @gv_tuple <| And.intro @binV_int <| And.intro @binV_eqB <| And.intro @binV_neB <| And.intro @pbin_int <| And.intro @pbin_eqB <| And.intro @pbin_neB <| And.intro @unV_not <| And.intro @unV_neg <| And.intro @boolV_bool <| And.intro @tupV_lit <| And.intro @optV_some <| And.intro @ptrV_ptr <| And.intro @ev_tmp <| And.intro @ev_const <| And.intro @ev_global <| And.intro @ev_func <| And.intro @put_some <| And.intro @put_none <| And.intro @upd_apply <| And.intro @cond_true.{1} <| And.intro @cond_false.{1} <| And.intro @argE_apply <| And.intro @List.getElem?_toArray.{0} <| And.intro @List.map_toArray.{0, 0} <| And.intro @List.map_cons.{0, 0} <| And.intro @List.map_nil.{0, 0} <| And.intro @List.getElem?_cons_zero.{0} <| And.intro @List.getElem?_cons_succ.{0} <| And.intro @List.getElem?_nil.{0} <| And.intro @List.getD_cons_zero.{0} <| And.intro @List.getD_cons_succ.{0} <| And.intro @Option.map_some.{0, 0} <| And.intro @Option.map_none.{0, 0} <| And.intro @Option.bind_some.{0, 0} <| And.intro @true_and <| And.intro @and_true <| And.intro @cast_add <| And.intro @cast_add_one <| And.intro @cast_succ_sub <| And.intro @cast_zero_lt <| And.intro @cast_zero_le <| And.intro @cast_eq_zero <| And.intro @Int.ofNat_lt <| And.intro @Int.ofNat_le <| And.intro @Int.natCast_inj <| And.intro @Int.toNat_natCast <| And.intro @decide_true <| And.intro @decide_false <| And.intro @bits_u64 <| And.intro @bits_u32 <| And.intro @bits_u8 <| And.intro @bits_i64 <| And.intro @cast_mul <| And.intro @wrap64_nat <| And.intro @wrap32_nat <| And.intro @wrap8_nat <| And.intro @tdiv_nat <| And.intro @tmod_nat <| And.intro @shl_pow <| And.intro @shr_pow <| And.intro @shr1 <| And.intro @shr8 <| And.intro @shr16 <| And.intro @shr32 <| And.intro @lapp_cons <| @lapp_nil

set_option linter.defProp false in
/-- The same, fewer. -/
def vsD := And.intro @binV_int <| And.intro @binV_eqB <| And.intro @binV_neB <| And.intro @pbin_int <| And.intro @pbin_eqB <| And.intro @pbin_neB <| And.intro @unV_not @unV_neg
theorem mixed : Tryd.prog.follows .mixedOrders = true := by kernel_rfl

/-! ### math/bits.Add64, Sub64 -/

theorem fc_extern {P : Program} {w : World} {f : FuncId} {fn : Func} {en : Array Value → Sem Value} (hf : P.funcs[f]? = some fn) (hname : (fn.name == "runtime.NumGoroutine") = false)
    (hb : fn.body.isNone = true) (hn : Extern.findNext fn = none) (he : Extern.find fn = some en) {args : Array Value} {v : Value} (hr : (en args).run P w = .ok v w) {K : Value → World → Prop} (h : K v w) : FC P f args w K := by
  unfold FC
  rw [run_callFunc_extern hf hname hb hn he, hr]
  exact h

theorem add64 {w : World} {K : Value → World → Prop} (x y c : Nat) (hc : c ≤ 1)
    (h : K (.tuple [Value.int .u64 (((x + y + c) % 18446744073709551616 : Nat) : Int), Value.int .u64 (((x + y + c) / 18446744073709551616 : Nat) : Int)].toArray) w) :
    FC Tryd.prog 41 #[.int .u64 (x : Int), .int .u64 (y : Int), .int .u64 (c : Int)] w K := by
  refine fc_extern Tryd.func41 (by kernel_rfl) (by kernel_rfl) (by kernel_rfl) (by kernel_rfl : Extern.find Tryd.f41 = some add64Entry) (run_add64 x y c (by omega) (by omega) (by omega) (by omega) w) ?_
  simpa using h

def sub64Entry : Array Value → Sem Value := fun args => do
  let (x, y, b) ← Extern.MathBitsCarry.three "Sub64" args
  pure (Extern.MathBitsCarry.pair ((x + Extern.MathBitsCarry.m64 - y - b) % Extern.MathBitsCarry.m64) (if x < y + b then 1 else 0))
theorem run_sub64 {P : Program} (x y c : Nat) (hc : c ≤ 1) (w : World) :
    (sub64Entry #[.int .u64 (x : Int), .int .u64 (y : Int), .int .u64 (c : Int)]).run P w =
      .ok (.tuple [Value.int .u64 (((x + 18446744073709551616 - y - c) % 18446744073709551616 : Nat) : Int), Value.int .u64 ((if x < y + c then 1 else 0 : Nat) : Int)].toArray) w := by
  have : c = 0 ∨ c = 1 := by omega
  rcases this with rfl | rfl <;> rfl

theorem sub64 {w : World} {K : Value → World → Prop} (x y c : Nat) (hc : c ≤ 1)
    (h : K (.tuple [Value.int .u64 (((x + 18446744073709551616 - y - c) % 18446744073709551616 : Nat) : Int), Value.int .u64 ((if x < y + c then 1 else 0 : Nat) : Int)].toArray) w) :
    FC Tryd.prog 38 #[.int .u64 (x : Int), .int .u64 (y : Int), .int .u64 (c : Int)] w K := by
  exact fc_extern Tryd.func38 (by kernel_rfl) (by kernel_rfl) (by kernel_rfl) (by kernel_rfl : Extern.find Tryd.f38 = some sub64Entry) (run_sub64 x y c hc w) h

/-! ### cmp.Compare -/


theorem isNaN_int {w : World} {K : Value → World → Prop} (a : Int) (h : K (.bool false) w) : FC Tryd.prog 50 #[.int .i64 a] w K := by
  refine FC.body (l := [.int .i64 a]) (rs := [.tmp 2]) mixed Tryd.func50 rfl (by kernel_rfl) (by kernel_rfl) (Nat.le_of_ble_eq_true rfl) rfl ?_
  with_reducible refine vc_seq fun K hK => ?_
  with_reducible refine vc_reg ?_
  simp only [opsV, dV, modeV, pureV, guardV, undef, opV, callV, intV, arith, ne_eq, Nat.min_def, vsB, seval, true_and]
  refine hK _ _ ?_
  clear hK K
  with_reducible refine vc_seq fun K hK => ?_
  with_reducible refine vc_reg ?_
  simp only [opsV, dV, modeV, pureV, guardV, undef, opV, callV, intV, arith, ne_eq, Nat.min_def, vsB, seval, true_and]
  refine hK _ _ ?_
  clear hK K
  refine vc_ret ?_
  simp only [retV, resL, one, opsV, dV, modeV, pureV, guardV, undef, opV, callV, intV, arith, ne_eq, Nat.min_def, vsB, seval, true_and]
  simpa using h

theorem compare_int {w : World} {K : Value → World → Prop} (a b : Int) (h : K (.int .i64 (cmpI a b)) w) : FC Tryd.prog 39 #[.int .i64 a, .int .i64 b] w K := by
  refine FC.body (l := [.int .i64 a, .int .i64 b]) (rs := [.tmp 4]) mixed Tryd.func39 rfl (by kernel_rfl) (by kernel_rfl) (Nat.le_of_ble_eq_true rfl) rfl ?_
  repeat (first
    | (with_reducible refine vc_seq fun K hK => ?_)
    | (with_reducible refine vc_reg ?_)
    | (with_reducible refine vc_skip ?_)
    | (with_reducible refine vc_block ?_)
    | (with_reducible refine vc_scope ?_)
    | (with_reducible refine vc_label ?_)
    | (with_reducible refine vc_condT ?_ ?_; · simp only [opsV, dV, modeV, pureV, guardV, undef, opV, callV, intV, arith, ne_eq, Nat.min_def, vsB, seval, true_and] <;> rfl)
    | (with_reducible refine vc_condF ?_ ?_; · simp only [opsV, dV, modeV, pureV, guardV, undef, opV, callV, intV, arith, ne_eq, Nat.min_def, vsB, seval, true_and] <;> rfl)
    | (with_reducible refine vc_exit ?_; simp only [↓reduceIte, Nat.reduceEqDiff])
    | (with_reducible refine vc_ret ?_; simp only [retV, resL, one])
    | (with_reducible refine hK _ _ ?_; clear hK)
    | (clear hK; with_reducible refine hK _ _ ?_; clear hK)
    | (clear hK; clear hK; with_reducible refine hK _ _ ?_; clear hK)
    | (simp only [opsV, dV, modeV, pureV, guardV, undef, opV, callV, intV, arith, ne_eq, Nat.min_def, vsB, seval, true_and]))
  refine isNaN_int a ?_
  repeat (first
    | (with_reducible refine vc_seq fun K hK => ?_)
    | (with_reducible refine vc_reg ?_)
    | (with_reducible refine vc_skip ?_)
    | (with_reducible refine vc_block ?_)
    | (with_reducible refine vc_scope ?_)
    | (with_reducible refine vc_label ?_)
    | (with_reducible refine vc_condT ?_ ?_; · simp only [opsV, dV, modeV, pureV, guardV, undef, opV, callV, intV, arith, ne_eq, Nat.min_def, vsB, seval, true_and] <;> rfl)
    | (with_reducible refine vc_condF ?_ ?_; · simp only [opsV, dV, modeV, pureV, guardV, undef, opV, callV, intV, arith, ne_eq, Nat.min_def, vsB, seval, true_and] <;> rfl)
    | (with_reducible refine vc_exit ?_; simp only [↓reduceIte, Nat.reduceEqDiff])
    | (with_reducible refine vc_ret ?_; simp only [retV, resL, one])
    | (with_reducible refine hK _ _ ?_; clear hK)
    | (clear hK; with_reducible refine hK _ _ ?_; clear hK)
    | (clear hK; clear hK; with_reducible refine hK _ _ ?_; clear hK)
    | (simp only [opsV, dV, modeV, pureV, guardV, undef, opV, callV, intV, arith, ne_eq, Nat.min_def, vsB, seval, true_and]))
  refine isNaN_int b ?_
  repeat (first
    | (with_reducible refine vc_seq fun K hK => ?_)
    | (with_reducible refine vc_reg ?_)
    | (with_reducible refine vc_skip ?_)
    | (with_reducible refine vc_block ?_)
    | (with_reducible refine vc_scope ?_)
    | (with_reducible refine vc_label ?_)
    | (with_reducible refine vc_condT ?_ ?_; · simp only [opsV, dV, modeV, pureV, guardV, undef, opV, callV, intV, arith, ne_eq, Nat.min_def, vsB, seval, true_and] <;> rfl)
    | (with_reducible refine vc_condF ?_ ?_; · simp only [opsV, dV, modeV, pureV, guardV, undef, opV, callV, intV, arith, ne_eq, Nat.min_def, vsB, seval, true_and] <;> rfl)
    | (with_reducible refine vc_exit ?_; simp only [↓reduceIte, Nat.reduceEqDiff])
    | (with_reducible refine vc_ret ?_; simp only [retV, resL, one])
    | (with_reducible refine hK _ _ ?_; clear hK)
    | (clear hK; with_reducible refine hK _ _ ?_; clear hK)
    | (clear hK; clear hK; with_reducible refine hK _ _ ?_; clear hK)
    | (simp only [opsV, dV, modeV, pureV, guardV, undef, opV, callV, intV, arith, ne_eq, Nat.min_def, vsB, seval, true_and]))
  refine vc_condD (by simp only [opsV, dV, modeV, pureV, guardV, undef, opV, callV, intV, arith, ne_eq, Nat.min_def, vsB, seval, true_and] <;> rfl) (fun ht => ?_) (fun ht => ?_)
  · repeat (first
      | (with_reducible refine vc_seq fun K hK => ?_)
      | (with_reducible refine vc_reg ?_)
      | (with_reducible refine vc_skip ?_)
      | (with_reducible refine vc_block ?_)
      | (with_reducible refine vc_scope ?_)
      | (with_reducible refine vc_label ?_)
      | (with_reducible refine vc_condT ?_ ?_; · simp only [opsV, dV, modeV, pureV, guardV, undef, opV, callV, intV, arith, ne_eq, Nat.min_def, vsB, seval, true_and] <;> rfl)
      | (with_reducible refine vc_condF ?_ ?_; · simp only [opsV, dV, modeV, pureV, guardV, undef, opV, callV, intV, arith, ne_eq, Nat.min_def, vsB, seval, true_and] <;> rfl)
      | (with_reducible refine vc_exit ?_; simp only [↓reduceIte, Nat.reduceEqDiff])
      | (with_reducible refine vc_ret ?_; simp only [retV, resL, one])
      | (with_reducible refine hK _ _ ?_; clear hK)
      | (clear hK; with_reducible refine hK _ _ ?_; clear hK)
      | (clear hK; clear hK; with_reducible refine hK _ _ ?_; clear hK)
      | (simp only [opsV, dV, modeV, pureV, guardV, undef, opV, callV, intV, arith, ne_eq, Nat.min_def, vsB, seval, true_and]))
    simpa [cmpI, ht] using h
  have ht1 := ht; clear ht
  repeat (first
    | (with_reducible refine vc_seq fun K hK => ?_)
    | (with_reducible refine vc_reg ?_)
    | (with_reducible refine vc_skip ?_)
    | (with_reducible refine vc_block ?_)
    | (with_reducible refine vc_scope ?_)
    | (with_reducible refine vc_label ?_)
    | (with_reducible refine vc_condT ?_ ?_; · simp only [opsV, dV, modeV, pureV, guardV, undef, opV, callV, intV, arith, ne_eq, Nat.min_def, vsB, seval, true_and] <;> rfl)
    | (with_reducible refine vc_condF ?_ ?_; · simp only [opsV, dV, modeV, pureV, guardV, undef, opV, callV, intV, arith, ne_eq, Nat.min_def, vsB, seval, true_and] <;> rfl)
    | (with_reducible refine vc_exit ?_; simp only [↓reduceIte, Nat.reduceEqDiff])
    | (with_reducible refine vc_ret ?_; simp only [retV, resL, one])
    | (with_reducible refine hK _ _ ?_; clear hK)
    | (clear hK; with_reducible refine hK _ _ ?_; clear hK)
    | (clear hK; clear hK; with_reducible refine hK _ _ ?_; clear hK)
    | (simp only [opsV, dV, modeV, pureV, guardV, undef, opV, callV, intV, arith, ne_eq, Nat.min_def, vsB, seval, true_and]))
  refine vc_condD (by simp only [opsV, dV, modeV, pureV, guardV, undef, opV, callV, intV, arith, ne_eq, Nat.min_def, vsB, seval, true_and] <;> rfl) (fun ht => ?_) (fun ht => ?_)
  · repeat (first
      | (with_reducible refine vc_seq fun K hK => ?_)
      | (with_reducible refine vc_reg ?_)
      | (with_reducible refine vc_skip ?_)
      | (with_reducible refine vc_block ?_)
      | (with_reducible refine vc_scope ?_)
      | (with_reducible refine vc_label ?_)
      | (with_reducible refine vc_condT ?_ ?_; · simp only [opsV, dV, modeV, pureV, guardV, undef, opV, callV, intV, arith, ne_eq, Nat.min_def, vsB, seval, true_and] <;> rfl)
      | (with_reducible refine vc_condF ?_ ?_; · simp only [opsV, dV, modeV, pureV, guardV, undef, opV, callV, intV, arith, ne_eq, Nat.min_def, vsB, seval, true_and] <;> rfl)
      | (with_reducible refine vc_exit ?_; simp only [↓reduceIte, Nat.reduceEqDiff])
      | (with_reducible refine vc_ret ?_; simp only [retV, resL, one])
      | (with_reducible refine hK _ _ ?_; clear hK)
      | (clear hK; with_reducible refine hK _ _ ?_; clear hK)
      | (clear hK; clear hK; with_reducible refine hK _ _ ?_; clear hK)
      | (simp only [opsV, dV, modeV, pureV, guardV, undef, opV, callV, intV, arith, ne_eq, Nat.min_def, vsB, seval, true_and]))
    simpa [cmpI, ht, ht1] using h
  · repeat (first
      | (with_reducible refine vc_seq fun K hK => ?_)
      | (with_reducible refine vc_reg ?_)
      | (with_reducible refine vc_skip ?_)
      | (with_reducible refine vc_block ?_)
      | (with_reducible refine vc_scope ?_)
      | (with_reducible refine vc_label ?_)
      | (with_reducible refine vc_condT ?_ ?_; · simp only [opsV, dV, modeV, pureV, guardV, undef, opV, callV, intV, arith, ne_eq, Nat.min_def, vsB, seval, true_and] <;> rfl)
      | (with_reducible refine vc_condF ?_ ?_; · simp only [opsV, dV, modeV, pureV, guardV, undef, opV, callV, intV, arith, ne_eq, Nat.min_def, vsB, seval, true_and] <;> rfl)
      | (with_reducible refine vc_exit ?_; simp only [↓reduceIte, Nat.reduceEqDiff])
      | (with_reducible refine vc_ret ?_; simp only [retV, resL, one])
      | (with_reducible refine hK _ _ ?_; clear hK)
      | (clear hK; with_reducible refine hK _ _ ?_; clear hK)
      | (clear hK; clear hK; with_reducible refine hK _ _ ?_; clear hK)
      | (simp only [opsV, dV, modeV, pureV, guardV, undef, opV, callV, intV, arith, ne_eq, Nat.min_def, vsB, seval, true_and]))
    simpa [cmpI, ht, ht1] using h

theorem isNaN_u64 {w : World} {K : Value → World → Prop} (a : Int) (h : K (.bool false) w) : FC Tryd.prog 51 #[.int .u64 a] w K := by
  refine FC.body (l := [.int .u64 a]) (rs := [.tmp 2]) mixed Tryd.func51 rfl (by kernel_rfl) (by kernel_rfl) (Nat.le_of_ble_eq_true rfl) rfl ?_
  repeat (first
    | (with_reducible refine vc_seq fun K hK => ?_)
    | (with_reducible refine vc_reg ?_)
    | (with_reducible refine vc_skip ?_)
    | (with_reducible refine vc_block ?_)
    | (with_reducible refine vc_scope ?_)
    | (with_reducible refine vc_label ?_)
    | (with_reducible refine vc_condT ?_ ?_; · simp only [opsV, dV, modeV, pureV, guardV, undef, opV, callV, intV, arith, ne_eq, Nat.min_def, vsB, seval, true_and] <;> rfl)
    | (with_reducible refine vc_condF ?_ ?_; · simp only [opsV, dV, modeV, pureV, guardV, undef, opV, callV, intV, arith, ne_eq, Nat.min_def, vsB, seval, true_and] <;> rfl)
    | (with_reducible refine vc_exit ?_; simp only [↓reduceIte, Nat.reduceEqDiff])
    | (with_reducible refine vc_ret ?_; simp only [retV, resL, one])
    | (with_reducible refine hK _ _ ?_; clear hK)
    | (clear hK; with_reducible refine hK _ _ ?_; clear hK)
    | (clear hK; clear hK; with_reducible refine hK _ _ ?_; clear hK)
    | (simp only [opsV, dV, modeV, pureV, guardV, undef, opV, callV, intV, arith, ne_eq, Nat.min_def, vsB, seval, true_and]))
  simpa using h

theorem compare_u64 {w : World} {K : Value → World → Prop} (a b : Int) (h : K (.int .i64 (cmpI a b)) w) : FC Tryd.prog 40 #[.int .u64 a, .int .u64 b] w K := by
  refine FC.body (l := [.int .u64 a, .int .u64 b]) (rs := [.tmp 4]) mixed Tryd.func40 rfl (by kernel_rfl) (by kernel_rfl) (Nat.le_of_ble_eq_true rfl) rfl ?_
  repeat (first
    | (with_reducible refine vc_seq fun K hK => ?_)
    | (with_reducible refine vc_reg ?_)
    | (with_reducible refine vc_skip ?_)
    | (with_reducible refine vc_block ?_)
    | (with_reducible refine vc_scope ?_)
    | (with_reducible refine vc_label ?_)
    | (with_reducible refine vc_condT ?_ ?_; · simp only [opsV, dV, modeV, pureV, guardV, undef, opV, callV, intV, arith, ne_eq, Nat.min_def, vsB, seval, true_and] <;> rfl)
    | (with_reducible refine vc_condF ?_ ?_; · simp only [opsV, dV, modeV, pureV, guardV, undef, opV, callV, intV, arith, ne_eq, Nat.min_def, vsB, seval, true_and] <;> rfl)
    | (with_reducible refine vc_exit ?_; simp only [↓reduceIte, Nat.reduceEqDiff])
    | (with_reducible refine vc_ret ?_; simp only [retV, resL, one])
    | (with_reducible refine hK _ _ ?_; clear hK)
    | (clear hK; with_reducible refine hK _ _ ?_; clear hK)
    | (clear hK; clear hK; with_reducible refine hK _ _ ?_; clear hK)
    | (simp only [opsV, dV, modeV, pureV, guardV, undef, opV, callV, intV, arith, ne_eq, Nat.min_def, vsB, seval, true_and]))
  refine isNaN_u64 a ?_
  repeat (first
    | (with_reducible refine vc_seq fun K hK => ?_)
    | (with_reducible refine vc_reg ?_)
    | (with_reducible refine vc_skip ?_)
    | (with_reducible refine vc_block ?_)
    | (with_reducible refine vc_scope ?_)
    | (with_reducible refine vc_label ?_)
    | (with_reducible refine vc_condT ?_ ?_; · simp only [opsV, dV, modeV, pureV, guardV, undef, opV, callV, intV, arith, ne_eq, Nat.min_def, vsB, seval, true_and] <;> rfl)
    | (with_reducible refine vc_condF ?_ ?_; · simp only [opsV, dV, modeV, pureV, guardV, undef, opV, callV, intV, arith, ne_eq, Nat.min_def, vsB, seval, true_and] <;> rfl)
    | (with_reducible refine vc_exit ?_; simp only [↓reduceIte, Nat.reduceEqDiff])
    | (with_reducible refine vc_ret ?_; simp only [retV, resL, one])
    | (with_reducible refine hK _ _ ?_; clear hK)
    | (clear hK; with_reducible refine hK _ _ ?_; clear hK)
    | (clear hK; clear hK; with_reducible refine hK _ _ ?_; clear hK)
    | (simp only [opsV, dV, modeV, pureV, guardV, undef, opV, callV, intV, arith, ne_eq, Nat.min_def, vsB, seval, true_and]))
  refine isNaN_u64 b ?_
  repeat (first
    | (with_reducible refine vc_seq fun K hK => ?_)
    | (with_reducible refine vc_reg ?_)
    | (with_reducible refine vc_skip ?_)
    | (with_reducible refine vc_block ?_)
    | (with_reducible refine vc_scope ?_)
    | (with_reducible refine vc_label ?_)
    | (with_reducible refine vc_condT ?_ ?_; · simp only [opsV, dV, modeV, pureV, guardV, undef, opV, callV, intV, arith, ne_eq, Nat.min_def, vsB, seval, true_and] <;> rfl)
    | (with_reducible refine vc_condF ?_ ?_; · simp only [opsV, dV, modeV, pureV, guardV, undef, opV, callV, intV, arith, ne_eq, Nat.min_def, vsB, seval, true_and] <;> rfl)
    | (with_reducible refine vc_exit ?_; simp only [↓reduceIte, Nat.reduceEqDiff])
    | (with_reducible refine vc_ret ?_; simp only [retV, resL, one])
    | (with_reducible refine hK _ _ ?_; clear hK)
    | (clear hK; with_reducible refine hK _ _ ?_; clear hK)
    | (clear hK; clear hK; with_reducible refine hK _ _ ?_; clear hK)
    | (simp only [opsV, dV, modeV, pureV, guardV, undef, opV, callV, intV, arith, ne_eq, Nat.min_def, vsB, seval, true_and]))
  refine vc_condD (by simp only [opsV, dV, modeV, pureV, guardV, undef, opV, callV, intV, arith, ne_eq, Nat.min_def, vsB, seval, true_and] <;> rfl) (fun ht => ?_) (fun ht => ?_)
  · repeat (first
      | (with_reducible refine vc_seq fun K hK => ?_)
      | (with_reducible refine vc_reg ?_)
      | (with_reducible refine vc_skip ?_)
      | (with_reducible refine vc_block ?_)
      | (with_reducible refine vc_scope ?_)
      | (with_reducible refine vc_label ?_)
      | (with_reducible refine vc_condT ?_ ?_; · simp only [opsV, dV, modeV, pureV, guardV, undef, opV, callV, intV, arith, ne_eq, Nat.min_def, vsB, seval, true_and] <;> rfl)
      | (with_reducible refine vc_condF ?_ ?_; · simp only [opsV, dV, modeV, pureV, guardV, undef, opV, callV, intV, arith, ne_eq, Nat.min_def, vsB, seval, true_and] <;> rfl)
      | (with_reducible refine vc_exit ?_; simp only [↓reduceIte, Nat.reduceEqDiff])
      | (with_reducible refine vc_ret ?_; simp only [retV, resL, one])
      | (with_reducible refine hK _ _ ?_; clear hK)
      | (clear hK; with_reducible refine hK _ _ ?_; clear hK)
      | (clear hK; clear hK; with_reducible refine hK _ _ ?_; clear hK)
      | (simp only [opsV, dV, modeV, pureV, guardV, undef, opV, callV, intV, arith, ne_eq, Nat.min_def, vsB, seval, true_and]))
    simpa [cmpI, ht] using h
  have ht1 := ht; clear ht
  repeat (first
    | (with_reducible refine vc_seq fun K hK => ?_)
    | (with_reducible refine vc_reg ?_)
    | (with_reducible refine vc_skip ?_)
    | (with_reducible refine vc_block ?_)
    | (with_reducible refine vc_scope ?_)
    | (with_reducible refine vc_label ?_)
    | (with_reducible refine vc_condT ?_ ?_; · simp only [opsV, dV, modeV, pureV, guardV, undef, opV, callV, intV, arith, ne_eq, Nat.min_def, vsB, seval, true_and] <;> rfl)
    | (with_reducible refine vc_condF ?_ ?_; · simp only [opsV, dV, modeV, pureV, guardV, undef, opV, callV, intV, arith, ne_eq, Nat.min_def, vsB, seval, true_and] <;> rfl)
    | (with_reducible refine vc_exit ?_; simp only [↓reduceIte, Nat.reduceEqDiff])
    | (with_reducible refine vc_ret ?_; simp only [retV, resL, one])
    | (with_reducible refine hK _ _ ?_; clear hK)
    | (clear hK; with_reducible refine hK _ _ ?_; clear hK)
    | (clear hK; clear hK; with_reducible refine hK _ _ ?_; clear hK)
    | (simp only [opsV, dV, modeV, pureV, guardV, undef, opV, callV, intV, arith, ne_eq, Nat.min_def, vsB, seval, true_and]))
  refine vc_condD (by simp only [opsV, dV, modeV, pureV, guardV, undef, opV, callV, intV, arith, ne_eq, Nat.min_def, vsB, seval, true_and] <;> rfl) (fun ht => ?_) (fun ht => ?_)
  · repeat (first
      | (with_reducible refine vc_seq fun K hK => ?_)
      | (with_reducible refine vc_reg ?_)
      | (with_reducible refine vc_skip ?_)
      | (with_reducible refine vc_block ?_)
      | (with_reducible refine vc_scope ?_)
      | (with_reducible refine vc_label ?_)
      | (with_reducible refine vc_condT ?_ ?_; · simp only [opsV, dV, modeV, pureV, guardV, undef, opV, callV, intV, arith, ne_eq, Nat.min_def, vsB, seval, true_and] <;> rfl)
      | (with_reducible refine vc_condF ?_ ?_; · simp only [opsV, dV, modeV, pureV, guardV, undef, opV, callV, intV, arith, ne_eq, Nat.min_def, vsB, seval, true_and] <;> rfl)
      | (with_reducible refine vc_exit ?_; simp only [↓reduceIte, Nat.reduceEqDiff])
      | (with_reducible refine vc_ret ?_; simp only [retV, resL, one])
      | (with_reducible refine hK _ _ ?_; clear hK)
      | (clear hK; with_reducible refine hK _ _ ?_; clear hK)
      | (clear hK; clear hK; with_reducible refine hK _ _ ?_; clear hK)
      | (simp only [opsV, dV, modeV, pureV, guardV, undef, opV, callV, intV, arith, ne_eq, Nat.min_def, vsB, seval, true_and]))
    simpa [cmpI, ht, ht1] using h
  · repeat (first
      | (with_reducible refine vc_seq fun K hK => ?_)
      | (with_reducible refine vc_reg ?_)
      | (with_reducible refine vc_skip ?_)
      | (with_reducible refine vc_block ?_)
      | (with_reducible refine vc_scope ?_)
      | (with_reducible refine vc_label ?_)
      | (with_reducible refine vc_condT ?_ ?_; · simp only [opsV, dV, modeV, pureV, guardV, undef, opV, callV, intV, arith, ne_eq, Nat.min_def, vsB, seval, true_and] <;> rfl)
      | (with_reducible refine vc_condF ?_ ?_; · simp only [opsV, dV, modeV, pureV, guardV, undef, opV, callV, intV, arith, ne_eq, Nat.min_def, vsB, seval, true_and] <;> rfl)
      | (with_reducible refine vc_exit ?_; simp only [↓reduceIte, Nat.reduceEqDiff])
      | (with_reducible refine vc_ret ?_; simp only [retV, resL, one])
      | (with_reducible refine hK _ _ ?_; clear hK)
      | (clear hK; with_reducible refine hK _ _ ?_; clear hK)
      | (clear hK; clear hK; with_reducible refine hK _ _ ?_; clear hK)
      | (simp only [opsV, dV, modeV, pureV, guardV, undef, opV, callV, intV, arith, ne_eq, Nat.min_def, vsB, seval, true_and]))
    simpa [cmpI, ht, ht1] using h

/-! ### math/bits -/

theorem mul64 {w : World} {K : Value → World → Prop} (x y : Nat) (hx : x < 18446744073709551616) (hy : y < 18446744073709551616)
    (h : K (.tuple [Value.int .u64 ((x * y / 18446744073709551616 : Nat) : Int), Value.int .u64 ((x * y % 18446744073709551616 : Nat) : Int)].toArray) w) :
    FC Tryd.prog 45 #[.int .u64 (x : Int), .int .u64 (y : Int)] w K := by
  obtain ⟨m1, m2, m3, m4⟩ := Lib.mul64_hi x y hx hy
  have hlt : x * y / 18446744073709551616 < 18446744073709551616 := by
    rw [Nat.div_lt_iff_lt_mul (by decide)]
    exact Nat.mul_lt_mul'' hx hy
  refine FC.body (l := [.int .u64 (x : Int), .int .u64 (y : Int)]) (rs := [.tmp 4, .tmp 5]) mixed Tryd.func45 rfl (by kernel_rfl) (by kernel_rfl) (Nat.le_of_ble_eq_true rfl) rfl ?_
  have n1 : x / 4294967296 * (y % 4294967296) < 18446744073709551616 := Nat.lt_of_le_of_lt (Nat.le_add_right _ _) m2
  have n2 : x % 4294967296 * (y / 4294967296) < 18446744073709551616 := Nat.lt_of_le_of_lt (Nat.le_add_left _ _) m3
  have n3 : x / 4294967296 * (y / 4294967296) < 18446744073709551616 := by
    refine Nat.lt_of_le_of_lt ?_ hlt
    rw [← m4, Nat.add_assoc]; exact Nat.le_add_right _ _
  have n4 : x / 4294967296 * (y / 4294967296) + (x / 4294967296 * (y % 4294967296) + x % 4294967296 * (y % 4294967296) / 4294967296) / 4294967296 < 18446744073709551616 := by
    refine Nat.lt_of_le_of_lt ?_ hlt
    rw [← m4]; exact Nat.le_add_right _ _
  repeat (first
    | (with_reducible refine vc_seq fun K hK => ?_)
    | (with_reducible refine vc_reg ?_)
    | (with_reducible refine vc_skip ?_)
    | (with_reducible refine vc_block ?_)
    | (with_reducible refine vc_scope ?_)
    | (with_reducible refine vc_label ?_)
    | (with_reducible refine vc_condT ?_ ?_; · simp only [opsV, dV, modeV, pureV, guardV, undef, opV, callV, intV, arith, ne_eq, Nat.min_def, vsB, seval, low32 x hx, low32 y hy, Nat.mod_eq_of_lt m1, Nat.mod_eq_of_lt n1, Nat.mod_eq_of_lt m2, low32 _ m2, Nat.mod_eq_of_lt n2, Nat.mod_eq_of_lt m3, Nat.mod_eq_of_lt n3, Nat.mod_eq_of_lt n4, m4, Nat.mod_eq_of_lt hlt] <;> rfl)
    | (with_reducible refine vc_condF ?_ ?_; · simp only [opsV, dV, modeV, pureV, guardV, undef, opV, callV, intV, arith, ne_eq, Nat.min_def, vsB, seval, low32 x hx, low32 y hy, Nat.mod_eq_of_lt m1, Nat.mod_eq_of_lt n1, Nat.mod_eq_of_lt m2, low32 _ m2, Nat.mod_eq_of_lt n2, Nat.mod_eq_of_lt m3, Nat.mod_eq_of_lt n3, Nat.mod_eq_of_lt n4, m4, Nat.mod_eq_of_lt hlt] <;> rfl)
    | (with_reducible refine vc_exit ?_; simp only [↓reduceIte, Nat.reduceEqDiff])
    | (with_reducible refine vc_ret ?_; simp only [retV, resL, one])
    | (with_reducible refine hK _ _ ?_; clear hK)
    | (clear hK; with_reducible refine hK _ _ ?_; clear hK)
    | (clear hK; clear hK; with_reducible refine hK _ _ ?_; clear hK)
    | (simp only [opsV, dV, modeV, pureV, guardV, undef, opV, callV, intV, arith, ne_eq, Nat.min_def, vsB, seval, low32 x hx, low32 y hy, Nat.mod_eq_of_lt m1, Nat.mod_eq_of_lt n1, Nat.mod_eq_of_lt m2, low32 _ m2, Nat.mod_eq_of_lt n2, Nat.mod_eq_of_lt m3, Nat.mod_eq_of_lt n3, Nat.mod_eq_of_lt n4, m4, Nat.mod_eq_of_lt hlt]))
  exact h

theorem ix_str {P : Program} {t : TypeId} (ht : P.underlying t = some .string) {s s' : ByteArray} (hs : s = s') {k : IntKind} {i : Nat} {c : UInt8} (hc : s'.data.toList[i]? = some c) : IxV P t (.string s) (.int k (i : Int)) (.int .u8 (c.toNat : Int)) := by
  subst hs
  intro w
  have : s[i]? = some c := by
    have hlt : i < s.size := by
      have := (List.getElem?_eq_some_iff.1 hc).1
      simpa using this
    rw [getElem?_pos s i hlt]
    obtain ⟨h1, h2⟩ := List.getElem?_eq_some_iff.1 hc
    rw [← h2]
    rfl
  unfold Does Instr.index
  simp [asIntOf, run_underlying ht, this]

def lenTab : ByteArray := ⟨((List.range 256).map fun i => UInt8.ofNat (bitLen i)).toArray⟩
theorem bitLen_le {n k : Nat} (h : n < 2 ^ k) : bitLen n ≤ k := by
  unfold bitLen
  split
  · omega
  · rename_i h0
    have := (Nat.log2_lt h0).2 h
    omega

theorem len64 {w : World} {K : Value → World → Prop} (x : Nat) (hx : x < 18446744073709551616) (h : K (.int .i64 ((bitLen x : Nat) : Int)) w) : FC Tryd.prog 36 #[.int .u64 (x : Int)] w K := by
  refine FC.body (l := [.int .u64 (x : Int)]) (rs := [.tmp 2]) mixed Tryd.func36 rfl (by kernel_rfl) (by kernel_rfl) (Nat.le_of_ble_eq_true rfl) rfl ?_
  with_reducible refine vc_seq fun K hK => ?_
  with_reducible refine vc_reg ?_
  simp only [opsV, dV, modeV, pureV, guardV, undef, opV, callV, intV, arith, ne_eq, Nat.min_def, vsB, seval, true_and]
  refine hK _ _ ?_
  clear hK K
  refine vc_seq fun K hK => ?_
  have J1 : ∀ (e : Env) (y n : Nat), y < 4294967296 → n ≤ 32 → bitLen x = n + bitLen y → e 0 = .int .u64 (y : Int) → e 2 = .int .i64 (n : Int) → K e w := by
    intro e y n hy hn hl h0 h2
    refine hK _ _ ?_
    clear hK K
    refine vc_seq fun K hK => ?_
    have J2 : ∀ (e : Env) (y n : Nat), y < 65536 → n ≤ 48 → bitLen x = n + bitLen y → e 0 = .int .u64 (y : Int) → e 2 = .int .i64 (n : Int) → K e w := by
      intro e y n hy hn hl h0 h2
      refine hK _ _ ?_
      clear hK K
      refine vc_seq fun K hK => ?_
      have J3 : ∀ (e : Env) (y n : Nat), y < 256 → n ≤ 56 → bitLen x = n + bitLen y → e 0 = .int .u64 (y : Int) → e 2 = .int .i64 (n : Int) → K e w := by
        intro e y n hy hn hl h0 h2
        refine hK _ _ ?_
        clear hK K
        refine vc_seq fun K hK => ?_
        have hb := bitLen_le (n := y) (k := 8) hy
        refine vc_reg ?_
        simp only [opsV, dV, modeV, pureV, guardV, undef, opV, callV, intV, arith, ne_eq, Nat.min_def, vsB, seval, true_and, h0, h2, convV_int Tryd.underlying5, Tryd.underlying27, Option.isSome_some, Nat.mod_eq_of_lt hy]
        refine ⟨_, ix_str Tryd.underlying9 (s' := lenTab) (by kernel_rfl) (c := UInt8.ofNat (bitLen y)) (by simp [lenTab, hy]), ?_⟩
        have e1 : ((UInt8.ofNat (bitLen y)).toNat : Int) = ((bitLen y : Nat) : Int) := by
          rw [UInt8.toNat_ofNat']
          congr 1
          omega
        have e2 : IntKind.i64.wrap ((bitLen y : Nat) : Int) = ((bitLen y : Nat) : Int) := R64.wrap (by unfold R64; omega)
        simp only [opsV, dV, modeV, pureV, guardV, undef, opV, callV, intV, arith, ne_eq, Nat.min_def, vsB, seval, true_and, e1, e2, convV_int Tryd.underlying3, Tryd.underlying5, Option.isSome_some]
        refine ⟨(by unfold R64; omega), ?_⟩
        repeat (first
          | (with_reducible refine vc_seq fun K hK => ?_)
          | (with_reducible refine vc_reg ?_)
          | (with_reducible refine vc_skip ?_)
          | (with_reducible refine vc_block ?_)
          | (with_reducible refine vc_scope ?_)
          | (with_reducible refine vc_label ?_)
          | (with_reducible refine vc_condT ?_ ?_; · simp only [opsV, dV, modeV, pureV, guardV, undef, opV, callV, intV, arith, ne_eq, Nat.min_def, vsB, seval, true_and] <;> rfl)
          | (with_reducible refine vc_condF ?_ ?_; · simp only [opsV, dV, modeV, pureV, guardV, undef, opV, callV, intV, arith, ne_eq, Nat.min_def, vsB, seval, true_and] <;> rfl)
          | (with_reducible refine vc_exit ?_; simp only [↓reduceIte, Nat.reduceEqDiff])
          | (with_reducible refine vc_ret ?_; simp only [retV, resL, one])
          | (with_reducible refine hK _ _ ?_; clear hK)
          | (clear hK; with_reducible refine hK _ _ ?_; clear hK)
          | (clear hK; clear hK; with_reducible refine hK _ _ ?_; clear hK)
          | (simp only [opsV, dV, modeV, pureV, guardV, undef, opV, callV, intV, arith, ne_eq, Nat.min_def, vsB, seval, true_and]))
        rw [← hl]
        exact h
      clear hK
      repeat (first
        | (with_reducible refine vc_seq fun K hK => ?_)
        | (with_reducible refine vc_reg ?_)
        | (with_reducible refine vc_skip ?_)
        | (with_reducible refine vc_block ?_)
        | (with_reducible refine vc_scope ?_)
        | (with_reducible refine vc_label ?_)
        | (with_reducible refine vc_condT ?_ ?_; · simp only [opsV, dV, modeV, pureV, guardV, undef, opV, callV, intV, arith, ne_eq, Nat.min_def, vsB, seval, h0, h2] <;> rfl)
        | (with_reducible refine vc_condF ?_ ?_; · simp only [opsV, dV, modeV, pureV, guardV, undef, opV, callV, intV, arith, ne_eq, Nat.min_def, vsB, seval, h0, h2] <;> rfl)
        | (with_reducible refine vc_exit ?_; simp only [↓reduceIte, Nat.reduceEqDiff])
        | (with_reducible refine vc_ret ?_; simp only [retV, resL, one])
        | (with_reducible refine hK _ _ ?_; clear hK)
        | (clear hK; with_reducible refine hK _ _ ?_; clear hK)
        | (clear hK; clear hK; with_reducible refine hK _ _ ?_; clear hK)
        | (simp only [opsV, dV, modeV, pureV, guardV, undef, opV, callV, intV, arith, ne_eq, Nat.min_def, vsB, seval, h0, h2]))
      refine vc_condD (by simp only [opsV, dV, modeV, pureV, guardV, undef, opV, callV, intV, arith, ne_eq, Nat.min_def, vsB, seval, h0, h2] <;> rfl) (fun ht => ?_) (fun ht => ?_)
      · have hs : bitLen y = 8 + bitLen (y / 256) := bitLen_shift y 8 (by omega)
        refine vc_seq fun K hK => ?_
        refine vc_reg ?_
        simp only [opsV, dV, modeV, pureV, guardV, undef, opV, callV, intV, arith, ne_eq, Nat.min_def, vsB, seval, h0, h2]
        refine hK _ _ ?_
        clear hK K
        refine vc_reg ?_
        simp only [opsV, dV, modeV, pureV, guardV, undef, opV, callV, intV, arith, ne_eq, Nat.min_def, vsB, seval, h0, h2]
        refine ⟨(by unfold R64; omega), ?_⟩
        refine J3 _ (y / 256) (n + 8) (by omega) (by omega) (by omega) (by simp only [opsV, dV, modeV, pureV, guardV, undef, opV, callV, intV, arith, ne_eq, Nat.min_def, vsB, seval, h0, h2] <;> rfl) (by simp only [opsV, dV, modeV, pureV, guardV, undef, opV, callV, intV, arith, ne_eq, Nat.min_def, vsB, seval, h0, h2] <;> rfl)
      · refine vc_skip ?_
        refine J3 _ y n (by omega) (by omega) hl (by simp only [opsV, dV, modeV, pureV, guardV, undef, opV, callV, intV, arith, ne_eq, Nat.min_def, vsB, seval, h0, h2] <;> rfl) (by simp only [opsV, dV, modeV, pureV, guardV, undef, opV, callV, intV, arith, ne_eq, Nat.min_def, vsB, seval, h0, h2] <;> rfl)
    clear hK
    repeat (first
      | (with_reducible refine vc_seq fun K hK => ?_)
      | (with_reducible refine vc_reg ?_)
      | (with_reducible refine vc_skip ?_)
      | (with_reducible refine vc_block ?_)
      | (with_reducible refine vc_scope ?_)
      | (with_reducible refine vc_label ?_)
      | (with_reducible refine vc_condT ?_ ?_; · simp only [opsV, dV, modeV, pureV, guardV, undef, opV, callV, intV, arith, ne_eq, Nat.min_def, vsB, seval, h0, h2] <;> rfl)
      | (with_reducible refine vc_condF ?_ ?_; · simp only [opsV, dV, modeV, pureV, guardV, undef, opV, callV, intV, arith, ne_eq, Nat.min_def, vsB, seval, h0, h2] <;> rfl)
      | (with_reducible refine vc_exit ?_; simp only [↓reduceIte, Nat.reduceEqDiff])
      | (with_reducible refine vc_ret ?_; simp only [retV, resL, one])
      | (with_reducible refine hK _ _ ?_; clear hK)
      | (clear hK; with_reducible refine hK _ _ ?_; clear hK)
      | (clear hK; clear hK; with_reducible refine hK _ _ ?_; clear hK)
      | (simp only [opsV, dV, modeV, pureV, guardV, undef, opV, callV, intV, arith, ne_eq, Nat.min_def, vsB, seval, h0, h2]))
    refine vc_condD (by simp only [opsV, dV, modeV, pureV, guardV, undef, opV, callV, intV, arith, ne_eq, Nat.min_def, vsB, seval, h0, h2] <;> rfl) (fun ht => ?_) (fun ht => ?_)
    · have hs : bitLen y = 16 + bitLen (y / 65536) := bitLen_shift y 16 (by omega)
      refine vc_seq fun K hK => ?_
      refine vc_reg ?_
      simp only [opsV, dV, modeV, pureV, guardV, undef, opV, callV, intV, arith, ne_eq, Nat.min_def, vsB, seval, h0, h2]
      refine hK _ _ ?_
      clear hK K
      refine vc_reg ?_
      simp only [opsV, dV, modeV, pureV, guardV, undef, opV, callV, intV, arith, ne_eq, Nat.min_def, vsB, seval, h0, h2]
      refine ⟨(by unfold R64; omega), ?_⟩
      refine J2 _ (y / 65536) (n + 16) (by omega) (by omega) (by omega) (by simp only [opsV, dV, modeV, pureV, guardV, undef, opV, callV, intV, arith, ne_eq, Nat.min_def, vsB, seval, h0, h2] <;> rfl) (by simp only [opsV, dV, modeV, pureV, guardV, undef, opV, callV, intV, arith, ne_eq, Nat.min_def, vsB, seval, h0, h2] <;> rfl)
    · refine vc_skip ?_
      refine J2 _ y n (by omega) (by omega) hl (by simp only [opsV, dV, modeV, pureV, guardV, undef, opV, callV, intV, arith, ne_eq, Nat.min_def, vsB, seval, h0, h2] <;> rfl) (by simp only [opsV, dV, modeV, pureV, guardV, undef, opV, callV, intV, arith, ne_eq, Nat.min_def, vsB, seval, h0, h2] <;> rfl)
  clear hK
  repeat (first
    | (with_reducible refine vc_seq fun K hK => ?_)
    | (with_reducible refine vc_reg ?_)
    | (with_reducible refine vc_skip ?_)
    | (with_reducible refine vc_block ?_)
    | (with_reducible refine vc_scope ?_)
    | (with_reducible refine vc_label ?_)
    | (with_reducible refine vc_condT ?_ ?_; · simp only [opsV, dV, modeV, pureV, guardV, undef, opV, callV, intV, arith, ne_eq, Nat.min_def, vsB, seval, true_and] <;> rfl)
    | (with_reducible refine vc_condF ?_ ?_; · simp only [opsV, dV, modeV, pureV, guardV, undef, opV, callV, intV, arith, ne_eq, Nat.min_def, vsB, seval, true_and] <;> rfl)
    | (with_reducible refine vc_exit ?_; simp only [↓reduceIte, Nat.reduceEqDiff])
    | (with_reducible refine vc_ret ?_; simp only [retV, resL, one])
    | (with_reducible refine hK _ _ ?_; clear hK)
    | (clear hK; with_reducible refine hK _ _ ?_; clear hK)
    | (clear hK; clear hK; with_reducible refine hK _ _ ?_; clear hK)
    | (simp only [opsV, dV, modeV, pureV, guardV, undef, opV, callV, intV, arith, ne_eq, Nat.min_def, vsB, seval, true_and]))
  refine vc_condD (by simp only [opsV, dV, modeV, pureV, guardV, undef, opV, callV, intV, arith, ne_eq, Nat.min_def, vsB, seval, true_and] <;> rfl) (fun ht => ?_) (fun ht => ?_)
  · have hs : bitLen x = 32 + bitLen (x / 4294967296) := bitLen_shift x 32 (by omega)
    repeat (first
      | (with_reducible refine vc_seq fun K hK => ?_)
      | (with_reducible refine vc_reg ?_)
      | (with_reducible refine vc_skip ?_)
      | (with_reducible refine vc_block ?_)
      | (with_reducible refine vc_scope ?_)
      | (with_reducible refine vc_label ?_)
      | (with_reducible refine vc_condT ?_ ?_; · simp only [opsV, dV, modeV, pureV, guardV, undef, opV, callV, intV, arith, ne_eq, Nat.min_def, vsB, seval, true_and] <;> rfl)
      | (with_reducible refine vc_condF ?_ ?_; · simp only [opsV, dV, modeV, pureV, guardV, undef, opV, callV, intV, arith, ne_eq, Nat.min_def, vsB, seval, true_and] <;> rfl)
      | (with_reducible refine vc_exit ?_; simp only [↓reduceIte, Nat.reduceEqDiff])
      | (with_reducible refine vc_ret ?_; simp only [retV, resL, one])
      | (with_reducible refine hK _ _ ?_; clear hK)
      | (clear hK; with_reducible refine hK _ _ ?_; clear hK)
      | (clear hK; clear hK; with_reducible refine hK _ _ ?_; clear hK)
      | (simp only [opsV, dV, modeV, pureV, guardV, undef, opV, callV, intV, arith, ne_eq, Nat.min_def, vsB, seval, true_and]))
    refine J1 _ (x / 4294967296) 32 (by omega) (by omega) hs (by simp only [opsV, dV, modeV, pureV, guardV, undef, opV, callV, intV, arith, ne_eq, Nat.min_def, vsB, seval, true_and] <;> rfl) (by simp only [opsV, dV, modeV, pureV, guardV, undef, opV, callV, intV, arith, ne_eq, Nat.min_def, vsB, seval, true_and] <;> rfl)
  · repeat (first
      | (with_reducible refine vc_seq fun K hK => ?_)
      | (with_reducible refine vc_reg ?_)
      | (with_reducible refine vc_skip ?_)
      | (with_reducible refine vc_block ?_)
      | (with_reducible refine vc_scope ?_)
      | (with_reducible refine vc_label ?_)
      | (with_reducible refine vc_condT ?_ ?_; · simp only [opsV, dV, modeV, pureV, guardV, undef, opV, callV, intV, arith, ne_eq, Nat.min_def, vsB, seval, true_and] <;> rfl)
      | (with_reducible refine vc_condF ?_ ?_; · simp only [opsV, dV, modeV, pureV, guardV, undef, opV, callV, intV, arith, ne_eq, Nat.min_def, vsB, seval, true_and] <;> rfl)
      | (with_reducible refine vc_exit ?_; simp only [↓reduceIte, Nat.reduceEqDiff])
      | (with_reducible refine vc_ret ?_; simp only [retV, resL, one])
      | (with_reducible refine hK _ _ ?_; clear hK)
      | (clear hK; with_reducible refine hK _ _ ?_; clear hK)
      | (clear hK; clear hK; with_reducible refine hK _ _ ?_; clear hK)
      | (simp only [opsV, dV, modeV, pureV, guardV, undef, opV, callV, intV, arith, ne_eq, Nat.min_def, vsB, seval, true_and]))
    refine J1 _ x 0 (by omega) (by omega) (by omega) (by simp only [opsV, dV, modeV, pureV, guardV, undef, opV, callV, intV, arith, ne_eq, Nat.min_def, vsB, seval, true_and] <;> rfl) (by simp only [opsV, dV, modeV, pureV, guardV, undef, opV, callV, intV, arith, ne_eq, Nat.min_def, vsB, seval, true_and] <;> rfl)

theorem lz64 {w : World} {K : Value → World → Prop} (x : Nat) (hx : x < 18446744073709551616) (h : K (.int .i64 ((64 - bitLen x : Nat) : Int)) w) : FC Tryd.prog 53 #[.int .u64 (x : Int)] w K := by
  have hb := bitLen_le (n := x) (k := 64) hx
  refine FC.body (l := [.int .u64 (x : Int)]) (rs := [.tmp 2]) mixed Tryd.func53 rfl (by kernel_rfl) (by kernel_rfl) (Nat.le_of_ble_eq_true rfl) rfl ?_
  repeat (first
    | (with_reducible refine vc_seq fun K hK => ?_)
    | (with_reducible refine vc_reg ?_)
    | (with_reducible refine vc_skip ?_)
    | (with_reducible refine vc_block ?_)
    | (with_reducible refine vc_scope ?_)
    | (with_reducible refine vc_label ?_)
    | (with_reducible refine vc_condT ?_ ?_; · simp only [opsV, dV, modeV, pureV, guardV, undef, opV, callV, intV, arith, ne_eq, Nat.min_def, vsB, seval, true_and] <;> rfl)
    | (with_reducible refine vc_condF ?_ ?_; · simp only [opsV, dV, modeV, pureV, guardV, undef, opV, callV, intV, arith, ne_eq, Nat.min_def, vsB, seval, true_and] <;> rfl)
    | (with_reducible refine vc_exit ?_; simp only [↓reduceIte, Nat.reduceEqDiff])
    | (with_reducible refine vc_ret ?_; simp only [retV, resL, one])
    | (with_reducible refine hK _ _ ?_; clear hK)
    | (clear hK; with_reducible refine hK _ _ ?_; clear hK)
    | (clear hK; clear hK; with_reducible refine hK _ _ ?_; clear hK)
    | (simp only [opsV, dV, modeV, pureV, guardV, undef, opV, callV, intV, arith, ne_eq, Nat.min_def, vsB, seval, true_and]))
  refine len64 x hx ?_
  simp only [opsV, dV, modeV, pureV, guardV, undef, opV, callV, intV, arith, ne_eq, Nat.min_def, vsB, seval, true_and]
  refine ⟨(by unfold R64; omega), ?_⟩
  repeat (first
    | (with_reducible refine vc_seq fun K hK => ?_)
    | (with_reducible refine vc_reg ?_)
    | (with_reducible refine vc_skip ?_)
    | (with_reducible refine vc_block ?_)
    | (with_reducible refine vc_scope ?_)
    | (with_reducible refine vc_label ?_)
    | (with_reducible refine vc_condT ?_ ?_; · simp only [opsV, dV, modeV, pureV, guardV, undef, opV, callV, intV, arith, ne_eq, Nat.min_def, vsB, seval, true_and] <;> rfl)
    | (with_reducible refine vc_condF ?_ ?_; · simp only [opsV, dV, modeV, pureV, guardV, undef, opV, callV, intV, arith, ne_eq, Nat.min_def, vsB, seval, true_and] <;> rfl)
    | (with_reducible refine vc_exit ?_; simp only [↓reduceIte, Nat.reduceEqDiff])
    | (with_reducible refine vc_ret ?_; simp only [retV, resL, one])
    | (with_reducible refine hK _ _ ?_; clear hK)
    | (clear hK; with_reducible refine hK _ _ ?_; clear hK)
    | (clear hK; clear hK; with_reducible refine hK _ _ ?_; clear hK)
    | (simp only [opsV, dV, modeV, pureV, guardV, undef, opV, callV, intV, arith, ne_eq, Nat.min_def, vsB, seval, true_and]))
  rw [show (64 : Int) - ((bitLen x : Nat) : Int) = ((64 - bitLen x : Nat) : Int) by omega]
  exact h

/-- The table of math/bits lies where its variable has its place. -/
def Tab (H : Array Obj) : Prop := ∀ i, i < 64 → cellH H ⟨0, i, none⟩ = some (.int .u8 ((Lib.deBruijn64tab.getD i 0 : Nat) : Int))
theorem Tab.up {w w' : World} (h : Tab w.heap) (hE : Ext w w') : Tab w'.heap := by
  intro i hi
  have := h i hi
  rw [← cell_eq] at this ⊢
  rw [← this]
  exact hE.cell (World.block_lt_of_cell? w _ this)

theorem ix_arr {P : Program} {t el n : Nat} (ht : P.underlying t = some (.array n el)) (hs : scalB P el = true) {b : Nat} {k : IntKind} {i : Nat} (hi : i < n) : IxA P t (.pointer (some ⟨b, 0, none⟩)) (.int k (i : Int)) ⟨b, i, none⟩ := by
  intro w
  unfold Does Instr.indexAt Instr.sureAddr
  simp [asIntOf, run_underlying ht, scal_size hs, hi, addr_add]

theorem S8 : scalB Tryd.prog 5 = true := by kernel_rfl
theorem wrap64_neg (x : Nat) (h0 : x ≠ 0) (hx : x < 18446744073709551616) : IntKind.u64.wrap (0 - (x : Int)) = ((18446744073709551616 - x : Nat) : Int) := by
  rw [wrap64_i]; omega
theorem mul_bruijn (a : Nat) : (a : Int) * 285870213051353865 = ((a * 285870213051353865 : Nat) : Int) := by simp
theorem tz64 {w : World} {K : Value → World → Prop} (hT : Tab w.heap) (x : Nat) (hx : x < 18446744073709551616) (h0 : x ≠ 0) (h : K (.int .i64 ((Lib.ctz 64 x : Nat) : Int)) w) : FC Tryd.prog 37 #[.int .u64 (x : Int)] w K := by
  obtain ⟨h1, h2⟩ := Lib.lowest_bit 64 x h0 hx
  obtain ⟨h3, h4⟩ := Lib.deBruijn64_at _ h2
  have h5 : x &&& (18446744073709551616 - x) = 2 ^ Lib.ctz 64 x := h1
  have hw : IntKind.i64.wrap ((Lib.ctz 64 x : Nat) : Int) = ((Lib.ctz 64 x : Nat) : Int) := R64.wrap (by unfold R64; omega)
  refine FC.body (l := [.int .u64 (x : Int)]) (rs := [.tmp 2]) mixed Tryd.func37 rfl (by kernel_rfl) (by kernel_rfl) (Nat.le_of_ble_eq_true rfl) rfl ?_
  repeat (first
    | (with_reducible refine vc_seq fun K hK => ?_)
    | (with_reducible refine vc_reg ?_)
    | (with_reducible refine vc_skip ?_)
    | (with_reducible refine vc_block ?_)
    | (with_reducible refine vc_scope ?_)
    | (with_reducible refine vc_label ?_)
    | (with_reducible refine vc_condT ?_ ?_; · simp only [opsV, dV, modeV, pureV, guardV, undef, opV, callV, intV, arith, ne_eq, Nat.min_def, vsB, seval, h0, wrap64_neg x h0 hx, and64_nat x (18446744073709551616 - x) hx (by omega), h5, mul_bruijn, shr58, convV_int Tryd.underlying3, Tryd.underlying5, Option.isSome_some, hw] <;> rfl)
    | (with_reducible refine vc_condF ?_ ?_; · simp only [opsV, dV, modeV, pureV, guardV, undef, opV, callV, intV, arith, ne_eq, Nat.min_def, vsB, seval, h0, wrap64_neg x h0 hx, and64_nat x (18446744073709551616 - x) hx (by omega), h5, mul_bruijn, shr58, convV_int Tryd.underlying3, Tryd.underlying5, Option.isSome_some, hw] <;> rfl)
    | (with_reducible refine vc_exit ?_; simp only [↓reduceIte, Nat.reduceEqDiff])
    | (with_reducible refine vc_ret ?_; simp only [retV, resL, one])
    | (with_reducible refine hK _ _ ?_; clear hK)
    | (clear hK; with_reducible refine hK _ _ ?_; clear hK)
    | (clear hK; clear hK; with_reducible refine hK _ _ ?_; clear hK)
    | (simp only [opsV, dV, modeV, pureV, guardV, undef, opV, callV, intV, arith, ne_eq, Nat.min_def, vsB, seval, h0, wrap64_neg x h0 hx, and64_nat x (18446744073709551616 - x) hx (by omega), h5, mul_bruijn, shr58, convV_int Tryd.underlying3, Tryd.underlying5, Option.isSome_some, hw]))
  refine ⟨_, ix_arr Tryd.underlying67 S8 h3, _, ld_scal S8 (hT _ h3), ?_⟩
  rw [h4]
  repeat (first
    | (with_reducible refine vc_seq fun K hK => ?_)
    | (with_reducible refine vc_reg ?_)
    | (with_reducible refine vc_skip ?_)
    | (with_reducible refine vc_block ?_)
    | (with_reducible refine vc_scope ?_)
    | (with_reducible refine vc_label ?_)
    | (with_reducible refine vc_condT ?_ ?_; · simp only [opsV, dV, modeV, pureV, guardV, undef, opV, callV, intV, arith, ne_eq, Nat.min_def, vsB, seval, h0, wrap64_neg x h0 hx, and64_nat x (18446744073709551616 - x) hx (by omega), h5, mul_bruijn, shr58, convV_int Tryd.underlying3, Tryd.underlying5, Option.isSome_some, hw] <;> rfl)
    | (with_reducible refine vc_condF ?_ ?_; · simp only [opsV, dV, modeV, pureV, guardV, undef, opV, callV, intV, arith, ne_eq, Nat.min_def, vsB, seval, h0, wrap64_neg x h0 hx, and64_nat x (18446744073709551616 - x) hx (by omega), h5, mul_bruijn, shr58, convV_int Tryd.underlying3, Tryd.underlying5, Option.isSome_some, hw] <;> rfl)
    | (with_reducible refine vc_exit ?_; simp only [↓reduceIte, Nat.reduceEqDiff])
    | (with_reducible refine vc_ret ?_; simp only [retV, resL, one])
    | (with_reducible refine hK _ _ ?_; clear hK)
    | (clear hK; with_reducible refine hK _ _ ?_; clear hK)
    | (clear hK; clear hK; with_reducible refine hK _ _ ?_; clear hK)
    | (simp only [opsV, dV, modeV, pureV, guardV, undef, opV, callV, intV, arith, ne_eq, Nat.min_def, vsB, seval, h0, wrap64_neg x h0 hx, and64_nat x (18446744073709551616 - x) hx (by omega), h5, mul_bruijn, shr58, convV_int Tryd.underlying3, Tryd.underlying5, Option.isSome_some, hw]))
  exact h

attribute [go_sem] dV modeV pureV guardV gv_bool gv_tuple opV callV boolV_bool tupV_lit optV_some ptrV_ptr ev_tmp ev_const ev_global ev_func put_some put_none upd_apply cond_true cond_false argE_apply List.getElem?_toArray List.map_toArray List.map_cons List.map_nil List.getElem?_cons_zero List.getElem?_cons_succ List.getElem?_nil List.getD_cons_zero List.getD_cons_succ Option.map_some Option.map_none Option.bind_some true_and and_true cast_add cast_add_one cast_succ_sub cast_zero_lt cast_zero_le cast_eq_zero Int.ofNat_lt Int.ofNat_le Int.natCast_inj Int.toNat_natCast ne_eq decide_true decide_false Nat.min_def bits_u64 bits_u32 bits_u8 bits_i64 cast_mul wrap64_nat wrap32_nat wrap8_nat tdiv_nat tmod_nat shl_pow shr_pow shr1 shr8 shr16 shr32 lapp_cons lapp_nil

end Go.V
namespace Go.V
open Go

theorem bitLen_unique {n k : Nat} (h1 : n < 2 ^ k) (h2 : k ≠ 0 → 2 ^ (k - 1) ≤ n) : bitLen n = k := by
  obtain ⟨a1, a2⟩ := bitLen_spec n
  by_cases hk : k = 0
  · subst hk
    have : n = 0 := by simpa using h1
    subst this; rfl
  · have h2 := h2 hk
    have hn : n ≠ 0 := by have := Nat.two_pow_pos (k - 1); omega
    have a2 := a2 hn
    have b1 : k - 1 < bitLen n := (Nat.pow_lt_pow_iff_right (by decide : 1 < 2)).1 (Nat.lt_of_le_of_lt h2 a1)
    have b2 : bitLen n - 1 < k := (Nat.pow_lt_pow_iff_right (by decide : 1 < 2)).1 (Nat.lt_of_le_of_lt a2 h1)
    omega

theorem bitLen_zero : bitLen 0 = 0 := rfl
theorem bitLen_pos {n : Nat} (h : n ≠ 0) : 0 < bitLen n := by unfold bitLen; rw [if_neg h]; omega

/-- The bits of a number whose highest digit is x, behind m digits of b bits. -/
theorem bitLen_top {b m x r : Nat} (hx : x ≠ 0) (hr : r < 2 ^ (b * m)) : bitLen (r + 2 ^ (b * m) * x) = b * m + bitLen x := by
  obtain ⟨a1, a2⟩ := bitLen_spec x
  have hp := bitLen_pos hx
  apply bitLen_unique
  · rw [Nat.pow_add]
    have : 2 ^ (b * m) * (x + 1) ≤ 2 ^ (b * m) * 2 ^ bitLen x := Nat.mul_le_mul_left _ a1
    rw [Nat.mul_add] at this; omega
  · intro _
    rw [show b * m + bitLen x - 1 = b * m + (bitLen x - 1) by omega, Nat.pow_add]
    have := Nat.mul_le_mul_left (2 ^ (b * m)) (a2 hx)
    omega

theorem nval_last {B : Nat} {xs : List Nat} (h : xs ≠ []) : nval B xs = nval B (xs.take (xs.length - 1)) + B ^ (xs.length - 1) * xs.getD (xs.length - 1) 0 := by
  have hl : xs.length ≠ 0 := fun h0 => h (List.eq_nil_of_length_eq_zero h0)
  have e : xs = xs.take (xs.length - 1) ++ [xs.getD (xs.length - 1) 0] := by
    conv => lhs; rw [← List.take_append_drop (xs.length - 1) xs]
    congr 1
    rw [List.drop_eq_getElem_cons (by omega)]
    simp only [List.getD, List.getElem?_eq_getElem (show xs.length - 1 < xs.length by omega), Option.getD_some]
    rw [List.drop_of_length_le (by omega)]
  conv => lhs; rw [e]
  rw [nval_append]
  simp [nval]

/-- How many of the lowest bits are 0. -/
def tz (n : Nat) : Nat := if h : n = 0 ∨ n % 2 = 1 then 0 else 1 + tz (n / 2)
termination_by n
decreasing_by omega

theorem tz_zero : tz 0 = 0 := by rw [tz]; simp
theorem tz_odd {n : Nat} (h : n % 2 = 1) : tz n = 0 := by rw [tz]; rw [dif_pos (.inr h)]
theorem tz_double {n : Nat} (h : n ≠ 0) : tz (2 * n) = 1 + tz n := by
  rw [tz, dif_neg (by omega)]
  congr 2
  omega
theorem tz_pow {n : Nat} (k : Nat) (h : n ≠ 0) : tz (2 ^ k * n) = k + tz n := by
  induction k with
  | zero => simp
  | succ k ih =>
    rw [Nat.pow_succ, Nat.mul_comm (2 ^ k) 2, Nat.mul_assoc, tz_double (by have := Nat.mul_pos (Nat.two_pow_pos k) (Nat.pos_of_ne_zero h); omega), ih]
    omega
theorem tz_form {k m : Nat} : tz (2 ^ k * (2 * m + 1)) = k := by rw [tz_pow k (by omega), tz_odd (by omega)]; omega
/-- What is left above is odd. -/
theorem tz_spec : ∀ (n : Nat), n ≠ 0 → ∃ m, n = 2 ^ tz n * (2 * m + 1) := by
  intro n
  induction n using Nat.strongRecOn with
  | _ n ih =>
    intro h
    by_cases ho : n % 2 = 1
    · refine ⟨n / 2, ?_⟩
      rw [tz_odd ho]; omega
    · obtain ⟨m, hm⟩ := ih (n / 2) (by omega) (by omega)
      refine ⟨m, ?_⟩
      have e : n = 2 * (n / 2) := by omega
      have h2 : tz n = 1 + tz (n / 2) := by
        have := tz_double (n := n / 2) (by omega)
        rw [← e] at this; exact this
      rw [h2, Nat.pow_add, Nat.pow_one, Nat.mul_assoc, ← hm]
      exact e
theorem ctz_tz {b x : Nat} (h0 : x ≠ 0) (h : x < 2 ^ b) : Lib.ctz b x = tz x := by
  obtain ⟨m, hm, _⟩ := Lib.ctzFrom_spec b x (by omega) h
  have : Lib.ctz b x = Lib.ctzFrom b x := by simp [Lib.ctz, h0]
  rw [this]
  conv => rhs; rw [hm]
  rw [tz_form]
/-- The lowest bits of a number whose lowest digits are noughts. -/
theorem tz_low {b i x r : Nat} (h0 : x ≠ 0) (h : x < 2 ^ b) : tz (2 ^ (b * i) * (x + 2 ^ b * r)) = b * i + tz x := by
  obtain ⟨m, hm⟩ := tz_spec x h0
  rw [tz_pow _ (by omega)]
  congr 1
  have hlt : tz x < b := by
    have : 2 ^ tz x ≤ x := by
      conv => rhs; rw [hm]
      exact Nat.le_mul_of_pos_right _ (by omega)
    exact (Nat.pow_lt_pow_iff_right (by decide : 1 < 2)).1 (Nat.lt_of_le_of_lt this h)
  have e : x + 2 ^ b * r = 2 ^ tz x * (2 * (m + 2 ^ (b - tz x - 1) * r) + 1) := by
    have hb : (2 : Nat) ^ b = 2 ^ tz x * (2 * 2 ^ (b - tz x - 1)) := by
      rw [← Nat.pow_succ', ← Nat.pow_add]; congr 1; omega
    rw [hb]
    conv => lhs; rw [hm]
    have e2 : tz (2 ^ tz x * (2 * m + 1)) = tz x := tz_form
    rw [e2, Nat.mul_assoc, ← Nat.mul_add]
    congr 1
    rw [Nat.mul_add, Nat.mul_assoc]
    omega
  rw [e, tz_form]

/-- The digits' order is that of their numbers. -/
theorem nval_lt_of_len {B : Nat} (hB : 2 ≤ B) {n m : Nat} (h : (digs B n).length < (digs B m).length) : n < m := by
  have h1 := lt_pow_len hB n
  have hm : m ≠ 0 := by rintro rfl; rw [digs_zero] at h; simp at h
  have h2 := pow_len_le hB hm
  have h3 : B ^ (digs B n).length ≤ B ^ ((digs B m).length - 1) := Nat.pow_le_pow_right (by omega) (by omega)
  omega

/-- Alike above place i; at i they part. -/
theorem nval_part {B : Nat} (hB : 1 ≤ B) {xs ys : List Nat} (hx : ∀ x ∈ xs, x < B) (hl : xs.length = ys.length) {i : Nat} (hi : i < xs.length)
    (hab : ∀ j, i < j → xs.getD j 0 = ys.getD j 0) (hlt : xs.getD i 0 < ys.getD i 0) : nval B xs < nval B ys := by
  have split : ∀ zs : List Nat, i < zs.length → nval B zs = nval B (zs.take i) + B ^ i * (zs.getD i 0 + B * nval B (zs.drop (i + 1))) := by
    intro zs hz
    have := nval_append B (zs.take i) (zs.drop i)
    rw [List.take_append_drop, List.length_take, Nat.min_eq_left (by omega)] at this
    rw [this, List.drop_eq_getElem_cons hz, nval_cons]
    simp [List.getD, hz]
  have hd : xs.drop (i + 1) = ys.drop (i + 1) := by
    apply List.ext_getElem?
    intro j
    rw [List.getElem?_drop, List.getElem?_drop]
    have := hab (i + 1 + j) (by omega)
    simp only [List.getD] at this
    by_cases hj : i + 1 + j < xs.length
    · rw [List.getElem?_eq_getElem hj, List.getElem?_eq_getElem (by omega)] at this ⊢
      simpa using this
    · rw [List.getElem?_eq_none (by omega), List.getElem?_eq_none (by omega)]
  rw [split xs hi, split ys (by omega), hd]
  have h1 := nval_lt hB (xs.take i) (fun x hxx => hx x (List.mem_of_mem_take hxx))
  rw [List.length_take, Nat.min_eq_left (by omega)] at h1
  have h2 : B ^ i * (xs.getD i 0 + B * nval B (ys.drop (i + 1)) + 1) ≤ B ^ i * (ys.getD i 0 + B * nval B (ys.drop (i + 1))) := Nat.mul_le_mul_left _ (by omega)
  rw [Nat.mul_add _ _ 1] at h2
  omega

theorem digs_len_eq {B : Nat} (hB : 2 ≤ B) {xs : List Nat} (hx : ∀ x ∈ xs, x < B) : (digs B (nval B xs)).length = xs.length ↔ NoTail xs := by
  constructor
  · intro h
    intro x hl hx0
    subst hx0
    have hne : xs ≠ [] := by rintro rfl; simp at hl
    have h1 := nval_last (B := B) hne
    have hz : xs.getD (xs.length - 1) 0 = 0 := by
      rw [List.getLast?_eq_getElem?] at hl
      rw [List.getD, hl]; rfl
    rw [hz, Nat.mul_zero, Nat.add_zero] at h1
    have h2 := nval_lt (B := B) (by omega) (xs.take (xs.length - 1)) (fun x hxx => hx x (List.mem_of_mem_take hxx))
    rw [← h1, List.length_take, Nat.min_eq_left (by omega)] at h2
    have := digs_len_le hB h2
    have hl0 : xs.length ≠ 0 := fun h0 => hne (List.eq_nil_of_length_eq_zero h0)
    omega
  · intro h
    rw [digs_nval hB xs hx h]

theorem nval_low {B : Nat} {xs : List Nat} {i : Nat} (hi : i < xs.length) (h : ∀ j, j < i → xs.getD j 0 = 0) : nval B xs = B ^ i * (xs.getD i 0 + B * nval B (xs.drop (i + 1))) := by
  have := nval_append B (xs.take i) (xs.drop i)
  rw [List.take_append_drop, List.length_take, Nat.min_eq_left (by omega)] at this
  rw [this, nval_zeros B (xs.take i), List.drop_eq_getElem_cons hi, nval_cons]
  · simp [List.getD, hi]
  · intro y hy
    obtain ⟨j, hj, rfl⟩ := List.getElem_of_mem hy
    rw [List.getElem_take]
    have hj' : j < xs.length := by rw [List.length_take] at hj; omega
    have := h j (by rw [List.length_take] at hj; omega)
    simpa [List.getD, hj'] using this
theorem nval_none {B : Nat} {xs : List Nat} (h : ∀ j, j < xs.length → xs.getD j 0 = 0) : nval B xs = 0 := by
  refine nval_zeros B xs fun y hy => ?_
  obtain ⟨j, hj, rfl⟩ := List.getElem_of_mem hy
  have := h j hj
  simpa [List.getD, hj] using this
theorem list_ext_getD {xs ys : List Nat} (hl : xs.length = ys.length) (h : ∀ j, xs.getD j 0 = ys.getD j 0) : xs = ys := by
  apply List.ext_getElem hl
  intro j h1 h2
  have := h j
  simpa [List.getD, h1, h2] using this

theorem nval_set {B i y : Nat} {xs : List Nat} (hi : i < xs.length) : nval B (xs.set i y) + B ^ i * xs.getD i 0 = nval B xs + B ^ i * y := by
  induction xs generalizing i with
  | nil => simp at hi
  | cons x r ih =>
    cases i with
    | zero => simp [nval]; omega
    | succ i =>
      have := ih (i := i) (by simpa using hi)
      simp only [List.set_cons_succ, nval_cons, List.getD_cons_succ, Nat.pow_succ]
      have h2 : B * (nval B (r.set i y) + B ^ i * r.getD i 0) = B * (nval B r + B ^ i * y) := by rw [this]
      rw [Nat.mul_add, Nat.mul_add] at h2
      rw [Nat.mul_comm (B ^ i) B, Nat.mul_assoc, Nat.mul_assoc]
      omega
theorem nval_drop {B i : Nat} {xs : List Nat} (hi : i < xs.length) : nval B (xs.drop i) = xs.getD i 0 + B * nval B (xs.drop (i + 1)) := by
  rw [List.drop_eq_getElem_cons hi, nval_cons]
  simp [List.getD, hi]
theorem nval_drop_all {B i : Nat} {xs : List Nat} (hi : xs.length ≤ i) : nval B (xs.drop i) = 0 := by rw [List.drop_of_length_le hi]; rfl
theorem set_lt {B i y : Nat} {xs : List Nat} (h : ∀ x ∈ xs, x < B) (hy : y < B) : ∀ x ∈ xs.set i y, x < B := by
  intro x hx
  rcases List.mem_or_eq_of_mem_set hx with h' | rfl
  · exact h x h'
  · exact hy

/-- One step of a sum: a digit is added where there is a carry. -/
theorem add_step {W i s c b d : Nat} {os : List Nat} {T : Nat} (hW : 0 < W) (hi : i < os.length) (hs : s = os.getD i 0 + b + c) (hT : nval W os + W ^ i * (c + (b + W * d)) = T) :
    nval W (os.set i (s % W)) + W ^ (i + 1) * (s / W + d) = T := by
  have h1 := nval_set (B := W) (y := s % W) hi
  have h2 : W ^ i * (s % W) + W ^ (i + 1) * (s / W) = W ^ i * s := by
    rw [Nat.pow_succ, Nat.mul_assoc, ← Nat.mul_add, Nat.mod_add_div]
  have h3 : W ^ i * s = W ^ i * os.getD i 0 + W ^ i * b + W ^ i * c := by rw [hs, Nat.mul_add, Nat.mul_add]
  have h4 : W ^ (i + 1) * (s / W + d) = W ^ (i + 1) * (s / W) + W ^ (i + 1) * d := Nat.mul_add _ _ _
  have h5 : W ^ i * (c + (b + W * d)) = W ^ i * c + (W ^ i * b + W ^ (i + 1) * d) := by
    rw [Nat.mul_add, Nat.mul_add, Nat.pow_succ, Nat.mul_assoc]
  omega
/-- One step of a difference. -/
theorem sub_step {W i y c c' b d : Nat} {os : List Nat} {S T : Nat} (hi : i < os.length) (hs : y + b + c = os.getD i 0 + W * c') (hT : nval W os + S = T + W ^ i * (c + (b + W * d))) :
    nval W (os.set i y) + S = T + W ^ (i + 1) * (c' + d) := by
  have h1 := nval_set (B := W) (y := y) hi
  have h2 : W ^ i * (y + b + c) = W ^ i * (os.getD i 0 + W * c') := by rw [hs]
  have h3 : W ^ i * (y + b + c) = W ^ i * y + W ^ i * b + W ^ i * c := by rw [Nat.mul_add, Nat.mul_add]
  have h4 : W ^ i * (os.getD i 0 + W * c') = W ^ i * os.getD i 0 + W ^ (i + 1) * c' := by rw [Nat.mul_add, Nat.pow_succ, Nat.mul_assoc]
  have h5 : W ^ i * (c + (b + W * d)) = W ^ i * c + (W ^ i * b + W ^ (i + 1) * d) := by
    rw [Nat.mul_add, Nat.mul_add, Nat.pow_succ, Nat.mul_assoc]
  have h6 : W ^ (i + 1) * (c' + d) = W ^ (i + 1) * c' + W ^ (i + 1) * d := Nat.mul_add _ _ _
  omega

theorem last_place (xs : List Nat) : ∃ m, m ≤ xs.length ∧ (∀ j, m ≤ j → xs.getD j 0 = 0) ∧ (m ≠ 0 → xs.getD (m - 1) 0 ≠ 0) := by
  have key : ∀ k, k ≤ xs.length → (∀ j, k ≤ j → xs.getD j 0 = 0) → ∃ m, m ≤ xs.length ∧ (∀ j, m ≤ j → xs.getD j 0 = 0) ∧ (m ≠ 0 → xs.getD (m - 1) 0 ≠ 0) := by
    intro k
    induction k with
    | zero => intro h1 h2; exact ⟨0, h1, h2, fun h => absurd rfl h⟩
    | succ k ih =>
      intro h1 h2
      by_cases h : xs.getD k 0 = 0
      · refine ih (by omega) fun j hj => ?_
        rcases Nat.eq_or_lt_of_le hj with rfl | hj
        · exact h
        · exact h2 j hj
      · exact ⟨k + 1, h1, h2, fun _ => by simpa using h⟩
  exact key xs.length (Nat.le_refl _) fun j hj => by simp [List.getD, List.getElem?_eq_none hj]
theorem take_digs_len {B : Nat} (hB : 2 ≤ B) {xs : List Nat} (hx : ∀ x ∈ xs, x < B) : xs.take (digs B (nval B xs)).length = digs B (nval B xs) := by
  obtain ⟨m, h1, h2, h3⟩ := last_place xs
  have h := take_digs hB hx h1 h2 h3
  have hl : (digs B (nval B xs)).length = m := by rw [← h]; simp; omega
  rw [hl, h]

end Go.V
namespace Go.V
open Go Go.RowKit Go.Proofs

theorem mul32 (a : Nat) : (a : Int) * 4294967296 = ((a * 4294967296 : Nat) : Int) := by simp
theorem mul32' (a : Nat) : 4294967296 * (a : Int) = ((4294967296 * a : Nat) : Int) := by simp

theorem wrap_rem (A d M R : Nat) (h : M + R = A + d) (hR : R < 18446744073709551616) : IntKind.u64.wrap ((((A % 18446744073709551616 + d) % 18446744073709551616 : Nat) : Int) - ((M % 18446744073709551616 : Nat) : Int)) = (R : Int) := by
  rw [wrap64_i]; omega
theorem wrap_mod (R y : Nat) (hR : R < 18446744073709551616) : IntKind.u64.wrap ((R : Int) - ((R / y * y : Nat) : Int)) = ((R % y : Nat) : Int) := by
  have := Nat.div_add_mod R y
  rw [Nat.mul_comm] at this
  rw [wrap64_i]; omega
theorem b32 (q : Nat) (h : q < 4294967296) : q * 4294967296 < 18446744073709551616 := by omega
theorem b32b (q r : Nat) (h : q < 4294967296) (h' : r < 4294967296) : q * 4294967296 + r < 18446744073709551616 := by omega

/-- One digit of the quotient: the loop that puts the guess right. -/
theorem bl_le {x k : Nat} (h : x < 2 ^ k) : bitLen x ≤ k := by
  unfold bitLen
  split
  · omega
  · rename_i h0
    have := (Nat.log2_lt h0).2 h
    omega

set_option maxHeartbeats 1000000 in
theorem d64_J2 {w : World} {N : Env → World → Prop} {X : Nat → Env → World → Prop} {R : Env → World → Prop} (Y s y1 y0 U D1 D0 Q1 R1 Q0 : Nat) (hYY : y1 * 4294967296 + y0 = Y) (hYlt : Y < 18446744073709551616) (hy1p : 0 < y1) (hy0l : y0 < 4294967296) (hy1l : y1 < 4294967296)
    (hQ0 : Q0 = (R1 * 4294967296 + D0) / Y) (hR1Y : R1 < Y) (hD0l : D0 < 4294967296)
    (J : ∀ e : Env, e 2 = .int .u64 (Y : Int) → e 8 = .int .u64 (s : Int) → e 9 = .int .u64 (y1 : Int) → e 10 = .int .u64 (y0 : Int) → e 17 = .int .u64 (R1 : Int) → e 14 = .int .u64 (D0 : Int) → e 15 = .int .u64 (Q1 : Int) → e 18 = .int .u64 (Q0 : Int) → X 2 e w)
    (e : Env) (i2 : e 2 = .int .u64 (Y : Int)) (i8 : e 8 = .int .u64 (s : Int)) (i9 : e 9 = .int .u64 (y1 : Int)) (i10 : e 10 = .int .u64 (y0 : Int)) (i17 : e 17 = .int .u64 (R1 : Int)) (i14 : e 14 = .int .u64 (D0 : Int)) (i15 : e 15 = .int .u64 (Q1 : Int)) (i18 : e 18 = .int .u64 ((R1 / y1 : Nat) : Int)) (i16 : e 16 = .int .u64 ((R1 % y1 : Nat) : Int)) :
    vc Tryd.prog (nthLoop Tryd.f52 1) N X R e w := by
  have hR1yy : R1 < y1 * 4294967296 + y0 := by omega
  change vc _ (.loop _) _ _ _ _ _
  refine vc_loop (fun e w' => w' = w ∧ ∃ q r : Nat, q * y1 + r = R1 ∧ r < 4294967296 ∧ Q0 ≤ q ∧ e 2 = .int .u64 (Y : Int) ∧ e 8 = .int .u64 (s : Int) ∧ e 9 = .int .u64 (y1 : Int) ∧ e 10 = .int .u64 (y0 : Int) ∧ e 17 = .int .u64 (R1 : Int) ∧ e 14 = .int .u64 (D0 : Int) ∧ e 15 = .int .u64 (Q1 : Int) ∧ e 18 = .int .u64 (q : Int) ∧ e 16 = .int .u64 (r : Int))
    (fun e _ => (intOf (e 18)).toNat) ?_ ?_
  · refine ⟨rfl, R1 / y1, R1 % y1, by rw [Nat.mul_comm]; exact Nat.div_add_mod R1 y1, Nat.lt_trans (Nat.mod_lt _ hy1p) hy1l, by rw [hQ0, ← hYY]; exact q_guess hy1p hD0l, ?_⟩
    simp only [go_sem, opsV, undef, vsD, intV, arith, seval, true_and, i2, i8, i9, i10, i17, i14, i15, i18, i16]
  · rintro e w' ⟨rfl, q, r, hqr, hr, hQq, g2, g8, g9, g10, g17, g14, g15, g18, g16⟩
    have hmz : (intOf (e 18)).toNat = q := by rw [g18]; rfl
    have hqU : q ≤ R1 := by
      rw [← hqr]; exact Nat.le_trans (Nat.le_mul_of_pos_right q hy1p) (Nat.le_add_right _ _)
    refine vc_seq fun K1 hK1 => ?_
    refine vc_seq fun K2 hK2 => ?_
    have down : ∀ e : Env, (4294967296 ≤ q ∨ 4294967296 * r + D0 < q * y0) → e 2 = .int .u64 (Y : Int) → e 8 = .int .u64 (s : Int) → e 9 = .int .u64 (y1 : Int) → e 10 = .int .u64 (y0 : Int) → e 17 = .int .u64 (R1 : Int) → e 14 = .int .u64 (D0 : Int) → e 15 = .int .u64 (Q1 : Int) → e 18 = .int .u64 (q : Int) → e 16 = .int .u64 (r : Int) → K1 e w' := by
      intro e c g2 g8 g9 g10 g17 g14 g15 g18 g16
      have hgt : Q0 < q := by rw [hQ0, ← hYY]; exact q_down hR1yy hD0l hqr c
      have v1 : IntKind.u64.wrap ((q : Int) - 1) = ((q - 1 : Nat) : Int) := by rw [wrap64_i]; omega
      have v2 : (r + y1) % 18446744073709551616 = r + y1 := Nat.mod_eq_of_lt (by omega)
      have v3 : (q - 1) * y1 + (r + y1) = R1 := by
        rw [← hqr, Nat.sub_mul, Nat.one_mul]
        have : y1 ≤ q * y1 := Nat.le_mul_of_pos_left y1 (by omega)
        omega
      refine hK1 _ _ ?_
      refine vc_block ?_
      refine vc_seq fun K hK => ?_
      refine vc_reg ?_
      try simp only [go_sem, opsV, undef, vsD, intV, arith, seval, g2, g8, g9, g10, g17, g14, g15, g18, g16, v1, v2]
      refine hK _ _ ?_
      clear hK K
      refine vc_seq fun K hK => ?_
      refine vc_reg ?_
      try simp only [go_sem, opsV, undef, vsD, intV, arith, seval, g2, g8, g9, g10, g17, g14, g15, g18, g16, v1, v2]
      refine hK _ _ ?_
      clear hK K
      refine vc_seq fun K hK => ?_
      refine vc_reg ?_
      try simp only [go_sem, opsV, undef, vsD, intV, arith, seval, g2, g8, g9, g10, g17, g14, g15, g18, g16, v1, v2]
      refine hK _ _ ?_
      clear hK K
      refine vc_condD (by simp only [go_sem, opsV, undef, vsD, intV, arith, seval, g2, g8, g9, g10, g17, g14, g15, g18, g16, v1, v2] <;> rfl) (fun ht => ?_) (fun ht => ?_)
      · have ht' : 4294967296 ≤ r + y1 := by omega
        refine vc_exit ?_
        have hq1 : q - 1 = Q0 := by
          have := q_high (d := D0) hR1yy hy0l v3 (by rw [hYY, ← hQ0]; omega) ht'
          rw [hYY, ← hQ0] at this
          exact this
        rw [hq1]
        exact J _ (by simp only [go_sem, opsV, undef, vsD, intV, arith, seval, g2, g8, g9, g10, g17, g14, g15, g18, g16, v1, v2] <;> rfl) (by simp only [go_sem, opsV, undef, vsD, intV, arith, seval, g2, g8, g9, g10, g17, g14, g15, g18, g16, v1, v2] <;> rfl) (by simp only [go_sem, opsV, undef, vsD, intV, arith, seval, g2, g8, g9, g10, g17, g14, g15, g18, g16, v1, v2] <;> rfl) (by simp only [go_sem, opsV, undef, vsD, intV, arith, seval, g2, g8, g9, g10, g17, g14, g15, g18, g16, v1, v2] <;> rfl) (by simp only [go_sem, opsV, undef, vsD, intV, arith, seval, g2, g8, g9, g10, g17, g14, g15, g18, g16, v1, v2] <;> rfl) (by simp only [go_sem, opsV, undef, vsD, intV, arith, seval, g2, g8, g9, g10, g17, g14, g15, g18, g16, v1, v2] <;> rfl) (by simp only [go_sem, opsV, undef, vsD, intV, arith, seval, g2, g8, g9, g10, g17, g14, g15, g18, g16, v1, v2] <;> rfl) (by simp only [go_sem, opsV, undef, vsD, intV, arith, seval, g2, g8, g9, g10, g17, g14, g15, g18, g16, v1, v2] <;> rfl)
      · refine vc_skip ?_
        refine ⟨⟨rfl, q - 1, r + y1, v3, by omega, by omega, ?_⟩, ?_⟩
        · try simp only [go_sem, opsV, undef, vsD, intV, arith, seval, g2, g8, g9, g10, g17, g14, g15, g18, g16, v1, v2]
        · rw [hmz]
          simp only [go_sem, opsV, undef, vsD, intV, arith, seval, g2, g8, g9, g10, g17, g14, g15, g18, g16, v1, v2, intOf]
          omega
    by_cases c1 : 4294967296 ≤ q
    · have c1' : (4294967296 : Int) ≤ (q : Int) := by omega
      refine vc_reg ?_
      try simp only [go_sem, opsV, undef, vsD, intV, arith, seval, g2, g8, g9, g10, g17, g14, g15, g18, g16, c1']
      refine hK2 _ _ ?_
      refine vc_condT (by simp only [go_sem, opsV, undef, vsD, intV, arith, seval, g2, g8, g9, g10, g17, g14, g15, g18, g16, c1'] <;> rfl) ?_
      refine vc_skip ?_
      exact down _ (.inl c1) (by simp only [go_sem, opsV, undef, vsD, intV, arith, seval, g2, g8, g9, g10, g17, g14, g15, g18, g16, c1'] <;> rfl) (by simp only [go_sem, opsV, undef, vsD, intV, arith, seval, g2, g8, g9, g10, g17, g14, g15, g18, g16, c1'] <;> rfl) (by simp only [go_sem, opsV, undef, vsD, intV, arith, seval, g2, g8, g9, g10, g17, g14, g15, g18, g16, c1'] <;> rfl) (by simp only [go_sem, opsV, undef, vsD, intV, arith, seval, g2, g8, g9, g10, g17, g14, g15, g18, g16, c1'] <;> rfl) (by simp only [go_sem, opsV, undef, vsD, intV, arith, seval, g2, g8, g9, g10, g17, g14, g15, g18, g16, c1'] <;> rfl) (by simp only [go_sem, opsV, undef, vsD, intV, arith, seval, g2, g8, g9, g10, g17, g14, g15, g18, g16, c1'] <;> rfl) (by simp only [go_sem, opsV, undef, vsD, intV, arith, seval, g2, g8, g9, g10, g17, g14, g15, g18, g16, c1'] <;> rfl) (by simp only [go_sem, opsV, undef, vsD, intV, arith, seval, g2, g8, g9, g10, g17, g14, g15, g18, g16, c1'] <;> rfl) (by simp only [go_sem, opsV, undef, vsD, intV, arith, seval, g2, g8, g9, g10, g17, g14, g15, g18, g16, c1'] <;> rfl)
    · have c1' : ¬ (4294967296 : Int) ≤ (q : Int) := by omega
      have p1 : q * y0 < 18446744073709551616 := Nat.mul_lt_mul'' (a := q) (b := y0) (c := 4294967296) (d := 4294967296) (by omega) hy0l
      have p2 : 4294967296 * r < 18446744073709551616 := by omega
      have p3 : 4294967296 * r + D0 < 18446744073709551616 := by omega
      refine vc_reg ?_
      try simp only [go_sem, opsV, undef, vsD, intV, arith, seval, g2, g8, g9, g10, g17, g14, g15, g18, g16, c1', mul32', Nat.mod_eq_of_lt p1, Nat.mod_eq_of_lt p2, Nat.mod_eq_of_lt p3]
      refine hK2 _ _ ?_
      refine vc_condD (by simp only [go_sem, opsV, undef, vsD, intV, arith, seval, g2, g8, g9, g10, g17, g14, g15, g18, g16, c1', mul32', Nat.mod_eq_of_lt p1, Nat.mod_eq_of_lt p2, Nat.mod_eq_of_lt p3] <;> rfl) (fun ht => ?_) (fun ht => ?_)
      · refine vc_skip ?_
        exact down _ (.inr ht) (by simp only [go_sem, opsV, undef, vsD, intV, arith, seval, g2, g8, g9, g10, g17, g14, g15, g18, g16, c1', mul32', Nat.mod_eq_of_lt p1, Nat.mod_eq_of_lt p2, Nat.mod_eq_of_lt p3] <;> rfl) (by simp only [go_sem, opsV, undef, vsD, intV, arith, seval, g2, g8, g9, g10, g17, g14, g15, g18, g16, c1', mul32', Nat.mod_eq_of_lt p1, Nat.mod_eq_of_lt p2, Nat.mod_eq_of_lt p3] <;> rfl) (by simp only [go_sem, opsV, undef, vsD, intV, arith, seval, g2, g8, g9, g10, g17, g14, g15, g18, g16, c1', mul32', Nat.mod_eq_of_lt p1, Nat.mod_eq_of_lt p2, Nat.mod_eq_of_lt p3] <;> rfl) (by simp only [go_sem, opsV, undef, vsD, intV, arith, seval, g2, g8, g9, g10, g17, g14, g15, g18, g16, c1', mul32', Nat.mod_eq_of_lt p1, Nat.mod_eq_of_lt p2, Nat.mod_eq_of_lt p3] <;> rfl) (by simp only [go_sem, opsV, undef, vsD, intV, arith, seval, g2, g8, g9, g10, g17, g14, g15, g18, g16, c1', mul32', Nat.mod_eq_of_lt p1, Nat.mod_eq_of_lt p2, Nat.mod_eq_of_lt p3] <;> rfl) (by simp only [go_sem, opsV, undef, vsD, intV, arith, seval, g2, g8, g9, g10, g17, g14, g15, g18, g16, c1', mul32', Nat.mod_eq_of_lt p1, Nat.mod_eq_of_lt p2, Nat.mod_eq_of_lt p3] <;> rfl) (by simp only [go_sem, opsV, undef, vsD, intV, arith, seval, g2, g8, g9, g10, g17, g14, g15, g18, g16, c1', mul32', Nat.mod_eq_of_lt p1, Nat.mod_eq_of_lt p2, Nat.mod_eq_of_lt p3] <;> rfl) (by simp only [go_sem, opsV, undef, vsD, intV, arith, seval, g2, g8, g9, g10, g17, g14, g15, g18, g16, c1', mul32', Nat.mod_eq_of_lt p1, Nat.mod_eq_of_lt p2, Nat.mod_eq_of_lt p3] <;> rfl) (by simp only [go_sem, opsV, undef, vsD, intV, arith, seval, g2, g8, g9, g10, g17, g14, g15, g18, g16, c1', mul32', Nat.mod_eq_of_lt p1, Nat.mod_eq_of_lt p2, Nat.mod_eq_of_lt p3] <;> rfl)
      · refine vc_exit ?_
        have hq1 : q = Q0 := by
          have := q_stop (d := D0) hR1yy hqr (by rw [hYY, ← hQ0]; exact hQq) ht
          rw [hYY, ← hQ0] at this
          exact this
        subst hq1
        exact J _ (by simp only [go_sem, opsV, undef, vsD, intV, arith, seval, g2, g8, g9, g10, g17, g14, g15, g18, g16, c1', mul32', Nat.mod_eq_of_lt p1, Nat.mod_eq_of_lt p2, Nat.mod_eq_of_lt p3] <;> rfl) (by simp only [go_sem, opsV, undef, vsD, intV, arith, seval, g2, g8, g9, g10, g17, g14, g15, g18, g16, c1', mul32', Nat.mod_eq_of_lt p1, Nat.mod_eq_of_lt p2, Nat.mod_eq_of_lt p3] <;> rfl) (by simp only [go_sem, opsV, undef, vsD, intV, arith, seval, g2, g8, g9, g10, g17, g14, g15, g18, g16, c1', mul32', Nat.mod_eq_of_lt p1, Nat.mod_eq_of_lt p2, Nat.mod_eq_of_lt p3] <;> rfl) (by simp only [go_sem, opsV, undef, vsD, intV, arith, seval, g2, g8, g9, g10, g17, g14, g15, g18, g16, c1', mul32', Nat.mod_eq_of_lt p1, Nat.mod_eq_of_lt p2, Nat.mod_eq_of_lt p3] <;> rfl) (by simp only [go_sem, opsV, undef, vsD, intV, arith, seval, g2, g8, g9, g10, g17, g14, g15, g18, g16, c1', mul32', Nat.mod_eq_of_lt p1, Nat.mod_eq_of_lt p2, Nat.mod_eq_of_lt p3] <;> rfl) (by simp only [go_sem, opsV, undef, vsD, intV, arith, seval, g2, g8, g9, g10, g17, g14, g15, g18, g16, c1', mul32', Nat.mod_eq_of_lt p1, Nat.mod_eq_of_lt p2, Nat.mod_eq_of_lt p3] <;> rfl) (by simp only [go_sem, opsV, undef, vsD, intV, arith, seval, g2, g8, g9, g10, g17, g14, g15, g18, g16, c1', mul32', Nat.mod_eq_of_lt p1, Nat.mod_eq_of_lt p2, Nat.mod_eq_of_lt p3] <;> rfl) (by simp only [go_sem, opsV, undef, vsD, intV, arith, seval, g2, g8, g9, g10, g17, g14, g15, g18, g16, c1', mul32', Nat.mod_eq_of_lt p1, Nat.mod_eq_of_lt p2, Nat.mod_eq_of_lt p3] <;> rfl)

set_option maxHeartbeats 1000000 in
theorem d64_J1 {w : World} {N : Env → World → Prop} {X : Nat → Env → World → Prop} {R : Env → World → Prop} (Y s y1 y0 U D1 D0 Q1 R1 Q0 : Nat) (hYY : y1 * 4294967296 + y0 = Y) (hYlt : Y < 18446744073709551616) (hy1p : 0 < y1) (hy0l : y0 < 4294967296) (hy1l : y1 < 4294967296)
    (hQ1 : Q1 = (U * 4294967296 + D1) / Y) (hUY : U < Y) (hD1l : D1 < 4294967296)
    (J : ∀ e : Env, e 2 = .int .u64 (Y : Int) → e 8 = .int .u64 (s : Int) → e 9 = .int .u64 (y1 : Int) → e 10 = .int .u64 (y0 : Int) → e 11 = .int .u64 (U : Int) → e 13 = .int .u64 (D1 : Int) → e 14 = .int .u64 (D0 : Int) → e 15 = .int .u64 (Q1 : Int) → X 0 e w)
    (e : Env) (i2 : e 2 = .int .u64 (Y : Int)) (i8 : e 8 = .int .u64 (s : Int)) (i9 : e 9 = .int .u64 (y1 : Int)) (i10 : e 10 = .int .u64 (y0 : Int)) (i11 : e 11 = .int .u64 (U : Int)) (i13 : e 13 = .int .u64 (D1 : Int)) (i14 : e 14 = .int .u64 (D0 : Int)) (i15 : e 15 = .int .u64 ((U / y1 : Nat) : Int)) (i16 : e 16 = .int .u64 ((U % y1 : Nat) : Int)) :
    vc Tryd.prog (nthLoop Tryd.f52 0) N X R e w := by
  have hUyy : U < y1 * 4294967296 + y0 := by omega
  change vc _ (.loop _) _ _ _ _ _
  refine vc_loop (fun e w' => w' = w ∧ ∃ q r : Nat, q * y1 + r = U ∧ r < 4294967296 ∧ Q1 ≤ q ∧ e 2 = .int .u64 (Y : Int) ∧ e 8 = .int .u64 (s : Int) ∧ e 9 = .int .u64 (y1 : Int) ∧ e 10 = .int .u64 (y0 : Int) ∧ e 11 = .int .u64 (U : Int) ∧ e 13 = .int .u64 (D1 : Int) ∧ e 14 = .int .u64 (D0 : Int) ∧ e 15 = .int .u64 (q : Int) ∧ e 16 = .int .u64 (r : Int))
    (fun e _ => (intOf (e 15)).toNat) ?_ ?_
  · refine ⟨rfl, U / y1, U % y1, by rw [Nat.mul_comm]; exact Nat.div_add_mod U y1, Nat.lt_trans (Nat.mod_lt _ hy1p) hy1l, by rw [hQ1, ← hYY]; exact q_guess hy1p hD1l, ?_⟩
    simp only [go_sem, opsV, undef, vsD, intV, arith, seval, true_and, i2, i8, i9, i10, i11, i13, i14, i15, i16]
  · rintro e w' ⟨rfl, q, r, hqr, hr, hQq, g2, g8, g9, g10, g11, g13, g14, g15, g16⟩
    have hmz : (intOf (e 15)).toNat = q := by rw [g15]; rfl
    have hqU : q ≤ U := by
      rw [← hqr]; exact Nat.le_trans (Nat.le_mul_of_pos_right q hy1p) (Nat.le_add_right _ _)
    refine vc_seq fun K1 hK1 => ?_
    refine vc_seq fun K2 hK2 => ?_
    have down : ∀ e : Env, (4294967296 ≤ q ∨ 4294967296 * r + D1 < q * y0) → e 2 = .int .u64 (Y : Int) → e 8 = .int .u64 (s : Int) → e 9 = .int .u64 (y1 : Int) → e 10 = .int .u64 (y0 : Int) → e 11 = .int .u64 (U : Int) → e 13 = .int .u64 (D1 : Int) → e 14 = .int .u64 (D0 : Int) → e 15 = .int .u64 (q : Int) → e 16 = .int .u64 (r : Int) → K1 e w' := by
      intro e c g2 g8 g9 g10 g11 g13 g14 g15 g16
      have hgt : Q1 < q := by rw [hQ1, ← hYY]; exact q_down hUyy hD1l hqr c
      have v1 : IntKind.u64.wrap ((q : Int) - 1) = ((q - 1 : Nat) : Int) := by rw [wrap64_i]; omega
      have v2 : (r + y1) % 18446744073709551616 = r + y1 := Nat.mod_eq_of_lt (by omega)
      have v3 : (q - 1) * y1 + (r + y1) = U := by
        rw [← hqr, Nat.sub_mul, Nat.one_mul]
        have : y1 ≤ q * y1 := Nat.le_mul_of_pos_left y1 (by omega)
        omega
      refine hK1 _ _ ?_
      refine vc_block ?_
      refine vc_seq fun K hK => ?_
      refine vc_reg ?_
      try simp only [go_sem, opsV, undef, vsD, intV, arith, seval, g2, g8, g9, g10, g11, g13, g14, g15, g16, v1, v2]
      refine hK _ _ ?_
      clear hK K
      refine vc_seq fun K hK => ?_
      refine vc_reg ?_
      try simp only [go_sem, opsV, undef, vsD, intV, arith, seval, g2, g8, g9, g10, g11, g13, g14, g15, g16, v1, v2]
      refine hK _ _ ?_
      clear hK K
      refine vc_seq fun K hK => ?_
      refine vc_reg ?_
      try simp only [go_sem, opsV, undef, vsD, intV, arith, seval, g2, g8, g9, g10, g11, g13, g14, g15, g16, v1, v2]
      refine hK _ _ ?_
      clear hK K
      refine vc_condD (by simp only [go_sem, opsV, undef, vsD, intV, arith, seval, g2, g8, g9, g10, g11, g13, g14, g15, g16, v1, v2] <;> rfl) (fun ht => ?_) (fun ht => ?_)
      · have ht' : 4294967296 ≤ r + y1 := by omega
        refine vc_exit ?_
        have hq1 : q - 1 = Q1 := by
          have := q_high (d := D1) hUyy hy0l v3 (by rw [hYY, ← hQ1]; omega) ht'
          rw [hYY, ← hQ1] at this
          exact this
        rw [hq1]
        exact J _ (by simp only [go_sem, opsV, undef, vsD, intV, arith, seval, g2, g8, g9, g10, g11, g13, g14, g15, g16, v1, v2] <;> rfl) (by simp only [go_sem, opsV, undef, vsD, intV, arith, seval, g2, g8, g9, g10, g11, g13, g14, g15, g16, v1, v2] <;> rfl) (by simp only [go_sem, opsV, undef, vsD, intV, arith, seval, g2, g8, g9, g10, g11, g13, g14, g15, g16, v1, v2] <;> rfl) (by simp only [go_sem, opsV, undef, vsD, intV, arith, seval, g2, g8, g9, g10, g11, g13, g14, g15, g16, v1, v2] <;> rfl) (by simp only [go_sem, opsV, undef, vsD, intV, arith, seval, g2, g8, g9, g10, g11, g13, g14, g15, g16, v1, v2] <;> rfl) (by simp only [go_sem, opsV, undef, vsD, intV, arith, seval, g2, g8, g9, g10, g11, g13, g14, g15, g16, v1, v2] <;> rfl) (by simp only [go_sem, opsV, undef, vsD, intV, arith, seval, g2, g8, g9, g10, g11, g13, g14, g15, g16, v1, v2] <;> rfl) (by simp only [go_sem, opsV, undef, vsD, intV, arith, seval, g2, g8, g9, g10, g11, g13, g14, g15, g16, v1, v2] <;> rfl)
      · refine vc_skip ?_
        refine ⟨⟨rfl, q - 1, r + y1, v3, by omega, by omega, ?_⟩, ?_⟩
        · try simp only [go_sem, opsV, undef, vsD, intV, arith, seval, g2, g8, g9, g10, g11, g13, g14, g15, g16, v1, v2]
        · rw [hmz]
          simp only [go_sem, opsV, undef, vsD, intV, arith, seval, g2, g8, g9, g10, g11, g13, g14, g15, g16, v1, v2, intOf]
          omega
    by_cases c1 : 4294967296 ≤ q
    · have c1' : (4294967296 : Int) ≤ (q : Int) := by omega
      refine vc_reg ?_
      try simp only [go_sem, opsV, undef, vsD, intV, arith, seval, g2, g8, g9, g10, g11, g13, g14, g15, g16, c1']
      refine hK2 _ _ ?_
      refine vc_condT (by simp only [go_sem, opsV, undef, vsD, intV, arith, seval, g2, g8, g9, g10, g11, g13, g14, g15, g16, c1'] <;> rfl) ?_
      refine vc_skip ?_
      exact down _ (.inl c1) (by simp only [go_sem, opsV, undef, vsD, intV, arith, seval, g2, g8, g9, g10, g11, g13, g14, g15, g16, c1'] <;> rfl) (by simp only [go_sem, opsV, undef, vsD, intV, arith, seval, g2, g8, g9, g10, g11, g13, g14, g15, g16, c1'] <;> rfl) (by simp only [go_sem, opsV, undef, vsD, intV, arith, seval, g2, g8, g9, g10, g11, g13, g14, g15, g16, c1'] <;> rfl) (by simp only [go_sem, opsV, undef, vsD, intV, arith, seval, g2, g8, g9, g10, g11, g13, g14, g15, g16, c1'] <;> rfl) (by simp only [go_sem, opsV, undef, vsD, intV, arith, seval, g2, g8, g9, g10, g11, g13, g14, g15, g16, c1'] <;> rfl) (by simp only [go_sem, opsV, undef, vsD, intV, arith, seval, g2, g8, g9, g10, g11, g13, g14, g15, g16, c1'] <;> rfl) (by simp only [go_sem, opsV, undef, vsD, intV, arith, seval, g2, g8, g9, g10, g11, g13, g14, g15, g16, c1'] <;> rfl) (by simp only [go_sem, opsV, undef, vsD, intV, arith, seval, g2, g8, g9, g10, g11, g13, g14, g15, g16, c1'] <;> rfl) (by simp only [go_sem, opsV, undef, vsD, intV, arith, seval, g2, g8, g9, g10, g11, g13, g14, g15, g16, c1'] <;> rfl)
    · have c1' : ¬ (4294967296 : Int) ≤ (q : Int) := by omega
      have p1 : q * y0 < 18446744073709551616 := Nat.mul_lt_mul'' (a := q) (b := y0) (c := 4294967296) (d := 4294967296) (by omega) hy0l
      have p2 : 4294967296 * r < 18446744073709551616 := by omega
      have p3 : 4294967296 * r + D1 < 18446744073709551616 := by omega
      refine vc_reg ?_
      try simp only [go_sem, opsV, undef, vsD, intV, arith, seval, g2, g8, g9, g10, g11, g13, g14, g15, g16, c1', mul32', Nat.mod_eq_of_lt p1, Nat.mod_eq_of_lt p2, Nat.mod_eq_of_lt p3]
      refine hK2 _ _ ?_
      refine vc_condD (by simp only [go_sem, opsV, undef, vsD, intV, arith, seval, g2, g8, g9, g10, g11, g13, g14, g15, g16, c1', mul32', Nat.mod_eq_of_lt p1, Nat.mod_eq_of_lt p2, Nat.mod_eq_of_lt p3] <;> rfl) (fun ht => ?_) (fun ht => ?_)
      · refine vc_skip ?_
        exact down _ (.inr ht) (by simp only [go_sem, opsV, undef, vsD, intV, arith, seval, g2, g8, g9, g10, g11, g13, g14, g15, g16, c1', mul32', Nat.mod_eq_of_lt p1, Nat.mod_eq_of_lt p2, Nat.mod_eq_of_lt p3] <;> rfl) (by simp only [go_sem, opsV, undef, vsD, intV, arith, seval, g2, g8, g9, g10, g11, g13, g14, g15, g16, c1', mul32', Nat.mod_eq_of_lt p1, Nat.mod_eq_of_lt p2, Nat.mod_eq_of_lt p3] <;> rfl) (by simp only [go_sem, opsV, undef, vsD, intV, arith, seval, g2, g8, g9, g10, g11, g13, g14, g15, g16, c1', mul32', Nat.mod_eq_of_lt p1, Nat.mod_eq_of_lt p2, Nat.mod_eq_of_lt p3] <;> rfl) (by simp only [go_sem, opsV, undef, vsD, intV, arith, seval, g2, g8, g9, g10, g11, g13, g14, g15, g16, c1', mul32', Nat.mod_eq_of_lt p1, Nat.mod_eq_of_lt p2, Nat.mod_eq_of_lt p3] <;> rfl) (by simp only [go_sem, opsV, undef, vsD, intV, arith, seval, g2, g8, g9, g10, g11, g13, g14, g15, g16, c1', mul32', Nat.mod_eq_of_lt p1, Nat.mod_eq_of_lt p2, Nat.mod_eq_of_lt p3] <;> rfl) (by simp only [go_sem, opsV, undef, vsD, intV, arith, seval, g2, g8, g9, g10, g11, g13, g14, g15, g16, c1', mul32', Nat.mod_eq_of_lt p1, Nat.mod_eq_of_lt p2, Nat.mod_eq_of_lt p3] <;> rfl) (by simp only [go_sem, opsV, undef, vsD, intV, arith, seval, g2, g8, g9, g10, g11, g13, g14, g15, g16, c1', mul32', Nat.mod_eq_of_lt p1, Nat.mod_eq_of_lt p2, Nat.mod_eq_of_lt p3] <;> rfl) (by simp only [go_sem, opsV, undef, vsD, intV, arith, seval, g2, g8, g9, g10, g11, g13, g14, g15, g16, c1', mul32', Nat.mod_eq_of_lt p1, Nat.mod_eq_of_lt p2, Nat.mod_eq_of_lt p3] <;> rfl) (by simp only [go_sem, opsV, undef, vsD, intV, arith, seval, g2, g8, g9, g10, g11, g13, g14, g15, g16, c1', mul32', Nat.mod_eq_of_lt p1, Nat.mod_eq_of_lt p2, Nat.mod_eq_of_lt p3] <;> rfl)
      · refine vc_exit ?_
        have hq1 : q = Q1 := by
          have := q_stop (d := D1) hUyy hqr (by rw [hYY, ← hQ1]; exact hQq) ht
          rw [hYY, ← hQ1] at this
          exact this
        subst hq1
        exact J _ (by simp only [go_sem, opsV, undef, vsD, intV, arith, seval, g2, g8, g9, g10, g11, g13, g14, g15, g16, c1', mul32', Nat.mod_eq_of_lt p1, Nat.mod_eq_of_lt p2, Nat.mod_eq_of_lt p3] <;> rfl) (by simp only [go_sem, opsV, undef, vsD, intV, arith, seval, g2, g8, g9, g10, g11, g13, g14, g15, g16, c1', mul32', Nat.mod_eq_of_lt p1, Nat.mod_eq_of_lt p2, Nat.mod_eq_of_lt p3] <;> rfl) (by simp only [go_sem, opsV, undef, vsD, intV, arith, seval, g2, g8, g9, g10, g11, g13, g14, g15, g16, c1', mul32', Nat.mod_eq_of_lt p1, Nat.mod_eq_of_lt p2, Nat.mod_eq_of_lt p3] <;> rfl) (by simp only [go_sem, opsV, undef, vsD, intV, arith, seval, g2, g8, g9, g10, g11, g13, g14, g15, g16, c1', mul32', Nat.mod_eq_of_lt p1, Nat.mod_eq_of_lt p2, Nat.mod_eq_of_lt p3] <;> rfl) (by simp only [go_sem, opsV, undef, vsD, intV, arith, seval, g2, g8, g9, g10, g11, g13, g14, g15, g16, c1', mul32', Nat.mod_eq_of_lt p1, Nat.mod_eq_of_lt p2, Nat.mod_eq_of_lt p3] <;> rfl) (by simp only [go_sem, opsV, undef, vsD, intV, arith, seval, g2, g8, g9, g10, g11, g13, g14, g15, g16, c1', mul32', Nat.mod_eq_of_lt p1, Nat.mod_eq_of_lt p2, Nat.mod_eq_of_lt p3] <;> rfl) (by simp only [go_sem, opsV, undef, vsD, intV, arith, seval, g2, g8, g9, g10, g11, g13, g14, g15, g16, c1', mul32', Nat.mod_eq_of_lt p1, Nat.mod_eq_of_lt p2, Nat.mod_eq_of_lt p3] <;> rfl) (by simp only [go_sem, opsV, undef, vsD, intV, arith, seval, g2, g8, g9, g10, g11, g13, g14, g15, g16, c1', mul32', Nat.mod_eq_of_lt p1, Nat.mod_eq_of_lt p2, Nat.mod_eq_of_lt p3] <;> rfl)

set_option maxHeartbeats 1000000 in
theorem div64 {w : World} {K : Value → World → Prop} (hi lo y : Nat) (hlt : hi < y) (hlo : lo < 18446744073709551616) (hy : y < 18446744073709551616)
    (h : ∀ w', Ext w w' → K (.tuple [Value.int .u64 (((hi * 18446744073709551616 + lo) / y : Nat) : Int), Value.int .u64 (((hi * 18446744073709551616 + lo) % y : Nat) : Int)].toArray) w') :
    FC Tryd.prog 52 #[.int .u64 (hi : Int), .int .u64 (lo : Int), .int .u64 (y : Int)] w K := by
  have hy0 : ¬ y = 0 := by omega
  have hyh : ¬ y ≤ hi := by omega
  have hyi : ¬ (y : Int) ≤ (hi : Int) := by omega
  refine FC.body (l := [.int .u64 (hi : Int), .int .u64 (lo : Int), .int .u64 (y : Int)]) (rs := [.tmp 6, .tmp 7]) mixed Tryd.func52 rfl (by kernel_rfl) (by kernel_rfl) (Nat.le_of_ble_eq_true rfl) rfl ?_
  repeat (first
    | (with_reducible refine vc_seq fun K hK => ?_)
    | (with_reducible refine vc_reg ?_)
    | (with_reducible refine vc_skip ?_)
    | (with_reducible refine vc_block ?_)
    | (with_reducible refine vc_scope ?_)
    | (with_reducible refine vc_label ?_)
    | (with_reducible refine vc_condT ?_ ?_; · simp only [go_sem, opsV, undef, vsD, intV, arith, seval, hy0, hyh] <;> rfl)
    | (with_reducible refine vc_condF ?_ ?_; · simp only [go_sem, opsV, undef, vsD, intV, arith, seval, hy0, hyh] <;> rfl)
    | (with_reducible refine vc_exit ?_; simp only [↓reduceIte, Nat.reduceEqDiff])
    | (with_reducible refine vc_ret ?_; simp only [retV, resL, one])
    | (with_reducible refine hK _ _ ?_; clear hK)
    | (clear hK; with_reducible refine hK _ _ ?_; clear hK)
    | (clear hK; clear hK; with_reducible refine hK _ _ ?_; clear hK)
    | (simp only [go_sem, opsV, undef, vsD, intV, arith, seval, hy0, hyh]))
  refine vc_condD (by simp only [go_sem, opsV, undef, vsD, intV, arith, seval, hy0, hyh] <;> rfl) (fun h0 => ?_) (fun h0 => ?_)
  · obtain rfl : hi = 0 := by omega
    refine vc_seq fun K hK => ?_
    refine vc_draw [(0, 0), (1, 0), (2, 0), (3, 0), (4, 0), (5, 0), (6, 0), (7, 0)] (by kernel_rfl) ?_
    have e1 : lo / y < 18446744073709551616 := Nat.lt_of_le_of_lt (Nat.div_le_self _ _) hlo
    try simp only [go_sem, opsV, undef, vsD, intV, arith, seval, hy0, Nat.mod_eq_of_lt e1, not_false_eq_true, Nat.zero_mul, Nat.zero_add]
    have h := h w.drew (ext_drew w)
    simp only [go_sem, opsV, undef, vsD, intV, arith, seval, hy0, Nat.mod_eq_of_lt e1, not_false_eq_true, Nat.zero_mul, Nat.zero_add] at h
    refine hK _ _ ?_
    clear hK
    refine vc_ret ?_
    simp only [retV, resL, one, go_sem, opsV, undef, vsD, intV, arith, seval, hy0, Nat.mod_eq_of_lt e1, not_false_eq_true, Nat.zero_mul, Nat.zero_add]
    exact h
  · have hb := bl_le (k := 64) hy
    have hsp := bitLen_spec y
    obtain ⟨s, hs⟩ : ∃ s, s = 64 - bitLen y := ⟨_, rfl⟩
    have hs64 : s ≤ 64 := by omega
    have hbl : bitLen y = 64 - s := by omega
    have hs0 : s < 64 := by
      have h1 := hsp.2 hy0
      rcases Nat.lt_or_ge s 64 with h2 | h2
      · exact h2
      · have : bitLen y = 0 := by omega
        rw [this] at hsp
        have := hsp.1
        omega
    obtain ⟨Y, hY⟩ : ∃ Y, Y = y * 2 ^ s := ⟨_, rfl⟩
    have e64 : (18446744073709551616 : Nat) = 2 ^ (64 - s) * 2 ^ s := by rw [← Nat.pow_add]; rw [show 64 - s + s = 64 by omega]
    have hYlt : Y < 18446744073709551616 := by
      rw [hY, e64]
      refine Nat.mul_lt_mul_of_pos_right ?_ (Nat.two_pow_pos s)
      rw [← hbl]; exact hsp.1
    have hYge : 9223372036854775808 ≤ Y := by
      have h1 := hsp.2 hy0
      rw [hbl] at h1
      have h2 : 2 ^ (64 - s - 1) * 2 ^ s ≤ y * 2 ^ s := Nat.mul_le_mul_right _ h1
      rw [← Nat.pow_add, show 64 - s - 1 + s = 63 by omega] at h2
      rw [hY]; exact h2
    obtain ⟨y1, hy1⟩ : ∃ y1, y1 = Y / 4294967296 := ⟨_, rfl⟩
    obtain ⟨y0, hy0'⟩ : ∃ y0, y0 = Y % 4294967296 := ⟨_, rfl⟩
    have hYY : y1 * 4294967296 + y0 = Y := by omega
    have hy1p : 0 < y1 := by omega
    have hy0l : y0 < 4294967296 := by omega
    have hy1l : y1 < 4294967296 := by omega
    -- the dividend, shifted
    have hhs : hi * 2 ^ s + 2 ^ s ≤ Y := by rw [hY, ← Nat.succ_mul]; exact Nat.mul_le_mul_right _ hlt
    have hll : lo / 2 ^ (64 - s) < 2 ^ s := by rw [Nat.div_lt_iff_lt_mul (Nat.two_pow_pos _), Nat.mul_comm, ← e64]; exact hlo
    obtain ⟨U, hU⟩ : ∃ U, U = hi * 2 ^ s + lo / 2 ^ (64 - s) := ⟨_, rfl⟩
    have hor : hi * 2 ^ s ||| lo / 2 ^ (64 - s) = U := by
      rw [hU, Nat.mul_comm hi, Nat.two_pow_add_eq_or_of_lt hll]
    have hUY : U < Y := by omega
    obtain ⟨L, hL⟩ : ∃ L, L = lo * 2 ^ s % 18446744073709551616 := ⟨_, rfl⟩
    have hLl : L < 18446744073709551616 := by rw [hL]; exact Nat.mod_lt _ (by decide)
    obtain ⟨D1, hD1⟩ : ∃ D1, D1 = L / 4294967296 := ⟨_, rfl⟩
    obtain ⟨D0, hD0⟩ : ∃ D0, D0 = L % 4294967296 := ⟨_, rfl⟩
    have hD1l : D1 < 4294967296 := by omega
    have hD0l : D0 < 4294967296 := by omega
    have hsh := shifted (hi := hi) (lo := lo) (W := 18446744073709551616) hs64 (by decide)
    rw [← hU, ← hL] at hsh
    -- the walk
    have w1 : IntKind.u64.wrap ((s : Nat) : Int) = ((s : Nat) : Int) := by rw [wrap64_nat]; congr 1; omega
    have w2 : IntKind.u64.wrap (64 - (s : Int)) = ((64 - s : Nat) : Int) := by rw [wrap64_i]; omega
    have w3 : hi * 2 ^ s % 18446744073709551616 = hi * 2 ^ s := Nat.mod_eq_of_lt (Nat.lt_of_le_of_lt (Nat.le_trans (Nat.le_add_right _ _) hhs) hYlt)
    have w4 : y * 2 ^ s % 18446744073709551616 = Y := by rw [← hY]; exact Nat.mod_eq_of_lt hYlt
    have w5 : bitsV .or .u64 ((hi * 2 ^ s : Nat) : Int) ((lo / 2 ^ (64 - s) : Nat) : Int) = (U : Int) := by
      rw [or64_nat _ _ (by omega) (Nat.lt_of_le_of_lt (Nat.div_le_self _ _) hlo), hor]
    have w6 : U / y1 < 18446744073709551616 := Nat.lt_of_le_of_lt (Nat.div_le_self _ _) (by omega)
    have w7 : U / y1 * y1 ≤ U := Nat.div_mul_le_self U y1
    have w8 := wrap_mod U y1 (Nat.lt_trans hUY hYlt)
    have hs1 : (64 - s ≤ 64) = True := by simp
    have hs2 : (s ≤ 64) = True := by simp [hs64]
    have hy1n : ¬ y1 = 0 := by omega
    repeat (first
      | (with_reducible refine vc_seq fun K hK => ?_)
      | (with_reducible refine vc_reg ?_)
      | (with_reducible refine vc_skip ?_)
      | (with_reducible refine vc_block ?_)
      | (with_reducible refine vc_scope ?_)
      | (with_reducible refine vc_label ?_)
      | (with_reducible refine vc_condT ?_ ?_; · simp only [go_sem, opsV, undef, vsD, intV, arith, seval, hs2, hs1, w1, w2, w3, w4, w5, ← hL, ← hy1, ← hD1, low32 Y hYlt, ← hy0', low32 L hLl, ← hD0, not_false_eq_true, hy1n, Nat.mod_eq_of_lt w6, Nat.mod_eq_of_lt (Nat.lt_of_le_of_lt w7 (Nat.lt_trans hUY hYlt)), w8, convV_int Tryd.underlying52, Tryd.underlying3, Option.isSome_some] <;> rfl)
      | (with_reducible refine vc_condF ?_ ?_; · simp only [go_sem, opsV, undef, vsD, intV, arith, seval, hs2, hs1, w1, w2, w3, w4, w5, ← hL, ← hy1, ← hD1, low32 Y hYlt, ← hy0', low32 L hLl, ← hD0, not_false_eq_true, hy1n, Nat.mod_eq_of_lt w6, Nat.mod_eq_of_lt (Nat.lt_of_le_of_lt w7 (Nat.lt_trans hUY hYlt)), w8, convV_int Tryd.underlying52, Tryd.underlying3, Option.isSome_some] <;> rfl)
      | (with_reducible refine vc_exit ?_; simp only [↓reduceIte, Nat.reduceEqDiff])
      | (with_reducible refine vc_ret ?_; simp only [retV, resL, one])
      | (with_reducible refine hK _ _ ?_; clear hK)
      | (clear hK; with_reducible refine hK _ _ ?_; clear hK)
      | (clear hK; clear hK; with_reducible refine hK _ _ ?_; clear hK)
      | (simp only [go_sem, opsV, undef, vsD, intV, arith, seval, hs2, hs1, w1, w2, w3, w4, w5, ← hL, ← hy1, ← hD1, low32 Y hYlt, ← hy0', low32 L hLl, ← hD0, not_false_eq_true, hy1n, Nat.mod_eq_of_lt w6, Nat.mod_eq_of_lt (Nat.lt_of_le_of_lt w7 (Nat.lt_trans hUY hYlt)), w8, convV_int Tryd.underlying52, Tryd.underlying3, Option.isSome_some]))
    refine lz64 y hy ?_
    rw [← hs]
    repeat (first
      | (with_reducible refine vc_seq fun K hK => ?_)
      | (with_reducible refine vc_reg ?_)
      | (with_reducible refine vc_skip ?_)
      | (with_reducible refine vc_block ?_)
      | (with_reducible refine vc_scope ?_)
      | (with_reducible refine vc_label ?_)
      | (with_reducible refine vc_condT ?_ ?_; · simp only [go_sem, opsV, undef, vsD, intV, arith, seval, hs2, hs1, w1, w2, w3, w4, w5, ← hL, ← hy1, ← hD1, low32 Y hYlt, ← hy0', low32 L hLl, ← hD0, not_false_eq_true, hy1n, Nat.mod_eq_of_lt w6, Nat.mod_eq_of_lt (Nat.lt_of_le_of_lt w7 (Nat.lt_trans hUY hYlt)), w8, convV_int Tryd.underlying52, Tryd.underlying3, Option.isSome_some] <;> rfl)
      | (with_reducible refine vc_condF ?_ ?_; · simp only [go_sem, opsV, undef, vsD, intV, arith, seval, hs2, hs1, w1, w2, w3, w4, w5, ← hL, ← hy1, ← hD1, low32 Y hYlt, ← hy0', low32 L hLl, ← hD0, not_false_eq_true, hy1n, Nat.mod_eq_of_lt w6, Nat.mod_eq_of_lt (Nat.lt_of_le_of_lt w7 (Nat.lt_trans hUY hYlt)), w8, convV_int Tryd.underlying52, Tryd.underlying3, Option.isSome_some] <;> rfl)
      | (with_reducible refine vc_exit ?_; simp only [↓reduceIte, Nat.reduceEqDiff])
      | (with_reducible refine vc_ret ?_; simp only [retV, resL, one])
      | (with_reducible refine hK _ _ ?_; clear hK)
      | (clear hK; with_reducible refine hK _ _ ?_; clear hK)
      | (clear hK; clear hK; with_reducible refine hK _ _ ?_; clear hK)
      | (simp only [go_sem, opsV, undef, vsD, intV, arith, seval, hs2, hs1, w1, w2, w3, w4, w5, ← hL, ← hy1, ← hD1, low32 Y hYlt, ← hy0', low32 L hLl, ← hD0, not_false_eq_true, hy1n, Nat.mod_eq_of_lt w6, Nat.mod_eq_of_lt (Nat.lt_of_le_of_lt w7 (Nat.lt_trans hUY hYlt)), w8, convV_int Tryd.underlying52, Tryd.underlying3, Option.isSome_some]))
    -- the first digit
    obtain ⟨Q1, hQ1⟩ : ∃ Q1, Q1 = (U * 4294967296 + D1) / Y := ⟨_, rfl⟩
    have hUyy : U < y1 * 4294967296 + y0 := by omega
    have hQ1l : Q1 < 4294967296 := by rw [hQ1, ← hYY]; exact q_lt hUyy hD1l
    have J1 : ∀ (e : Env), e 2 = .int .u64 (Y : Int) → e 8 = .int .u64 (s : Int) → e 9 = .int .u64 (y1 : Int) → e 10 = .int .u64 (y0 : Int) → e 11 = .int .u64 (U : Int) → e 13 = .int .u64 (D1 : Int) → e 14 = .int .u64 (D0 : Int) → e 15 = .int .u64 (Q1 : Int) → K e w := by
      intro e g2 g8 g9 g10 g11 g13 g14 g15
      refine hK _ _ ?_
      clear hK
      obtain ⟨R1, hR1⟩ : ∃ R1, R1 = (U * 4294967296 + D1) % Y := ⟨_, rfl⟩
      have hR1l : R1 < Y := by rw [hR1]; exact Nat.mod_lt _ (by omega)
      have hdm := Nat.div_add_mod (U * 4294967296 + D1) Y
      rw [← hQ1, ← hR1, Nat.mul_comm] at hdm
      have x1 := wrap_rem (U * 4294967296) D1 (Q1 * Y) R1 hdm (Nat.lt_trans hR1l hYlt)
      have x2 : R1 / y1 < 18446744073709551616 := Nat.lt_of_le_of_lt (Nat.div_le_self _ _) (Nat.lt_trans hR1l hYlt)
      have x3 : R1 / y1 * y1 ≤ R1 := Nat.div_mul_le_self R1 y1
      have x4 := wrap_mod R1 y1 (Nat.lt_trans hR1l hYlt)
      have x5 : R1 / y1 * y1 % 18446744073709551616 = R1 / y1 * y1 := Nat.mod_eq_of_lt (Nat.lt_of_le_of_lt x3 (Nat.lt_trans hR1l hYlt))
      repeat (first
        | (with_reducible refine vc_seq fun K hK => ?_)
        | (with_reducible refine vc_reg ?_)
        | (with_reducible refine vc_skip ?_)
        | (with_reducible refine vc_block ?_)
        | (with_reducible refine vc_scope ?_)
        | (with_reducible refine vc_label ?_)
        | (with_reducible refine vc_condT ?_ ?_; · simp only [go_sem, opsV, undef, vsD, intV, arith, seval, g2, g8, g9, g10, g11, g13, g14, g15, mul32, x1, x4, x5, Nat.mod_eq_of_lt x2, not_false_eq_true, hy1n] <;> rfl)
        | (with_reducible refine vc_condF ?_ ?_; · simp only [go_sem, opsV, undef, vsD, intV, arith, seval, g2, g8, g9, g10, g11, g13, g14, g15, mul32, x1, x4, x5, Nat.mod_eq_of_lt x2, not_false_eq_true, hy1n] <;> rfl)
        | (with_reducible refine vc_exit ?_; simp only [↓reduceIte, Nat.reduceEqDiff])
        | (with_reducible refine vc_ret ?_; simp only [retV, resL, one])
        | (with_reducible refine hK _ _ ?_; clear hK)
        | (clear hK; with_reducible refine hK _ _ ?_; clear hK)
        | (clear hK; clear hK; with_reducible refine hK _ _ ?_; clear hK)
        | (simp only [go_sem, opsV, undef, vsD, intV, arith, seval, g2, g8, g9, g10, g11, g13, g14, g15, mul32, x1, x4, x5, Nat.mod_eq_of_lt x2, not_false_eq_true, hy1n]))
      -- the second digit
      obtain ⟨Q0, hQ0⟩ : ∃ Q0, Q0 = (R1 * 4294967296 + D0) / Y := ⟨_, rfl⟩
      have hR1yy : R1 < y1 * 4294967296 + y0 := by omega
      have hQ0l : Q0 < 4294967296 := by rw [hQ0, ← hYY]; exact q_lt hR1yy hD0l
      have J2 : ∀ (e : Env), e 2 = .int .u64 (Y : Int) → e 8 = .int .u64 (s : Int) → e 9 = .int .u64 (y1 : Int) → e 10 = .int .u64 (y0 : Int) → e 17 = .int .u64 (R1 : Int) → e 14 = .int .u64 (D0 : Int) → e 15 = .int .u64 (Q1 : Int) → e 18 = .int .u64 (Q0 : Int) → K e w := by
        intro e g2 g8 g9 g10 g17 g14 g15 g18
        refine hK _ _ ?_
        clear hK
        have hd2 := Nat.div_add_mod (R1 * 4294967296 + D0) Y
        rw [← hQ0, Nat.mul_comm] at hd2
        have hR0l : (R1 * 4294967296 + D0) % Y < Y := Nat.mod_lt _ (Nat.lt_of_le_of_lt (Nat.zero_le _) hUY)
        have hYp : 0 < Y := Nat.lt_of_le_of_lt (Nat.zero_le _) hUY
        have z1 := wrap_rem (R1 * 4294967296) D0 (Q0 * Y) _ hd2 (Nat.lt_trans hR0l hYlt)
        have z2 := b32 Q1 hQ1l
        have z3 := b32b Q1 Q0 hQ1l hQ0l
        obtain ⟨f1, f2⟩ := two_digits (u := U) (d1 := D1) (d0 := D0) (y := Y) (B := 4294967296) hYp (by decide)
        rw [← hQ1, ← hR1, ← hQ0] at f1
        rw [← hR1] at f2
        have hL2 : D1 * 4294967296 + D0 = L := by rw [hD1, hD0]; exact Nat.div_add_mod' L 4294967296
        rw [hL2, show (4294967296 * 4294967296 : Nat) = 18446744073709551616 from rfl, hsh, hY] at f1 f2
        rw [Nat.mul_div_mul_right _ _ (Nat.two_pow_pos s)] at f1
        rw [Nat.mul_mod_mul_right] at f2
        have z5 : (hi * 18446744073709551616 + lo) / y < 18446744073709551616 := by rw [← f1]; exact z3
        have z4 : (R1 * 4294967296 + D0) % Y / 2 ^ s = (hi * 18446744073709551616 + lo) % y := by
          rw [hY, f2]; exact Nat.mul_div_cancel _ (Nat.two_pow_pos s)
        repeat (first
          | (with_reducible refine vc_seq fun K hK => ?_)
          | (with_reducible refine vc_reg ?_)
          | (with_reducible refine vc_skip ?_)
          | (with_reducible refine vc_block ?_)
          | (with_reducible refine vc_scope ?_)
          | (with_reducible refine vc_label ?_)
          | (with_reducible refine vc_condT ?_ ?_; · simp only [go_sem, opsV, undef, vsD, intV, arith, seval, g2, g8, g9, g10, g17, g14, g15, g18, mul32, z1, Nat.mod_eq_of_lt z2, Nat.mod_eq_of_lt z3, hs2, f1, z4, Nat.mod_eq_of_lt z5] <;> rfl)
          | (with_reducible refine vc_condF ?_ ?_; · simp only [go_sem, opsV, undef, vsD, intV, arith, seval, g2, g8, g9, g10, g17, g14, g15, g18, mul32, z1, Nat.mod_eq_of_lt z2, Nat.mod_eq_of_lt z3, hs2, f1, z4, Nat.mod_eq_of_lt z5] <;> rfl)
          | (with_reducible refine vc_exit ?_; simp only [↓reduceIte, Nat.reduceEqDiff])
          | (with_reducible refine vc_ret ?_; simp only [retV, resL, one])
          | (with_reducible refine hK _ _ ?_; clear hK)
          | (clear hK; with_reducible refine hK _ _ ?_; clear hK)
          | (clear hK; clear hK; with_reducible refine hK _ _ ?_; clear hK)
          | (simp only [go_sem, opsV, undef, vsD, intV, arith, seval, g2, g8, g9, g10, g17, g14, g15, g18, mul32, z1, Nat.mod_eq_of_lt z2, Nat.mod_eq_of_lt z3, hs2, f1, z4, Nat.mod_eq_of_lt z5]))
        exact h w (Ext.refl w)
      clear hK
      exact d64_J2 Y s y1 y0 U D1 D0 Q1 R1 Q0 hYY hYlt hy1p hy0l hy1l hQ0 hR1l hD0l (fun e a b c d f g i j => (by simpa only [↓reduceIte] using J2 e a b c d f g i j)) _ (by simp only [go_sem, opsV, undef, vsD, intV, arith, seval, true_and, g2, g8, g9, g10, g14, g15] <;> rfl) (by simp only [go_sem, opsV, undef, vsD, intV, arith, seval, true_and, g2, g8, g9, g10, g14, g15] <;> rfl) (by simp only [go_sem, opsV, undef, vsD, intV, arith, seval, true_and, g2, g8, g9, g10, g14, g15] <;> rfl) (by simp only [go_sem, opsV, undef, vsD, intV, arith, seval, true_and, g2, g8, g9, g10, g14, g15] <;> rfl) (by simp only [go_sem, opsV, undef, vsD, intV, arith, seval, true_and, g2, g8, g9, g10, g14, g15] <;> rfl) (by simp only [go_sem, opsV, undef, vsD, intV, arith, seval, true_and, g2, g8, g9, g10, g14, g15] <;> rfl) (by simp only [go_sem, opsV, undef, vsD, intV, arith, seval, true_and, g2, g8, g9, g10, g14, g15] <;> rfl) (by simp only [go_sem, opsV, undef, vsD, intV, arith, seval, true_and, g2, g8, g9, g10, g14, g15] <;> rfl) (by simp only [go_sem, opsV, undef, vsD, intV, arith, seval, true_and, g2, g8, g9, g10, g14, g15] <;> rfl)
    clear hK
    exact d64_J1 Y s y1 y0 U D1 D0 Q1 0 0 hYY hYlt hy1p hy0l hy1l hQ1 hUY hD1l (fun e a b c d f g i j => (by simpa only [↓reduceIte] using J1 e a b c d f g i j)) _ (by simp only [go_sem, opsV, undef, vsD, intV, arith, seval, true_and] <;> rfl) (by simp only [go_sem, opsV, undef, vsD, intV, arith, seval, true_and] <;> rfl) (by simp only [go_sem, opsV, undef, vsD, intV, arith, seval, true_and] <;> rfl) (by simp only [go_sem, opsV, undef, vsD, intV, arith, seval, true_and] <;> rfl) (by simp only [go_sem, opsV, undef, vsD, intV, arith, seval, true_and] <;> rfl) (by simp only [go_sem, opsV, undef, vsD, intV, arith, seval, true_and] <;> rfl) (by simp only [go_sem, opsV, undef, vsD, intV, arith, seval, true_and] <;> rfl) (by simp only [go_sem, opsV, undef, vsD, intV, arith, seval, true_and] <;> rfl) (by simp only [go_sem, opsV, undef, vsD, intV, arith, seval, true_and] <;> rfl)

end Go.V

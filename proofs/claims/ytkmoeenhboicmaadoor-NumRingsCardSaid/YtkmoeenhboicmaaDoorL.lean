/- What the Go library's functions that package nat calls hand back. -/
import Derived.Test.YtkmoeenhboicmaaDoorRows
import Derived.Test.YtkmoeenhboicmaaDoorW
import Derived.Test.YtkmoeenhboicmaaDoorD
import Derived.Laws.Externs
import Derived.Laws.MathBits
import Derived.Lib.Mul64
import Derived.Lib.TrailingZeros
set_option linter.unusedSimpArgs false
set_option linter.unusedVariables false
set_option maxRecDepth 100000
namespace Go.V
open Go Go.RowKit Go.Proofs

set_option linter.defProp false in
/-- What every step of a walk rewrites with. -/
def vsB := And.intro @gv_bool <| And.intro @gv_tuple <| And.intro @binV_int <| And.intro @binV_eqB <| And.intro @binV_neB <| And.intro @pbin_int <| And.intro @pbin_eqB <| And.intro @pbin_neB <| And.intro @unV_not <| And.intro @unV_neg <| And.intro @boolV_bool <| And.intro @tupV_lit <| And.intro @optV_some <| And.intro @ptrV_ptr <| And.intro @ev_tmp <| And.intro @ev_const <| And.intro @ev_global <| And.intro @ev_func <| And.intro @put_some <| And.intro @put_none <| And.intro @upd_apply <| And.intro @cond_true.{1} <| And.intro @cond_false.{1} <| And.intro @argE_apply <| And.intro @List.getElem?_toArray.{0} <| And.intro @List.map_toArray.{0, 0} <| And.intro @List.map_cons.{0, 0} <| And.intro @List.map_nil.{0, 0} <| And.intro @List.getElem?_cons_zero.{0} <| And.intro @List.getElem?_cons_succ.{0} <| And.intro @List.getElem?_nil.{0} <| And.intro @List.getD_cons_zero.{0} <| And.intro @List.getD_cons_succ.{0} <| And.intro @Option.map_some.{0, 0} <| And.intro @Option.map_none.{0, 0} <| And.intro @Option.bind_some.{0, 0} <| And.intro @true_and <| And.intro @and_true <| And.intro @cast_add <| And.intro @cast_add_one <| And.intro @cast_succ_sub <| And.intro @cast_zero_lt <| And.intro @cast_zero_le <| And.intro @cast_eq_zero <| And.intro @Int.ofNat_lt <| And.intro @Int.ofNat_le <| And.intro @Int.natCast_inj <| And.intro @Int.toNat_natCast <| And.intro @decide_true <| And.intro @decide_false <| And.intro @bits_u64 <| And.intro @bits_u32 <| And.intro @bits_u8 <| And.intro @bits_i64 <| And.intro @cast_mul <| And.intro @wrap64_nat <| And.intro @wrap32_nat <| And.intro @wrap8_nat <| And.intro @tdiv_nat <| And.intro @tmod_nat <| And.intro @shl_pow <| And.intro @shr_pow <| And.intro @shr1 <| And.intro @shr8 <| And.intro @shr16 <| And.intro @shr32 <| And.intro @lapp_cons <| @lapp_nil

theorem mixed : Tryd.prog.follows .mixedOrders = true := by kernel_rfl

/-! ### math/bits.Add64, Sub64 -/

theorem fc_extern {P : Program} {w : World} {f : FuncId} {fn : Func} {en : Array Value → Sem Value} (hf : P.funcs[f]? = some fn) (hname : (fn.name == "runtime.NumGoroutine") = false)
    (hb : fn.body.isNone = true) (hn : Extern.findNext fn = none) (he : Extern.find fn = some en) {args : Array Value} {v : Value} (hr : (en args).run P w = .ok v w) {K : Value → World → Prop} (h : K v w) : FC P f args w K := by
  unfold FC
  rw [run_callFunc_extern hf hname hb hn he, hr]
  exact h

theorem add64 {w : World} {K : Value → World → Prop} (x y c : Nat) (hc : c ≤ 1)
    (h : K (.tuple [Value.int .u64 (((x + y + c) % 18446744073709551616 : Nat) : Int), Value.int .u64 (((x + y + c) / 18446744073709551616 : Nat) : Int)].toArray) w) :
    FC Tryd.prog 86 #[.int .u64 (x : Int), .int .u64 (y : Int), .int .u64 (c : Int)] w K := by
  refine fc_extern Tryd.func86 (by kernel_rfl) (by kernel_rfl) (by kernel_rfl) (by kernel_rfl : Extern.find Tryd.f86 = some add64Entry) (run_add64 x y c (by omega) (by omega) (by omega) (by omega) w) ?_
  simpa using h

def sub64Entry : Array Value → Sem Value := fun args => do
  let (x, y, b) ← Extern.MathBitsCarry.three "Sub64" args
  pure (Extern.MathBitsCarry.pair ((x + Extern.MathBitsCarry.m64 - y - b) % Extern.MathBitsCarry.m64) (if x < y + b then 1 else 0))
theorem run_sub64 {P : Program} (x y c : Nat) (hc : c ≤ 1) (w : World) :
    (sub64Entry #[.int .u64 (x : Int), .int .u64 (y : Int), .int .u64 (c : Int)]).run P w =
      .ok (.tuple [Value.int .u64 (((x + 18446744073709551616 - y - c) % 18446744073709551616 : Nat) : Int), Value.int .u64 ((if x < y + c then 1 else 0 : Nat) : Int)].toArray) w := by
  have : c = 0 ∨ c = 1 := by omega
  rcases this with rfl | rfl <;> rfl

theorem sub64 {w : World} {K : Value → World → Prop} (x y c : Nat) (hc : c ≤ 1)
    (h : K (.tuple [Value.int .u64 (((x + 18446744073709551616 - y - c) % 18446744073709551616 : Nat) : Int), Value.int .u64 ((if x < y + c then 1 else 0 : Nat) : Int)].toArray) w) :
    FC Tryd.prog 87 #[.int .u64 (x : Int), .int .u64 (y : Int), .int .u64 (c : Int)] w K := by
  exact fc_extern Tryd.func87 (by kernel_rfl) (by kernel_rfl) (by kernel_rfl) (by kernel_rfl : Extern.find Tryd.f87 = some sub64Entry) (run_sub64 x y c hc w) h

/-! ### cmp.Compare -/


theorem isNaN_int {w : World} {K : Value → World → Prop} (a : Int) (h : K (.bool false) w) : FC Tryd.prog 81 #[.int .i64 a] w K := by
  refine FC.body (l := [.int .i64 a]) (rs := [.tmp 2]) mixed Tryd.func81 rfl (by kernel_rfl) (by kernel_rfl) (Nat.le_of_ble_eq_true rfl) rfl ?_
  with_reducible refine vc_seq fun K hK => ?_
  with_reducible refine vc_reg ?_
  simp only [opsV, dV, modeV, pureV, guardV, undef, opV, callV, intV, arith, ne_eq, Nat.min_def, vsB, seval, true_and]
  refine hK _ _ ?_
  clear hK K
  with_reducible refine vc_seq fun K hK => ?_
  with_reducible refine vc_reg ?_
  simp only [opsV, dV, modeV, pureV, guardV, undef, opV, callV, intV, arith, ne_eq, Nat.min_def, vsB, seval, true_and]
  refine hK _ _ ?_
  clear hK K
  refine vc_ret ?_
  simp only [retV, resL, one, opsV, dV, modeV, pureV, guardV, undef, opV, callV, intV, arith, ne_eq, Nat.min_def, vsB, seval, true_and]
  simpa using h

theorem compare_int {w : World} {K : Value → World → Prop} (a b : Int) (h : K (.int .i64 (cmpI a b)) w) : FC Tryd.prog 69 #[.int .i64 a, .int .i64 b] w K := by
  refine FC.body (l := [.int .i64 a, .int .i64 b]) (rs := [.tmp 4]) mixed Tryd.func69 rfl (by kernel_rfl) (by kernel_rfl) (Nat.le_of_ble_eq_true rfl) rfl ?_
  repeat (first
    | (with_reducible refine vc_seq fun K hK => ?_)
    | (with_reducible refine vc_reg ?_)
    | (with_reducible refine vc_skip ?_)
    | (with_reducible refine vc_block ?_)
    | (with_reducible refine vc_scope ?_)
    | (with_reducible refine vc_label ?_)
    | (with_reducible refine vc_condT ?_ ?_; · simp only [opsV, dV, modeV, pureV, guardV, undef, opV, callV, intV, arith, ne_eq, Nat.min_def, vsB, seval, true_and] <;> rfl)
    | (with_reducible refine vc_condF ?_ ?_; · simp only [opsV, dV, modeV, pureV, guardV, undef, opV, callV, intV, arith, ne_eq, Nat.min_def, vsB, seval, true_and] <;> rfl)
    | (with_reducible refine vc_exit ?_; simp only [↓reduceIte, Nat.reduceEqDiff])
    | (with_reducible refine vc_ret ?_; simp only [retV, resL, one])
    | (with_reducible refine hK _ _ ?_; clear hK)
    | (clear hK; with_reducible refine hK _ _ ?_; clear hK)
    | (clear hK; clear hK; with_reducible refine hK _ _ ?_; clear hK)
    | (simp only [opsV, dV, modeV, pureV, guardV, undef, opV, callV, intV, arith, ne_eq, Nat.min_def, vsB, seval, true_and]))
  refine isNaN_int a ?_
  repeat (first
    | (with_reducible refine vc_seq fun K hK => ?_)
    | (with_reducible refine vc_reg ?_)
    | (with_reducible refine vc_skip ?_)
    | (with_reducible refine vc_block ?_)
    | (with_reducible refine vc_scope ?_)
    | (with_reducible refine vc_label ?_)
    | (with_reducible refine vc_condT ?_ ?_; · simp only [opsV, dV, modeV, pureV, guardV, undef, opV, callV, intV, arith, ne_eq, Nat.min_def, vsB, seval, true_and] <;> rfl)
    | (with_reducible refine vc_condF ?_ ?_; · simp only [opsV, dV, modeV, pureV, guardV, undef, opV, callV, intV, arith, ne_eq, Nat.min_def, vsB, seval, true_and] <;> rfl)
    | (with_reducible refine vc_exit ?_; simp only [↓reduceIte, Nat.reduceEqDiff])
    | (with_reducible refine vc_ret ?_; simp only [retV, resL, one])
    | (with_reducible refine hK _ _ ?_; clear hK)
    | (clear hK; with_reducible refine hK _ _ ?_; clear hK)
    | (clear hK; clear hK; with_reducible refine hK _ _ ?_; clear hK)
    | (simp only [opsV, dV, modeV, pureV, guardV, undef, opV, callV, intV, arith, ne_eq, Nat.min_def, vsB, seval, true_and]))
  refine isNaN_int b ?_
  repeat (first
    | (with_reducible refine vc_seq fun K hK => ?_)
    | (with_reducible refine vc_reg ?_)
    | (with_reducible refine vc_skip ?_)
    | (with_reducible refine vc_block ?_)
    | (with_reducible refine vc_scope ?_)
    | (with_reducible refine vc_label ?_)
    | (with_reducible refine vc_condT ?_ ?_; · simp only [opsV, dV, modeV, pureV, guardV, undef, opV, callV, intV, arith, ne_eq, Nat.min_def, vsB, seval, true_and] <;> rfl)
    | (with_reducible refine vc_condF ?_ ?_; · simp only [opsV, dV, modeV, pureV, guardV, undef, opV, callV, intV, arith, ne_eq, Nat.min_def, vsB, seval, true_and] <;> rfl)
    | (with_reducible refine vc_exit ?_; simp only [↓reduceIte, Nat.reduceEqDiff])
    | (with_reducible refine vc_ret ?_; simp only [retV, resL, one])
    | (with_reducible refine hK _ _ ?_; clear hK)
    | (clear hK; with_reducible refine hK _ _ ?_; clear hK)
    | (clear hK; clear hK; with_reducible refine hK _ _ ?_; clear hK)
    | (simp only [opsV, dV, modeV, pureV, guardV, undef, opV, callV, intV, arith, ne_eq, Nat.min_def, vsB, seval, true_and]))
  refine vc_condD (by simp only [opsV, dV, modeV, pureV, guardV, undef, opV, callV, intV, arith, ne_eq, Nat.min_def, vsB, seval, true_and] <;> rfl) (fun ht => ?_) (fun ht => ?_)
  · repeat (first
      | (with_reducible refine vc_seq fun K hK => ?_)
      | (with_reducible refine vc_reg ?_)
      | (with_reducible refine vc_skip ?_)
      | (with_reducible refine vc_block ?_)
      | (with_reducible refine vc_scope ?_)
      | (with_reducible refine vc_label ?_)
      | (with_reducible refine vc_condT ?_ ?_; · simp only [opsV, dV, modeV, pureV, guardV, undef, opV, callV, intV, arith, ne_eq, Nat.min_def, vsB, seval, true_and] <;> rfl)
      | (with_reducible refine vc_condF ?_ ?_; · simp only [opsV, dV, modeV, pureV, guardV, undef, opV, callV, intV, arith, ne_eq, Nat.min_def, vsB, seval, true_and] <;> rfl)
      | (with_reducible refine vc_exit ?_; simp only [↓reduceIte, Nat.reduceEqDiff])
      | (with_reducible refine vc_ret ?_; simp only [retV, resL, one])
      | (with_reducible refine hK _ _ ?_; clear hK)
      | (clear hK; with_reducible refine hK _ _ ?_; clear hK)
      | (clear hK; clear hK; with_reducible refine hK _ _ ?_; clear hK)
      | (simp only [opsV, dV, modeV, pureV, guardV, undef, opV, callV, intV, arith, ne_eq, Nat.min_def, vsB, seval, true_and]))
    simpa [cmpI, ht] using h
  have ht1 := ht; clear ht
  repeat (first
    | (with_reducible refine vc_seq fun K hK => ?_)
    | (with_reducible refine vc_reg ?_)
    | (with_reducible refine vc_skip ?_)
    | (with_reducible refine vc_block ?_)
    | (with_reducible refine vc_scope ?_)
    | (with_reducible refine vc_label ?_)
    | (with_reducible refine vc_condT ?_ ?_; · simp only [opsV, dV, modeV, pureV, guardV, undef, opV, callV, intV, arith, ne_eq, Nat.min_def, vsB, seval, true_and] <;> rfl)
    | (with_reducible refine vc_condF ?_ ?_; · simp only [opsV, dV, modeV, pureV, guardV, undef, opV, callV, intV, arith, ne_eq, Nat.min_def, vsB, seval, true_and] <;> rfl)
    | (with_reducible refine vc_exit ?_; simp only [↓reduceIte, Nat.reduceEqDiff])
    | (with_reducible refine vc_ret ?_; simp only [retV, resL, one])
    | (with_reducible refine hK _ _ ?_; clear hK)
    | (clear hK; with_reducible refine hK _ _ ?_; clear hK)
    | (clear hK; clear hK; with_reducible refine hK _ _ ?_; clear hK)
    | (simp only [opsV, dV, modeV, pureV, guardV, undef, opV, callV, intV, arith, ne_eq, Nat.min_def, vsB, seval, true_and]))
  refine vc_condD (by simp only [opsV, dV, modeV, pureV, guardV, undef, opV, callV, intV, arith, ne_eq, Nat.min_def, vsB, seval, true_and] <;> rfl) (fun ht => ?_) (fun ht => ?_)
  · repeat (first
      | (with_reducible refine vc_seq fun K hK => ?_)
      | (with_reducible refine vc_reg ?_)
      | (with_reducible refine vc_skip ?_)
      | (with_reducible refine vc_block ?_)
      | (with_reducible refine vc_scope ?_)
      | (with_reducible refine vc_label ?_)
      | (with_reducible refine vc_condT ?_ ?_; · simp only [opsV, dV, modeV, pureV, guardV, undef, opV, callV, intV, arith, ne_eq, Nat.min_def, vsB, seval, true_and] <;> rfl)
      | (with_reducible refine vc_condF ?_ ?_; · simp only [opsV, dV, modeV, pureV, guardV, undef, opV, callV, intV, arith, ne_eq, Nat.min_def, vsB, seval, true_and] <;> rfl)
      | (with_reducible refine vc_exit ?_; simp only [↓reduceIte, Nat.reduceEqDiff])
      | (with_reducible refine vc_ret ?_; simp only [retV, resL, one])
      | (with_reducible refine hK _ _ ?_; clear hK)
      | (clear hK; with_reducible refine hK _ _ ?_; clear hK)
      | (clear hK; clear hK; with_reducible refine hK _ _ ?_; clear hK)
      | (simp only [opsV, dV, modeV, pureV, guardV, undef, opV, callV, intV, arith, ne_eq, Nat.min_def, vsB, seval, true_and]))
    simpa [cmpI, ht, ht1] using h
  · repeat (first
      | (with_reducible refine vc_seq fun K hK => ?_)
      | (with_reducible refine vc_reg ?_)
      | (with_reducible refine vc_skip ?_)
      | (with_reducible refine vc_block ?_)
      | (with_reducible refine vc_scope ?_)
      | (with_reducible refine vc_label ?_)
      | (with_reducible refine vc_condT ?_ ?_; · simp only [opsV, dV, modeV, pureV, guardV, undef, opV, callV, intV, arith, ne_eq, Nat.min_def, vsB, seval, true_and] <;> rfl)
      | (with_reducible refine vc_condF ?_ ?_; · simp only [opsV, dV, modeV, pureV, guardV, undef, opV, callV, intV, arith, ne_eq, Nat.min_def, vsB, seval, true_and] <;> rfl)
      | (with_reducible refine vc_exit ?_; simp only [↓reduceIte, Nat.reduceEqDiff])
      | (with_reducible refine vc_ret ?_; simp only [retV, resL, one])
      | (with_reducible refine hK _ _ ?_; clear hK)
      | (clear hK; with_reducible refine hK _ _ ?_; clear hK)
      | (clear hK; clear hK; with_reducible refine hK _ _ ?_; clear hK)
      | (simp only [opsV, dV, modeV, pureV, guardV, undef, opV, callV, intV, arith, ne_eq, Nat.min_def, vsB, seval, true_and]))
    simpa [cmpI, ht, ht1] using h

theorem isNaN_u64 {w : World} {K : Value → World → Prop} (a : Int) (h : K (.bool false) w) : FC Tryd.prog 96 #[.int .u64 a] w K := by
  refine FC.body (l := [.int .u64 a]) (rs := [.tmp 2]) mixed Tryd.func96 rfl (by kernel_rfl) (by kernel_rfl) (Nat.le_of_ble_eq_true rfl) rfl ?_
  repeat (first
    | (with_reducible refine vc_seq fun K hK => ?_)
    | (with_reducible refine vc_reg ?_)
    | (with_reducible refine vc_skip ?_)
    | (with_reducible refine vc_block ?_)
    | (with_reducible refine vc_scope ?_)
    | (with_reducible refine vc_label ?_)
    | (with_reducible refine vc_condT ?_ ?_; · simp only [opsV, dV, modeV, pureV, guardV, undef, opV, callV, intV, arith, ne_eq, Nat.min_def, vsB, seval, true_and] <;> rfl)
    | (with_reducible refine vc_condF ?_ ?_; · simp only [opsV, dV, modeV, pureV, guardV, undef, opV, callV, intV, arith, ne_eq, Nat.min_def, vsB, seval, true_and] <;> rfl)
    | (with_reducible refine vc_exit ?_; simp only [↓reduceIte, Nat.reduceEqDiff])
    | (with_reducible refine vc_ret ?_; simp only [retV, resL, one])
    | (with_reducible refine hK _ _ ?_; clear hK)
    | (clear hK; with_reducible refine hK _ _ ?_; clear hK)
    | (clear hK; clear hK; with_reducible refine hK _ _ ?_; clear hK)
    | (simp only [opsV, dV, modeV, pureV, guardV, undef, opV, callV, intV, arith, ne_eq, Nat.min_def, vsB, seval, true_and]))
  simpa using h

theorem compare_u64 {w : World} {K : Value → World → Prop} (a b : Int) (h : K (.int .i64 (cmpI a b)) w) : FC Tryd.prog 95 #[.int .u64 a, .int .u64 b] w K := by
  refine FC.body (l := [.int .u64 a, .int .u64 b]) (rs := [.tmp 4]) mixed Tryd.func95 rfl (by kernel_rfl) (by kernel_rfl) (Nat.le_of_ble_eq_true rfl) rfl ?_
  repeat (first
    | (with_reducible refine vc_seq fun K hK => ?_)
    | (with_reducible refine vc_reg ?_)
    | (with_reducible refine vc_skip ?_)
    | (with_reducible refine vc_block ?_)
    | (with_reducible refine vc_scope ?_)
    | (with_reducible refine vc_label ?_)
    | (with_reducible refine vc_condT ?_ ?_; · simp only [opsV, dV, modeV, pureV, guardV, undef, opV, callV, intV, arith, ne_eq, Nat.min_def, vsB, seval, true_and] <;> rfl)
    | (with_reducible refine vc_condF ?_ ?_; · simp only [opsV, dV, modeV, pureV, guardV, undef, opV, callV, intV, arith, ne_eq, Nat.min_def, vsB, seval, true_and] <;> rfl)
    | (with_reducible refine vc_exit ?_; simp only [↓reduceIte, Nat.reduceEqDiff])
    | (with_reducible refine vc_ret ?_; simp only [retV, resL, one])
    | (with_reducible refine hK _ _ ?_; clear hK)
    | (clear hK; with_reducible refine hK _ _ ?_; clear hK)
    | (clear hK; clear hK; with_reducible refine hK _ _ ?_; clear hK)
    | (simp only [opsV, dV, modeV, pureV, guardV, undef, opV, callV, intV, arith, ne_eq, Nat.min_def, vsB, seval, true_and]))
  refine isNaN_u64 a ?_
  repeat (first
    | (with_reducible refine vc_seq fun K hK => ?_)
    | (with_reducible refine vc_reg ?_)
    | (with_reducible refine vc_skip ?_)
    | (with_reducible refine vc_block ?_)
    | (with_reducible refine vc_scope ?_)
    | (with_reducible refine vc_label ?_)
    | (with_reducible refine vc_condT ?_ ?_; · simp only [opsV, dV, modeV, pureV, guardV, undef, opV, callV, intV, arith, ne_eq, Nat.min_def, vsB, seval, true_and] <;> rfl)
    | (with_reducible refine vc_condF ?_ ?_; · simp only [opsV, dV, modeV, pureV, guardV, undef, opV, callV, intV, arith, ne_eq, Nat.min_def, vsB, seval, true_and] <;> rfl)
    | (with_reducible refine vc_exit ?_; simp only [↓reduceIte, Nat.reduceEqDiff])
    | (with_reducible refine vc_ret ?_; simp only [retV, resL, one])
    | (with_reducible refine hK _ _ ?_; clear hK)
    | (clear hK; with_reducible refine hK _ _ ?_; clear hK)
    | (clear hK; clear hK; with_reducible refine hK _ _ ?_; clear hK)
    | (simp only [opsV, dV, modeV, pureV, guardV, undef, opV, callV, intV, arith, ne_eq, Nat.min_def, vsB, seval, true_and]))
  refine isNaN_u64 b ?_
  repeat (first
    | (with_reducible refine vc_seq fun K hK => ?_)
    | (with_reducible refine vc_reg ?_)
    | (with_reducible refine vc_skip ?_)
    | (with_reducible refine vc_block ?_)
    | (with_reducible refine vc_scope ?_)
    | (with_reducible refine vc_label ?_)
    | (with_reducible refine vc_condT ?_ ?_; · simp only [opsV, dV, modeV, pureV, guardV, undef, opV, callV, intV, arith, ne_eq, Nat.min_def, vsB, seval, true_and] <;> rfl)
    | (with_reducible refine vc_condF ?_ ?_; · simp only [opsV, dV, modeV, pureV, guardV, undef, opV, callV, intV, arith, ne_eq, Nat.min_def, vsB, seval, true_and] <;> rfl)
    | (with_reducible refine vc_exit ?_; simp only [↓reduceIte, Nat.reduceEqDiff])
    | (with_reducible refine vc_ret ?_; simp only [retV, resL, one])
    | (with_reducible refine hK _ _ ?_; clear hK)
    | (clear hK; with_reducible refine hK _ _ ?_; clear hK)
    | (clear hK; clear hK; with_reducible refine hK _ _ ?_; clear hK)
    | (simp only [opsV, dV, modeV, pureV, guardV, undef, opV, callV, intV, arith, ne_eq, Nat.min_def, vsB, seval, true_and]))
  refine vc_condD (by simp only [opsV, dV, modeV, pureV, guardV, undef, opV, callV, intV, arith, ne_eq, Nat.min_def, vsB, seval, true_and] <;> rfl) (fun ht => ?_) (fun ht => ?_)
  · repeat (first
      | (with_reducible refine vc_seq fun K hK => ?_)
      | (with_reducible refine vc_reg ?_)
      | (with_reducible refine vc_skip ?_)
      | (with_reducible refine vc_block ?_)
      | (with_reducible refine vc_scope ?_)
      | (with_reducible refine vc_label ?_)
      | (with_reducible refine vc_condT ?_ ?_; · simp only [opsV, dV, modeV, pureV, guardV, undef, opV, callV, intV, arith, ne_eq, Nat.min_def, vsB, seval, true_and] <;> rfl)
      | (with_reducible refine vc_condF ?_ ?_; · simp only [opsV, dV, modeV, pureV, guardV, undef, opV, callV, intV, arith, ne_eq, Nat.min_def, vsB, seval, true_and] <;> rfl)
      | (with_reducible refine vc_exit ?_; simp only [↓reduceIte, Nat.reduceEqDiff])
      | (with_reducible refine vc_ret ?_; simp only [retV, resL, one])
      | (with_reducible refine hK _ _ ?_; clear hK)
      | (clear hK; with_reducible refine hK _ _ ?_; clear hK)
      | (clear hK; clear hK; with_reducible refine hK _ _ ?_; clear hK)
      | (simp only [opsV, dV, modeV, pureV, guardV, undef, opV, callV, intV, arith, ne_eq, Nat.min_def, vsB, seval, true_and]))
    simpa [cmpI, ht] using h
  have ht1 := ht; clear ht
  repeat (first
    | (with_reducible refine vc_seq fun K hK => ?_)
    | (with_reducible refine vc_reg ?_)
    | (with_reducible refine vc_skip ?_)
    | (with_reducible refine vc_block ?_)
    | (with_reducible refine vc_scope ?_)
    | (with_reducible refine vc_label ?_)
    | (with_reducible refine vc_condT ?_ ?_; · simp only [opsV, dV, modeV, pureV, guardV, undef, opV, callV, intV, arith, ne_eq, Nat.min_def, vsB, seval, true_and] <;> rfl)
    | (with_reducible refine vc_condF ?_ ?_; · simp only [opsV, dV, modeV, pureV, guardV, undef, opV, callV, intV, arith, ne_eq, Nat.min_def, vsB, seval, true_and] <;> rfl)
    | (with_reducible refine vc_exit ?_; simp only [↓reduceIte, Nat.reduceEqDiff])
    | (with_reducible refine vc_ret ?_; simp only [retV, resL, one])
    | (with_reducible refine hK _ _ ?_; clear hK)
    | (clear hK; with_reducible refine hK _ _ ?_; clear hK)
    | (clear hK; clear hK; with_reducible refine hK _ _ ?_; clear hK)
    | (simp only [opsV, dV, modeV, pureV, guardV, undef, opV, callV, intV, arith, ne_eq, Nat.min_def, vsB, seval, true_and]))
  refine vc_condD (by simp only [opsV, dV, modeV, pureV, guardV, undef, opV, callV, intV, arith, ne_eq, Nat.min_def, vsB, seval, true_and] <;> rfl) (fun ht => ?_) (fun ht => ?_)
  · repeat (first
      | (with_reducible refine vc_seq fun K hK => ?_)
      | (with_reducible refine vc_reg ?_)
      | (with_reducible refine vc_skip ?_)
      | (with_reducible refine vc_block ?_)
      | (with_reducible refine vc_scope ?_)
      | (with_reducible refine vc_label ?_)
      | (with_reducible refine vc_condT ?_ ?_; · simp only [opsV, dV, modeV, pureV, guardV, undef, opV, callV, intV, arith, ne_eq, Nat.min_def, vsB, seval, true_and] <;> rfl)
      | (with_reducible refine vc_condF ?_ ?_; · simp only [opsV, dV, modeV, pureV, guardV, undef, opV, callV, intV, arith, ne_eq, Nat.min_def, vsB, seval, true_and] <;> rfl)
      | (with_reducible refine vc_exit ?_; simp only [↓reduceIte, Nat.reduceEqDiff])
      | (with_reducible refine vc_ret ?_; simp only [retV, resL, one])
      | (with_reducible refine hK _ _ ?_; clear hK)
      | (clear hK; with_reducible refine hK _ _ ?_; clear hK)
      | (clear hK; clear hK; with_reducible refine hK _ _ ?_; clear hK)
      | (simp only [opsV, dV, modeV, pureV, guardV, undef, opV, callV, intV, arith, ne_eq, Nat.min_def, vsB, seval, true_and]))
    simpa [cmpI, ht, ht1] using h
  · repeat (first
      | (with_reducible refine vc_seq fun K hK => ?_)
      | (with_reducible refine vc_reg ?_)
      | (with_reducible refine vc_skip ?_)
      | (with_reducible refine vc_block ?_)
      | (with_reducible refine vc_scope ?_)
      | (with_reducible refine vc_label ?_)
      | (with_reducible refine vc_condT ?_ ?_; · simp only [opsV, dV, modeV, pureV, guardV, undef, opV, callV, intV, arith, ne_eq, Nat.min_def, vsB, seval, true_and] <;> rfl)
      | (with_reducible refine vc_condF ?_ ?_; · simp only [opsV, dV, modeV, pureV, guardV, undef, opV, callV, intV, arith, ne_eq, Nat.min_def, vsB, seval, true_and] <;> rfl)
      | (with_reducible refine vc_exit ?_; simp only [↓reduceIte, Nat.reduceEqDiff])
      | (with_reducible refine vc_ret ?_; simp only [retV, resL, one])
      | (with_reducible refine hK _ _ ?_; clear hK)
      | (clear hK; with_reducible refine hK _ _ ?_; clear hK)
      | (clear hK; clear hK; with_reducible refine hK _ _ ?_; clear hK)
      | (simp only [opsV, dV, modeV, pureV, guardV, undef, opV, callV, intV, arith, ne_eq, Nat.min_def, vsB, seval, true_and]))
    simpa [cmpI, ht, ht1] using h

/-! ### math/bits -/

theorem mul64 {w : World} {K : Value → World → Prop} (x y : Nat) (hx : x < 18446744073709551616) (hy : y < 18446744073709551616)
    (h : K (.tuple [Value.int .u64 ((x * y / 18446744073709551616 : Nat) : Int), Value.int .u64 ((x * y % 18446744073709551616 : Nat) : Int)].toArray) w) :
    FC Tryd.prog 88 #[.int .u64 (x : Int), .int .u64 (y : Int)] w K := by
  obtain ⟨m1, m2, m3, m4⟩ := Lib.mul64_hi x y hx hy
  have hlt : x * y / 18446744073709551616 < 18446744073709551616 := by
    rw [Nat.div_lt_iff_lt_mul (by decide)]
    exact Nat.mul_lt_mul'' hx hy
  refine FC.body (l := [.int .u64 (x : Int), .int .u64 (y : Int)]) (rs := [.tmp 4, .tmp 5]) mixed Tryd.func88 rfl (by kernel_rfl) (by kernel_rfl) (Nat.le_of_ble_eq_true rfl) rfl ?_
  have n1 : x / 4294967296 * (y % 4294967296) < 18446744073709551616 := Nat.lt_of_le_of_lt (Nat.le_add_right _ _) m2
  have n2 : x % 4294967296 * (y / 4294967296) < 18446744073709551616 := Nat.lt_of_le_of_lt (Nat.le_add_left _ _) m3
  have n3 : x / 4294967296 * (y / 4294967296) < 18446744073709551616 := by
    refine Nat.lt_of_le_of_lt ?_ hlt
    rw [← m4, Nat.add_assoc]; exact Nat.le_add_right _ _
  have n4 : x / 4294967296 * (y / 4294967296) + (x / 4294967296 * (y % 4294967296) + x % 4294967296 * (y % 4294967296) / 4294967296) / 4294967296 < 18446744073709551616 := by
    refine Nat.lt_of_le_of_lt ?_ hlt
    rw [← m4]; exact Nat.le_add_right _ _
  repeat (first
    | (with_reducible refine vc_seq fun K hK => ?_)
    | (with_reducible refine vc_reg ?_)
    | (with_reducible refine vc_skip ?_)
    | (with_reducible refine vc_block ?_)
    | (with_reducible refine vc_scope ?_)
    | (with_reducible refine vc_label ?_)
    | (with_reducible refine vc_condT ?_ ?_; · simp only [opsV, dV, modeV, pureV, guardV, undef, opV, callV, intV, arith, ne_eq, Nat.min_def, vsB, seval, low32 x hx, low32 y hy, Nat.mod_eq_of_lt m1, Nat.mod_eq_of_lt n1, Nat.mod_eq_of_lt m2, low32 _ m2, Nat.mod_eq_of_lt n2, Nat.mod_eq_of_lt m3, Nat.mod_eq_of_lt n3, Nat.mod_eq_of_lt n4, m4, Nat.mod_eq_of_lt hlt] <;> rfl)
    | (with_reducible refine vc_condF ?_ ?_; · simp only [opsV, dV, modeV, pureV, guardV, undef, opV, callV, intV, arith, ne_eq, Nat.min_def, vsB, seval, low32 x hx, low32 y hy, Nat.mod_eq_of_lt m1, Nat.mod_eq_of_lt n1, Nat.mod_eq_of_lt m2, low32 _ m2, Nat.mod_eq_of_lt n2, Nat.mod_eq_of_lt m3, Nat.mod_eq_of_lt n3, Nat.mod_eq_of_lt n4, m4, Nat.mod_eq_of_lt hlt] <;> rfl)
    | (with_reducible refine vc_exit ?_; simp only [↓reduceIte, Nat.reduceEqDiff])
    | (with_reducible refine vc_ret ?_; simp only [retV, resL, one])
    | (with_reducible refine hK _ _ ?_; clear hK)
    | (clear hK; with_reducible refine hK _ _ ?_; clear hK)
    | (clear hK; clear hK; with_reducible refine hK _ _ ?_; clear hK)
    | (simp only [opsV, dV, modeV, pureV, guardV, undef, opV, callV, intV, arith, ne_eq, Nat.min_def, vsB, seval, low32 x hx, low32 y hy, Nat.mod_eq_of_lt m1, Nat.mod_eq_of_lt n1, Nat.mod_eq_of_lt m2, low32 _ m2, Nat.mod_eq_of_lt n2, Nat.mod_eq_of_lt m3, Nat.mod_eq_of_lt n3, Nat.mod_eq_of_lt n4, m4, Nat.mod_eq_of_lt hlt]))
  exact h

theorem ix_str {P : Program} {t : TypeId} (ht : P.underlying t = some .string) {s s' : ByteArray} (hs : s = s') {k : IntKind} {i : Nat} {c : UInt8} (hc : s'.data.toList[i]? = some c) : IxV P t (.string s) (.int k (i : Int)) (.int .u8 (c.toNat : Int)) := by
  subst hs
  intro w
  have : s[i]? = some c := by
    have hlt : i < s.size := by
      have := (List.getElem?_eq_some_iff.1 hc).1
      simpa using this
    rw [getElem?_pos s i hlt]
    obtain ⟨h1, h2⟩ := List.getElem?_eq_some_iff.1 hc
    rw [← h2]
    rfl
  unfold Does Instr.index
  simp [asIntOf, run_underlying ht, this]

def lenTab : ByteArray := ⟨((List.range 256).map fun i => UInt8.ofNat (bitLen i)).toArray⟩
theorem bitLen_le {n k : Nat} (h : n < 2 ^ k) : bitLen n ≤ k := by
  unfold bitLen
  split
  · omega
  · rename_i h0
    have := (Nat.log2_lt h0).2 h
    omega

theorem len64 {w : World} {K : Value → World → Prop} (x : Nat) (hx : x < 18446744073709551616) (h : K (.int .i64 ((bitLen x : Nat) : Int)) w) : FC Tryd.prog 65 #[.int .u64 (x : Int)] w K := by
  refine FC.body (l := [.int .u64 (x : Int)]) (rs := [.tmp 2]) mixed Tryd.func65 rfl (by kernel_rfl) (by kernel_rfl) (Nat.le_of_ble_eq_true rfl) rfl ?_
  with_reducible refine vc_seq fun K hK => ?_
  with_reducible refine vc_reg ?_
  simp only [opsV, dV, modeV, pureV, guardV, undef, opV, callV, intV, arith, ne_eq, Nat.min_def, vsB, seval, true_and]
  refine hK _ _ ?_
  clear hK K
  refine vc_seq fun K hK => ?_
  have J1 : ∀ (e : Env) (y n : Nat), y < 4294967296 → n ≤ 32 → bitLen x = n + bitLen y → e 0 = .int .u64 (y : Int) → e 2 = .int .i64 (n : Int) → K e w := by
    intro e y n hy hn hl h0 h2
    refine hK _ _ ?_
    clear hK K
    refine vc_seq fun K hK => ?_
    have J2 : ∀ (e : Env) (y n : Nat), y < 65536 → n ≤ 48 → bitLen x = n + bitLen y → e 0 = .int .u64 (y : Int) → e 2 = .int .i64 (n : Int) → K e w := by
      intro e y n hy hn hl h0 h2
      refine hK _ _ ?_
      clear hK K
      refine vc_seq fun K hK => ?_
      have J3 : ∀ (e : Env) (y n : Nat), y < 256 → n ≤ 56 → bitLen x = n + bitLen y → e 0 = .int .u64 (y : Int) → e 2 = .int .i64 (n : Int) → K e w := by
        intro e y n hy hn hl h0 h2
        refine hK _ _ ?_
        clear hK K
        refine vc_seq fun K hK => ?_
        have hb := bitLen_le (n := y) (k := 8) hy
        refine vc_reg ?_
        simp only [opsV, dV, modeV, pureV, guardV, undef, opV, callV, intV, arith, ne_eq, Nat.min_def, vsB, seval, true_and, h0, h2, convV_int Tryd.underlying5, Tryd.underlying54, Option.isSome_some, Nat.mod_eq_of_lt hy]
        refine ⟨_, ix_str Tryd.underlying9 (s' := lenTab) (by kernel_rfl) (c := UInt8.ofNat (bitLen y)) (by simp [lenTab, hy]), ?_⟩
        have e1 : ((UInt8.ofNat (bitLen y)).toNat : Int) = ((bitLen y : Nat) : Int) := by
          rw [UInt8.toNat_ofNat']
          congr 1
          omega
        have e2 : IntKind.i64.wrap ((bitLen y : Nat) : Int) = ((bitLen y : Nat) : Int) := R64.wrap (by unfold R64; omega)
        simp only [opsV, dV, modeV, pureV, guardV, undef, opV, callV, intV, arith, ne_eq, Nat.min_def, vsB, seval, true_and, e1, e2, convV_int Tryd.underlying3, Tryd.underlying5, Option.isSome_some]
        refine ⟨(by unfold R64; omega), ?_⟩
        repeat (first
          | (with_reducible refine vc_seq fun K hK => ?_)
          | (with_reducible refine vc_reg ?_)
          | (with_reducible refine vc_skip ?_)
          | (with_reducible refine vc_block ?_)
          | (with_reducible refine vc_scope ?_)
          | (with_reducible refine vc_label ?_)
          | (with_reducible refine vc_condT ?_ ?_; · simp only [opsV, dV, modeV, pureV, guardV, undef, opV, callV, intV, arith, ne_eq, Nat.min_def, vsB, seval, true_and] <;> rfl)
          | (with_reducible refine vc_condF ?_ ?_; · simp only [opsV, dV, modeV, pureV, guardV, undef, opV, callV, intV, arith, ne_eq, Nat.min_def, vsB, seval, true_and] <;> rfl)
          | (with_reducible refine vc_exit ?_; simp only [↓reduceIte, Nat.reduceEqDiff])
          | (with_reducible refine vc_ret ?_; simp only [retV, resL, one])
          | (with_reducible refine hK _ _ ?_; clear hK)
          | (clear hK; with_reducible refine hK _ _ ?_; clear hK)
          | (clear hK; clear hK; with_reducible refine hK _ _ ?_; clear hK)
          | (simp only [opsV, dV, modeV, pureV, guardV, undef, opV, callV, intV, arith, ne_eq, Nat.min_def, vsB, seval, true_and]))
        rw [← hl]
        exact h
      clear hK
      repeat (first
        | (with_reducible refine vc_seq fun K hK => ?_)
        | (with_reducible refine vc_reg ?_)
        | (with_reducible refine vc_skip ?_)
        | (with_reducible refine vc_block ?_)
        | (with_reducible refine vc_scope ?_)
        | (with_reducible refine vc_label ?_)
        | (with_reducible refine vc_condT ?_ ?_; · simp only [opsV, dV, modeV, pureV, guardV, undef, opV, callV, intV, arith, ne_eq, Nat.min_def, vsB, seval, h0, h2] <;> rfl)
        | (with_reducible refine vc_condF ?_ ?_; · simp only [opsV, dV, modeV, pureV, guardV, undef, opV, callV, intV, arith, ne_eq, Nat.min_def, vsB, seval, h0, h2] <;> rfl)
        | (with_reducible refine vc_exit ?_; simp only [↓reduceIte, Nat.reduceEqDiff])
        | (with_reducible refine vc_ret ?_; simp only [retV, resL, one])
        | (with_reducible refine hK _ _ ?_; clear hK)
        | (clear hK; with_reducible refine hK _ _ ?_; clear hK)
        | (clear hK; clear hK; with_reducible refine hK _ _ ?_; clear hK)
        | (simp only [opsV, dV, modeV, pureV, guardV, undef, opV, callV, intV, arith, ne_eq, Nat.min_def, vsB, seval, h0, h2]))
      refine vc_condD (by simp only [opsV, dV, modeV, pureV, guardV, undef, opV, callV, intV, arith, ne_eq, Nat.min_def, vsB, seval, h0, h2] <;> rfl) (fun ht => ?_) (fun ht => ?_)
      · have hs : bitLen y = 8 + bitLen (y / 256) := bitLen_shift y 8 (by omega)
        refine vc_seq fun K hK => ?_
        refine vc_reg ?_
        simp only [opsV, dV, modeV, pureV, guardV, undef, opV, callV, intV, arith, ne_eq, Nat.min_def, vsB, seval, h0, h2]
        refine hK _ _ ?_
        clear hK K
        refine vc_reg ?_
        simp only [opsV, dV, modeV, pureV, guardV, undef, opV, callV, intV, arith, ne_eq, Nat.min_def, vsB, seval, h0, h2]
        refine ⟨(by unfold R64; omega), ?_⟩
        refine J3 _ (y / 256) (n + 8) (by omega) (by omega) (by omega) (by simp only [opsV, dV, modeV, pureV, guardV, undef, opV, callV, intV, arith, ne_eq, Nat.min_def, vsB, seval, h0, h2] <;> rfl) (by simp only [opsV, dV, modeV, pureV, guardV, undef, opV, callV, intV, arith, ne_eq, Nat.min_def, vsB, seval, h0, h2] <;> rfl)
      · refine vc_skip ?_
        refine J3 _ y n (by omega) (by omega) hl (by simp only [opsV, dV, modeV, pureV, guardV, undef, opV, callV, intV, arith, ne_eq, Nat.min_def, vsB, seval, h0, h2] <;> rfl) (by simp only [opsV, dV, modeV, pureV, guardV, undef, opV, callV, intV, arith, ne_eq, Nat.min_def, vsB, seval, h0, h2] <;> rfl)
    clear hK
    repeat (first
      | (with_reducible refine vc_seq fun K hK => ?_)
      | (with_reducible refine vc_reg ?_)
      | (with_reducible refine vc_skip ?_)
      | (with_reducible refine vc_block ?_)
      | (with_reducible refine vc_scope ?_)
      | (with_reducible refine vc_label ?_)
      | (with_reducible refine vc_condT ?_ ?_; · simp only [opsV, dV, modeV, pureV, guardV, undef, opV, callV, intV, arith, ne_eq, Nat.min_def, vsB, seval, h0, h2] <;> rfl)
      | (with_reducible refine vc_condF ?_ ?_; · simp only [opsV, dV, modeV, pureV, guardV, undef, opV, callV, intV, arith, ne_eq, Nat.min_def, vsB, seval, h0, h2] <;> rfl)
      | (with_reducible refine vc_exit ?_; simp only [↓reduceIte, Nat.reduceEqDiff])
      | (with_reducible refine vc_ret ?_; simp only [retV, resL, one])
      | (with_reducible refine hK _ _ ?_; clear hK)
      | (clear hK; with_reducible refine hK _ _ ?_; clear hK)
      | (clear hK; clear hK; with_reducible refine hK _ _ ?_; clear hK)
      | (simp only [opsV, dV, modeV, pureV, guardV, undef, opV, callV, intV, arith, ne_eq, Nat.min_def, vsB, seval, h0, h2]))
    refine vc_condD (by simp only [opsV, dV, modeV, pureV, guardV, undef, opV, callV, intV, arith, ne_eq, Nat.min_def, vsB, seval, h0, h2] <;> rfl) (fun ht => ?_) (fun ht => ?_)
    · have hs : bitLen y = 16 + bitLen (y / 65536) := bitLen_shift y 16 (by omega)
      refine vc_seq fun K hK => ?_
      refine vc_reg ?_
      simp only [opsV, dV, modeV, pureV, guardV, undef, opV, callV, intV, arith, ne_eq, Nat.min_def, vsB, seval, h0, h2]
      refine hK _ _ ?_
      clear hK K
      refine vc_reg ?_
      simp only [opsV, dV, modeV, pureV, guardV, undef, opV, callV, intV, arith, ne_eq, Nat.min_def, vsB, seval, h0, h2]
      refine ⟨(by unfold R64; omega), ?_⟩
      refine J2 _ (y / 65536) (n + 16) (by omega) (by omega) (by omega) (by simp only [opsV, dV, modeV, pureV, guardV, undef, opV, callV, intV, arith, ne_eq, Nat.min_def, vsB, seval, h0, h2] <;> rfl) (by simp only [opsV, dV, modeV, pureV, guardV, undef, opV, callV, intV, arith, ne_eq, Nat.min_def, vsB, seval, h0, h2] <;> rfl)
    · refine vc_skip ?_
      refine J2 _ y n (by omega) (by omega) hl (by simp only [opsV, dV, modeV, pureV, guardV, undef, opV, callV, intV, arith, ne_eq, Nat.min_def, vsB, seval, h0, h2] <;> rfl) (by simp only [opsV, dV, modeV, pureV, guardV, undef, opV, callV, intV, arith, ne_eq, Nat.min_def, vsB, seval, h0, h2] <;> rfl)
  clear hK
  repeat (first
    | (with_reducible refine vc_seq fun K hK => ?_)
    | (with_reducible refine vc_reg ?_)
    | (with_reducible refine vc_skip ?_)
    | (with_reducible refine vc_block ?_)
    | (with_reducible refine vc_scope ?_)
    | (with_reducible refine vc_label ?_)
    | (with_reducible refine vc_condT ?_ ?_; · simp only [opsV, dV, modeV, pureV, guardV, undef, opV, callV, intV, arith, ne_eq, Nat.min_def, vsB, seval, true_and] <;> rfl)
    | (with_reducible refine vc_condF ?_ ?_; · simp only [opsV, dV, modeV, pureV, guardV, undef, opV, callV, intV, arith, ne_eq, Nat.min_def, vsB, seval, true_and] <;> rfl)
    | (with_reducible refine vc_exit ?_; simp only [↓reduceIte, Nat.reduceEqDiff])
    | (with_reducible refine vc_ret ?_; simp only [retV, resL, one])
    | (with_reducible refine hK _ _ ?_; clear hK)
    | (clear hK; with_reducible refine hK _ _ ?_; clear hK)
    | (clear hK; clear hK; with_reducible refine hK _ _ ?_; clear hK)
    | (simp only [opsV, dV, modeV, pureV, guardV, undef, opV, callV, intV, arith, ne_eq, Nat.min_def, vsB, seval, true_and]))
  refine vc_condD (by simp only [opsV, dV, modeV, pureV, guardV, undef, opV, callV, intV, arith, ne_eq, Nat.min_def, vsB, seval, true_and] <;> rfl) (fun ht => ?_) (fun ht => ?_)
  · have hs : bitLen x = 32 + bitLen (x / 4294967296) := bitLen_shift x 32 (by omega)
    repeat (first
      | (with_reducible refine vc_seq fun K hK => ?_)
      | (with_reducible refine vc_reg ?_)
      | (with_reducible refine vc_skip ?_)
      | (with_reducible refine vc_block ?_)
      | (with_reducible refine vc_scope ?_)
      | (with_reducible refine vc_label ?_)
      | (with_reducible refine vc_condT ?_ ?_; · simp only [opsV, dV, modeV, pureV, guardV, undef, opV, callV, intV, arith, ne_eq, Nat.min_def, vsB, seval, true_and] <;> rfl)
      | (with_reducible refine vc_condF ?_ ?_; · simp only [opsV, dV, modeV, pureV, guardV, undef, opV, callV, intV, arith, ne_eq, Nat.min_def, vsB, seval, true_and] <;> rfl)
      | (with_reducible refine vc_exit ?_; simp only [↓reduceIte, Nat.reduceEqDiff])
      | (with_reducible refine vc_ret ?_; simp only [retV, resL, one])
      | (with_reducible refine hK _ _ ?_; clear hK)
      | (clear hK; with_reducible refine hK _ _ ?_; clear hK)
      | (clear hK; clear hK; with_reducible refine hK _ _ ?_; clear hK)
      | (simp only [opsV, dV, modeV, pureV, guardV, undef, opV, callV, intV, arith, ne_eq, Nat.min_def, vsB, seval, true_and]))
    refine J1 _ (x / 4294967296) 32 (by omega) (by omega) hs (by simp only [opsV, dV, modeV, pureV, guardV, undef, opV, callV, intV, arith, ne_eq, Nat.min_def, vsB, seval, true_and] <;> rfl) (by simp only [opsV, dV, modeV, pureV, guardV, undef, opV, callV, intV, arith, ne_eq, Nat.min_def, vsB, seval, true_and] <;> rfl)
  · repeat (first
      | (with_reducible refine vc_seq fun K hK => ?_)
      | (with_reducible refine vc_reg ?_)
      | (with_reducible refine vc_skip ?_)
      | (with_reducible refine vc_block ?_)
      | (with_reducible refine vc_scope ?_)
      | (with_reducible refine vc_label ?_)
      | (with_reducible refine vc_condT ?_ ?_; · simp only [opsV, dV, modeV, pureV, guardV, undef, opV, callV, intV, arith, ne_eq, Nat.min_def, vsB, seval, true_and] <;> rfl)
      | (with_reducible refine vc_condF ?_ ?_; · simp only [opsV, dV, modeV, pureV, guardV, undef, opV, callV, intV, arith, ne_eq, Nat.min_def, vsB, seval, true_and] <;> rfl)
      | (with_reducible refine vc_exit ?_; simp only [↓reduceIte, Nat.reduceEqDiff])
      | (with_reducible refine vc_ret ?_; simp only [retV, resL, one])
      | (with_reducible refine hK _ _ ?_; clear hK)
      | (clear hK; with_reducible refine hK _ _ ?_; clear hK)
      | (clear hK; clear hK; with_reducible refine hK _ _ ?_; clear hK)
      | (simp only [opsV, dV, modeV, pureV, guardV, undef, opV, callV, intV, arith, ne_eq, Nat.min_def, vsB, seval, true_and]))
    refine J1 _ x 0 (by omega) (by omega) (by omega) (by simp only [opsV, dV, modeV, pureV, guardV, undef, opV, callV, intV, arith, ne_eq, Nat.min_def, vsB, seval, true_and] <;> rfl) (by simp only [opsV, dV, modeV, pureV, guardV, undef, opV, callV, intV, arith, ne_eq, Nat.min_def, vsB, seval, true_and] <;> rfl)


/-- The table of math/bits lies where its variable has its place. -/
def Tab (H : Array Obj) : Prop := ∀ i, i < 64 → cellH H ⟨0, i, none⟩ = some (.int .u8 ((Lib.deBruijn64tab.getD i 0 : Nat) : Int))
theorem Tab.up {w w' : World} (h : Tab w.heap) (hE : Ext w w') : Tab w'.heap := by
  intro i hi
  have := h i hi
  rw [← cell_eq] at this ⊢
  rw [← this]
  exact hE.cell (World.block_lt_of_cell? w _ this)

theorem ix_arr {P : Program} {t el n : Nat} (ht : P.underlying t = some (.array n el)) (hs : scalB P el = true) {b : Nat} {k : IntKind} {i : Nat} (hi : i < n) : IxA P t (.pointer (some ⟨b, 0, none⟩)) (.int k (i : Int)) ⟨b, i, none⟩ := by
  intro w
  unfold Does Instr.indexAt Instr.sureAddr
  simp [asIntOf, run_underlying ht, scal_size hs, hi, addr_add]

theorem S8 : scalB Tryd.prog 5 = true := by kernel_rfl
theorem wrap64_neg (x : Nat) (h0 : x ≠ 0) (hx : x < 18446744073709551616) : IntKind.u64.wrap (0 - (x : Int)) = ((18446744073709551616 - x : Nat) : Int) := by
  rw [wrap64_i]; omega
theorem mul_bruijn (a : Nat) : (a : Int) * 285870213051353865 = ((a * 285870213051353865 : Nat) : Int) := by simp
theorem tz64 {w : World} {K : Value → World → Prop} (hT : Tab w.heap) (x : Nat) (hx : x < 18446744073709551616) (h0 : x ≠ 0) (h : K (.int .i64 ((Lib.ctz 64 x : Nat) : Int)) w) : FC Tryd.prog 66 #[.int .u64 (x : Int)] w K := by
  obtain ⟨h1, h2⟩ := Lib.lowest_bit 64 x h0 hx
  obtain ⟨h3, h4⟩ := Lib.deBruijn64_at _ h2
  have h5 : x &&& (18446744073709551616 - x) = 2 ^ Lib.ctz 64 x := h1
  have hw : IntKind.i64.wrap ((Lib.ctz 64 x : Nat) : Int) = ((Lib.ctz 64 x : Nat) : Int) := R64.wrap (by unfold R64; omega)
  refine FC.body (l := [.int .u64 (x : Int)]) (rs := [.tmp 2]) mixed Tryd.func66 rfl (by kernel_rfl) (by kernel_rfl) (Nat.le_of_ble_eq_true rfl) rfl ?_
  repeat (first
    | (with_reducible refine vc_seq fun K hK => ?_)
    | (with_reducible refine vc_reg ?_)
    | (with_reducible refine vc_skip ?_)
    | (with_reducible refine vc_block ?_)
    | (with_reducible refine vc_scope ?_)
    | (with_reducible refine vc_label ?_)
    | (with_reducible refine vc_condT ?_ ?_; · simp only [opsV, dV, modeV, pureV, guardV, undef, opV, callV, intV, arith, ne_eq, Nat.min_def, vsB, seval, h0, wrap64_neg x h0 hx, and64_nat x (18446744073709551616 - x) hx (by omega), h5, mul_bruijn, shr58, convV_int Tryd.underlying3, Tryd.underlying5, Option.isSome_some, hw] <;> rfl)
    | (with_reducible refine vc_condF ?_ ?_; · simp only [opsV, dV, modeV, pureV, guardV, undef, opV, callV, intV, arith, ne_eq, Nat.min_def, vsB, seval, h0, wrap64_neg x h0 hx, and64_nat x (18446744073709551616 - x) hx (by omega), h5, mul_bruijn, shr58, convV_int Tryd.underlying3, Tryd.underlying5, Option.isSome_some, hw] <;> rfl)
    | (with_reducible refine vc_exit ?_; simp only [↓reduceIte, Nat.reduceEqDiff])
    | (with_reducible refine vc_ret ?_; simp only [retV, resL, one])
    | (with_reducible refine hK _ _ ?_; clear hK)
    | (clear hK; with_reducible refine hK _ _ ?_; clear hK)
    | (clear hK; clear hK; with_reducible refine hK _ _ ?_; clear hK)
    | (simp only [opsV, dV, modeV, pureV, guardV, undef, opV, callV, intV, arith, ne_eq, Nat.min_def, vsB, seval, h0, wrap64_neg x h0 hx, and64_nat x (18446744073709551616 - x) hx (by omega), h5, mul_bruijn, shr58, convV_int Tryd.underlying3, Tryd.underlying5, Option.isSome_some, hw]))
  refine ⟨_, ix_arr Tryd.underlying84 S8 h3, _, ld_scal S8 (hT _ h3), ?_⟩
  rw [h4]
  repeat (first
    | (with_reducible refine vc_seq fun K hK => ?_)
    | (with_reducible refine vc_reg ?_)
    | (with_reducible refine vc_skip ?_)
    | (with_reducible refine vc_block ?_)
    | (with_reducible refine vc_scope ?_)
    | (with_reducible refine vc_label ?_)
    | (with_reducible refine vc_condT ?_ ?_; · simp only [opsV, dV, modeV, pureV, guardV, undef, opV, callV, intV, arith, ne_eq, Nat.min_def, vsB, seval, h0, wrap64_neg x h0 hx, and64_nat x (18446744073709551616 - x) hx (by omega), h5, mul_bruijn, shr58, convV_int Tryd.underlying3, Tryd.underlying5, Option.isSome_some, hw] <;> rfl)
    | (with_reducible refine vc_condF ?_ ?_; · simp only [opsV, dV, modeV, pureV, guardV, undef, opV, callV, intV, arith, ne_eq, Nat.min_def, vsB, seval, h0, wrap64_neg x h0 hx, and64_nat x (18446744073709551616 - x) hx (by omega), h5, mul_bruijn, shr58, convV_int Tryd.underlying3, Tryd.underlying5, Option.isSome_some, hw] <;> rfl)
    | (with_reducible refine vc_exit ?_; simp only [↓reduceIte, Nat.reduceEqDiff])
    | (with_reducible refine vc_ret ?_; simp only [retV, resL, one])
    | (with_reducible refine hK _ _ ?_; clear hK)
    | (clear hK; with_reducible refine hK _ _ ?_; clear hK)
    | (clear hK; clear hK; with_reducible refine hK _ _ ?_; clear hK)
    | (simp only [opsV, dV, modeV, pureV, guardV, undef, opV, callV, intV, arith, ne_eq, Nat.min_def, vsB, seval, h0, wrap64_neg x h0 hx, and64_nat x (18446744073709551616 - x) hx (by omega), h5, mul_bruijn, shr58, convV_int Tryd.underlying3, Tryd.underlying5, Option.isSome_some, hw]))
  exact h

attribute [go_sem] dV modeV pureV guardV gv_bool gv_tuple opV callV boolV_bool tupV_lit optV_some ptrV_ptr ev_tmp ev_const ev_global ev_func put_some put_none upd_apply cond_true cond_false argE_apply List.getElem?_toArray List.map_toArray List.map_cons List.map_nil List.getElem?_cons_zero List.getElem?_cons_succ List.getElem?_nil List.getD_cons_zero List.getD_cons_succ Option.map_some Option.map_none Option.bind_some true_and and_true cast_add cast_add_one cast_succ_sub cast_zero_lt cast_zero_le cast_eq_zero Int.ofNat_lt Int.ofNat_le Int.natCast_inj Int.toNat_natCast ne_eq decide_true decide_false Nat.min_def bits_u64 bits_u32 bits_u8 bits_i64 cast_mul wrap64_nat wrap32_nat wrap8_nat tdiv_nat tmod_nat shl_pow shr_pow shr1 shr8 shr16 shr32 lapp_cons lapp_nil

end Go.V

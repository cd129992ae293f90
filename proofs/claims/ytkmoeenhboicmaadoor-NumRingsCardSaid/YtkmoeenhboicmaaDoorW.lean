/- Memory in the calculus of V: slices that are read, rows that a call owns; the steps of a walk. No program in sight. -/
import Derived.Test.YtkmoeenhboicmaaDoorV
set_option linter.unusedSimpArgs false
set_option linter.unusedVariables false
namespace Go.V
open Go Go.RowKit

/-! ### Steps of a walk -/

/-- The loops of a piece of code, the outer ones first. -/
def loopsOf : Code → List Code
  | .seq a b => loopsOf a ++ loopsOf b
  | .cond _ a b => loopsOf a ++ loopsOf b
  | .block _ c => loopsOf c
  | .scope c => loopsOf c
  | .loop c => .loop c :: loopsOf c
  | _ => []
def nthLoop (f : Func) (k : Nat) : Code := match f.body with
  | some c => (loopsOf c).getD k .skip
  | none => .skip


def argE (l : List Value) : Env := fun i => l.getD i undef
theorem argE_apply (l : List Value) (i : Nat) : argE l i = l.getD i undef := rfl

section
variable {P : Program} {w : World}

theorem FC.body (hm : P.follows .mixedOrders = true) {f : FuncId} {fn : Func} {c : Code} {l : List Value} {rs : List ResultVar} {K : Value → World → Prop} (hf : P.funcs[f]? = some fn) (hb : fn.body = some c)
    (hn : (fn.name == "runtime.NumGoroutine") = false) (hfit : fits fn.ntmps c = true) (hargs : l.length ≤ fn.ntmps) (hrs : fn.results.toList = rs)
    (h : vc P c (retV P rs K) (fun _ _ _ => False) (retV P rs K) (argE l) w) : FC P f l.toArray w K := by
  subst hrs
  refine FC.of_body hm hf hb hn hfit (by simpa using hargs) ?_
  have : (fun i => l.toArray.getD i undef) = argE l := by funext i; simp [argE]
  rw [this]; exact h

variable {N : Env → World → Prop} {X : Nat → Env → World → Prop} {R : Env → World → Prop} {e : Env}

theorem vc_seq {a b : Code} (h : ∀ K : Env → World → Prop, (∀ e w, vc P b N X R e w → K e w) → vc P a K X R e w) : vc P (.seq a b) N X R e w := h _ fun _ _ h => h
theorem vc_reg {id : Nat} {l : List Oper} (h : opsV P l N l e w) : vc P (.region id l.toArray false) N X R e w := h
theorem vc_draw {id : Nat} {l : List Oper} (pl : List (Nat × Nat)) (hp : planOk l.toArray pl = true) (h : dV P l N pl e w.drew) : vc P (.region id l.toArray true) N X R e w := ⟨pl, hp, h⟩
/-- An operation without its edges and its place. -/
def lite (o : Oper) : Oper := { o with pos := "", after := #[] }
theorem guardV_lite (ops : List Oper) (o : Oper) (e : Env) (run skip : Prop) : guardV (ops.map lite) (lite o) e run skip = guardV ops o e run skip := by
  unfold guardV
  have hd : ∀ j : Nat, ((ops.map lite)[j]?).bind (·.dst) = (ops[j]?).bind (·.dst) := by
    intro j
    rw [List.getElem?_map]
    cases ops[j]? <;> rfl
  simp only [hd]
  rfl
theorem opsV_lite (ops : List Oper) : ∀ (l : List Oper) (e : Env) (w : World), opsV P (ops.map lite) N (l.map lite) e w = opsV P ops N l e w
  | [], _, _ => rfl
  | o :: r, e, w => by
    simp only [List.map_cons, opsV, guardV_lite]
    have h1 : ∀ K, opV P (lite o) e w K = opV P o e w K := fun _ => rfl
    have h2 : (lite o).dst = o.dst := rfl
    simp only [h1, h2, opsV_lite ops r]
theorem vc_regL {id : Nat} {l : List Oper} (l' : List Oper) (hl : l.map lite = l') (h : opsV P l' N l' e w) : vc P (.region id l.toArray false) N X R e w := by
  subst hl
  rw [opsV_lite] at h
  exact vc_reg h

theorem vc_skip (h : N e w) : vc P .skip N X R e w := h
theorem vc_exit {id : Nat} (h : X id e w) : vc P (.exit id) N X R e w := h
theorem vc_ret (h : R e w) : vc P .ret N X R e w := h
theorem vc_block {id : Nat} {c : Code} (h : vc P c N (fun j e w => if j = id then N e w else X j e w) R e w) : vc P (.block id c) N X R e w := h
theorem vc_label {l : Nat} (h : N e w) : vc P (.label l) N X R e w := h
theorem vc_scope {c : Code} (h : vc P c N X R e w) : vc P (.scope c) N X R e w := h
theorem vc_condD {c : Operand} {a b : Code} {p : Prop} {inst : Decidable p} (hc : ev e c = .bool (@decide p inst)) (hT : p → vc P a N X R e w) (hF : ¬ p → vc P b N X R e w) : vc P (.cond c a b) N X R e w := by
  simp only [vc, condV, hc]
  by_cases hp : p
  · simpa [hp] using hT hp
  · simpa [hp] using hF hp
theorem vc_condB {c : Operand} {a b : Code} {t : Bool} (hc : ev e c = .bool t) (hT : t = true → vc P a N X R e w) (hF : t = false → vc P b N X R e w) : vc P (.cond c a b) N X R e w := by
  simp only [vc, condV, hc]
  cases t
  · simpa using hF rfl
  · simpa using hT rfl
theorem vc_condT {c : Operand} {a b : Code} (hc : ev e c = .bool true) (h : vc P a N X R e w) : vc P (.cond c a b) N X R e w := vc_condB hc (fun _ => h) (fun h => by cases h)
theorem vc_condF {c : Operand} {a b : Code} (hc : ev e c = .bool false) (h : vc P b N X R e w) : vc P (.cond c a b) N X R e w := vc_condB hc (fun h => by cases h) (fun _ => h)
theorem vc_cond {c : Operand} {a b : Code} (h : condV (ev e c) (vc P a N X R e w) (vc P b N X R e w)) : vc P (.cond c a b) N X R e w := h
theorem vc_loop {c : Code} (I : Env → World → Prop) (m : Env → World → Nat) (h0 : I e w) (h : ∀ e1 w1, I e1 w1 → vc P c (fun e2 w2 => I e2 w2 ∧ m e2 w2 < m e1 w1) X R e1 w1) : vc P (.loop c) N X R e w := ⟨I, m, h0, h⟩
end

theorem fc_call {P : Program} {w : World} {f : FuncId} {a : Array Value} {l : List Value} {K : Value → World → Prop} (h : FC P f l.toArray w K) (ha : a = l.toArray) : FC P f a w K := ha ▸ h

theorem cast_add (a b : Nat) : (a : Int) + (b : Int) = ((a + b : Nat) : Int) := by omega
theorem cast_mul (a b : Nat) : (a : Int) * (b : Int) = ((a * b : Nat) : Int) := by simp
theorem wrap64_nat (n : Nat) : IntKind.u64.wrap (n : Int) = ((n % 18446744073709551616 : Nat) : Int) := by
  rw [show IntKind.u64.wrap (n : Int) = (n : Int) % 18446744073709551616 from by simp [IntKind.wrap, IntKind.bits, IntKind.signed]]
  omega
theorem wrap32_nat (n : Nat) : IntKind.u32.wrap (n : Int) = ((n % 4294967296 : Nat) : Int) := by
  rw [show IntKind.u32.wrap (n : Int) = (n : Int) % 4294967296 from by simp [IntKind.wrap, IntKind.bits, IntKind.signed]]
  omega
theorem wrap8_nat (n : Nat) : IntKind.u8.wrap (n : Int) = ((n % 256 : Nat) : Int) := by
  rw [show IntKind.u8.wrap (n : Int) = (n : Int) % 256 from by simp [IntKind.wrap, IntKind.bits, IntKind.signed]]
  omega
theorem wrap64_sub (a b : Nat) (hb : b ≤ 18446744073709551616) : IntKind.u64.wrap ((a : Int) - (b : Int)) = (((a + (18446744073709551616 - b)) % 18446744073709551616 : Nat) : Int) := by
  rw [show IntKind.u64.wrap ((a : Int) - (b : Int)) = ((a : Int) - (b : Int)) % 18446744073709551616 from by simp [IntKind.wrap, IntKind.bits, IntKind.signed]]
  omega
theorem wrap64_i (n : Int) : IntKind.u64.wrap n = n % 18446744073709551616 := by simp [IntKind.wrap, IntKind.bits, IntKind.signed]
theorem fdiv_nat (a b : Nat) : (a : Int).fdiv (b : Int) = ((a / b : Nat) : Int) := by rw [Int.fdiv_eq_ediv_of_nonneg _ (by omega)]; rfl
theorem tdiv_nat (a b : Nat) : (a : Int).tdiv (b : Int) = ((a / b : Nat) : Int) := rfl
theorem tmod_nat (a b : Nat) : (a : Int).tmod (b : Int) = ((a % b : Nat) : Int) := rfl
theorem shl_pow (a s : Nat) : (a : Int) * 2 ^ s = ((a * 2 ^ s : Nat) : Int) := by simp
theorem shr_pow (a s : Nat) : (a : Int).fdiv (2 ^ s) = ((a / 2 ^ s : Nat) : Int) := by
  rw [show ((2 : Int) ^ s) = ((2 ^ s : Nat) : Int) by simp]
  exact fdiv_nat _ _
theorem shr_nat (a s m : Nat) : (a : Int).fdiv (2 ^ (min s m)) = ((a / 2 ^ (min s m) : Nat) : Int) := by
  rw [show ((2 : Int) ^ (min s m)) = ((2 ^ (min s m) : Nat) : Int) by simp]
  exact fdiv_nat _ _
theorem shl_nat (a s m : Nat) : (a : Int) * 2 ^ (min s m) = ((a * 2 ^ (min s m) : Nat) : Int) := by simp
theorem bv_nat (k : IntKind) (n : Nat) (h : n < 2 ^ k.bits) : (BitVec.ofInt k.bits (n : Int)).toNat = n := by
  rw [BitVec.ofInt_natCast, BitVec.toNat_ofNat, Nat.mod_eq_of_lt h]
theorem and64_nat (a b : Nat) (ha : a < 18446744073709551616) (hb : b < 18446744073709551616) : bitsV .and .u64 (a : Int) (b : Int) = ((a &&& b : Nat) : Int) := by
  unfold bitsV
  simp only [BitVec.toNat_and, bv_nat .u64 a ha, bv_nat .u64 b hb]
  rw [wrap64_nat, Nat.mod_eq_of_lt (Nat.lt_of_le_of_lt Nat.and_le_left ha)]
theorem or64_nat (a b : Nat) (ha : a < 18446744073709551616) (hb : b < 18446744073709551616) : bitsV .or .u64 (a : Int) (b : Int) = ((a ||| b : Nat) : Int) := by
  unfold bitsV
  simp only [BitVec.toNat_or, bv_nat .u64 a ha, bv_nat .u64 b hb]
  rw [wrap64_nat, Nat.mod_eq_of_lt (Nat.or_lt_two_pow (n := 64) ha hb)]
theorem and32_nat (a b : Nat) (ha : a < 4294967296) (hb : b < 4294967296) : bitsV .and .u32 (a : Int) (b : Int) = ((a &&& b : Nat) : Int) := by
  unfold bitsV
  simp only [BitVec.toNat_and, bv_nat .u32 a ha, bv_nat .u32 b hb]
  rw [wrap32_nat, Nat.mod_eq_of_lt (Nat.lt_of_le_of_lt Nat.and_le_left ha)]
theorem or32_nat (a b : Nat) (ha : a < 4294967296) (hb : b < 4294967296) : bitsV .or .u32 (a : Int) (b : Int) = ((a ||| b : Nat) : Int) := by
  unfold bitsV
  simp only [BitVec.toNat_or, bv_nat .u32 a ha, bv_nat .u32 b hb]
  rw [wrap32_nat, Nat.mod_eq_of_lt (Nat.or_lt_two_pow (n := 32) ha hb)]
theorem bits_u64 : IntKind.u64.bits = 64 := rfl
theorem bits_u32 : IntKind.u32.bits = 32 := rfl
theorem bits_u8 : IntKind.u8.bits = 8 := rfl
theorem bits_i64 : IntKind.i64.bits = 64 := rfl
theorem shr1 (a : Nat) : (a : Int).fdiv 2 = ((a / 2 : Nat) : Int) := fdiv_nat a 2
theorem shr8 (a : Nat) : (a : Int).fdiv 256 = ((a / 256 : Nat) : Int) := fdiv_nat a 256
theorem shr16 (a : Nat) : (a : Int).fdiv 65536 = ((a / 65536 : Nat) : Int) := fdiv_nat a 65536
theorem shr32 (a : Nat) : (a : Int).fdiv 4294967296 = ((a / 4294967296 : Nat) : Int) := fdiv_nat a 4294967296
theorem shr58 (a : Nat) : (a : Int).fdiv 288230376151711744 = ((a / 288230376151711744 : Nat) : Int) := fdiv_nat a 288230376151711744
theorem low32 (a : Nat) (ha : a < 18446744073709551616) : bitsV .and .u64 (a : Int) 4294967295 = ((a % 4294967296 : Nat) : Int) := by
  have := and64_nat a 4294967295 ha (by decide)
  rw [show ((4294967295 : Nat) : Int) = 4294967295 from rfl] at this
  rw [this]
  congr 1
  exact Nat.and_two_pow_sub_one_eq_mod a 32
theorem cast_add_one (a : Nat) : (a : Int) + 1 = ((a + 1 : Nat) : Int) := by omega
theorem cast_succ_sub (a : Nat) : ((a + 1 : Nat) : Int) - 1 = (a : Int) := by omega
theorem cast_zero_lt (a : Nat) : (0 : Int) < (a : Int) ↔ 0 < a := by omega
theorem cast_zero_le (a : Nat) : ((0 : Int) ≤ (a : Int)) ↔ True := by simp
theorem cast_eq_zero (a : Nat) : (a : Int) = 0 ↔ a = 0 := by omega

/-! ### The calculus, where the values are written out -/
section
variable {P : Program} {w : World}
theorem binV_int {op : BinOp} {t : TypeId} {ox oy : Operand} {k k' : IntKind} {a b : Int} {K : Value → World → Prop} : binV P op t ox oy (.int k a) (.int k' b) w K = intV op k a k' b (fun v => K v w) := rfl
theorem binV_eqB {t : TypeId} {ox oy : Operand} {a b : Bool} {K : Value → World → Prop} : binV P .eql t ox oy (.bool a) (.bool b) w K = (P.underlying t = some .bool ∧ K (.bool (a == b)) w) := rfl
theorem binV_neB {t : TypeId} {ox oy : Operand} {a b : Bool} {K : Value → World → Prop} : binV P .neq t ox oy (.bool a) (.bool b) w K = (P.underlying t = some .bool ∧ K (.bool (a != b)) w) := rfl
theorem boolV_bool {b : Bool} {K : Bool → Prop} : boolV (.bool b) K = K b := rfl
def optV (o : Option Value) (K : Value → Prop) : Prop := match o with | some x => K x | none => False
theorem optV_some {x : Value} {K : Value → Prop} : optV (some x) K = K x := rfl
theorem tupV_lit {vs : List Value} {i : Nat} {K : Value → Prop} : tupV (.tuple vs.toArray) i K = optV vs[i]? K := by
  simp only [tupV, List.getElem?_toArray]
  cases vs[i]? <;> rfl
theorem ptrV_ptr {a : Addr} {K : Addr → Prop} : ptrV (.pointer (some a)) K = K a := rfl
theorem unV_not {b : Bool} {K : Value → Prop} : unV .not (.bool b) K = K (.bool !b) := rfl
theorem unV_neg {k : IntKind} {n : Int} {K : Value → Prop} : unV .neg (.int k n) K = arith k (0 - n) K := rfl
theorem gv_bool {b want : Bool} {run skip : Prop} : gv (.bool b) want run skip = if b = want then run else skip := rfl
theorem gv_tuple {vs : Array Value} {want : Bool} {run skip : Prop} : gv (.tuple vs) want run skip = skip := rfl
theorem convV_int {s d : TypeId} {k k' : IntKind} {n : Int} {K : Value → World → Prop} (h : P.underlying d = some (.int k)) : convV P s d (.int k' n) w K = ((P.underlying s).isSome = true ∧ K (.int k (k.wrap n)) w) := by simp only [convV, h]
theorem fieldV_one {t : TypeId} {f off : Nat} {cs : List Value} {K : Value → Prop} (h : fieldVal P t f = some (off, none)) : fieldV P t f (.agg cs.toArray) K = optV cs[off]? K := by
  simp only [fieldV, h, List.getElem?_toArray]
  cases cs[off]? <;> rfl
theorem fieldV_many {t : TypeId} {f off n : Nat} {cs : List Value} {K : Value → Prop} (h : fieldVal P t f = some (off, some n)) : fieldV P t f (.agg cs.toArray) K = K (.agg ((cs.take (off + n)).drop off).toArray) := by
  simp only [fieldV, h]
  congr 2
  simp [List.take_drop]
theorem pbin_int {op : BinOp} {t : TypeId} {k k' : IntKind} {a b : Int} {K : Value → Prop} : pbin P op t (.int k a) (.int k' b) K = intV op k a k' b K := rfl
theorem pbin_eqB {t : TypeId} {a b : Bool} {K : Value → Prop} : pbin P .eql t (.bool a) (.bool b) K = (P.underlying t = some .bool ∧ K (.bool (a == b))) := rfl
theorem pbin_neB {t : TypeId} {a b : Bool} {K : Value → Prop} : pbin P .neq t (.bool a) (.bool b) K = (P.underlying t = some .bool ∧ K (.bool (a != b))) := rfl
theorem pconv_int {s d : TypeId} {k k' : IntKind} {n : Int} {K : Value → Prop} (h : P.underlying d = some (.int k)) : pconv P s d (.int k' n) K = ((P.underlying s).isSome = true ∧ K (.int k (k.wrap n))) := by simp only [pconv, h]
end

/-! ### Worlds that grow -/

abbrev Ext (w w' : World) : Prop := Below w.heap.size w w'
theorem Ext.refl (w : World) : Ext w w := Below.refl _ _
theorem Ext.trans' {a b c : World} (h : Ext a b) (k : Ext b c) : Ext a c := Below.trans h (k.mono h.size)
theorem Ext.drew' {a w : World} (h : Ext a w) : Ext a w.drew := Below.drew h
theorem ext_drew (w : World) : Ext w w.drew := Below.drew (Below.refl _ _)
theorem Ext.at {w w' : World} (h : Ext w w') {b : Nat} {o : Obj} (hb : w.heap[b]? = some o) : w'.heap[b]? = some o := by
  rw [h.block b (Array.getElem?_eq_some_iff.1 hb).1]; exact hb
theorem below_at {B : Nat} {w w' : World} (h : Below B w w') {b : Nat} {o : Obj} (hb : w.heap[b]? = some o) (hB : b < B) : w'.heap[b]? = some o := by
  rw [h.block b hB]; exact hb

/-! ### Slices that are read -/

def cellH (H : Array Obj) (a : Addr) : Option Value := match H[a.block]? with
  | some (.cells c _ _) => if a.spot.isSome then none else c[a.off]?
  | _ => none
theorem cell_eq (w : World) (a : Addr) : w.cell? a = cellH w.heap a := rfl

/-- v is a slice of n elements of s cells; f tells the cells. -/
def Sl (H : Array Obj) (v : Value) (n s : Nat) (f : Nat → Value) : Prop :=
  n ≤ 140737488355328 ∧ ((v = .slice none 0 0 ∧ n = 0) ∨
    ∃ b off cap c t fr, v = .slice (some ⟨b, off, none⟩) n cap ∧ n ≤ cap ∧ H[b]? = some (.cells c t fr) ∧ ∀ j, j < n * s → c[off + j]? = some (f j))

theorem Sl.up {w w' : World} {v : Value} {n s : Nat} {f : Nat → Value} (h : Sl w.heap v n s f) (hE : Ext w w') : Sl w'.heap v n s f := by
  refine ⟨h.1, h.2.imp id ?_⟩
  rintro ⟨b, off, cap, c, t, fr, h1, h2, h3, h4⟩
  exact ⟨b, off, cap, c, t, fr, h1, h2, hE.at h3, h4⟩

theorem Sl.len {H : Array Obj} {v : Value} {n s : Nat} {f : Nat → Value} (h : Sl H v n s f) : LenIs v n := by
  rcases h.2 with ⟨rfl, rfl⟩ | ⟨b, off, cap, c, t, fr, rfl, _⟩
  · exact ⟨_, _, rfl⟩
  · exact ⟨_, _, rfl⟩

theorem LenIs.lit {a : Option Addr} {n c : Nat} : LenIs (.slice a n c) n := ⟨a, c, rfl⟩
theorem LenIs.cast {v : Value} {n m : Nat} (h : LenIs v n) (e : n = m) : LenIs v m := e ▸ h
theorem LenIs.uniq {v : Value} {n m : Nat} (h : LenIs v n) (h' : LenIs v m) : n = m := by
  obtain ⟨a, c, rfl⟩ := h
  obtain ⟨a', c', h'⟩ := h'
  injection h'

/-- The slice with another length. -/
def resl (v : Value) (m : Nat) : Value := match v with | .slice a _ c => .slice a m c | v => v
def reslC (v : Value) (m : Nat) : Value := match v with | .slice a _ _ => .slice a m m | v => v

theorem Sl.take {H : Array Obj} {v : Value} {n s : Nat} {f : Nat → Value} (h : Sl H v n s f) {m : Nat} (hm : m ≤ n) : Sl H (resl v m) m s f := by
  refine ⟨Nat.le_trans hm h.1, ?_⟩
  rcases h.2 with ⟨rfl, rfl⟩ | ⟨b, off, cap, c, t, fr, rfl, h2, h3, h4⟩
  · left; obtain rfl : m = 0 := by omega
    exact ⟨rfl, rfl⟩
  · right; exact ⟨b, off, cap, c, t, fr, rfl, by omega, h3, fun j hj => h4 j (Nat.lt_of_lt_of_le hj (Nat.mul_le_mul_right s hm))⟩

theorem Sl.takeC {H : Array Obj} {v : Value} {n s : Nat} {f : Nat → Value} (h : Sl H v n s f) {m : Nat} (hm : m ≤ n) : Sl H (reslC v m) m s f := by
  refine ⟨Nat.le_trans hm h.1, ?_⟩
  rcases h.2 with ⟨rfl, rfl⟩ | ⟨b, off, cap, c, t, fr, rfl, h2, h3, h4⟩
  · left; obtain rfl : m = 0 := by omega
    exact ⟨rfl, rfl⟩
  · right; exact ⟨b, off, m, c, t, fr, rfl, by omega, h3, fun j hj => h4 j (Nat.lt_of_lt_of_le hj (Nat.mul_le_mul_right s hm))⟩

theorem Sl.congr {H : Array Obj} {v : Value} {n s : Nat} {f g : Nat → Value} (h : Sl H v n s f) (hfg : ∀ j, j < n * s → f j = g j) : Sl H v n s g := by
  refine ⟨h.1, h.2.imp id ?_⟩
  rintro ⟨b, off, cap, c, t, fr, h1, h2, h3, h4⟩
  exact ⟨b, off, cap, c, t, fr, h1, h2, h3, fun j hj => by rw [h4 j hj, hfg j hj]⟩

/-! ### Types -/

structure SlT (P : Program) (t el : TypeId) (s bytes : Nat) (z : Value) : Prop where
  und : P.underlying t = some (.slice el)
  info : (P.info? el).map (fun i => (i.zero, i.size, i.bytes)) = some (some z, s, bytes)

def scalB (P : Program) (t : TypeId) : Bool := match P.underlying t, P.info? t with
  | some (.struct _), _ | some (.array ..), _ | none, _ | _, none => false
  | some _, some i => i.size == 1

/-- A struct (or an array) of so many cells. -/
def aggN (P : Program) (t : TypeId) : Option Nat := match P.underlying t, P.info? t with
  | some (.struct _), some i | some (.array ..), some i => some i.size
  | _, _ => none

section
variable {P : Program} {w : World}

theorem scal_agg {t : TypeId} (h : scalB P t = true) (w : World) : (isAgg t).run P w = .ok false w := by
  unfold scalB at h
  unfold isAgg
  split at h <;> first | (cases h; done) | skip
  rename_i d i h1 h2 hu hi
  cases d <;> simp_all [run_underlying hu]

theorem scal_size {t : TypeId} (h : scalB P t = true) (w : World) : (sizeOf t).run P w = .ok 1 w := by
  unfold scalB at h
  split at h <;> first | (cases h; done) | skip
  rename_i d i h1 h2 hu hi
  have : i.size = 1 := by simpa using h
  simp [sizeOf, info_parts' hi, this]

theorem agg_agg {t n : Nat} (h : aggN P t = some n) (w : World) : (isAgg t).run P w = .ok true w ∧ (sizeOf t).run P w = .ok n w := by
  unfold aggN at h
  split at h
  · rename_i i hu hi
    injection h with h
    exact ⟨by simp [isAgg, run_underlying hu], by simp [sizeOf, info_parts' hi, h]⟩
  · rename_i i hu hi
    injection h with h
    exact ⟨by simp [isAgg, run_underlying hu], by simp [sizeOf, info_parts' hi, h]⟩
  · cases h

theorem ld_scal {t : TypeId} (h : scalB P t = true) {ad : Addr} {v : Value} (hc : w.cell? ad = some v) : Ld P w t (.pointer (some ad)) v := by
  unfold Ld Does Instr.loadAt Instr.sureAddr loadVar
  simp [scal_agg h, hc]

theorem ld_agg {t n : Nat} (h : aggN P t = some n) {ad : Addr} {cs : List Value} (hn : cs.length = n) (hc : ∀ j v, cs[j]? = some v → w.cell? (ad.add j) = some v) :
    Ld P w t (.pointer (some ad)) (.agg cs.toArray) := by
  unfold Ld Does Instr.loadAt Instr.sureAddr loadVar
  have := run_loadCells_list (P := P) w ad cs hc
  rw [hn] at this
  simp [(agg_agg h w).1, (agg_agg h w).2, this]

theorem addr_add (b off n : Nat) : (⟨b, off, none⟩ : Addr).add n = ⟨b, off + n, none⟩ := by
  unfold Addr.add; split
  · subst_vars; rfl
  · rfl

theorem info_size {el s bytes : Nat} {z : Value} (h : (P.info? el).map (fun i => (i.zero, i.size, i.bytes)) = some (some z, s, bytes)) (w : World) : (sizeOf el).run P w = .ok s w := by
  obtain ⟨i, hi, _, hs, _⟩ := info_parts h
  simp [sizeOf, info_parts' hi, hs]

theorem ix_lit {t el s bytes : Nat} {z : Value} (T : SlT P t el s bytes z) {b off n cap : Nat} {k : IntKind} {i : Int} (h0 : 0 ≤ i) (h1 : i < n) :
    IxA P t (.slice (some ⟨b, off, none⟩) n cap) (.int k i) ⟨b, off + i.toNat * s, none⟩ := by
  intro w
  unfold Does Instr.indexAt
  simp [asIntOf, run_underlying T.und, info_size T.info, h0, h1, addr_add]

/-- An element of a slice that is read: where it lies, and its cells. -/
theorem Sl.ix {t el s bytes : Nat} {z : Value} (T : SlT P t el s bytes z) {v : Value} {n : Nat} {f : Nat → Value} {H : Array Obj} (h : Sl H v n s f) {k : IntKind} {i : Int} (h0 : 0 ≤ i) (h1 : i < n) :
    ∃ b off, IxA P t v (.int k i) ⟨b, off, none⟩ ∧ ∃ c ty fr, H[b]? = some (.cells c ty fr) ∧ ∀ j, j < s → c[off + j]? = some (f (i.toNat * s + j)) := by
  rcases h.2 with ⟨rfl, rfl⟩ | ⟨b, off, cap, c, ty, fr, rfl, h2, h3, h4⟩
  · omega
  · refine ⟨b, off + i.toNat * s, ix_lit T h0 h1, c, ty, fr, h3, fun j hj => ?_⟩
    rw [Nat.add_assoc]
    refine h4 _ ?_
    have : i.toNat + 1 ≤ n := by omega
    have := Nat.mul_le_mul_right s this
    rw [Nat.add_mul] at this
    omega

/-- One that is a single cell. -/
theorem Sl.get {t el bytes : Nat} {z : Value} (T : SlT P t el 1 bytes z) (hs : scalB P el = true) {v : Value} {n : Nat} {f : Nat → Value} (h : Sl w.heap v n 1 f) {k : IntKind} {i : Int} (h0 : 0 ≤ i) (h1 : i < n) :
    ∃ ad, IxA P t v (.int k i) ad ∧ ∀ w', Ext w w' → Ld P w' el (.pointer (some ad)) (f i.toNat) := by
  obtain ⟨b, off, h2, c, ty, fr, h3, h4⟩ := h.ix T (k := k) h0 h1
  refine ⟨_, h2, fun w' hE => ld_scal hs ?_⟩
  have := h4 0 (by omega)
  simp only [Nat.mul_one, Nat.add_zero] at this
  simp [cell_eq, cellH, hE.at h3, this]

theorem sl_cut {t el s bytes : Nat} {z : Value} (T : SlT P t el s bytes z) {H : Array Obj} {v : Value} {n : Nat} {f : Nat → Value} (h : Sl H v n s f) {k : IntKind} {m : Nat} (hm : m ≤ n) :
    SlA P t v none (some (.int k m)) none (resl v m) := by
  intro w
  have key : ∀ (a : Option Addr) (n cap : Nat), m ≤ cap → Does P (Instr.sliceAt t (.slice a n cap) none (some (.int k m)) none) w (.slice a m cap) w := by
    intro a n cap hc
    unfold Does Instr.sliceAt Instr.slice
    simp [run_underlying T.und, Instr.sliceBounds, Instr.sliceBound, asIntOf, hc, info_size T.info]
    intro _
    cases a <;> simp [Addr.add]
  rcases h.2 with ⟨rfl, rfl⟩ | ⟨b, off, cap, c, ty, fr, rfl, h2, h3, h4⟩
  · exact key _ _ _ (by omega)
  · exact key _ _ _ (by omega)

theorem sl_cutC {t el s bytes : Nat} {z : Value} (T : SlT P t el s bytes z) {H : Array Obj} {v : Value} {n : Nat} {f : Nat → Value} (h : Sl H v n s f) {k k' : IntKind} {m : Nat} (hm : m ≤ n) :
    SlA P t v none (some (.int k m)) (some (.int k' m)) (reslC v m) := by
  intro w
  have key : ∀ (a : Option Addr) (n cap : Nat), m ≤ cap → Does P (Instr.sliceAt t (.slice a n cap) none (some (.int k m)) (some (.int k' m))) w (.slice a m m) w := by
    intro a n cap hc
    unfold Does Instr.sliceAt Instr.slice
    simp [run_underlying T.und, Instr.sliceBounds, Instr.sliceBound, asIntOf, hc, info_size T.info]
    intro _
    cases a <;> simp [Addr.add]
  rcases h.2 with ⟨rfl, rfl⟩ | ⟨b, off, cap, c, ty, fr, rfl, h2, h3, h4⟩
  · exact key _ _ _ (by omega)
  · exact key _ _ _ (by omega)

/-! ### Rows that the call owns -/

/-- Block b holds just these cells, and may be written. -/
def Row (w : World) (b : Nat) (el : TypeId) (xs : List Value) : Prop := w.heap[b]? = some (.cells xs.toArray el (0, 0))

/-- Of w' all but block b is as it was in w. -/
structure Upd (b : Nat) (w w' : World) : Prop where
  os : w'.os = w.os
  tape : w'.tape = w.tape
  output : w'.output = w.output
  size : w'.heap.size = w.heap.size
  block : ∀ k, k ≠ b → w'.heap[k]? = w.heap[k]?

theorem Upd.below {B b : Nat} {w0 w w' : World} (h : Below B w0 w) (hu : Upd b w w') (hb : B ≤ b) : Below B w0 w' :=
  h.trans ⟨hu.os, hu.tape, hu.output, by rw [hu.size]; exact Nat.le_refl _, fun k hk => hu.block k (by omega)⟩

theorem Row.lt {b : Nat} {el : TypeId} {xs : List Value} (h : Row w b el xs) : b < w.heap.size := (Array.getElem?_eq_some_iff.1 h).1
theorem Row.upd {b b' : Nat} {el : TypeId} {xs : List Value} {w' : World} (h : Row w b el xs) (hu : Upd b' w w') (hne : b ≠ b') : Row w' b el xs := by
  unfold Row; rw [hu.block b hne]; exact h
theorem Row.up {b : Nat} {el : TypeId} {xs : List Value} {w' : World} (h : Row w b el xs) (hE : Ext w w') : Row w' b el xs := hE.at h
theorem Row.below {B b : Nat} {el : TypeId} {xs : List Value} {w' : World} (h : Row w b el xs) (hE : Below B w w') (hb : b < B) : Row w' b el xs := below_at hE h hb
theorem Row.drew {b : Nat} {el : TypeId} {xs : List Value} (h : Row w b el xs) : Row w.drew b el xs := h

theorem Row.cell {b : Nat} {el : TypeId} {xs : List Value} (h : Row w b el xs) {i : Nat} {u : Value} (hi : xs[i]? = some u) : w.cell? ⟨b, i, none⟩ = some u := by
  unfold Row at h
  simp [World.cell?, h, hi]

theorem Row.ld {t : TypeId} (hs : scalB P t = true) {b : Nat} {el : TypeId} {xs : List Value} (h : Row w b el xs) {i : Nat} {u : Value} (hi : xs[i]? = some u) : Ld P w t (.pointer (some ⟨b, i, none⟩)) u :=
  ld_scal hs (h.cell hi)

theorem Row.ldAgg {t n : Nat} (ha : aggN P t = some n) {b : Nat} {el : TypeId} {xs : List Value} (h : Row w b el xs) {i : Nat} {cs : List Value} (hn : cs.length = n) (hi : ∀ j, j < n → xs[i + j]? = cs[j]?) :
    Ld P w t (.pointer (some ⟨b, i, none⟩)) (.agg cs.toArray) := by
  refine ld_agg ha hn fun j v hv => ?_
  rw [addr_add]
  have hj : j < n := by rw [← hn]; exact (List.getElem?_eq_some_iff.1 hv).1
  exact h.cell (by rw [hi j hj, hv])

theorem Row.sl {b : Nat} {el : TypeId} {xs : List Value} (h : Row w b el xs) {off n cap s : Nat} {f : Nat → Value} (hn : n ≤ cap) (hb : n ≤ 140737488355328) (hf : ∀ j, j < n * s → xs[off + j]? = some (f j)) :
    Sl w.heap (.slice (some ⟨b, off, none⟩) n cap) n s f :=
  ⟨hb, .inr ⟨b, off, cap, _, el, _, rfl, hn, h, fun j hj => by simpa using hf j hj⟩⟩

theorem Row.setCell {b : Nat} {el : TypeId} {xs : List Value} (h : Row w b el xs) (i : Nat) (u : Value) : Row (w.setCell ⟨b, i, none⟩ u) b el (xs.set i u) ∧ Upd b w (w.setCell ⟨b, i, none⟩ u) := by
  unfold Row at h ⊢
  refine ⟨?_, rfl, rfl, rfl, by simp [World.setCell], fun k hk => ?_⟩
  · simp only [World.setCell, Array.getElem?_modify, if_true, h, Option.map_some]
    simp
  · exact Below.heap_setCell _ _ _ _ hk

theorem Row.frozen {b : Nat} {el : TypeId} {xs : List Value} (h : Row w b el xs) (i : Nat) : w.frozen? ⟨b, i, none⟩ = false := by
  unfold Row at h
  simp [World.frozen?, h]

theorem Row.st {t : TypeId} (hs : scalB P t = true) {b : Nat} {el : TypeId} {xs : List Value} (h : Row w b el xs) {i : Nat} (hi : i < xs.length) {u : Value} (hu : u.oneCell' = true) :
    ∃ w', St P w t (.pointer (some ⟨b, i, none⟩)) u w' ∧ Row w' b el (xs.set i u) ∧ Upd b w w' := by
  obtain ⟨h1, h2⟩ := h.setCell i u
  refine ⟨_, ?_, h1, h2⟩
  have hc : u.cells = #[u] := by cases u <;> first | rfl | (simp [Value.oneCell'] at hu)
  have hcell : w.cell? ⟨b, i, none⟩ = some xs[i] := h.cell (by simp [hi])
  unfold St Does Instr.storeAt Instr.sureAddr storeVar
  simp [scal_size hs, hc, storeCells, run_store P w _ u .plain hu, hcell, h.frozen, Addr.add]

theorem Row.setCells {b : Nat} {el : TypeId} : ∀ (vs : List Value) (k : Nat) {xs : List Value} {w : World} (o : Nat), Row w b el xs → o + k + vs.length ≤ xs.length → (∀ v ∈ vs, v.oneCell' = true) →
    ∃ w', (storeCells ⟨b, o, none⟩ vs k).run P w = .ok () w' ∧ Row w' b el (xs.take (o + k) ++ vs ++ xs.drop (o + k + vs.length)) ∧ Upd b w w'
  | [], k, xs, w, o, h, _, _ => ⟨w, by simp [storeCells], by simpa using h, rfl, rfl, rfl, rfl, fun _ _ => rfl⟩
  | v :: vs, k, xs, w, o, h, hl, h1 => by
    simp only [List.length_cons] at hl
    obtain ⟨h2, h3⟩ := h.setCell (o + k) v
    have hi : o + k < xs.length := by omega
    have hcell : w.cell? ⟨b, o + k, none⟩ = some xs[o + k] := h.cell (by simp [hi])
    obtain ⟨w', h4, h5, h6⟩ := Row.setCells vs (k + 1) (w := w.setCell ⟨b, o + k, none⟩ v) o h2 (by simp; omega) (fun u hu => h1 u (by simp [hu]))
    refine ⟨w', ?_, ?_, ⟨h6.os.trans h3.os, h6.tape.trans h3.tape, h6.output.trans h3.output, h6.size.trans h3.size, fun k hk => (h6.block k hk).trans (h3.block k hk)⟩⟩
    · simp [storeCells, addr_add, run_store P w _ v .plain (h1 v (by simp)), hcell, h.frozen, h4]
    · have e : (xs.set (o + k) v).take (o + (k + 1)) ++ vs ++ (xs.set (o + k) v).drop (o + (k + 1) + vs.length) = xs.take (o + k) ++ (v :: vs) ++ xs.drop (o + k + (v :: vs).length) := by
        rw [show o + (k + 1) = o + k + 1 by omega, List.take_add_one, List.take_set_of_le (by omega), List.drop_set_of_lt (by omega)]
        simp [hi, Nat.add_assoc, Nat.add_comm 1]
      rw [← e]; exact h5

/-- A struct (or what has several cells) is stored. -/
theorem Row.stAgg {t n : Nat} (ha : aggN P t = some n) {b : Nat} {el : TypeId} {xs : List Value} (h : Row w b el xs) {i : Nat} {cs : List Value} (hn : cs.length = n) (hi : i + n ≤ xs.length) (hu : ∀ v ∈ cs, v.oneCell' = true) :
    ∃ w', St P w t (.pointer (some ⟨b, i, none⟩)) (.agg cs.toArray) w' ∧ Row w' b el (xs.take i ++ cs ++ xs.drop (i + n)) ∧ Upd b w w' := by
  obtain ⟨w', h1, h2, h3⟩ := h.setCells (P := P) cs 0 i (by omega) hu
  refine ⟨w', ?_, by simpa [hn] using h2, h3⟩
  unfold St Does Instr.storeAt Instr.sureAddr storeVar
  simp [(agg_agg ha w).2, Value.cells, hn, h1]

/-- A new block: where it lies; what it holds; all else is as it was. -/
structure New (w : World) (b : Nat) (el : TypeId) (xs : List Value) (w' : World) : Prop where
  num : b = w.heap.size
  size : w'.heap.size = b + 1
  ext : Ext w w'
  row : Row w' b el xs

theorem New.alloc (w : World) (el : TypeId) (cs : Array Value) : New w w.heap.size el cs.toList (w.alloc (.cells cs el)) :=
  ⟨rfl, by simp, (Below.refl _ _).alloc (Nat.le_refl _) _, by unfold Row; simpa using heap_alloc_new w (.cells cs el)⟩

theorem New.fresh {b : Nat} {el : TypeId} {xs : List Value} {w' : World} (h : New w b el xs w') : w.heap.size ≤ b := by rw [h.num]; exact Nat.le_refl _

theorem box_any (t : TypeId) (v : Value) : ∃ b w', Does P (Instr.box t v) w (.pointer (some ⟨b, 0, none⟩)) w' ∧ New w b t v.cells.toList w' :=
  ⟨_, _, by simp [Does, Instr.box, newVar, newRow], New.alloc w t v.cells⟩

theorem alloc_any {t : TypeId} {z : Value} {s bytes : Nat} (h : (P.info? t).map (fun i => (i.zero, i.size, i.bytes)) = some (some z, s, bytes)) :
    ∃ b w', Does P (Instr.alloc t true (.tuple #[])) w (.pointer (some ⟨b, 0, none⟩)) w' ∧ New w b t z.cells.toList w' := by
  obtain ⟨i, hi, hz, _, _⟩ := info_parts h
  exact ⟨_, _, by simp [Does, Instr.alloc, zeroValue, info_parts' hi, hz, newVar, newRow], New.alloc w t z.cells⟩

theorem make_any {t el s bytes : Nat} {z : Value} (T : SlT P t el s bytes z) {kl kc : IntKind} {n : Nat} (hn : bytes * n ≤ 140737488355328) (h63 : n ≤ 9223372036854775807) :
    ∃ b w', Does P (Instr.makeSlice t (.int kl n) (.int kc n)) w (.slice (some ⟨b, 0, none⟩) n n) w' ∧ New w b el (madeCells z.cells (n * s)).toList w' := by
  obtain ⟨i, hi, hz, hs, hb⟩ := info_parts T.info
  subst hs; subst hb
  have hb' : (i.bytes : Int) * (n : Int) ≤ 281474976710656 := by
    have h : ((i.bytes * n : Nat) : Int) ≤ 281474976710656 := by omega
    rwa [Int.natCast_mul] at h
  have hr := run_make (P := P) w t el i z T.und hi hz kl kc n n (by omega) (Int.le_refl _) hb' (by omega)
  simp only [Int.toNat_natCast] at hr
  exact ⟨_, _, hr, New.alloc w el _⟩

theorem foldl_splice : ∀ (vs : List Value) (k off : Nat) (cs : Array Value), off + k + vs.length ≤ cs.size →
    ((vs.zipIdx k).foldl (fun (cs : Array Value) (x : Value × Nat) => cs.setIfInBounds (off + x.2) x.1) cs).toList = cs.toList.take (off + k) ++ vs ++ cs.toList.drop (off + k + vs.length)
  | [], k, off, cs, _ => by simp
  | v :: vs, k, off, cs, h => by
    simp only [List.length_cons] at h
    simp only [List.zipIdx_cons, List.foldl_cons]
    rw [foldl_splice vs (k + 1) off _ (by simp; omega)]
    have hi : off + k < cs.size := by omega
    rw [Array.toList_setIfInBounds, show off + (k + 1) = off + k + 1 by omega, List.take_add_one, List.take_set_of_le (by omega), List.drop_set_of_lt (by omega)]
    simp [hi, Nat.add_assoc, Nat.add_comm 1]

def partsFrom (k : Nat) : List Value → List (Nat × Value)
  | [] => []
  | v :: r => (k, v) :: partsFrom (k + 1) r

theorem fill_from (s : Nat) : ∀ (vs : List Value) (k : Nat) (cs : Array Value), (∀ v ∈ vs, v.cells.size = s) → (k + vs.length) * s ≤ cs.size →
    ∃ r, Instr.fill (fun i => some (i * s, s)) cs (partsFrom k vs) = some r ∧ r.toList = cs.toList.take (k * s) ++ vs.flatMap (fun v => v.cells.toList) ++ cs.toList.drop ((k + vs.length) * s)
  | [], k, cs, _, _ => ⟨cs, rfl, by simp⟩
  | v :: vs, k, cs, hv, h => by
    have h0 := hv v (by simp)
    simp only [List.length_cons] at h
    have hm : k * s + s ≤ cs.size := by
      have : (k + 1) * s ≤ (k + (vs.length + 1)) * s := Nat.mul_le_mul_right s (by omega)
      rw [Nat.add_mul] at this; omega
    have e : ((v.cells.zipIdx).foldl (fun cs (x : Value × Nat) => cs.setIfInBounds (k * s + x.2) x.1) cs).toList = cs.toList.take (k * s) ++ v.cells.toList ++ cs.toList.drop ((k + 1) * s) := by
      rw [← Array.foldl_toList, Array.toList_zipIdx, foldl_splice _ 0 (k * s) cs (by simp [h0]; exact hm)]
      simp [h0, Nat.add_mul]
    have hsz : ((v.cells.zipIdx).foldl (fun cs (x : Value × Nat) => cs.setIfInBounds (k * s + x.2) x.1) cs).size = cs.size := by
      rw [← Array.length_toList, e]; simp [h0, Nat.add_mul]; omega
    obtain ⟨r, h1, h2⟩ := fill_from s vs (k + 1) _ (fun u hu => hv u (by simp [hu])) (by rw [hsz]; rw [show k + 1 + vs.length = k + (vs.length + 1) by omega]; exact h)
    refine ⟨r, ?_, ?_⟩
    · simp only [partsFrom, Instr.fill]
      rw [if_neg (by simp [h0]; exact hm)]
      exact h1
    · rw [h2, e]
      have hl : (cs.toList.take (k * s) ++ v.cells.toList).length = (k + 1) * s := by simp [h0, Nat.add_mul]; omega
      have e1 : (k + 1 + vs.length) * s = (k + 1) * s + vs.length * s := Nat.add_mul _ _ _
      have e2 : (k + (v :: vs).length) * s = (k + 1) * s + vs.length * s := by rw [← Nat.add_mul]; congr 1; simp; omega
      rw [List.take_left' hl, e1, e2, ← List.drop_drop, ← List.drop_drop, List.drop_left' hl]
      simp

theorem slice_lit {t el s bytes : Nat} {z : Value} (T : SlT P t el s bytes z) (vs : List Value) (hv : ∀ v ∈ vs, v.cells.size = s) (hn : vs.length * s ≤ 16777216) :
    ∃ b w', Does P (Instr.buildSlice t vs.length (partsFrom 0 vs).toArray) w (.slice (some ⟨b, 0, none⟩) vs.length vs.length) w' ∧ New w b el (vs.flatMap fun v => v.cells.toList) w' := by
  obtain ⟨i, hi, hzz, hsz, _⟩ := info_parts T.info
  have key : ∀ zero : Array Value, ∃ b w', (do
      let some cells := Instr.fill (fun i => some (i * s, s)) ((Array.range (vs.length * s)).map (zero[· % zero.size]!)) (partsFrom 0 vs) | stuck "buildSlice: a part of the wrong size"
      pure (.slice (some (← newRow el cells)) vs.length vs.length) : Sem Value).run P w = .ok (.slice (some ⟨b, 0, none⟩) vs.length vs.length) w' ∧ New w b el (vs.flatMap fun v => v.cells.toList) w' := by
    intro zero
    obtain ⟨r, h1, h2⟩ := fill_from s vs 0 ((Array.range (vs.length * s)).map (zero[· % zero.size]!)) hv (by simp)
    have h2' : r.toList = vs.flatMap fun v => v.cells.toList := by rw [h2]; simp
    refine ⟨w.heap.size, w.alloc (.cells r el), ?_, by rw [← h2']; exact New.alloc w el r⟩
    simp [h1, newRow]
  unfold Does Instr.buildSlice
  by_cases h0 : vs.length * s = 0
  · obtain ⟨b, w', h1, h2⟩ := key #[]
    refine ⟨b, w', ?_, h2⟩
    rw [← h1]
    simp [run_underlying T.und, info_size T.info, h0]
    rfl
  · obtain ⟨b, w', h1, h2⟩ := key z.cells
    refine ⟨b, w', ?_, h2⟩
    rw [← h1]
    simp [run_underlying T.und, info_size T.info, h0, Nat.not_lt.2 hn, zeroValue, info_parts' hi, hzz]
    rfl

/-! ### copy, append -/

theorem copy_row {t el bytes : Nat} {z : Value} (T : SlT P t el 1 bytes z) {b off n cap : Nat} {el' : TypeId} {xs : List Value} (h : Row w b el' xs) {src : Value} {m : Nat} {f : Nat → Value} (hs : Sl w.heap src m 1 f)
    (hfit : off + min m n ≤ xs.length) (h1 : ∀ j, j < m → (f j).oneCell' = true) {t' : TypeId} (ht' : t' = t) {ty : TypeId} :
    ∃ w', Does P (Builtin.copy_ #[t, t'] ty #[.slice (some ⟨b, off, none⟩) n cap, src]) w (.int .i64 (min m n : Nat)) w' ∧
      Row w' b el' (xs.take off ++ (List.range (min m n)).map f ++ xs.drop (off + min m n)) ∧ Upd b w w' := by
  subst ht'
  obtain ⟨i, hi, _, hsz, _⟩ := info_parts T.info
  have hcs : ∀ v ∈ (List.range (min m n)).map f, v.oneCell' = true := by
    intro v hv
    obtain ⟨j, hj, rfl⟩ := List.mem_map.1 hv
    exact h1 j (by have := List.mem_range.1 hj; omega)
  obtain ⟨w', h2, h3, h4⟩ := h.setCells (P := P) ((List.range (min m n)).map f) 0 off (by simp; omega) hcs
  refine ⟨w', ?_, by simpa using h3, h4⟩
  rcases hs.2 with ⟨rfl, rfl⟩ | ⟨b2, off2, cap2, c, ty2, fr, rfl, _, hb, hc⟩
  · have e0 : min 0 n = 0 := by omega
    have hw : w' = w := by
      have h2' := h2
      simp only [e0, List.range_zero, List.map_nil, storeCells, Sem.run_pure] at h2'
      injection h2' with _ h2'
      exact h2'.symm
    subst hw
    simp [Does, Builtin.copy_, run_underlying T.und, Builtin.lenOf, Builtin.firstCells, sizeOf, info_parts' hi, storeCells, goInt, e0]
  · have hl := run_loadCells (P := P) w ⟨b2, off2, none⟩ (min m n) f (fun j hj => by
      rw [addr_add]
      have := hc j (by omega)
      simp [World.cell?, hb, this])
    unfold Does Builtin.copy_
    simp [run_underlying T.und, Builtin.lenOf, Builtin.firstCells, sizeOf, info_parts' hi, hsz, goInt]
    erw [hl]
    dsimp only [Result.andThen]
    erw [h2]

theorem append_own {t el s bytes : Nat} {z : Value} (T : SlT P t el s bytes z) (hz : z.cells.size = s) (hs : 0 < s) {base : Nat} {v : Value} {n : Nat} {xs : List Value} (hown : w.ownsRow base el s v n xs) (hbase : base ≤ w.heap.size)
    {src : Value} {m : Nat} {f : Nat → Value} (hsrc : Sl w.heap src m s f) (h1 : ∀ j, j < m * s → (f j).oneCell' = true) (hb : (n + m) * bytes ≤ 140737488355328) (hm : n + m ≤ 140737488355328) {t' : TypeId} (ht' : t' = t) {ty : TypeId} :
    ∃ v' w', Does P (Builtin.append_ #[t, t'] ty #[v, src]) w v' w' ∧ w'.ownsRow base el s v' (n + m) (xs ++ (List.range (m * s)).map f) ∧ w.grownBy w' v.ownBlock := by
  subst ht'
  obtain ⟨i, hi, hzz, hsz, hby⟩ := info_parts T.info
  rcases hsrc.2 with ⟨rfl, rfl⟩ | ⟨b2, off2, cap2, c, ty2, fr, rfl, _, hb2, hc⟩
  · have hr := run_append_owned_none (P := P) w base t' ty el i s T.und hi v n xs hown
    exact ⟨v, w, hr, by simpa using hown, ⟨rfl, rfl, rfl, Nat.le_refl _, fun _ _ _ => rfl⟩⟩
  · obtain ⟨v', w', h2, h3, h4, _⟩ := run_append_own (P := P) w base t' ty el i z s bytes T.und hi hzz hsz hby hz hs v n xs hown ⟨b2, off2, none⟩ m cap2 ((List.range (m * s)).map f) (by simp) (fun j u hu => by
        rw [addr_add]
        have hj : j < m * s := by have := (List.getElem?_eq_some_iff.1 hu).1; simpa using this
        have := hc j hj
        simp [hj] at hu
        simp [World.cell?, hb2, this, hu]) (fun u hu => by
        obtain ⟨j, hj, rfl⟩ := List.mem_map.1 hu
        exact h1 j (List.mem_range.1 hj)) (by unfold maxLen; omega) hb hbase
    exact ⟨v', w', h2, h3, h4⟩

end
end Go.V

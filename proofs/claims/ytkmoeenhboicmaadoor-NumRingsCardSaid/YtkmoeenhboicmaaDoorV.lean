/- The engine of this proof: a calculus of weakest preconditions over frames that are functions. No program in sight. -/
import Derived.WalkKit
import Derived.Deep.Quiet
import Derived.Scope
set_option linter.unusedSimpArgs false
set_option linter.unusedVariables false
namespace Go.V
open Go Go.RowKit

/-! ### Frames as functions -/

abbrev Env := Nat → Value
def upd (e : Env) (d : Nat) (v : Value) : Env := fun i => bif i == d then v else e i
theorem upd_apply (e : Env) (d : Nat) (v : Value) (i : Nat) : upd e d v i = bif i == d then v else e i := rfl
theorem upd_same (e : Env) (d : Nat) (v : Value) : upd e d v d = v := by simp [upd]
theorem upd_ne (e : Env) {d i : Nat} (v : Value) (h : i ≠ d) : upd e d v i = e i := by simp [upd, beq_false_of_ne h]
def put (e : Env) : Option Nat → Value → Env
  | some d, v => upd e d v
  | none, _ => e
theorem put_some (e : Env) (d : Nat) (v : Value) : put e (some d) v = upd e d v := rfl
theorem put_none (e : Env) (v : Value) : put e none v = e := rfl
def ev (e : Env) : Operand → Value
  | .tmp t => e t
  | .const v => v
  | .global g => .pointer (some ⟨g, 0, none⟩)
  | .func f => .func (.func f) #[] #[]
theorem ev_tmp (e : Env) (t : Nat) : ev e (.tmp t) = e t := rfl
theorem ev_const (e : Env) (v : Value) : ev e (.const v) = v := rfl
theorem ev_global (e : Env) (g : Nat) : ev e (.global g) = .pointer (some ⟨g, 0, none⟩) := rfl
theorem ev_func (e : Env) (f : Nat) : ev e (.func f) = .func (.func f) #[] #[] := rfl

structure Rep (n : Nat) (e : Env) (a : Act) : Prop where
  defers : a.defers = []
  size : a.tmps.size = n
  val : ∀ i, a.tmps.getD i undef = e i

theorem Rep.eval {n : Nat} {e : Env} {a : Act} (h : Rep n e a) : a.eval = ev e := by
  funext x
  cases x <;> first | exact h.val _ | rfl

theorem Rep.put {n : Nat} {e : Env} {a : Act} (h : Rep n e a) {dst : Option Nat} (hd : ∀ d, dst = some d → d < n) (v : Value) : Rep n (V.put e dst v) (a.put dst v) := by
  cases dst with
  | none => exact h
  | some d =>
    have hn := hd d rfl
    refine ⟨h.defers, by simp [Act.put, h.size], fun i => ?_⟩
    have hv := h.val i
    simp only [Act.put, V.put, Array.getD_eq_getD_getElem?] at *
    rw [Array.getElem?_setIfInBounds]
    by_cases hi : d = i
    · subst hi; simp [h.size, hn, upd_same]
    · rw [if_neg hi, upd_ne _ _ (fun e => hi e.symm)]; exact hv

/-! ### What a run of one operation comes to -/

def Ret (K : Value → World → Prop) : Ending → World → Prop := fun e w => ∃ v, e = .returned v ∧ K v w

def After (P : Program) (K : Value → World → Prop) : Result Next → Prop
  | .ok (.value v) w => K v w
  | .ok .skip w => K undef w
  | .ok (.enter f args) w => Calls P f args w (Ret K)
  | .ok (.row row args) w => Rows P row args w K
  | _ => False

theorem After.mono {P : Program} {K K' : Value → World → Prop} {r : Result Next} (h : After P K r) (hk : ∀ v w, K v w → K' v w) : After P K' r := by
  cases r with
  | halt x w => exact h.elim
  | ok n w =>
    cases n <;> simp only [After] at h ⊢
    case value v => exact hk _ _ h
    case skip => exact hk _ _ h
    case enter f args => exact h.mono fun e w' ⟨v, he, hv⟩ => ⟨v, he, hk _ _ hv⟩
    case row r args => exact h.mono hk

theorem After.upon {P : Program} {K : Value → World → Prop} {r : Result Next} {o : Oper} {a : Act} {next : Act → World → Prop} {Q : Exit → Act → World → Prop}
    (h : After P K r) (hk : ∀ v w, K v w → next (a.put o.dst v) w) : o.upon P a next Q r := by
  cases r with
  | halt x w => exact h.elim
  | ok n w =>
    cases n <;> simp only [After] at h <;> simp only [Oper.upon]
    case value v => exact hk _ _ h
    case skip => exact hk _ _ h
    case enter f args => exact h.mono fun e w' ⟨v, he, hv⟩ => by subst he; exact hk _ _ hv
    case row r args => exact h.mono hk

/-- A call of function f, whether it has a body or not. -/
def FC (P : Program) (f : FuncId) (args : Array Value) (w : World) (K : Value → World → Prop) : Prop := After P K ((callFunc f args).run P w)

theorem FC.mono {P : Program} {f : FuncId} {args : Array Value} {w : World} {K K' : Value → World → Prop} (h : FC P f args w K) (hk : ∀ v w', K v w' → K' v w') : FC P f args w K' := After.mono h hk

def Does {α : Type} (P : Program) (s : Sem α) (w : World) (x : α) (w' : World) : Prop := s.run P w = .ok x w'

/-! ### Integers, bools -/

def R64 (n : Int) : Prop := -9223372036854775808 ≤ n ∧ n ≤ 9223372036854775807
theorem R64.wrap {n : Int} (h : R64 n) : IntKind.i64.wrap n = n := by rw [IntKind.wrap_i64]; unfold R64 at h; omega

def arith : IntKind → Int → (Value → Prop) → Prop
  | .i64, n, K => R64 n ∧ K (.int .i64 n)
  | k, n, K => K (.int k (k.wrap n))
theorem arith_wrap {k : IntKind} {n : Int} {K : Value → Prop} (h : arith k n K) : K (.int k (k.wrap n)) := by
  cases k <;> first | exact h | (obtain ⟨h1, h2⟩ := h; rw [h1.wrap]; exact h2)

def bitsV (op : BinOp) (k : IntKind) (x y : Int) : Int :=
  match op with
  | .and => k.wrap (BitVec.ofInt k.bits x &&& BitVec.ofInt k.bits y).toNat
  | .or => k.wrap (BitVec.ofInt k.bits x ||| BitVec.ofInt k.bits y).toNat
  | .xor => k.wrap (BitVec.ofInt k.bits x ^^^ BitVec.ofInt k.bits y).toNat
  | _ => k.wrap (BitVec.ofInt k.bits x &&& ~~~BitVec.ofInt k.bits y).toNat

def intV (op : BinOp) (k : IntKind) (a : Int) (k' : IntKind) (b : Int) (K : Value → Prop) : Prop :=
  match op with
  | .shl => 0 ≤ b ∧ K (.int k (k.wrap (a * 2 ^ (min b.toNat k.bits))))
  | .shr => 0 ≤ b ∧ K (.int k (a.fdiv (2 ^ (min b.toNat k.bits))))
  | .add => k = k' ∧ arith k (a + b) K
  | .sub => k = k' ∧ arith k (a - b) K
  | .mul => k = k' ∧ arith k (a * b) K
  | .quo => k = k' ∧ b ≠ 0 ∧ arith k (a.tdiv b) K
  | .rem => k = k' ∧ b ≠ 0 ∧ K (.int k (a.tmod b))
  | .and => k = k' ∧ K (.int k (bitsV .and k a b))
  | .or => k = k' ∧ K (.int k (bitsV .or k a b))
  | .xor => k = k' ∧ K (.int k (bitsV .xor k a b))
  | .andNot => k = k' ∧ K (.int k (bitsV .andNot k a b))
  | .eql => k = k' ∧ K (.bool (decide (a = b)))
  | .neq => k = k' ∧ K (.bool (decide (a ≠ b)))
  | .lss => k = k' ∧ K (.bool (decide (a < b)))
  | .leq => k = k' ∧ K (.bool (decide (a ≤ b)))
  | .gtr => k = k' ∧ K (.bool (decide (b < a)))
  | .geq => k = k' ∧ K (.bool (decide (b ≤ a)))

/-! ### Operations -/

def boolV (v : Value) (K : Bool → Prop) : Prop := match v with | .bool b => K b | _ => False
def tupV (v : Value) (i : Nat) (K : Value → Prop) : Prop := match v with
  | .tuple vs => (match vs[i]? with | some x => K x | none => False)
  | _ => False
def ptrV (v : Value) (K : Addr → Prop) : Prop := match v with | .pointer (some a) => K a | _ => False

def LenIs (v : Value) (n : Nat) : Prop := ∃ a c, v = .slice a n c

def binV (P : Program) (op : BinOp) (t : TypeId) (ox oy : Operand) (x y : Value) (w : World) (K : Value → World → Prop) : Prop :=
  match x, y with
  | .int k a, .int k' b => intV op k a k' b (fun v => K v w)
  | .bool a, .bool b => P.underlying t = some .bool ∧ (match op with | .eql => K (.bool (a == b)) w | .neq => K (.bool (a != b)) w | _ => False)
  | x, y => ∃ v w', Does P (do eqGuard op t ox oy x y; binOp op t x y) w v w' ∧ K v w'

def unV (op : UnOp) (x : Value) (K : Value → Prop) : Prop :=
  match op, x with
  | .not, .bool b => K (.bool !b)
  | .neg, .int k n => arith k (0 - n) K
  | _, _ => False

def convV (P : Program) (s d : TypeId) (x : Value) (w : World) (K : Value → World → Prop) : Prop :=
  match P.underlying d, x with
  | some (.int k), .int _ n => (P.underlying s).isSome = true ∧ K (.int k (k.wrap n)) w
  | _, x => ∃ v w', Does P (convert s d x) w v w' ∧ K v w'

/-- Where a field of a struct behind a pointer lies (of a field that has cells). -/
def fieldOff (P : Program) (t : TypeId) (f : Nat) : Option Nat :=
  match P.underlying t with
  | some (.struct fs) => (match fs[f]? with
    | some fd => (match P.info? fd.type with | some i => if i.size = 0 then none else some fd.offset | none => none)
    | none => none)
  | _ => none

/-- A field of a struct that is a value: where it begins, how many cells; none: it is itself one cell. -/
def fieldVal (P : Program) (t : TypeId) (f : Nat) : Option (Nat × Option Nat) :=
  match P.underlying t with
  | some (.struct fs) => (match fs[f]? with
    | some fd => (match P.underlying fd.type, P.info? fd.type with
      | some (.struct _), some i => some (fd.offset, some i.size)
      | some (.array ..), some i => some (fd.offset, some i.size)
      | some _, some _ => some (fd.offset, none)
      | _, _ => none)
    | none => none)
  | _ => none

def fieldV (P : Program) (t : TypeId) (f : Nat) (x : Value) (K : Value → Prop) : Prop :=
  match fieldVal P t f, x with
  | some (off, some n), .agg cs => K (.agg (cs.extract off (off + n)))
  | some (off, none), .agg cs => (match cs[off]? with | some v => K v | none => False)
  | _, _ => False

def Ld (P : Program) (w : World) (t : TypeId) (a v : Value) : Prop := Does P (Instr.loadAt t a) w v w
def St (P : Program) (w : World) (t : TypeId) (a v : Value) (w' : World) : Prop := Does P (Instr.storeAt t a v) w () w'
def IxA (P : Program) (t : TypeId) (x i : Value) (ad : Addr) : Prop := ∀ w, Does P (Instr.indexAt t x i) w (.pointer (some ad)) w
def IxV (P : Program) (t : TypeId) (x i v : Value) : Prop := ∀ w, Does P (Instr.index t x i) w v w
def SlA (P : Program) (t : TypeId) (x : Value) (lo hi mx : Option Value) (v : Value) : Prop := ∀ w, Does P (Instr.sliceAt t x lo hi mx) w v w

def callV (P : Program) (e : Env) (c : Call) (ty : TypeId) (w : World) (K : Value → World → Prop) : Prop :=
  match c.callee with
  | .value (.func f) => FC P f (c.args.map (ev e)) w K
  | .value o => (match ev e o with
    | .func (.func f) first captured => FC P f (first ++ c.args.map (ev e) ++ captured) w K
    | _ => False)
  | .builtin .len => (match c.argTypes[0]?, (c.args.map (ev e))[0]? with
    | some t, some x => (match P.underlying t with
      | some (.slice _) => ∃ n : Nat, LenIs x n ∧ K (.int .i64 n) w
      | _ => ∃ v w', Does P (Builtin.len_ c.argTypes ty (c.args.map (ev e))) w v w' ∧ K v w')
    | _, _ => False)
  | .builtin .append => ∃ v w', Does P (Builtin.append_ c.argTypes ty (c.args.map (ev e))) w v w' ∧ K v w'
  | .builtin .copy => ∃ v w', Does P (Builtin.copy_ c.argTypes ty (c.args.map (ev e))) w v w' ∧ K v w'
  | .builtin .min => (match (c.args.map (ev e)).toList with
    | [.int k x, .int _ y] => K (.int k (if y < x then y else x)) w
    | _ => False)
  | .builtin .max => (match (c.args.map (ev e)).toList with
    | [.int k x, .int _ y] => K (.int k (if x < y then y else x)) w
    | _ => False)
  | _ => After P K ((do let d ← resolve (ev e) c ty; invoke d.target d.args).run P w)

def opV (P : Program) (o : Oper) (e : Env) (w : World) (K : Value → World → Prop) : Prop :=
  match o.op with
  | .move x | .assign x => K (ev e x) w
  | .pick c a b => boolV (ev e c) (fun t => K (if t then ev e a else ev e b) w)
  | .alloc t => ∃ v w', Does P (Instr.alloc t true (.tuple #[])) w v w' ∧ K v w'
  | .box t x => ∃ v w', Does P (Instr.box t (ev e x)) w v w' ∧ K v w'
  | .build t ps => ∃ v, (∀ w, Does P (Instr.build t (ps.map fun (i, x) => (i, ev e x))) w v w) ∧ K v w
  | .buildSlice t n ps => ∃ v w', Does P (Instr.buildSlice t n (ps.map fun (i, x) => (i, ev e x))) w v w' ∧ K v w'
  | .load t a => ∃ v, Ld P w t (ev e a) v ∧ K v w
  | .store t a x => ∃ w', St P w t (ev e a) (ev e x) w' ∧ K undef w'
  | .nilCheck x => ptrV (ev e x) (fun a => K (.pointer (some a)) w)
  | .binOp op t x y _ => binV P op t x y (ev e x) (ev e y) w K
  | .unOp op _ x => unV op (ev e x) (fun v => K v w)
  | .convert s d x => convV P s d (ev e x) w K
  | .makeFunc fn first cap => K (.func fn (first.map (ev e)) (cap.map (ev e))) w
  | .makeSlice t l c => ∃ v w', Does P (Instr.makeSlice t (ev e l) (ev e c)) w v w' ∧ K v w'
  | .slice t x lo hi mx => ∃ v, SlA P t (ev e x) (lo.map (ev e)) (hi.map (ev e)) (mx.map (ev e)) v ∧ K v w
  | .fieldAddr t x f => (match fieldOff P t f with | some off => ptrV (ev e x) (fun a => K (.pointer (some (a.add off))) w) | none => False)
  | .field t x f => fieldV P t f (ev e x) (fun v => K v w)
  | .indexAddr t x i => ∃ ad, IxA P t (ev e x) (ev e i) ad ∧ K (.pointer (some ad)) w
  | .index t x i => ∃ v, IxV P t (ev e x) (ev e i) v ∧ K v w
  | .extract t i => tupV (ev e t) i (fun v => K v w)
  | .call c => callV P e c o.type w K
  | _ => After P K ((execOp (ev e) o).run P w)

section
variable {P : Program} {w : World}

theorem intV_sound {op : BinOp} {k k' : IntKind} {a b : Int} {K : Value → Prop} {t : TypeId} {ox oy : Operand} (h : intV op k a k' b K) :
    ∃ v, (∀ w, Does P (do eqGuard op t ox oy (.int k a) (.int k' b); binOp op t (.int k a) (.int k' b)) w v w) ∧ K v := by
  unfold Does
  cases op <;> simp only [intV] at h
  case shl => obtain ⟨h1, h2⟩ := h; exact ⟨_, fun w => by simp [eqGuard, binOp, Op.shift, Int.not_lt.2 h1], h2⟩
  case shr => obtain ⟨h1, h2⟩ := h; exact ⟨_, fun w => by simp [eqGuard, binOp, Op.shift, Int.not_lt.2 h1], h2⟩
  case add => obtain ⟨rfl, h2⟩ := h; exact ⟨_, fun w => by simp [eqGuard, binOp, Op.intArith], arith_wrap h2⟩
  case sub => obtain ⟨rfl, h2⟩ := h; exact ⟨_, fun w => by simp [eqGuard, binOp, Op.intArith], arith_wrap h2⟩
  case mul => obtain ⟨rfl, h2⟩ := h; exact ⟨_, fun w => by simp [eqGuard, binOp, Op.intArith], arith_wrap h2⟩
  case quo => obtain ⟨rfl, h1, h2⟩ := h; exact ⟨_, fun w => by simp [eqGuard, binOp, Op.intDiv, h1], arith_wrap h2⟩
  case rem => obtain ⟨rfl, h1, h2⟩ := h; exact ⟨_, fun w => by simp [eqGuard, binOp, Op.intDiv, h1], h2⟩
  case and => obtain ⟨rfl, h2⟩ := h; exact ⟨_, fun w => by simp [eqGuard, binOp, Op.intBits, bitsV], h2⟩
  case or => obtain ⟨rfl, h2⟩ := h; exact ⟨_, fun w => by simp [eqGuard, binOp, Op.intBits, bitsV], h2⟩
  case xor => obtain ⟨rfl, h2⟩ := h; exact ⟨_, fun w => by simp [eqGuard, binOp, Op.intBits, bitsV], h2⟩
  case andNot => obtain ⟨rfl, h2⟩ := h; exact ⟨_, fun w => by simp [eqGuard, binOp, Op.intBits, bitsV], h2⟩
  case eql => obtain ⟨rfl, h2⟩ := h; refine ⟨_, fun w => ?_, h2⟩; simp [eqGuard, binOp, Op.intCmp]; by_cases e : a = b <;> simp [e]
  case neq => obtain ⟨rfl, h2⟩ := h; refine ⟨_, fun w => ?_, h2⟩; simp [eqGuard, binOp, Op.intCmp]; by_cases e : a = b <;> simp [e]
  case lss => obtain ⟨rfl, h2⟩ := h; exact ⟨_, fun w => by simp [eqGuard, binOp, Op.intCmp], h2⟩
  case leq => obtain ⟨rfl, h2⟩ := h; exact ⟨_, fun w => by simp [eqGuard, binOp, Op.intCmp], h2⟩
  case gtr => obtain ⟨rfl, h2⟩ := h; exact ⟨_, fun w => by simp [eqGuard, binOp, Op.intCmp], h2⟩
  case geq => obtain ⟨rfl, h2⟩ := h; exact ⟨_, fun w => by simp [eqGuard, binOp, Op.intCmp], h2⟩

theorem after_value {s : Sem Value} {v : Value} {w' : World} {K : Value → World → Prop} (hs : Does P s w v w') (hk : K v w') : After P K ((do pure (Next.value (← s)) : Sem Next).run P w) := by
  unfold Does at hs
  simp only [Sem.run_bind, hs, Result.andThen_ok, Sem.run_pure, After]
  exact hk

theorem after_unit {s : Sem Unit} {w' : World} {K : Value → World → Prop} (hs : Does P s w () w') (hk : K undef w') : After P K ((do s; pure Next.skip : Sem Next).run P w) := by
  unfold Does at hs
  simp only [Sem.run_bind, hs, Result.andThen_ok, Sem.run_pure, After]
  exact hk

theorem boolV_cases {v : Value} {K : Bool → Prop} (h : boolV v K) : ∃ b, v = .bool b ∧ K b := by
  cases v <;> first | exact h.elim | exact ⟨_, rfl, h⟩

theorem ptrV_cases {v : Value} {K : Addr → Prop} (h : ptrV v K) : ∃ a, v = .pointer (some a) ∧ K a := by
  cases v <;> first | exact h.elim | skip
  rename_i a
  cases a <;> first | exact h.elim | exact ⟨_, rfl, h⟩

theorem tupV_cases {v : Value} {i : Nat} {K : Value → Prop} (h : tupV v i K) : ∃ vs x, v = .tuple vs ∧ vs[i]? = some x ∧ K x := by
  cases v <;> first | exact h.elim | skip
  rename_i vs
  simp only [tupV] at h
  cases hx : vs[i]? with
  | none => simp [hx] at h
  | some x => exact ⟨vs, x, rfl, hx, by simpa [hx] using h⟩

theorem equalIn_bool (d : Nat) {t : TypeId} (h : P.underlying t = some .bool) (a b : Bool) (w : World) : (Op.equalIn (d + 1) t (.bool a) (.bool b)).run P w = .ok (a == b) w := by
  simp [Op.equalIn, run_underlying h]
theorem equal_bool {t : TypeId} (h : P.underlying t = some .bool) (a b : Bool) (w : World) : (Op.equal t (.bool a) (.bool b)).run P w = .ok (a == b) w := equalIn_bool 9999 h a b w

theorem bool_op {op : BinOp} {t : TypeId} {ox oy : Operand} {a b : Bool} {K : Value → Prop} (h1 : P.underlying t = some .bool)
    (h2 : match op with | .eql => K (.bool (a == b)) | .neq => K (.bool (a != b)) | _ => False) :
    ∃ v, (∀ w, Does P (do eqGuard op t ox oy (.bool a) (.bool b); binOp op t (.bool a) (.bool b)) w v w) ∧ K v := by
  have hu := fun a b w => equal_bool h1 a b w
  cases op <;> first | exact h2.elim | skip
  · refine ⟨_, fun w => ?_, h2⟩
    unfold Does
    simp [eqGuard, binOp, hu]
  · refine ⟨_, fun w => ?_, h2⟩
    unfold Does
    simp [eqGuard, binOp, hu]
    cases a <;> cases b <;> rfl

theorem binV_cases {op : BinOp} {t : TypeId} {ox oy : Operand} {x y : Value} {K : Value → World → Prop} (h : binV P op t ox oy x y w K) :
    ∃ v w', Does P (do eqGuard op t ox oy x y; binOp op t x y) w v w' ∧ K v w' := by
  unfold binV at h
  split at h
  · obtain ⟨v, h1, h2⟩ := intV_sound (P := P) (t := t) (ox := ox) (oy := oy) h
    exact ⟨v, w, h1 w, h2⟩
  · rename_i a b
    obtain ⟨h1, h2⟩ := h
    obtain ⟨v, h3, h4⟩ := bool_op (op := op) (a := a) (b := b) (ox := ox) (oy := oy) (K := fun v => K v w) h1 h2
    exact ⟨v, w, h3 w, h4⟩
  · exact h

theorem unV_cases {op : UnOp} {x : Value} {K : Value → Prop} (h : unV op x K) : ∃ v, (∀ w, Does P (Op.unary op x) w v w) ∧ K v := by
  unfold unV at h
  split at h
  · exact ⟨_, fun w => by simp [Does, Op.unary], h⟩
  · exact ⟨_, fun w => by simp [Does, Op.unary, Op.intArith], arith_wrap h⟩
  · exact h.elim

theorem convV_cases {s d : TypeId} {x : Value} {K : Value → World → Prop} (h : convV P s d x w K) : ∃ v w', Does P (convert s d x) w v w' ∧ K v w' := by
  unfold convV at h
  split at h
  · rename_i k k' n hd
    obtain ⟨h1, h2⟩ := h
    obtain ⟨u, hu⟩ := Option.isSome_iff_exists.1 h1
    exact ⟨_, w, by simp [Does, convert, run_underlying hu, run_underlying hd, Conv.intToInt], h2⟩
  · exact h

theorem info_parts' {t : TypeId} {i : TypeInfo} (h : P.info? t = some i) (w : World) : (typeInfo t).run P w = .ok i w := by
  simp [typeInfo, h]

theorem fieldOff_run {t : TypeId} {f off : Nat} (h : fieldOff P t f = some off) (a : Addr) (w : World) : Does P (Instr.fieldAt t (.pointer (some a)) f) w (.pointer (some (a.add off))) w := by
  unfold fieldOff at h
  split at h
  · rename_i fs hu
    split at h
    · rename_i fd hf
      split at h
      · rename_i i hi
        split at h
        · cases h
        · rename_i hs
          injection h with h
          subst h
          simp [Does, Instr.fieldAt, run_underlying hu, hf, Instr.sureAddr, fieldPlace, sizeOf, info_parts' hi, hs]
      · cases h
    · cases h
  · cases h

theorem fieldV_cases {t : TypeId} {f : Nat} {x : Value} {K : Value → Prop} (h : fieldV P t f x K) : ∃ v, (∀ w, Does P (Instr.field t x f) w v w) ∧ K v := by
  unfold fieldV at h
  split at h
  · rename_i off n cs hv
    refine ⟨_, fun w => ?_, h⟩
    unfold fieldVal at hv
    split at hv
    · rename_i fs hu
      split at hv
      · rename_i fd hf
        split at hv
        · rename_i ff i h1 h2
          injection hv with hv
          injection hv with e1 e2
          injection e2 with e2
          subst e1; subst e2
          simp [Does, Instr.field, run_underlying hu, hf, part, isAgg, run_underlying h1, asAgg, sizeOf, info_parts' h2]
        · rename_i ff h3 i h1 h2
          injection hv with hv
          injection hv with e1 e2
          injection e2 with e2
          subst e1; subst e2
          simp [Does, Instr.field, run_underlying hu, hf, part, isAgg, run_underlying h1, asAgg, sizeOf, info_parts' h2]
        · injection hv with hv; injection hv with e1 e2; cases e2
        · cases hv
      · cases hv
    · cases hv
  · rename_i off cs hv
    split at h
    · rename_i v hc
      refine ⟨_, fun w => ?_, h⟩
      unfold fieldVal at hv
      split at hv
      · rename_i fs hu
        split at hv
        · rename_i fd hf
          split at hv
          · injection hv with hv; injection hv with e1 e2; cases e2
          · injection hv with hv; injection hv with e1 e2; cases e2
          · rename_i u i h1 h2 h3 h4
            injection hv with hv
            injection hv with e1 e2
            subst e1
            cases u <;> simp [Does, Instr.field, run_underlying hu, hf, part, isAgg, run_underlying h3, asAgg, hc] <;> simp_all
          · cases hv
        · cases hv
      · cases hv
    · exact h.elim
  · exact h.elim

theorem lenIs_run {t e : TypeId} {x : Value} {n : Nat} (ht : P.underlying t = some (.slice e)) (h : LenIs x n) (ats : Array TypeId) (ty : TypeId) (args : Array Value) (h1 : ats[0]? = some t) (h2 : args[0]? = some x) :
    Does P (Builtin.len_ ats ty args) w (.int .i64 n) w := by
  obtain ⟨a, c, rfl⟩ := h
  simp [Does, Builtin.len_, h1, h2, run_underlying ht, goInt]

theorem invoke_func (f : FuncId) (first captured args : Array Value) : (do let d ← Deferred.ofValue (.func (.func f) first captured) args; invoke d.target d.args : Sem Next) = callFunc f (first ++ args ++ captured) := rfl

theorem callV_sound {e : Env} {c : Call} {ty : TypeId} {K : Value → World → Prop} (h : callV P e c ty w K) :
    After P K ((do let d ← resolve (ev e) c ty; invoke d.target d.args).run P w) := by
  obtain ⟨callee, args, ats⟩ := c
  cases callee with
  | value o =>
    have key : ∀ f first captured, ev e o = .func (.func f) first captured → FC P f (first ++ args.map (ev e) ++ captured) w K →
        After P K ((do let d ← resolve (ev e) { callee := .value o, args := args, argTypes := ats } ty; invoke d.target d.args).run P w) := by
      intro f first captured ho hc
      have : (do let d ← resolve (ev e) { callee := .value o, args := args, argTypes := ats } ty; invoke d.target d.args : Sem Next) = callFunc f (first ++ args.map (ev e) ++ captured) := by
        simp only [resolve, ho]; rfl
      rw [this]; exact hc
    cases o with
    | func f => exact key f #[] #[] rfl (by simpa [callV] using h)
    | _ =>
      simp only [callV] at h
      split at h
      · rename_i f first captured ho; exact key f first captured ho h
      · exact h.elim
  | invoke r m => exact h
  | builtin b =>
    have res : ∀ w, (resolve (ev e) { callee := .builtin b, args := args, argTypes := ats } ty).run P w = .ok { target := .builtin b ats ty (args.map fun | .const _ => true | _ => false), args := args.map (ev e) } w := fun w => rfl
    have fin : ∀ s : Sem Value, (∀ cs, builtin b ats ty cs (args.map (ev e)) = (do pure (.value (← s)) : Sem Next)) → (∃ v w', Does P s w v w' ∧ K v w') →
        After P K ((do let d ← resolve (ev e) { callee := .builtin b, args := args, argTypes := ats } ty; invoke d.target d.args).run P w) := by
      intro s hs ⟨v, w', h1, h2⟩
      have := after_value (P := P) (s := s) h1 h2
      simp only [Sem.run_bind, res, Result.andThen_ok, invoke, hs] at this ⊢
      exact this
    cases b with
    | len =>
      refine fin (Builtin.len_ ats ty (args.map (ev e))) (fun _ => rfl) ?_
      simp only [callV] at h
      split at h
      · rename_i t x ht hx
        split at h
        · rename_i el hu
          obtain ⟨n, hn, hk⟩ := h
          exact ⟨_, w, lenIs_run hu hn _ _ _ ht hx, hk⟩
        · exact h
      · exact h.elim
    | append => exact fin (Builtin.append_ ats ty (args.map (ev e))) (fun _ => rfl) h
    | copy => exact fin (Builtin.copy_ ats ty (args.map (ev e))) (fun _ => rfl) h
    | min =>
      refine fin (Builtin.min_ ats ty (args.map (ev e))) (fun _ => rfl) ?_
      simp only [callV] at h
      split at h
      · rename_i k x k2 y hx
        refine ⟨_, w, ?_, h⟩
        simp only [Does, Builtin.min_, hx]
        simp [Builtin.min2]
      · exact h.elim
    | max =>
      refine fin (Builtin.max_ ats ty (args.map (ev e))) (fun _ => rfl) ?_
      simp only [callV] at h
      split at h
      · rename_i k x k2 y hx
        refine ⟨_, w, ?_, h⟩
        simp only [Does, Builtin.max_, hx]
        simp [Builtin.max2]
      · exact h.elim
    | _ => exact h

theorem opV_sound {o : Oper} {e : Env} {K : Value → World → Prop} (h : opV P o e w K) : After P K ((execOp (ev e) o).run P w) := by
  obtain ⟨dst, op, ty, pos, aft, gd⟩ := o
  cases op <;> simp only [opV] at h <;> simp only [execOp]
  case move x => exact h
  case assign x => exact h
  case pick c a b =>
    obtain ⟨t, ht, hk⟩ := boolV_cases h
    simp only [ht]
    cases t <;> exact hk
  case alloc t => obtain ⟨v, w', h1, h2⟩ := h; exact after_value h1 h2
  case box t x => obtain ⟨v, w', h1, h2⟩ := h; exact after_value h1 h2
  case build t ps => obtain ⟨v, h1, h2⟩ := h; exact after_value (h1 w) h2
  case buildSlice t n ps => obtain ⟨v, w', h1, h2⟩ := h; exact after_value h1 h2
  case load t a => obtain ⟨v, h1, h2⟩ := h; exact after_value h1 h2
  case store t a x => obtain ⟨w', h1, h2⟩ := h; exact after_unit h1 h2
  case nilCheck x =>
    obtain ⟨a, ha, hk⟩ := ptrV_cases h
    simp only [ha]
    exact hk
  case binOp op t x y yt => obtain ⟨v, w', h1, h2⟩ := binV_cases h; exact after_value (s := do eqGuard op t x y (ev e x) (ev e y); binOp op t (ev e x) (ev e y)) h1 h2
  case unOp op t x => obtain ⟨v, h1, h2⟩ := unV_cases (P := P) h; exact after_value (h1 w) h2
  case convert s d x => obtain ⟨v, w', h1, h2⟩ := convV_cases h; exact after_value h1 h2
  case makeFunc fn first cap => exact h
  case makeSlice t l c => obtain ⟨v, w', h1, h2⟩ := h; exact after_value h1 h2
  case slice t x lo hi mx => obtain ⟨v, h1, h2⟩ := h; exact after_value (h1 w) h2
  case fieldAddr t x f =>
    split at h
    · rename_i off ho
      obtain ⟨a, ha, hk⟩ := ptrV_cases h
      rw [ha]
      exact after_value (fieldOff_run ho a w) hk
    · exact h.elim
  case field t x f => obtain ⟨v, h1, h2⟩ := fieldV_cases h; exact after_value (h1 w) h2
  case indexAddr t x i => obtain ⟨ad, h1, h2⟩ := h; exact after_value (h1 w) h2
  case index t x i => obtain ⟨v, h1, h2⟩ := h; exact after_value (h1 w) h2
  case extract t i =>
    obtain ⟨vs, x, h1, h2, hk⟩ := tupV_cases h
    refine after_value (v := x) (w' := w) ?_ hk
    simp [Does, h1, Instr.extract, h2]
  case call c => exact callV_sound h
  all_goals exact h

/-! ### Regions in their order -/

def gv (v : Value) (want : Bool) (run skip : Prop) : Prop :=
  match v with
  | .bool b => if b = want then run else skip
  | _ => skip

def guardV (ops : List Oper) (o : Oper) (e : Env) (run skip : Prop) : Prop :=
  match o.guard with
  | none => run
  | some (j, want) => (match (ops[j]?).bind (·.dst) with
    | some d => gv (e d) want run skip
    | none => skip)

theorem guardV_cases {ops : List Oper} {o : Oper} {e : Env} {a : Act} {n : Nat} {run skip : Prop} (hr : Rep n e a) (h : guardV ops o e run skip) :
    (Region.wanted o (yielded ops.toArray a.tmps) = true ∧ run) ∨ (Region.wanted o (yielded ops.toArray a.tmps) = false ∧ skip) := by
  unfold guardV at h
  unfold Region.wanted
  split at h
  · rename_i hg; rw [hg]; exact .inl ⟨rfl, h⟩
  · rename_i j want hg
    rw [hg]
    have hy : yielded ops.toArray a.tmps j = match ((ops[j]?).bind (·.dst)).bind (a.tmps[·]?) with | some (.bool b) => some b | _ => none := by
      simp [yielded]; rfl
    split at h
    · rename_i d hd
      have hv := hr.val d
      rw [Array.getD_eq_getD_getElem?] at hv
      simp only [hy, hd, Option.bind_some]
      unfold gv at h
      cases ht : a.tmps[d]? with
      | none =>
        rw [ht] at hv
        simp only [Option.getD_none] at hv
        rw [← hv] at h
        exact .inr ⟨by simp, by simpa [undef] using h⟩
      | some x =>
        rw [ht] at hv
        simp only [Option.getD_some] at hv
        rw [← hv] at h
        clear hv ht
        cases x with
        | bool b =>
          by_cases hb : b = want
          · exact .inl ⟨by simp [hb], by simpa [hb] using h⟩
          · exact .inr ⟨by simp [hb], by simpa [hb] using h⟩
        | _ => exact .inr ⟨by simp, h⟩
    · rename_i hd
      simp only [hy, hd]
      exact .inr ⟨by simp, h⟩

def opsV (P : Program) (ops : List Oper) (N : Env → World → Prop) : List Oper → Env → World → Prop
  | [], e, w => N e w
  | o :: r, e, w => guardV ops o e (opV P o e w (fun v w' => opsV P ops N r (put e o.dst v) w')) (opsV P ops N r (put e o.dst undef) w)

def fitsOps (n : Nat) (l : List Oper) : Bool := l.all fun o => match o.dst with | some d => decide (d < n) | none => true

theorem fits_dst {n : Nat} {l : List Oper} (h : fitsOps n l = true) {o : Oper} (ho : o ∈ l) : ∀ d, o.dst = some d → d < n := by
  intro d hd
  have := List.all_eq_true.1 h o ho
  simpa [hd] using this

theorem opsV_sound {n : Nat} {ops : List Oper} {N : Env → World → Prop} {Q : Exit → Act → World → Prop} (hQ : ∀ e a w, Rep n e a → N e w → Q .normal a w) :
    ∀ (l : List Oper) (e : Env) (a : Act) (w : World), fitsOps n l = true → Rep n e a → opsV P ops N l e w → wpList P ops.toArray Q l a w
  | [], e, a, w, _, hr, h => hQ e a w hr h
  | o :: r, e, a, w, hf, hr, h => by
    have hd := fits_dst hf (List.mem_cons_self ..)
    have hf' : fitsOps n r = true := by simp only [fitsOps, List.all_cons, Bool.and_eq_true] at hf; exact hf.2
    unfold wpList
    rcases guardV_cases hr h with ⟨hw, h⟩ | ⟨hw, h⟩
    · rw [if_pos hw]
      left
      unfold Oper.wp
      rw [hr.eval]
      exact (opV_sound h).upon fun v w' hk => opsV_sound hQ r _ _ _ hf' (hr.put hd v) hk
    · rw [if_neg (by simp [hw])]
      exact opsV_sound hQ r _ _ _ hf' (hr.put hd undef) h

/-! ### Regions whose order is drawn -/

/-- What an operation of this mode does to the world: 0 (pure), 1, 2 (a load): nothing; 4: it keeps what was there; 3: anything. -/
def Cl (m : Nat) (w w' : World) : Prop := if m ≤ 2 then w' = w else if m = 4 then Below w.heap.size w w' else True
theorem Cl.refl (m : Nat) (w : World) : Cl m w w := by
  unfold Cl; split
  · rfl
  · split
    · exact Below.refl _ _
    · trivial

def wpAnyC (P : Program) (ops : Array Oper) (mode : Nat → Nat) (Q : Exit → Act → World → Prop) : Nat → Array Bool → Act → World → Prop
  | 0, listed, a, w => Region.ready .any ops listed = [] ∧ Q .normal a w
  | fuel + 1, listed, a, w =>
    (Region.ready .any ops listed = [] → Q .normal a w) ∧
    ∀ i ∈ Region.ready .any ops listed, wpOp P ops Q i (fun a' w' => Cl (mode i) w w' ∧ wpAnyC P ops mode Q fuel (listed.setIfInBounds i true) a' w') a w

theorem wpAny_of_C {ops : Array Oper} {mode : Nat → Nat} {Q : Exit → Act → World → Prop} : ∀ (fuel : Nat) (listed : Array Bool) (a : Act) (w : World),
    wpAnyC P ops mode Q fuel listed a w → wpAny P .any ops Q fuel listed a w
  | 0, _, _, _, h => h
  | fuel + 1, _, _, _, h => ⟨h.1, fun i hi => wpOp_mono (fun a' w' h' => wpAny_of_C fuel _ a' w' h'.2) (h.2 i hi)⟩

/-- In every world of the class the operation leaves v, and the world alone. -/
def YieldsC (P : Program) (ops : Array Oper) (C : World → Prop) (o : Oper) (v : Value) (a : Act) : Prop :=
  (Region.wanted o (yielded ops a.tmps) = true ∧ ∀ w, C w → (execOp a.eval o).run P w = .ok (.value v) w) ∨ (Region.wanted o (yielded ops a.tmps) = false ∧ v = undef)

theorem YieldsC.of_same {ops : Array Oper} {C : World → Prop} {o : Oper} {v : Value} {a a' : Act} (hy : YieldsC P ops C o v a) (he : execOp a'.eval o = execOp a.eval o)
    (hw : Region.wanted o (yielded ops a'.tmps) = Region.wanted o (yielded ops a.tmps)) : YieldsC P ops C o v a' := by
  unfold YieldsC at *
  rw [he, hw]
  exact hy

theorem YieldsC.wpOp {ops : Array Oper} {C : World → Prop} {Q : Exit → Act → World → Prop} {i : Nat} {o : Oper} {v : Value} {a : Act} (hi : ops[i]? = some o) (hC : C w) (hy : YieldsC P ops C o v a)
    {K : Act → World → Prop} (h : K (a.put o.dst v) w) : wpOp P ops Q i K a w := by
  unfold Go.wpOp
  simp only [hi]
  rcases hy with ⟨hw, hv⟩ | ⟨hw, rfl⟩
  · simp only [hw, if_true, Oper.wp, hv w hC, Oper.upon]; exact .inl h
  · simp only [hw, Bool.false_eq_true, if_false]; exact h

/-- An operation that is apart from oi: whether oi's value is in its place already makes no difference to it, nor it to oi. -/
theorem wpOp_shift {ops : Array Oper} {C : World → Prop} {Q : Exit → Act → World → Prop} {j : Nat} {oi oj : Oper} {v : Value} (hj : ops[j]? = some oj) (hap : oi.apart ops oj = true)
    (hsi : ∀ cs b, oi.op ≠ .select cs b) (hsj : ∀ cs b, oj.op ≠ .select cs b) (hQ : ∀ c a w, ¬ Q (.panic c) a w) {K : Act → World → Prop} {a : Act}
    (hy : YieldsC P ops C oi v a) (h : wpOp P ops Q j K (a.put oi.dst v) w) :
    wpOp P ops Q j (fun a' w' => YieldsC P ops C oi v a' ∧ K (a'.put oi.dst v) w') a w := by
  obtain ⟨h1, h2, h3⟩ := Oper.apart_spec hap
  have keep : ∀ (a : Act), YieldsC P ops C oi v a → ∀ u, YieldsC P ops C oi v (a.put oj.dst u) := fun a hy u =>
    hy.of_same (execOp_put oi hsi a oj.dst u h3) (wanted_put oi a oj.dst u h3)
  have next : ∀ (a : Act) u w, YieldsC P ops C oi v a → K ((a.put oi.dst v).put oj.dst u) w → YieldsC P ops C oi v (a.put oj.dst u) ∧ K ((a.put oj.dst u).put oi.dst v) w :=
    fun a u w hy hk => ⟨keep a hy u, by rw [← Act.put_comm a v u h2]; exact hk⟩
  unfold wpOp at h ⊢
  simp only [hj] at h ⊢
  rw [wanted_put oj a oi.dst v h1] at h
  by_cases hw : Region.wanted oj (yielded ops a.tmps) = true
  · rw [if_pos hw] at h ⊢
    unfold Oper.asks Oper.wp at h ⊢
    rw [execOp_put oj hsj a oi.dst v h1] at h
    rcases h with h | h
    case inr => exact .inr h
    left
    generalize (execOp a.eval oj).run P w = r at h ⊢
    cases r with
    | halt x w' => cases x <;> simp only [Oper.upon] at h ⊢; exact (hQ _ _ _ h).elim
    | ok n w' =>
      cases n <;> simp only [Oper.upon] at h ⊢
      case value u => exact next a u w' hy h
      case skip => exact next a _ w' hy h
      case defer d =>
        refine next { a with defers := d :: a.defers } undef w' (hy.of_same rfl rfl) ?_
        rw [← Act.put_defers]; exact h
      case enter f args =>
        refine Calls.mono h fun e w'' he => ?_
        cases e with
        | returned u => exact next a u w'' hy he
        | panicked c => exact (hQ _ _ _ he).elim
        | outgrown => exact he
      case row row args => exact Rows.mono h fun u w'' he => next a u w'' hy he
  · rw [if_neg hw] at h ⊢
    exact next a undef w hy h

theorem first {ops : Array Oper} {mode : Nat → Nat} {Q : Exit → Act → World → Prop} {C : World → Prop} {D : Nat → Bool} {i : Nat} {oi : Oper} {v : Value}
    (hi : ops[i]? = some oi) (hsel : ∀ (j : Nat) (o : Oper) cs b, ops[j]? = some o → o.op ≠ .select cs b) (hQ : ∀ c a w, ¬ Q (.panic c) a w) (hm : mode i ≤ 2)
    (hD : ∀ d, D d = true → ∀ od, ops[d]? = some od → ∃ e ∈ od.after, Region.binds .any e = true ∧ (e.on = i ∨ D e.on = true)) :
    ∀ (fuel : Nat) (listed : Array Bool) (a : Act) (w : World),
      (∀ d, D d = true → listed.getD d false = false) → listed.getD i false = false →
      (∀ j oj, ops[j]? = some oj → D j = false → j ≠ i → listed.getD j true = false → ∀ w1 w2, C w1 → Cl (mode j) w1 w2 → C w2) →
      (∀ j oj, ops[j]? = some oj → j ≠ i → listed.getD j true = false → (∀ e ∈ oj.after, Region.binds .any e = true → e.on ≠ i) → oi.apart ops oj = true) →
      i ∈ Region.ready .any ops listed → C w → YieldsC P ops C oi v a →
      wpAnyC P ops mode Q fuel (listed.setIfInBounds i true) (a.put oi.dst v) w → wpAnyC P ops mode Q (fuel + 1) listed a w := by
  intro fuel
  have own : ∀ w, Cl (mode i) w w := fun w => Cl.refl _ _
  induction fuel with
  | zero =>
    intro listed a w _ _ _ _ hr hC hy H
    refine ⟨fun h => (by rw [h] at hr; cases hr), fun j hj => ?_⟩
    by_cases hji : j = i
    · subst hji; exact hy.wpOp hi hC ⟨own w, H⟩
    · have := ready_mono hj hji
      rw [H.1] at this
      cases this
  | succ fuel ih =>
    intro listed a w hDu hiu hpres hfree hr hC hy H
    refine ⟨fun h => (by rw [h] at hr; cases hr), fun j hj => ?_⟩
    by_cases hji : j = i
    · subst hji; exact hy.wpOp hi hC ⟨own w, H⟩
    · have h1 := H.2 j (ready_mono hj hji)
      obtain ⟨hjun, oj, hoj, hall⟩ := mem_ready.1 hj
      have hnot : ∀ e ∈ oj.after, Region.binds .any e = true → e.on ≠ i := fun e he hb heq => by
        have h1 := hall e he hb
        rw [heq, hiu] at h1
        cases h1
      have hjD : D j = false := by
        cases hd : D j with
        | false => rfl
        | true =>
          obtain ⟨e, he, hb, h'⟩ := hD j hd oj hoj
          have h1 := hall e he hb
          rcases h' with h' | h'
          · rw [h', hiu] at h1; cases h1
          · rw [hDu _ h'] at h1; cases h1
      have h2 := wpOp_shift hoj (hfree j oj hoj hji hjun hnot) (fun cs b => hsel i oi cs b hi) (fun cs b => hsel j oj cs b hoj) hQ hy h1
      refine wpOp_mono (fun a' w' h3 => ⟨h3.2.1, ?_⟩) h2
      have hne : ∀ k (d : Bool), k ≠ j → (listed.setIfInBounds j true).getD k d = listed.getD k d := fun k d hk => getD_set_ne d (Ne.symm hk)
      refine ih (listed.setIfInBounds j true) a' w' ?_ ?_ ?_ ?_ (ready_mono hr (Ne.symm hji)) (hpres j oj hoj hjD hji hjun _ _ hC h3.2.1) h3.1 ?_
      · intro d hd
        rw [hne d false (fun h => by subst h; rw [hjD] at hd; cases hd)]
        exact hDu d hd
      · rw [hne i false (Ne.symm hji)]; exact hiu
      · intro k ok hk hkD hki hun
        by_cases hkj : k = j
        · subst hkj; exact hpres k ok hk hkD hki hjun
        · rw [hne k true hkj] at hun; exact hpres k ok hk hkD hki hun
      · intro k ok hk hki hun hno
        by_cases hkj : k = j
        · subst hkj; exact hfree k ok hk hki hjun hno
        · rw [hne k true hkj] at hun; exact hfree k ok hk hki hun hno
      · rw [Array.setIfInBounds_comm _ _ hji]
        exact h3.2.2

def pbin (P : Program) (op : BinOp) (t : TypeId) (x y : Value) (K : Value → Prop) : Prop :=
  match x, y with
  | .int k a, .int k' b => intV op k a k' b K
  | .bool a, .bool b => P.underlying t = some .bool ∧ (match op with | .eql => K (.bool (a == b)) | .neq => K (.bool (a != b)) | _ => False)
  | _, _ => False
def pconv (P : Program) (s d : TypeId) (x : Value) (K : Value → Prop) : Prop :=
  match P.underlying d, x with
  | some (.int k), .int _ n => (P.underlying s).isSome = true ∧ K (.int k (k.wrap n))
  | _, _ => False

def pureV (P : Program) (o : Oper) (e : Env) (K : Value → Prop) : Prop :=
  match o.op with
  | .move x | .assign x => K (ev e x)
  | .pick c a b => boolV (ev e c) (fun t => K (if t then ev e a else ev e b))
  | .build t ps => ∃ v, (∀ w, Does P (Instr.build t (ps.map fun (i, x) => (i, ev e x))) w v w) ∧ K v
  | .nilCheck x => ptrV (ev e x) (fun a => K (.pointer (some a)))
  | .binOp op t x y _ => pbin P op t (ev e x) (ev e y) K
  | .unOp op _ x => unV op (ev e x) K
  | .convert s d x => pconv P s d (ev e x) K
  | .makeFunc fn first cap => K (.func fn (first.map (ev e)) (cap.map (ev e)))
  | .slice t x lo hi mx => ∃ v, SlA P t (ev e x) (lo.map (ev e)) (hi.map (ev e)) (mx.map (ev e)) v ∧ K v
  | .fieldAddr t x f => (match fieldOff P t f with | some off => ptrV (ev e x) (fun a => K (.pointer (some (a.add off)))) | none => False)
  | .field t x f => fieldV P t f (ev e x) K
  | .indexAddr t x i => ∃ ad, IxA P t (ev e x) (ev e i) ad ∧ K (.pointer (some ad))
  | .index t x i => ∃ v, IxV P t (ev e x) (ev e i) v ∧ K v
  | .extract t i => tupV (ev e t) i K
  | .call c => (match c.callee with
    | .builtin .len => (match c.argTypes[0]?, (c.args.map (ev e))[0]? with
      | some t, some x => (match P.underlying t with
        | some (.slice _) => ∃ n : Nat, LenIs x n ∧ K (.int .i64 n)
        | _ => False)
      | _, _ => False)
    | .builtin .min => (match (c.args.map (ev e)).toList with
      | [.int k x, .int _ y] => K (.int k (if y < x then y else x))
      | _ => False)
    | .builtin .max => (match (c.args.map (ev e)).toList with
      | [.int k x, .int _ y] => K (.int k (if x < y then y else x))
      | _ => False)
    | _ => False)
  | _ => False

/-- A run that ends in a value, in every world, and leaves it alone. -/
def Pure (P : Program) (s : Sem Next) (v : Value) : Prop := ∀ w, s.run P w = .ok (.value v) w

theorem pure_value {s : Sem Value} {v : Value} (hs : ∀ w, Does P s w v w) : Pure P (do pure (Next.value (← s)) : Sem Next) v := by
  intro w
  have := hs w
  unfold Does at this
  simp only [Sem.run_bind, this, Result.andThen_ok, Sem.run_pure]

theorem pureV_sound {o : Oper} {e : Env} {K : Value → Prop} (h : pureV P o e K) : ∃ v, Pure P (execOp (ev e) o) v ∧ K v := by
  obtain ⟨dst, op, ty, pos, aft, gd⟩ := o
  cases op <;> simp only [pureV] at h <;> simp only [execOp]
  case move x => exact ⟨_, fun w => rfl, h⟩
  case assign x => exact ⟨_, fun w => rfl, h⟩
  case pick c a b =>
    obtain ⟨t, ht, hk⟩ := boolV_cases h
    refine ⟨_, fun w => ?_, hk⟩
    simp only [ht]
    cases t <;> rfl
  case build t ps => obtain ⟨v, h1, h2⟩ := h; exact ⟨v, pure_value h1, h2⟩
  case nilCheck x =>
    obtain ⟨a, ha, hk⟩ := ptrV_cases h
    exact ⟨_, fun w => by simp only [ha]; rfl, hk⟩
  case binOp op t x y yt =>
    unfold pbin at h
    split at h
    · rename_i k a k' b hx hy
      obtain ⟨v, h1, h2⟩ := intV_sound (P := P) (t := t) (ox := x) (oy := y) h
      refine ⟨v, pure_value (s := do eqGuard op t x y (ev e x) (ev e y); binOp op t (ev e x) (ev e y)) (fun w => ?_), h2⟩
      rw [hx, hy]; exact h1 w
    · rename_i a b hx hy
      obtain ⟨h0, h'⟩ := h
      obtain ⟨v, h1, h2⟩ := bool_op (P := P) (op := op) (a := a) (b := b) (ox := x) (oy := y) (K := K) h0 h'
      refine ⟨v, pure_value (s := do eqGuard op t x y (ev e x) (ev e y); binOp op t (ev e x) (ev e y)) (fun w => ?_), h2⟩
      rw [hx, hy]; exact h1 w
    · exact h.elim
  case unOp op t x => obtain ⟨v, h1, h2⟩ := unV_cases (P := P) h; exact ⟨v, pure_value h1, h2⟩
  case convert s d x =>
    unfold pconv at h
    split at h
    · rename_i k k' n hd hx
      obtain ⟨h1, h2⟩ := h
      obtain ⟨u, hu⟩ := Option.isSome_iff_exists.1 h1
      refine ⟨_, pure_value (fun w => ?_), h2⟩
      rw [hx]
      simp [Does, convert, run_underlying hu, run_underlying hd, Conv.intToInt]
    · exact h.elim
  case makeFunc fn first cap => exact ⟨_, pure_value (fun w => rfl), h⟩
  case slice t x lo hi mx => obtain ⟨v, h1, h2⟩ := h; exact ⟨v, pure_value h1, h2⟩
  case fieldAddr t x f =>
    split at h
    · rename_i off ho
      obtain ⟨a, ha, hk⟩ := ptrV_cases h
      rw [ha]
      exact ⟨_, pure_value (fieldOff_run ho a), hk⟩
    · exact h.elim
  case field t x f => obtain ⟨v, h1, h2⟩ := fieldV_cases h; exact ⟨v, pure_value h1, h2⟩
  case indexAddr t x i => obtain ⟨ad, h1, h2⟩ := h; exact ⟨_, pure_value h1, h2⟩
  case index t x i => obtain ⟨v, h1, h2⟩ := h; exact ⟨_, pure_value h1, h2⟩
  case extract t i =>
    obtain ⟨vs, x, h1, h2, hk⟩ := tupV_cases h
    refine ⟨x, pure_value (fun w => ?_), hk⟩
    simp [Does, h1, Instr.extract, h2]
  case call c =>
    obtain ⟨callee, args, ats⟩ := c
    cases callee with
    | value o => exact h.elim
    | invoke r m => exact h.elim
    | builtin b =>
      have fin : ∀ s : Sem Value, (∀ cs, builtin b ats ty cs (args.map (ev e)) = (do pure (.value (← s)) : Sem Next)) → ∀ v, (∀ w, Does P s w v w) →
          Pure P (do let d ← resolve (ev e) { callee := .builtin b, args := args, argTypes := ats } ty; invoke d.target d.args) v := by
        intro s hs v h1 w
        have := pure_value h1 w
        simp only [Sem.run_bind, resolve, Sem.run_pure, Result.andThen_ok, invoke, hs] at this ⊢
        exact this
      cases b with
      | len =>
        simp only at h
        split at h
        · rename_i t x ht hx
          split at h
          · rename_i el hu
            obtain ⟨n, hn, hk⟩ := h
            exact ⟨_, fin (Builtin.len_ ats ty (args.map (ev e))) (fun _ => rfl) _ (fun w => lenIs_run hu hn _ _ _ ht hx), hk⟩
          · exact h.elim
        · exact h.elim
      | min =>
        simp only at h
        split at h
        · rename_i k x k2 y hx
          refine ⟨_, fin (Builtin.min_ ats ty (args.map (ev e))) (fun _ => rfl) _ (fun w => ?_), h⟩
          simp only [Does, Builtin.min_, hx]
          simp [Builtin.min2]
        · exact h.elim
      | max =>
        simp only at h
        split at h
        · rename_i k x k2 y hx
          refine ⟨_, fin (Builtin.max_ ats ty (args.map (ev e))) (fun _ => rfl) _ (fun w => ?_), h⟩
          simp only [Does, Builtin.max_, hx]
          simp [Builtin.max2]
        · exact h.elim
      | _ => exact h.elim
  all_goals exact h.elim

def modeV (P : Program) (o : Oper) (m : Nat) (e : Env) (w : World) (K : Value → World → Prop) : Prop :=
  match m with
  | 0 => pureV P o e (fun v => K v w)
  | 1 => (match o.op with | .load t a => ∃ v, Ld P w t (ev e a) v ∧ K v w | _ => False)
  | 2 => (match o.op with | .load t a => ∃ v, (∀ w', Below w.heap.size w w' → Ld P w' t (ev e a) v) ∧ K v w | _ => False)
  | 3 => opV P o e w K
  | _ => opV P o e w (fun v w' => Below w.heap.size w w' ∧ K v w')

def dV (P : Program) (ops : List Oper) (N : Env → World → Prop) : List (Nat × Nat) → Env → World → Prop
  | [], e, w => N e w
  | (i, m) :: r, e, w => (match ops[i]? with
    | none => False
    | some o => guardV ops o e (modeV P o m e w (fun v w' => dV P ops N r (put e o.dst v) w')) (dV P ops N r (put e o.dst undef) w))

def modeIn (pl : List (Nat × Nat)) (j : Nat) : Nat := match pl.find? (·.1 == j) with | some (_, m) => m | none => 3

/-- Which operations wait for operation i, through however many others. -/
def waits (ops : Array Oper) (i : Nat) : Array Bool :=
  ops.foldl (fun D o => D.push (o.after.any fun e => Region.binds .any e && (e.on == i || D.getD e.on false))) #[]

def beside (m m' : Nat) : Bool := match m with
  | 0 => true
  | 1 => decide (m' ≤ 2)
  | _ => decide (m' ≤ 2) || m' == 4

def quietOk (ops : Array Oper) (mode : Nat → Nat) (listed : Array Bool) (i m : Nat) : Bool :=
  let D := waits ops i
  (Region.ready .any ops listed).contains i && Region.free .any ops listed i && decide (mode i ≤ 2) &&
  (List.range ops.size).all fun j =>
    (!(D.getD j false) || (!(listed.getD j false) && (match ops[j]? with
      | some o => o.after.any fun e => Region.binds .any e && (e.on == i || D.getD e.on false)
      | none => false))) &&
    (listed.getD j true || j == i || D.getD j false || beside m (mode j))

def planFrom (ops : Array Oper) (mode : Nat → Nat) : List (Nat × Nat) → Array Bool → Bool
  | [], listed => (Region.ready .any ops listed).isEmpty
  | (i, m) :: r, listed =>
    (if m ≤ 2 then quietOk ops mode listed i m else mode i == m && Region.ready .any ops listed == [i]) && planFrom ops mode r (listed.setIfInBounds i true)

def planOk (ops : Array Oper) (pl : List (Nat × Nat)) : Bool := (Region.noSelect ops && pl.length == ops.size) && planFrom ops (modeIn pl) pl (Array.replicate ops.size false)

theorem Cl.of_quiet {m : Nat} {w w' : World} (hm : m ≤ 2) (h : Cl m w w') : w' = w := by unfold Cl at h; rwa [if_pos hm] at h

theorem quiet_step {ops : Array Oper} {mode : Nat → Nat} {Q : Exit → Act → World → Prop} {C : World → Prop} {i m : Nat} {oi : Oper} {v : Value} {listed : Array Bool}
    (hi : ops[i]? = some oi) (hs : Region.noSelect ops = true) (hQ : ∀ c a w, ¬ Q (.panic c) a w) (hok : quietOk ops mode listed i m = true)
    (hpres : ∀ m' w1 w2, beside m m' = true → C w1 → Cl m' w1 w2 → C w2) (fuel : Nat) (a : Act) (w : World) (hC : C w) (hy : YieldsC P ops C oi v a)
    (H : wpAnyC P ops mode Q fuel (listed.setIfInBounds i true) (a.put oi.dst v) w) : wpAnyC P ops mode Q (fuel + 1) listed a w := by
  unfold quietOk at hok
  simp only [Bool.and_eq_true, List.all_eq_true, List.mem_range, decide_eq_true_eq] at hok
  obtain ⟨⟨⟨hr, hf⟩, hm⟩, hall⟩ := hok
  have hr' : i ∈ Region.ready .any ops listed := by simpa using hr
  have hD : ∀ d, ((waits ops i).getD d false) = true → ∀ od, ops[d]? = some od → listed.getD d false = false ∧ ∃ e ∈ od.after, Region.binds .any e = true ∧ (e.on = i ∨ (waits ops i).getD e.on false = true) := by
    intro d hd od hod
    have h1 := (hall d (Array.getElem?_eq_some_iff.1 hod).1).1
    rw [hd, hod] at h1
    simp only [Bool.not_true, Bool.false_or, Bool.and_eq_true, Bool.not_eq_true'] at h1
    obtain ⟨h1, h2⟩ := h1
    obtain ⟨e, he, hb⟩ := Array.any_eq_true'.1 h2
    simp only [Bool.and_eq_true, Bool.or_eq_true, beq_iff_eq] at hb
    exact ⟨h1, e, he, hb.1, hb.2⟩
  have hsz : (waits ops i).size = ops.size := by
    unfold waits
    rw [← Array.foldl_toList]
    have : ∀ (l : List Oper) (D : Array Bool), (l.foldl (fun D o => D.push (o.after.any fun e => Region.binds .any e && (e.on == i || D.getD e.on false))) D).size = D.size + l.length := by
      intro l
      induction l with
      | nil => intro D; rfl
      | cons o l ih => intro D; rw [List.foldl_cons, ih]; simp; omega
    rw [this]; simp
  have hin : ∀ d, ((waits ops i).getD d false) = true → ∃ od, ops[d]? = some od := by
    intro d hd
    rcases Nat.lt_or_ge d ops.size with h | h
    · exact ⟨ops[d], Array.getElem?_eq_getElem h⟩
    · rw [Array.getD_eq_getD_getElem?, Array.getElem?_eq_none (by omega)] at hd; cases hd
  refine first (D := fun d => (waits ops i).getD d false) hi (Region.noSelect_spec hs) hQ hm (fun d hd od hod => (hD d hd od hod).2) fuel listed a w ?_ ?_ ?_ (Region.free_spec hi hf) hr' hC hy H
  · intro d hd
    obtain ⟨od, hod⟩ := hin d hd
    exact (hD d hd od hod).1
  · have h0 := (mem_ready.1 hr').1
    rcases Nat.lt_or_ge i listed.size with h' | h'
    · simpa [h'] using h0
    · simp [Array.getElem?_eq_none h'] at h0
  · intro j oj hoj hjD hji hun w1 w2 h1 h2
    have h3 := (hall j (Array.getElem?_eq_some_iff.1 hoj).1).2
    rw [hun, hjD] at h3
    simp only [Bool.false_or, Bool.or_false, Bool.or_eq_true, beq_iff_eq, hji, false_or] at h3
    exact hpres _ _ _ h3 h1 h2

theorem dV_sound {n : Nat} {ops : List Oper} {mode : Nat → Nat} {N : Env → World → Prop} {Q : Exit → Act → World → Prop} (hs : Region.noSelect ops.toArray = true) (hQ : ∀ c a w, ¬ Q (.panic c) a w)
    (hN : ∀ e a w, Rep n e a → N e w → Q .normal a w) (hf : fitsOps n ops = true) :
    ∀ (pl : List (Nat × Nat)) (listed : Array Bool) (e : Env) (a : Act) (w : World), planFrom ops.toArray mode pl listed = true → Rep n e a → dV P ops N pl e w →
      wpAnyC P ops.toArray mode Q pl.length listed a w
  | [], listed, e, a, w, hp, hr, h => ⟨by simpa [planFrom] using hp, hN e a w hr h⟩
  | (i, m) :: r, listed, e, a, w, hp, hr, h => by
    simp only [planFrom, Bool.and_eq_true] at hp
    obtain ⟨hp, hp'⟩ := hp
    unfold dV at h
    cases ho : ops[i]? with
    | none => rw [ho] at h; exact h.elim
    | some o =>
      rw [ho] at h
      have hi : ops.toArray[i]? = some o := by simpa using ho
      have hd := fits_dst hf (List.mem_of_getElem? ho)
      have ih := fun (e : Env) (a : Act) (w : World) (hr : Rep n e a) (h : dV P ops N r e w) => dV_sound hs hQ hN hf r _ e a w hp' hr h
      by_cases hm : m ≤ 2
      · rw [if_pos hm] at hp
        rcases guardV_cases hr h with ⟨hw, h⟩ | ⟨hw, h⟩
        · have fin : ∀ (C : World → Prop) (v : Value), (∀ m' w1 w2, beside m m' = true → C w1 → Cl m' w1 w2 → C w2) → C w → (∀ w', C w' → (execOp (ev e) o).run P w' = .ok (.value v) w') →
              dV P ops N r (put e o.dst v) w → wpAnyC P ops.toArray mode Q (r.length + 1) listed a w := by
            intro C v hpres hC hv hk
            refine quiet_step hi hs hQ hp hpres r.length a w hC (.inl ⟨hw, fun w' hw' => ?_⟩) (ih _ _ _ (hr.put hd v) hk)
            rw [hr.eval]; exact hv w' hw'
          match m, hm with
          | 0, _ =>
            simp only [modeV] at h
            obtain ⟨v, h1, h2⟩ := pureV_sound h
            exact fin (fun _ => True) v (fun _ _ _ _ _ _ => trivial) trivial (fun w' _ => h1 w') h2
          | 1, _ =>
            simp only [modeV] at h
            split at h
            · rename_i t x hop
              obtain ⟨v, h1, h2⟩ := h
              refine fin (fun w' => w' = w) v (fun m' w1 w2 hb h1 h2 => ?_) rfl (fun w' hw' => ?_) h2
              · simp only [beside, decide_eq_true_eq] at hb
                exact (Cl.of_quiet hb h2).trans h1
              · rw [hw']
                simp only [execOp, hop]
                unfold Ld Does at h1
                simp only [Sem.run_bind, h1, Result.andThen_ok, Sem.run_pure]
            · exact h.elim
          | 2, _ =>
            simp only [modeV] at h
            split at h
            · rename_i t x hop
              obtain ⟨v, h1, h2⟩ := h
              refine fin (fun w' => Below w.heap.size w w') v (fun m' w1 w2 hb h1 h2 => ?_) (Below.refl _ _) (fun w' hw' => ?_) h2
              · simp only [beside, Bool.or_eq_true, decide_eq_true_eq, beq_iff_eq] at hb
                rcases hb with hb | hb
                · rw [Cl.of_quiet hb h2]; exact h1
                · subst hb
                  have h2' : Below w1.heap.size w1 w2 := by unfold Cl at h2; simpa using h2
                  exact h1.trans (h2'.mono h1.size)
              · have h1 := h1 w' hw'
                simp only [execOp, hop]
                unfold Ld Does at h1
                simp only [Sem.run_bind, h1, Result.andThen_ok, Sem.run_pure]
            · exact h.elim
        · refine quiet_step (C := fun w' => w' = w ∨ True) hi hs hQ hp (fun _ _ _ _ _ _ => .inr trivial) r.length a w (.inl rfl) (.inr ⟨hw, rfl⟩) (ih _ _ _ (hr.put hd undef) h)
      · rw [if_neg hm] at hp
        simp only [Bool.and_eq_true, beq_iff_eq] at hp
        obtain ⟨hmi, hready⟩ := hp
        refine ⟨fun h0 => (by rw [h0] at hready; cases hready), fun j hj => ?_⟩
        rw [hready] at hj
        obtain rfl := List.mem_singleton.1 hj
        unfold wpOp
        simp only [hi]
        rcases guardV_cases hr h with ⟨hw, h⟩ | ⟨hw, h⟩
        · rw [if_pos hw]
          left
          unfold Oper.wp
          rw [hr.eval]
          match m, hm, hmi with
          | 3, _, hmi =>
            simp only [modeV] at h
            exact (opV_sound h).upon fun v w' hk => ⟨by rw [hmi]; simp [Cl], ih _ _ _ (hr.put hd v) hk⟩
          | k + 4, _, hmi =>
            simp only [modeV] at h
            refine (opV_sound h).upon fun v w' hk => ⟨?_, ih _ _ _ (hr.put hd v) hk.2⟩
            rw [hmi]
            unfold Cl
            rw [if_neg (by omega)]
            split
            · exact hk.1
            · trivial
        · rw [if_neg (by simp [hw])]
          exact ⟨Cl.refl _ _, ih _ _ _ (hr.put hd undef) h⟩

/-! ### Code -/

def resL (P : Program) (e : Env) (w : World) : List ResultVar → (List Value → Prop) → Prop
  | [], K => K []
  | .tmp t :: r, K => resL P e w r (fun vs => K (e t :: vs))
  | .cell a t :: r, K => ptrV (e a) fun ad => ∃ v, Ld P w t (.pointer (some ad)) v ∧ resL P e w r (fun vs => K (v :: vs))

def one (K : Value → Prop) : List Value → Prop
  | [v] => K v
  | vs => K (.tuple vs.toArray)

def retV (P : Program) (rs : List ResultVar) (K : Value → World → Prop) (e : Env) (w : World) : Prop := resL P e w rs (one fun v => K v w)


def condV (v : Value) (T F : Prop) : Prop := match v with | .bool b => if b then T else F | _ => False

def regV (P : Program) (ops : List Oper) (draw : Bool) (N : Env → World → Prop) (e : Env) (w : World) : Prop :=
  if draw then ∃ pl, planOk ops.toArray pl = true ∧ dV P ops N pl e w.drew else opsV P ops N ops e w

def vc (P : Program) : Code → (Env → World → Prop) → (Nat → Env → World → Prop) → (Env → World → Prop) → Env → World → Prop
  | .skip, N, _, _, e, w => N e w
  | .region _ ops draw, N, _, _, e, w => regV P ops.toList draw N e w
  | .seq a b, N, X, R, e, w => vc P a (fun e w => vc P b N X R e w) X R e w
  | .cond c a b, N, X, R, e, w => condV (ev e c) (vc P a N X R e w) (vc P b N X R e w)
  | .block id c, N, X, R, e, w => vc P c N (fun j e w => if j = id then N e w else X j e w) R e w
  | .loop c, _, X, R, e, w => ∃ (I : Env → World → Prop) (m : Env → World → Nat), I e w ∧ ∀ e1 w1, I e1 w1 → vc P c (fun e2 w2 => I e2 w2 ∧ m e2 w2 < m e1 w1) X R e1 w1
  | .exit id, _, X, _, e, w => X id e w
  | .ret, _, _, R, e, w => R e w
  | .label _, N, _, _, e, w => N e w
  | .scope c, N, X, R, e, w => vc P c N X R e w
  | _, _, _, _, _, _ => False

def fits (n : Nat) : Code → Bool
  | .region _ ops _ => fitsOps n ops.toList
  | .seq a b => fits n a && fits n b
  | .cond _ a b => fits n a && fits n b
  | .block _ c => fits n c
  | .loop c => fits n c
  | .scope c => fits n c
  | _ => true

/-- The exits of a piece of code, over frames as functions. -/
def exits (n : Nat) (N : Env → World → Prop) (X : Nat → Env → World → Prop) (R : Env → World → Prop) : Exit → Act → World → Prop
  | .normal, a, w => ∃ e, Rep n e a ∧ N e w
  | .exit id, a, w => ∃ e, Rep n e a ∧ X id e w
  | .ret, a, w => ∃ e, Rep n e a ∧ R e w
  | _, _, _ => False

theorem vc_sound (hm : P.follows .mixedOrders = true) {n : Nat} : ∀ (c : Code) (N : Env → World → Prop) (X : Nat → Env → World → Prop) (R : Env → World → Prop) (e : Env) (a : Act) (w : World),
    fits n c = true → Rep n e a → vc P c N X R e w → c.wp P (exits n N X R) a w
  | .skip, N, X, R, e, a, w, _, hr, h => wp_skip ⟨e, hr, h⟩
  | .ret, N, X, R, e, a, w, _, hr, h => wp_ret ⟨e, hr, h⟩
  | .exit id, N, X, R, e, a, w, _, hr, h => wp_exit ⟨e, hr, h⟩
  | .label l, N, X, R, e, a, w, _, hr, h => wp_label ⟨e, hr, h⟩
  | .scope c, N, X, R, e, a, w, hf, hr, h => by
    refine wp_scope_straight (wp_mono (vc_sound hm c N X R e a w hf hr h) ?_)
    intro ex a' w' hq
    cases ex <;> first | exact hq | exact hq.elim
  | .seq x y, N, X, R, e, a, w, hf, hr, h => by
    simp only [fits, Bool.and_eq_true] at hf
    refine wp_seq (wp_mono (vc_sound hm x _ X R e a w hf.1 hr h) ?_)
    intro ex a' w' hq
    cases ex with
    | normal => obtain ⟨e', hr', h'⟩ := hq; exact vc_sound hm y N X R e' a' w' hf.2 hr' h'
    | _ => exact hq
  | .cond c x y, N, X, R, e, a, w, hf, hr, h => by
    simp only [fits, Bool.and_eq_true] at hf
    simp only [vc, condV] at h
    split at h
    · rename_i b hb
      rw [← hr.eval] at hb
      refine wp_cond hb ?_
      cases b
      · exact vc_sound hm y N X R e a w hf.2 hr (by simpa using h)
      · exact vc_sound hm x N X R e a w hf.1 hr (by simpa using h)
    · exact h.elim
  | .block id c, N, X, R, e, a, w, hf, hr, h => by
    refine wp_block (wp_mono (vc_sound hm c _ _ R e a w hf hr h) ?_)
    intro ex a' w' hq
    cases ex with
    | exit j =>
      obtain ⟨e', hr', h'⟩ := hq
      by_cases hj : j = id
      · simp only [Exit.inBlock, hj, if_true] at h' ⊢; exact ⟨e', hr', h'⟩
      · simp only [Exit.inBlock, hj, if_false] at h' ⊢; exact ⟨e', hr', h'⟩
    | _ => exact hq
  | .loop c, N, X, R, e, a, w, hf, hr, h => by
    obtain ⟨I, m, h0, hround⟩ := h
    let mu : Act → World → Nat := fun a w => m (fun i => a.tmps.getD i undef) w
    have hmu : ∀ e a w, Rep n e a → mu a w = m e w := fun e a w hr => by
      show m (fun i => a.tmps.getD i undef) w = m e w
      congr 1
      funext i; exact hr.val i
    refine wp_loop (fun a w => ∃ e, Rep n e a ∧ I e w) mu ⟨e, hr, h0⟩ ?_
    rintro a1 w1 ⟨e1, hr1, hI1⟩
    refine wp_mono (vc_sound hm c _ X R e1 a1 w1 hf hr1 (hround e1 w1 hI1)) ?_
    intro ex a' w' hq
    cases ex with
    | normal =>
      obtain ⟨e', hr', h1, h2⟩ := hq
      exact ⟨⟨e', hr', h1⟩, by rw [hmu _ _ _ hr', hmu _ _ _ hr1]; exact h2⟩
    | _ => exact hq
  | .region id ops draw, N, X, R, e, a, w, hf, hr, h => by
    simp only [vc, regV] at h
    simp only [fits] at hf
    let Q : Exit → Act → World → Prop := fun | .normal, a, w => ∃ e, Rep n e a ∧ N e w | _, _, _ => False
    have hQ : ∀ ex a w, Q ex a w → exits n N X R ex a w := fun ex a w hq => by cases ex <;> first | exact hq | exact hq.elim
    refine wp_mono (Q := Q) ?_ hQ
    cases draw with
    | false =>
      have := opsV_sound (n := n) (N := N) (Q := Q) (fun e a w hr hn => ⟨e, hr, hn⟩) ops.toList e a w hf hr (by simpa using h)
      exact wp_region_list (by simpa using this)
    | true =>
      rw [if_pos rfl] at h
      obtain ⟨pl, hp, h⟩ := h
      simp only [planOk, Bool.and_eq_true, beq_iff_eq] at hp
      obtain ⟨⟨hp1, hp2⟩, hp3⟩ := hp
      have := dV_sound (n := n) (ops := ops.toList) (N := N) (Q := Q) (mode := modeIn pl) (by simpa using hp1) (fun _ _ _ hq => hq) (fun e a w hr hn => ⟨e, hr, hn⟩) hf pl _ e a w.drew (by simpa using hp3) hr h
      refine wp_region_draw fun t => ?_
      simp only [Region.schedule, hm, Bool.true_or, if_true]
      have h2 := wpAny_of_C _ _ _ _ this
      simp only [Array.toArray_toList] at h2
      rw [hp2] at h2
      exact wpAny_sound ops.size t _ a _ (by simpa using h2)

def oneRes (tmps : Array Value) : ResultVar → Sem Value
  | .tmp t => pure (tmps.getD t undef)
  | .cell c t => do loadVar t (← asAddr (tmps.getD c undef))

theorem results_eq (fn : Func) (tmps : Array Value) : results fn tmps = (do let vs ← fn.results.mapM (oneRes tmps); pure (if h : vs.size = 1 then vs[0] else .tuple vs)) := by
  unfold results
  congr 1

theorem resL_sound {n : Nat} {e : Env} {a : Act} (hr : Rep n e a) : ∀ (rs : List ResultVar) (K : List Value → Prop), resL P e w rs K →
    ∃ vs, (rs.mapM (oneRes a.tmps)).run P w = .ok vs w ∧ K vs
  | [], K, h => ⟨[], rfl, h⟩
  | .tmp t :: r, K, h => by
    obtain ⟨vs, h1, h2⟩ := resL_sound hr r _ h
    refine ⟨e t :: vs, ?_, h2⟩
    have : (oneRes a.tmps (.tmp t)).run P w = .ok (e t) w := by simp only [oneRes, Sem.run_pure, hr.val]
    simp only [List.mapM_cons, Sem.run_bind, Sem.run_pure, Result.andThen_ok, h1, this]
  | .cell c t :: r, K, h => by
    simp only [resL] at h
    obtain ⟨ad, had, v, hv, h⟩ := ptrV_cases h
    obtain ⟨vs, h1, h2⟩ := resL_sound hr r _ h
    refine ⟨v :: vs, ?_, h2⟩
    unfold Ld Does Instr.loadAt Instr.sureAddr at hv
    simp only [Sem.run_bind, Sem.run_pure, Result.andThen_ok] at hv
    have : (oneRes a.tmps (.cell c t)).run P w = .ok v w := by
      unfold oneRes
      simp only [hr.val, had, asAddr, Sem.run_bind, Sem.run_pure, Result.andThen_ok, hv]
    simp only [List.mapM_cons, Sem.run_bind, Sem.run_pure, Result.andThen_ok, h1, this]

theorem retV_sound {n : Nat} {fn : Func} {K : Value → World → Prop} {e : Env} {a : Act} (hr : Rep n e a) (h : retV P fn.results.toList K e w) :
    ∃ v, (results fn a.tmps).run P w = .ok v w ∧ K v w := by
  obtain ⟨vs, h1, h2⟩ := resL_sound hr _ _ h
  have key : (results fn a.tmps).run P w = .ok (if h : vs.toArray.size = 1 then vs.toArray[0] else .tuple vs.toArray) w := by
    rw [results_eq, Array.mapM_eq_mapM_toList]
    simp only [Sem.run_bind, Sem.run_map, h1, Result.andThen_ok, Sem.run_pure]
  refine ⟨_, key, ?_⟩
  match vs, h2 with
  | [v], h2 => exact h2
  | [], h2 => exact h2
  | x :: y :: r, h2 => rw [dif_neg (by simp)]; exact h2

theorem FC.of_body (hm : P.follows .mixedOrders = true) {f : FuncId} {fn : Func} {c : Code} {args : Array Value} {K : Value → World → Prop} (hf : P.funcs[f]? = some fn) (hb : fn.body = some c)
    (hn : (fn.name == "runtime.NumGoroutine") = false) (hfit : fits fn.ntmps c = true) (hargs : args.size ≤ fn.ntmps)
    (h : vc P c (retV P fn.results.toList K) (fun _ _ _ => False) (retV P fn.results.toList K) (fun i => args.getD i undef) w) : FC P f args w K := by
  unfold FC
  have : (callFunc f args).run P w = .ok (.enter f args) w := by
    unfold callFunc
    have hn' : ¬ fn.name = "runtime.NumGoroutine" := fun h => by rw [h] at hn; simp at hn
    simp [hf, hn', hb]
  rw [this]
  refine calls_of_wp hf hb (wp_mono (vc_sound hm c _ _ _ _ _ w hfit (?_ : Rep fn.ntmps (fun i => args.getD i undef) _) h) ?_)
  · refine ⟨rfl, by simp; omega, fun i => ?_⟩
    simp only [Array.getD_eq_getD_getElem?, Array.getElem?_append]
    by_cases hi : i < args.size
    · simp [hi]
    · simp only [hi, Array.getElem?_replicate, if_false, Array.getElem?_eq_none (Nat.le_of_not_lt hi), Option.getD_none]
      split <;> rfl
  · intro ex a' w' hq
    cases ex with
    | normal => obtain ⟨e', hr', h'⟩ := hq; obtain ⟨v, h1, h2⟩ := retV_sound hr' h'; exact ⟨hr'.defers, v, h1, v, rfl, h2⟩
    | ret => obtain ⟨e', hr', h'⟩ := hq; obtain ⟨v, h1, h2⟩ := retV_sound hr' h'; exact ⟨hr'.defers, v, h1, v, rfl, h2⟩
    | exit id => obtain ⟨_, _, h⟩ := hq; exact h
    | _ => exact hq.elim

end

theorem lapp_cons {α : Type} (a : α) (l r : List α) : List.append (a :: l) r = a :: List.append l r := rfl
theorem lapp_nil {α : Type} (r : List α) : List.append [] r = r := rfl

end Go.V

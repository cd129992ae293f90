/- The engine of this proof: a calculus of weakest preconditions over frames that are functions. No program in sight. Memory in the calculus of V: slices that are read, rows that a call owns; the steps of a walk. No program in sight. Values as data: what a Go value reads as, the memory that a call owns, under names. No program in sight. -/
import Derived.WalkKit
import Derived.Deep.Quiet
import Derived.Scope
import Derived.OrdersIn
import Derived.TacticsIn
import Derived.RangeFuncLeaves
import Derived.RangeFuncRecord
import Derived.Lib.TrailingZeros
set_option linter.unusedSimpArgs false
set_option linter.unusedVariables false
namespace Go.V
open Go Go.RowKit

/-! ### Frames as functions -/

abbrev Env := Nat → Value
def upd (e : Env) (d : Nat) (v : Value) : Env := fun i => bif i == d then v else e i
theorem upd_apply (e : Env) (d : Nat) (v : Value) (i : Nat) : upd e d v i = bif i == d then v else e i := rfl
theorem upd_same (e : Env) (d : Nat) (v : Value) : upd e d v d = v := by simp [upd]
theorem upd_ne (e : Env) {d i : Nat} (v : Value) (h : i ≠ d) : upd e d v i = e i := by simp [upd, beq_false_of_ne h]
def put (e : Env) : Option Nat → Value → Env
  | some d, v => upd e d v
  | none, _ => e
theorem put_some (e : Env) (d : Nat) (v : Value) : put e (some d) v = upd e d v := rfl
theorem put_none (e : Env) (v : Value) : put e none v = e := rfl
def ev (e : Env) : Operand → Value
  | .tmp t => e t
  | .const v => v
  | .global g => .pointer (some ⟨g, 0, none⟩)
  | .func f => .func (.func f) #[] #[]
theorem ev_tmp (e : Env) (t : Nat) : ev e (.tmp t) = e t := rfl
theorem ev_const (e : Env) (v : Value) : ev e (.const v) = v := rfl
theorem ev_global (e : Env) (g : Nat) : ev e (.global g) = .pointer (some ⟨g, 0, none⟩) := rfl
theorem ev_func (e : Env) (f : Nat) : ev e (.func f) = .func (.func f) #[] #[] := rfl

structure Rep (n : Nat) (e : Env) (a : Act) (ds : List Deferred := []) : Prop where
  defers : a.defers = ds
  size : a.tmps.size = n
  val : ∀ i, a.tmps.getD i undef = e i

theorem Rep.eval {n : Nat} {e : Env} {a : Act} {ds : List Deferred} (h : Rep n e a ds) : a.eval = ev e := by
  funext x
  cases x <;> first | exact h.val _ | rfl

theorem Rep.put {n : Nat} {e : Env} {a : Act} {ds : List Deferred} (h : Rep n e a ds) {dst : Option Nat} (hd : ∀ d, dst = some d → d < n) (v : Value) : Rep n (V.put e dst v) (a.put dst v) ds := by
  cases dst with
  | none => exact h
  | some d =>
    have hn := hd d rfl
    refine ⟨h.defers, by simp [Act.put, h.size], fun i => ?_⟩
    have hv := h.val i
    simp only [Act.put, V.put, Array.getD_eq_getD_getElem?] at *
    rw [Array.getElem?_setIfInBounds]
    by_cases hi : d = i
    · subst hi; simp [h.size, hn, upd_same]
    · rw [if_neg hi, upd_ne _ _ (fun e => hi e.symm)]; exact hv

/-! ### What a run of one operation comes to -/

/-! ### Worlds that only grow -/

theorem viewStore_drawn {P : Program} {w w' : World} {a k : Addr} {u : TypeId} {v : Value} {b : Bool} {l : List Addr} (h : w.viewStore P a u k v b = .ok (w', l)) : w'.drawn = w.drawn := by
  unfold World.viewStore at h
  simp only [bind, Except.bind, pure, Except.pure, throw, throwThe, MonadExceptOf.throw] at h
  repeat' split at h
  all_goals first
    | (cases h; done)
    | (injection h with h; injection h with h _; rw [← h])
theorem ask_drawn {α : Type} : ∀ (q : Ask α) (w : World), w.drawn ≤ (w.ask q).2.drawn
  | .done a, w => Nat.le_refl _
  | .ask what range k, w => by
    unfold World.ask
    simp only
    split
    · exact ask_drawn (k 0) w
    · exact Nat.le_trans (Nat.le_succ _) (ask_drawn _ { w with drawn := w.drawn + 1 })
theorem sys_drawn (w : World) (c : Sys) : w.drawn ≤ (w.sys c).2.drawn := by
  have := ask_drawn (Kernel.perform c w.os) w
  unfold World.sys
  split
  · exact Nat.le_refl _
  · rename_i h; rw [h] at this; exact this
theorem run_drawn {α : Type} {P : Program} (s : Sem α) : ∀ (w : World) {x : α} {w' : World}, s.run P w = .ok x w' → w.drawn ≤ w'.drawn := by
  induction s with
  | pure a => intro w x w' h; simp only [Sem.run] at h; injection h with _ h; subst h; exact Nat.le_refl _
  | load m a k ih =>
    intro w x w' h
    simp only [Sem.run] at h
    repeat' split at h
    all_goals first | exact ih _ _ h | (cases h; done)
  | store m a v k ih =>
    intro w x w' h
    cases v <;> simp only [Sem.run] at h <;> (repeat' split at h) <;> first
      | (cases h; done)
      | (have t := ih _ h; exact t)
      | (rename_i hs
         unfold World.farStore at hs
         split at hs
         · split at hs
           · rename_i hv
             injection hs with hs
             rw [hs] at hv
             have t := ih _ h
             rw [viewStore_drawn hv] at t
             exact t
           · cases hs
         · cases hs)
  | new o k ih => intro w x w' h; simp only [Sem.run] at h; have t := ih _ _ h; exact t
  | shape r k ih => intro w x w' h; simp only [Sem.run] at h; exact ih _ _ h
  | freeze a n k ih =>
    intro w x w' h
    simp only [Sem.run] at h
    have := ih _ h
    rwa [show (w.freeze a n).drawn = w.drawn by unfold World.freeze; split <;> rfl] at this
  | frozen a k ih => intro w x w' h; simp only [Sem.run] at h; exact ih _ _ h
  | getObj r k ih =>
    intro w x w' h
    simp only [Sem.run] at h
    repeat' split at h
    all_goals first | exact ih _ _ h | (cases h; done)
  | setObj r o k ih =>
    intro w x w' h
    simp only [Sem.run] at h
    repeat' split at h
    all_goals first | (have t := ih _ h; exact t) | (cases h; done)
  | choose q k ih =>
    intro w x w' h
    simp only [Sem.run] at h
    split at h
    · exact ih _ _ h
    · exact Nat.le_trans (Nat.le_succ _) (ih _ _ h)
  | sys c k ih => intro w x w' h; simp only [Sem.run] at h; exact Nat.le_trans (sys_drawn w c) (ih _ _ h)
  | program k ih => intro w x w' h; simp only [Sem.run] at h; exact ih _ _ h
  | mark m k ih => intro w x w' h; simp only [Sem.run] at h; exact ih _ h
  | halt h0 => intro w x w' h; simp only [Sem.run] at h; cases h

/-- Below B nothing is turned; the draws go on. -/
structure Bel (B : Nat) (w w' : World) : Prop extends Below B w w' where
  dr : w.drawn ≤ w'.drawn
theorem Bel.refl (B : Nat) (w : World) : Bel B w w := ⟨Below.refl _ _, Nat.le_refl _⟩
theorem Bel.trans {B : Nat} {a b c : World} (h : Bel B a b) (k : Bel B b c) : Bel B a c := ⟨h.toBelow.trans k.toBelow, Nat.le_trans h.dr k.dr⟩
theorem Bel.mono {B B' : Nat} {w w' : World} (h : Bel B w w') (hB : B' ≤ B) : Bel B' w w' := ⟨h.toBelow.mono hB, h.dr⟩
theorem Bel.drew {B : Nat} {a w : World} (h : Bel B a w) : Bel B a w.drew := ⟨Below.drew h.toBelow, Nat.le_succ_of_le h.dr⟩
theorem Bel.grown {B : Nat} {w0 w w' : World} {row : Option Nat} (h : Bel B w0 w) (hd : w.drawn ≤ w'.drawn) (hg : w.grownBy w' row) (hB : B ≤ w.heap.size) (hr : ∀ g, row = some g → B ≤ g) : Bel B w0 w' := ⟨Below.grown h.toBelow hg hB hr, Nat.le_trans h.dr hd⟩
/-- Nothing that was there is turned. -/
abbrev Ext (w w' : World) : Prop := Bel w.heap.size w w'
theorem Ext.refl (w : World) : Ext w w := Bel.refl _ _
theorem Ext.trans' {a b c : World} (h : Ext a b) (k : Ext b c) : Ext a c := Bel.trans h (k.mono h.size)
theorem Ext.drew' {a w : World} (h : Ext a w) : Ext a w.drew := Bel.drew h
theorem ext_drew (w : World) : Ext w w.drew := Bel.drew (Bel.refl _ _)
theorem Ext.alloc' {a w : World} (h : Ext a w) (o : Obj) : Ext a (w.alloc o) := ⟨h.toBelow.alloc h.size o, h.dr⟩
def Ret (K : Value → World → Prop) : Ending → World → Prop := fun e w => ∃ v, e = .returned v ∧ K v w

def After (P : Program) (K : Value → World → Prop) : Result Next → Prop
  | .ok (.value v) w => K v w
  | .ok .skip w => K undef w
  | .ok (.enter f args) w => Calls P f args w (Ret K)
  | .ok (.row row args) w => Rows P row args w K
  | .ok (.round l f tmps assign body) w => RoundIn Fence.wide 0 P l f tmps assign body w (Ret K)
  | _ => False

theorem After.mono {P : Program} {K K' : Value → World → Prop} {r : Result Next} (h : After P K r) (hk : ∀ v w, K v w → K' v w) : After P K' r := by
  cases r with
  | halt x w => exact h.elim
  | ok n w =>
    cases n <;> simp only [After] at h ⊢
    case value v => exact hk _ _ h
    case skip => exact hk _ _ h
    case enter f args => exact h.mono fun e w' ⟨v, he, hv⟩ => ⟨v, he, hk _ _ hv⟩
    case row r args => exact h.mono hk
    case round l f tmps assign body => exact h.mono fun e w' ⟨v, he, hv⟩ => ⟨v, he, hk _ _ hv⟩

theorem rowsIn_wide {P : Program} {row : String} {args : Array Value} {w : World} {n : Nat} {R : Value → World → Prop} (h : Rows P row args w R) : RowsIn Fence.wide n P row args w R := fun c cs _ =>
  let ⟨v, w', r, s⟩ := h c cs; ⟨v, w', r, stepsIn_wide.2 s⟩

theorem After.upon {P : Program} {K : Value → World → Prop} {r : Result Next} {o : Oper} {a : Act} {next : Act → World → Prop} {Q : Exit → Act → World → Prop}
    (h : After P K r) (hk : ∀ v w, K v w → next (a.put o.dst v) w) : o.uponIn Fence.wide 0 P a next Q r := by
  cases r with
  | halt x w => exact h.elim
  | ok n w =>
    cases n <;> simp only [After] at h <;> simp only [Oper.uponIn]
    case value v => exact hk _ _ h
    case skip => exact hk _ _ h
    case enter f args => exact ⟨(fun h0 => by cases h0), callsIn_wide.2 (h.mono fun e w' ⟨v, he, hv⟩ => by subst he; exact hk _ _ hv)⟩
    case row r args => exact ⟨(fun h0 => by cases h0), rowsIn_wide (h.mono hk)⟩
    case round l f tmps assign body => exact ⟨(fun h0 => by cases h0), h.mono fun e w' ⟨v, he, hv⟩ => by subst he; exact hk _ _ hv⟩

/-! ### Operations and regions, in a round or not -/

/-- The fence of a round, or of a function's own frame. -/
def wf (ro : Option Nat) : Fence := { Fence.wide with round := ro }
theorem wf_none : wf none = Fence.wide := rfl
theorem wf_inRound (l : Nat) : Fence.wide.inRound l = wf (some l) := rfl
def noDefer (ops : List Oper) : Bool := ops.all fun o => match o.op with | .defer _ => false | _ => true
theorem noDefer_at {ops : List Oper} (h : noDefer ops = true) {o : Oper} (ho : o ∈ ops) : ∀ c, o.op ≠ .defer c := by
  intro c hc
  have := List.all_eq_true.1 h o ho
  simp [hc] at this
def opW (P : Program) (o : Oper) (a : Act) (w : World) (next : Act → World → Prop) (Q : Exit → Act → World → Prop) : Prop := o.uponIn Fence.wide 0 P a next Q ((execOp a.eval o).run P w)
def wpOpW (P : Program) (ops : Array Oper) (Q : Exit → Act → World → Prop) (i : Nat) (K : Act → World → Prop) (a : Act) (w : World) : Prop :=
  match ops[i]? with
  | none => K a w
  | some o => if Region.wanted o (yielded ops a.tmps) then opW P o a w K Q else K (a.put o.dst undef) w
def wpListW (P : Program) (ops : Array Oper) (Q : Exit → Act → World → Prop) : List Oper → Act → World → Prop
  | [], a, w => Q .normal a w
  | o :: rest, a, w => if Region.wanted o (yielded ops a.tmps) then opW P o a w (wpListW P ops Q rest) Q else wpListW P ops Q rest (a.put o.dst undef) w
theorem uponIn_mono {P : Program} {o : Oper} {a : Act} {K K' : Act → World → Prop} {Q : Exit → Act → World → Prop} {r : Result Next} (h : ∀ a w, K a w → K' a w) (hh : o.uponIn Fence.wide 0 P a K Q r) : o.uponIn Fence.wide 0 P a K' Q r := by
  cases r with
  | ok x w' =>
    cases x <;> simp only [Oper.uponIn] at hh ⊢ <;>
      first
        | exact h _ _ hh
        | exact ⟨hh.1, CallsIn.mono hh.2 (fun e w'' he => by cases e <;> first | exact h _ _ he | exact he)⟩
        | exact ⟨hh.1, RowsIn.mono hh.2 (fun _ _ he => h _ _ he)⟩
        | exact ⟨hh.1, RoundIn.mono hh.2 (fun e w'' he => by cases e <;> first | exact h _ _ he | exact he)⟩
  | halt x w' => cases x <;> simp only [Oper.uponIn] at hh ⊢ <;> exact hh
theorem wpOpW_mono {P : Program} {ops : Array Oper} {Q : Exit → Act → World → Prop} {i : Nat} {a : Act} {w : World} {K K' : Act → World → Prop} (h : ∀ a w, K a w → K' a w) (hh : wpOpW P ops Q i K a w) : wpOpW P ops Q i K' a w := by
  unfold wpOpW at *
  cases ho : ops[i]? with
  | none => rw [ho] at hh; exact h _ _ hh
  | some o =>
    rw [ho] at hh
    simp only at hh ⊢
    split at hh
    · rename_i hw; rw [if_pos hw]; exact uponIn_mono h hh
    · rename_i hw; rw [if_neg hw]; exact h _ _ hh
theorem opW_in {P : Program} {o : Oper} {a : Act} {w : World} {K : Act → World → Prop} {Q : Exit → Act → World → Prop} {ro : Option Nat} (hd : ro = none ∨ ∀ c, o.op ≠ .defer c) (h : opW P o a w K Q) : o.wpIn (wf ro) 0 P a w K Q := by
  have : o.semAt (wf ro).round a.eval = execOp a.eval o := by
    rcases hd with hd | hd
    · subst hd; exact Oper.semAt_none _ _
    · exact Oper.semAt_eq _ _ _ hd
  refine ⟨fun _ _ => trivial, ?_⟩
  rw [this]
  exact h
theorem wpOpW_in {P : Program} {ops : Array Oper} {Q : Exit → Act → World → Prop} {ro : Option Nat} (hd : ro = none ∨ noDefer ops.toList = true) {i : Nat} {a : Act} {w : World} {K : Act → World → Prop} (h : wpOpW P ops Q i K a w) : wpOpIn (wf ro) 0 P ops Q i K a w := by
  unfold wpOpW at h
  unfold wpOpIn
  cases ho : ops[i]? with
  | none => rw [ho] at h; exact h
  | some o =>
    rw [ho] at h
    simp only at h ⊢
    split at h
    · rename_i hw; rw [if_pos hw]; exact opW_in (hd.imp id fun hd => noDefer_at hd (by rw [Array.mem_toList_iff]; exact Array.mem_of_getElem? ho)) h
    · rename_i hw; rw [if_neg hw]; exact ⟨fun _ _ => trivial, h⟩
theorem wpListW_in {P : Program} {ops : Array Oper} {Q : Exit → Act → World → Prop} {ro : Option Nat} : ∀ {l : List Oper} {a : Act} {w : World}, (ro = none ∨ noDefer l = true) → wpListW P ops Q l a w → wpListIn (wf ro) 0 P ops Q l a w
  | [], _, _, _, h => h
  | o :: r, a, w, hd, h => by
    have hd' : ro = none ∨ noDefer r = true := hd.imp id fun hd => by simp only [noDefer, List.all_cons, Bool.and_eq_true] at hd; exact hd.2
    unfold wpListW at h
    unfold wpListIn
    split at h
    · rename_i hw
      rw [if_pos hw]
      exact Oper.wpIn_mono (fun a w h => wpListW_in hd' h) (opW_in (hd.imp id fun hd => noDefer_at hd (List.mem_cons_self ..)) h)
    · rename_i hw; rw [if_neg hw]; exact ⟨fun _ _ => trivial, wpListW_in hd' h⟩

/-- A call of function f, whether it has a body or not. -/
def FC (P : Program) (f : FuncId) (args : Array Value) (w : World) (K : Value → World → Prop) : Prop := After P K ((callFunc f args).run P w)

theorem FC.mono {P : Program} {f : FuncId} {args : Array Value} {w : World} {K K' : Value → World → Prop} (h : FC P f args w K) (hk : ∀ v w', K v w' → K' v w') : FC P f args w K' := After.mono h hk

def Does {α : Type} (P : Program) (s : Sem α) (w : World) (x : α) (w' : World) : Prop := s.run P w = .ok x w'

/-! ### Integers, bools -/

def R64 (n : Int) : Prop := -9223372036854775808 ≤ n ∧ n ≤ 9223372036854775807
theorem R64.wrap {n : Int} (h : R64 n) : IntKind.i64.wrap n = n := by rw [IntKind.wrap_i64]; unfold R64 at h; omega

def arith : IntKind → Int → (Value → Prop) → Prop
  | .i64, n, K => R64 n ∧ K (.int .i64 n)
  | k, n, K => K (.int k (k.wrap n))
theorem arith_wrap {k : IntKind} {n : Int} {K : Value → Prop} (h : arith k n K) : K (.int k (k.wrap n)) := by
  cases k <;> first | exact h | (obtain ⟨h1, h2⟩ := h; rw [h1.wrap]; exact h2)

def bitsV (op : BinOp) (k : IntKind) (x y : Int) : Int :=
  match op with
  | .and => k.wrap (BitVec.ofInt k.bits x &&& BitVec.ofInt k.bits y).toNat
  | .or => k.wrap (BitVec.ofInt k.bits x ||| BitVec.ofInt k.bits y).toNat
  | .xor => k.wrap (BitVec.ofInt k.bits x ^^^ BitVec.ofInt k.bits y).toNat
  | _ => k.wrap (BitVec.ofInt k.bits x &&& ~~~BitVec.ofInt k.bits y).toNat

def intV (op : BinOp) (k : IntKind) (a : Int) (k' : IntKind) (b : Int) (K : Value → Prop) : Prop :=
  match op with
  | .shl => 0 ≤ b ∧ K (.int k (k.wrap (a * 2 ^ (min b.toNat k.bits))))
  | .shr => 0 ≤ b ∧ K (.int k (a.fdiv (2 ^ (min b.toNat k.bits))))
  | .add => k = k' ∧ arith k (a + b) K
  | .sub => k = k' ∧ arith k (a - b) K
  | .mul => k = k' ∧ arith k (a * b) K
  | .quo => k = k' ∧ b ≠ 0 ∧ arith k (a.tdiv b) K
  | .rem => k = k' ∧ b ≠ 0 ∧ K (.int k (a.tmod b))
  | .and => k = k' ∧ K (.int k (bitsV .and k a b))
  | .or => k = k' ∧ K (.int k (bitsV .or k a b))
  | .xor => k = k' ∧ K (.int k (bitsV .xor k a b))
  | .andNot => k = k' ∧ K (.int k (bitsV .andNot k a b))
  | .eql => k = k' ∧ K (.bool (decide (a = b)))
  | .neq => k = k' ∧ K (.bool (decide (a ≠ b)))
  | .lss => k = k' ∧ K (.bool (decide (a < b)))
  | .leq => k = k' ∧ K (.bool (decide (a ≤ b)))
  | .gtr => k = k' ∧ K (.bool (decide (b < a)))
  | .geq => k = k' ∧ K (.bool (decide (b ≤ a)))

/-! ### Operations -/

def boolV (v : Value) (K : Bool → Prop) : Prop := match v with | .bool b => K b | _ => False
def tupV (v : Value) (i : Nat) (K : Value → Prop) : Prop := match v with
  | .tuple vs => (match vs[i]? with | some x => K x | none => False)
  | _ => False
def ptrV (v : Value) (K : Addr → Prop) : Prop := match v with | .pointer (some a) => K a | _ => False

def LenIs (v : Value) (n : Nat) : Prop := ∃ a c, v = .slice a n c

def binV (P : Program) (op : BinOp) (t : TypeId) (ox oy : Operand) (x y : Value) (w : World) (K : Value → World → Prop) : Prop :=
  match x, y with
  | .int k a, .int k' b => intV op k a k' b (fun v => K v w)
  | .bool a, .bool b => P.underlying t = some .bool ∧ (match op with | .eql => K (.bool (a == b)) w | .neq => K (.bool (a != b)) w | _ => False)
  | x, y => ∃ v w', Does P (do eqGuard op t ox oy x y; binOp op t x y) w v w' ∧ K v w'

def unV (op : UnOp) (x : Value) (K : Value → Prop) : Prop :=
  match op, x with
  | .not, .bool b => K (.bool !b)
  | .neg, .int k n => arith k (0 - n) K
  | _, _ => False

def convV (P : Program) (s d : TypeId) (x : Value) (w : World) (K : Value → World → Prop) : Prop :=
  match P.underlying d, x with
  | some (.int k), .int _ n => (P.underlying s).isSome = true ∧ K (.int k (k.wrap n)) w
  | _, x => ∃ v w', Does P (convert s d x) w v w' ∧ K v w'

/-- Where a field of a struct behind a pointer lies (of a field that has cells). -/
def fieldOff (P : Program) (t : TypeId) (f : Nat) : Option Nat :=
  match P.underlying t with
  | some (.struct fs) => (match fs[f]? with
    | some fd => (match P.info? fd.type with | some i => if i.size = 0 then none else some fd.offset | none => none)
    | none => none)
  | _ => none

/-- A field of a struct that is a value: where it begins, how many cells; none: it is itself one cell. -/
def fieldVal (P : Program) (t : TypeId) (f : Nat) : Option (Nat × Option Nat) :=
  match P.underlying t with
  | some (.struct fs) => (match fs[f]? with
    | some fd => (match P.underlying fd.type, P.info? fd.type with
      | some (.struct _), some i => some (fd.offset, some i.size)
      | some (.array ..), some i => some (fd.offset, some i.size)
      | some _, some _ => some (fd.offset, none)
      | _, _ => none)
    | none => none)
  | _ => none

def fieldV (P : Program) (t : TypeId) (f : Nat) (x : Value) (K : Value → Prop) : Prop :=
  match fieldVal P t f, x with
  | some (off, some n), .agg cs => K (.agg (cs.extract off (off + n)))
  | some (off, none), .agg cs => (match cs[off]? with | some v => K v | none => False)
  | _, _ => False

def Ld (P : Program) (w : World) (t : TypeId) (a v : Value) : Prop := Does P (Instr.loadAt t a) w v w
def St (P : Program) (w : World) (t : TypeId) (a v : Value) (w' : World) : Prop := Does P (Instr.storeAt t a v) w () w'
def IxA (P : Program) (t : TypeId) (x i : Value) (ad : Addr) : Prop := ∀ w, Does P (Instr.indexAt t x i) w (.pointer (some ad)) w
def IxV (P : Program) (t : TypeId) (x i v : Value) : Prop := ∀ w, Does P (Instr.index t x i) w v w
def SlA (P : Program) (t : TypeId) (x : Value) (lo hi mx : Option Value) (v : Value) : Prop := ∀ w, Does P (Instr.sliceAt t x lo hi mx) w v w

def callV (P : Program) (e : Env) (c : Call) (ty : TypeId) (w : World) (K : Value → World → Prop) : Prop :=
  match c.callee with
  | .value (.func f) => FC P f (c.args.map (ev e)) w K
  | .value o => (match ev e o with
    | .func (.func f) first captured => FC P f (first ++ c.args.map (ev e) ++ captured) w K
    | _ => False)
  | .builtin .len => (match c.argTypes[0]?, (c.args.map (ev e))[0]? with
    | some t, some x => (match P.underlying t with
      | some (.slice _) => ∃ n : Nat, LenIs x n ∧ K (.int .i64 n) w
      | _ => ∃ v w', Does P (Builtin.len_ c.argTypes ty (c.args.map (ev e))) w v w' ∧ K v w')
    | _, _ => False)
  | .builtin .append => ∃ v w', Does P (Builtin.append_ c.argTypes ty (c.args.map (ev e))) w v w' ∧ K v w'
  | .builtin .copy => ∃ v w', Does P (Builtin.copy_ c.argTypes ty (c.args.map (ev e))) w v w' ∧ K v w'
  | .builtin .min => (match (c.args.map (ev e)).toList with
    | [.int k x, .int _ y] => K (.int k (if y < x then y else x)) w
    | _ => False)
  | .builtin .max => (match (c.args.map (ev e)).toList with
    | [.int k x, .int _ y] => K (.int k (if x < y then y else x)) w
    | _ => False)
  | _ => After P K ((do let d ← resolve (ev e) c ty; invoke d.target d.args).run P w)

def opV (P : Program) (o : Oper) (e : Env) (w : World) (K : Value → World → Prop) : Prop :=
  match o.op with
  | .move x | .assign x => K (ev e x) w
  | .pick c a b => boolV (ev e c) (fun t => K (if t then ev e a else ev e b) w)
  | .alloc t => ∃ v w', Does P (Instr.alloc t true (.tuple #[])) w v w' ∧ K v w'
  | .box t x => ∃ v w', Does P (Instr.box t (ev e x)) w v w' ∧ K v w'
  | .build t ps => ∃ v, (∀ w, Does P (Instr.build t (ps.map fun (i, x) => (i, ev e x))) w v w) ∧ K v w
  | .buildSlice t n ps => ∃ v w', Does P (Instr.buildSlice t n (ps.map fun (i, x) => (i, ev e x))) w v w' ∧ K v w'
  | .load t a => ∃ v, Ld P w t (ev e a) v ∧ K v w
  | .store t a x => ∃ w', St P w t (ev e a) (ev e x) w' ∧ K undef w'
  | .nilCheck x => ptrV (ev e x) (fun a => K (.pointer (some a)) w)
  | .binOp op t x y _ => binV P op t x y (ev e x) (ev e y) w K
  | .unOp op _ x => unV op (ev e x) (fun v => K v w)
  | .convert s d x => convV P s d (ev e x) w K
  | .makeFunc fn first cap => K (.func fn (first.map (ev e)) (cap.map (ev e))) w
  | .makeSlice t l c => ∃ v w', Does P (Instr.makeSlice t (ev e l) (ev e c)) w v w' ∧ K v w'
  | .slice t x lo hi mx => ∃ v, SlA P t (ev e x) (lo.map (ev e)) (hi.map (ev e)) (mx.map (ev e)) v ∧ K v w
  | .fieldAddr t x f => (match fieldOff P t f with | some off => ptrV (ev e x) (fun a => K (.pointer (some (a.add off))) w) | none => False)
  | .field t x f => fieldV P t f (ev e x) (fun v => K v w)
  | .indexAddr t x i => ∃ ad, IxA P t (ev e x) (ev e i) ad ∧ K (.pointer (some ad)) w
  | .index t x i => ∃ v, IxV P t (ev e x) (ev e i) v ∧ K v w
  | .extract t i => tupV (ev e t) i (fun v => K v w)
  | .call c => callV P e c o.type w K
  | _ => After P K ((execOp (ev e) o).run P w)

section
variable {P : Program} {w : World}

theorem intV_sound {op : BinOp} {k k' : IntKind} {a b : Int} {K : Value → Prop} {t : TypeId} {ox oy : Operand} (h : intV op k a k' b K) :
    ∃ v, (∀ w, Does P (do eqGuard op t ox oy (.int k a) (.int k' b); binOp op t (.int k a) (.int k' b)) w v w) ∧ K v := by
  unfold Does
  cases op <;> simp only [intV] at h
  case shl => obtain ⟨h1, h2⟩ := h; exact ⟨_, fun w => by simp [eqGuard, binOp, Op.shift, Int.not_lt.2 h1], h2⟩
  case shr => obtain ⟨h1, h2⟩ := h; exact ⟨_, fun w => by simp [eqGuard, binOp, Op.shift, Int.not_lt.2 h1], h2⟩
  case add => obtain ⟨rfl, h2⟩ := h; exact ⟨_, fun w => by simp [eqGuard, binOp, Op.intArith], arith_wrap h2⟩
  case sub => obtain ⟨rfl, h2⟩ := h; exact ⟨_, fun w => by simp [eqGuard, binOp, Op.intArith], arith_wrap h2⟩
  case mul => obtain ⟨rfl, h2⟩ := h; exact ⟨_, fun w => by simp [eqGuard, binOp, Op.intArith], arith_wrap h2⟩
  case quo => obtain ⟨rfl, h1, h2⟩ := h; exact ⟨_, fun w => by simp [eqGuard, binOp, Op.intDiv, h1], arith_wrap h2⟩
  case rem => obtain ⟨rfl, h1, h2⟩ := h; exact ⟨_, fun w => by simp [eqGuard, binOp, Op.intDiv, h1], h2⟩
  case and => obtain ⟨rfl, h2⟩ := h; exact ⟨_, fun w => by simp [eqGuard, binOp, Op.intBits, bitsV], h2⟩
  case or => obtain ⟨rfl, h2⟩ := h; exact ⟨_, fun w => by simp [eqGuard, binOp, Op.intBits, bitsV], h2⟩
  case xor => obtain ⟨rfl, h2⟩ := h; exact ⟨_, fun w => by simp [eqGuard, binOp, Op.intBits, bitsV], h2⟩
  case andNot => obtain ⟨rfl, h2⟩ := h; exact ⟨_, fun w => by simp [eqGuard, binOp, Op.intBits, bitsV], h2⟩
  case eql => obtain ⟨rfl, h2⟩ := h; refine ⟨_, fun w => ?_, h2⟩; simp [eqGuard, binOp, Op.intCmp]; by_cases e : a = b <;> simp [e]
  case neq => obtain ⟨rfl, h2⟩ := h; refine ⟨_, fun w => ?_, h2⟩; simp [eqGuard, binOp, Op.intCmp]; by_cases e : a = b <;> simp [e]
  case lss => obtain ⟨rfl, h2⟩ := h; exact ⟨_, fun w => by simp [eqGuard, binOp, Op.intCmp], h2⟩
  case leq => obtain ⟨rfl, h2⟩ := h; exact ⟨_, fun w => by simp [eqGuard, binOp, Op.intCmp], h2⟩
  case gtr => obtain ⟨rfl, h2⟩ := h; exact ⟨_, fun w => by simp [eqGuard, binOp, Op.intCmp], h2⟩
  case geq => obtain ⟨rfl, h2⟩ := h; exact ⟨_, fun w => by simp [eqGuard, binOp, Op.intCmp], h2⟩

theorem after_value {s : Sem Value} {v : Value} {w' : World} {K : Value → World → Prop} (hs : Does P s w v w') (hk : K v w') : After P K ((do pure (Next.value (← s)) : Sem Next).run P w) := by
  unfold Does at hs
  simp only [Sem.run_bind, hs, Result.andThen_ok, Sem.run_pure, After]
  exact hk

theorem after_unit {s : Sem Unit} {w' : World} {K : Value → World → Prop} (hs : Does P s w () w') (hk : K undef w') : After P K ((do s; pure Next.skip : Sem Next).run P w) := by
  unfold Does at hs
  simp only [Sem.run_bind, hs, Result.andThen_ok, Sem.run_pure, After]
  exact hk

theorem boolV_cases {v : Value} {K : Bool → Prop} (h : boolV v K) : ∃ b, v = .bool b ∧ K b := by
  cases v <;> first | exact h.elim | exact ⟨_, rfl, h⟩

theorem ptrV_cases {v : Value} {K : Addr → Prop} (h : ptrV v K) : ∃ a, v = .pointer (some a) ∧ K a := by
  cases v <;> first | exact h.elim | skip
  rename_i a
  cases a <;> first | exact h.elim | exact ⟨_, rfl, h⟩

theorem tupV_cases {v : Value} {i : Nat} {K : Value → Prop} (h : tupV v i K) : ∃ vs x, v = .tuple vs ∧ vs[i]? = some x ∧ K x := by
  cases v <;> first | exact h.elim | skip
  rename_i vs
  simp only [tupV] at h
  cases hx : vs[i]? with
  | none => simp [hx] at h
  | some x => exact ⟨vs, x, rfl, hx, by simpa [hx] using h⟩

theorem equalIn_bool (d : Nat) {t : TypeId} (h : P.underlying t = some .bool) (a b : Bool) (w : World) : (Op.equalIn (d + 1) t (.bool a) (.bool b)).run P w = .ok (a == b) w := by
  simp [Op.equalIn, run_underlying h]
theorem equal_bool {t : TypeId} (h : P.underlying t = some .bool) (a b : Bool) (w : World) : (Op.equal t (.bool a) (.bool b)).run P w = .ok (a == b) w := equalIn_bool 9999 h a b w

theorem bool_op {op : BinOp} {t : TypeId} {ox oy : Operand} {a b : Bool} {K : Value → Prop} (h1 : P.underlying t = some .bool)
    (h2 : match op with | .eql => K (.bool (a == b)) | .neq => K (.bool (a != b)) | _ => False) :
    ∃ v, (∀ w, Does P (do eqGuard op t ox oy (.bool a) (.bool b); binOp op t (.bool a) (.bool b)) w v w) ∧ K v := by
  have hu := fun a b w => equal_bool h1 a b w
  cases op <;> first | exact h2.elim | skip
  · refine ⟨_, fun w => ?_, h2⟩
    unfold Does
    simp [eqGuard, binOp, hu]
  · refine ⟨_, fun w => ?_, h2⟩
    unfold Does
    simp [eqGuard, binOp, hu]
    cases a <;> cases b <;> rfl

theorem binV_cases {op : BinOp} {t : TypeId} {ox oy : Operand} {x y : Value} {K : Value → World → Prop} (h : binV P op t ox oy x y w K) :
    ∃ v w', Does P (do eqGuard op t ox oy x y; binOp op t x y) w v w' ∧ K v w' := by
  unfold binV at h
  split at h
  · obtain ⟨v, h1, h2⟩ := intV_sound (P := P) (t := t) (ox := ox) (oy := oy) h
    exact ⟨v, w, h1 w, h2⟩
  · rename_i a b
    obtain ⟨h1, h2⟩ := h
    obtain ⟨v, h3, h4⟩ := bool_op (op := op) (a := a) (b := b) (ox := ox) (oy := oy) (K := fun v => K v w) h1 h2
    exact ⟨v, w, h3 w, h4⟩
  · exact h

theorem unV_cases {op : UnOp} {x : Value} {K : Value → Prop} (h : unV op x K) : ∃ v, (∀ w, Does P (Op.unary op x) w v w) ∧ K v := by
  unfold unV at h
  split at h
  · exact ⟨_, fun w => by simp [Does, Op.unary], h⟩
  · exact ⟨_, fun w => by simp [Does, Op.unary, Op.intArith], arith_wrap h⟩
  · exact h.elim

theorem convV_cases {s d : TypeId} {x : Value} {K : Value → World → Prop} (h : convV P s d x w K) : ∃ v w', Does P (convert s d x) w v w' ∧ K v w' := by
  unfold convV at h
  split at h
  · rename_i k k' n hd
    obtain ⟨h1, h2⟩ := h
    obtain ⟨u, hu⟩ := Option.isSome_iff_exists.1 h1
    exact ⟨_, w, by simp [Does, convert, run_underlying hu, run_underlying hd, Conv.intToInt], h2⟩
  · exact h

theorem info_parts' {t : TypeId} {i : TypeInfo} (h : P.info? t = some i) (w : World) : (typeInfo t).run P w = .ok i w := by
  simp [typeInfo, h]

theorem fieldOff_run {t : TypeId} {f off : Nat} (h : fieldOff P t f = some off) (a : Addr) (w : World) : Does P (Instr.fieldAt t (.pointer (some a)) f) w (.pointer (some (a.add off))) w := by
  unfold fieldOff at h
  split at h
  · rename_i fs hu
    split at h
    · rename_i fd hf
      split at h
      · rename_i i hi
        split at h
        · cases h
        · rename_i hs
          injection h with h
          subst h
          simp [Does, Instr.fieldAt, run_underlying hu, hf, Instr.sureAddr, fieldPlace, sizeOf, info_parts' hi, hs]
      · cases h
    · cases h
  · cases h

theorem fieldV_cases {t : TypeId} {f : Nat} {x : Value} {K : Value → Prop} (h : fieldV P t f x K) : ∃ v, (∀ w, Does P (Instr.field t x f) w v w) ∧ K v := by
  unfold fieldV at h
  split at h
  · rename_i off n cs hv
    refine ⟨_, fun w => ?_, h⟩
    unfold fieldVal at hv
    split at hv
    · rename_i fs hu
      split at hv
      · rename_i fd hf
        split at hv
        · rename_i ff i h1 h2
          injection hv with hv
          injection hv with e1 e2
          injection e2 with e2
          subst e1; subst e2
          simp [Does, Instr.field, run_underlying hu, hf, part, isAgg, run_underlying h1, asAgg, sizeOf, info_parts' h2]
        · rename_i ff h3 i h1 h2
          injection hv with hv
          injection hv with e1 e2
          injection e2 with e2
          subst e1; subst e2
          simp [Does, Instr.field, run_underlying hu, hf, part, isAgg, run_underlying h1, asAgg, sizeOf, info_parts' h2]
        · injection hv with hv; injection hv with e1 e2; cases e2
        · cases hv
      · cases hv
    · cases hv
  · rename_i off cs hv
    split at h
    · rename_i v hc
      refine ⟨_, fun w => ?_, h⟩
      unfold fieldVal at hv
      split at hv
      · rename_i fs hu
        split at hv
        · rename_i fd hf
          split at hv
          · injection hv with hv; injection hv with e1 e2; cases e2
          · injection hv with hv; injection hv with e1 e2; cases e2
          · rename_i u i h1 h2 h3 h4
            injection hv with hv
            injection hv with e1 e2
            subst e1
            cases u <;> simp [Does, Instr.field, run_underlying hu, hf, part, isAgg, run_underlying h3, asAgg, hc] <;> simp_all
          · cases hv
        · cases hv
      · cases hv
    · exact h.elim
  · exact h.elim

theorem lenIs_run {t e : TypeId} {x : Value} {n : Nat} (ht : P.underlying t = some (.slice e)) (h : LenIs x n) (ats : Array TypeId) (ty : TypeId) (args : Array Value) (h1 : ats[0]? = some t) (h2 : args[0]? = some x) :
    Does P (Builtin.len_ ats ty args) w (.int .i64 n) w := by
  obtain ⟨a, c, rfl⟩ := h
  simp [Does, Builtin.len_, h1, h2, run_underlying ht, goInt]

theorem invoke_func (f : FuncId) (first captured args : Array Value) : (do let d ← Deferred.ofValue (.func (.func f) first captured) args; invoke d.target d.args : Sem Next) = callFunc f (first ++ args ++ captured) := rfl

theorem callV_sound {e : Env} {c : Call} {ty : TypeId} {K : Value → World → Prop} (h : callV P e c ty w K) :
    After P K ((do let d ← resolve (ev e) c ty; invoke d.target d.args).run P w) := by
  obtain ⟨callee, args, ats⟩ := c
  cases callee with
  | value o =>
    have key : ∀ f first captured, ev e o = .func (.func f) first captured → FC P f (first ++ args.map (ev e) ++ captured) w K →
        After P K ((do let d ← resolve (ev e) { callee := .value o, args := args, argTypes := ats } ty; invoke d.target d.args).run P w) := by
      intro f first captured ho hc
      have : (do let d ← resolve (ev e) { callee := .value o, args := args, argTypes := ats } ty; invoke d.target d.args : Sem Next) = callFunc f (first ++ args.map (ev e) ++ captured) := by
        simp only [resolve, ho]; rfl
      rw [this]; exact hc
    cases o with
    | func f => exact key f #[] #[] rfl (by simpa [callV] using h)
    | _ =>
      simp only [callV] at h
      split at h
      · rename_i f first captured ho; exact key f first captured ho h
      · exact h.elim
  | invoke r m => exact h
  | builtin b =>
    have res : ∀ w, (resolve (ev e) { callee := .builtin b, args := args, argTypes := ats } ty).run P w = .ok { target := .builtin b ats ty (args.map fun | .const _ => true | _ => false), args := args.map (ev e) } w := fun w => rfl
    have fin : ∀ s : Sem Value, (∀ cs, builtin b ats ty cs (args.map (ev e)) = (do pure (.value (← s)) : Sem Next)) → (∃ v w', Does P s w v w' ∧ K v w') →
        After P K ((do let d ← resolve (ev e) { callee := .builtin b, args := args, argTypes := ats } ty; invoke d.target d.args).run P w) := by
      intro s hs ⟨v, w', h1, h2⟩
      have := after_value (P := P) (s := s) h1 h2
      simp only [Sem.run_bind, res, Result.andThen_ok, invoke, hs] at this ⊢
      exact this
    cases b with
    | len =>
      refine fin (Builtin.len_ ats ty (args.map (ev e))) (fun _ => rfl) ?_
      simp only [callV] at h
      split at h
      · rename_i t x ht hx
        split at h
        · rename_i el hu
          obtain ⟨n, hn, hk⟩ := h
          exact ⟨_, w, lenIs_run hu hn _ _ _ ht hx, hk⟩
        · exact h
      · exact h.elim
    | append => exact fin (Builtin.append_ ats ty (args.map (ev e))) (fun _ => rfl) h
    | copy => exact fin (Builtin.copy_ ats ty (args.map (ev e))) (fun _ => rfl) h
    | min =>
      refine fin (Builtin.min_ ats ty (args.map (ev e))) (fun _ => rfl) ?_
      simp only [callV] at h
      split at h
      · rename_i k x k2 y hx
        refine ⟨_, w, ?_, h⟩
        simp only [Does, Builtin.min_, hx]
        simp [Builtin.min2]
      · exact h.elim
    | max =>
      refine fin (Builtin.max_ ats ty (args.map (ev e))) (fun _ => rfl) ?_
      simp only [callV] at h
      split at h
      · rename_i k x k2 y hx
        refine ⟨_, w, ?_, h⟩
        simp only [Does, Builtin.max_, hx]
        simp [Builtin.max2]
      · exact h.elim
    | _ => exact h

theorem opV_sound {o : Oper} {e : Env} {K : Value → World → Prop} (h : opV P o e w K) : After P K ((execOp (ev e) o).run P w) := by
  obtain ⟨dst, op, ty, pos, aft, gd⟩ := o
  cases op <;> simp only [opV] at h <;> simp only [execOp]
  case move x => exact h
  case assign x => exact h
  case pick c a b =>
    obtain ⟨t, ht, hk⟩ := boolV_cases h
    simp only [ht]
    cases t <;> exact hk
  case alloc t => obtain ⟨v, w', h1, h2⟩ := h; exact after_value h1 h2
  case box t x => obtain ⟨v, w', h1, h2⟩ := h; exact after_value h1 h2
  case build t ps => obtain ⟨v, h1, h2⟩ := h; exact after_value (h1 w) h2
  case buildSlice t n ps => obtain ⟨v, w', h1, h2⟩ := h; exact after_value h1 h2
  case load t a => obtain ⟨v, h1, h2⟩ := h; exact after_value h1 h2
  case store t a x => obtain ⟨w', h1, h2⟩ := h; exact after_unit h1 h2
  case nilCheck x =>
    obtain ⟨a, ha, hk⟩ := ptrV_cases h
    simp only [ha]
    exact hk
  case binOp op t x y yt => obtain ⟨v, w', h1, h2⟩ := binV_cases h; exact after_value (s := do eqGuard op t x y (ev e x) (ev e y); binOp op t (ev e x) (ev e y)) h1 h2
  case unOp op t x => obtain ⟨v, h1, h2⟩ := unV_cases (P := P) h; exact after_value (h1 w) h2
  case convert s d x => obtain ⟨v, w', h1, h2⟩ := convV_cases h; exact after_value h1 h2
  case makeFunc fn first cap => exact h
  case makeSlice t l c => obtain ⟨v, w', h1, h2⟩ := h; exact after_value h1 h2
  case slice t x lo hi mx => obtain ⟨v, h1, h2⟩ := h; exact after_value (h1 w) h2
  case fieldAddr t x f =>
    split at h
    · rename_i off ho
      obtain ⟨a, ha, hk⟩ := ptrV_cases h
      rw [ha]
      exact after_value (fieldOff_run ho a w) hk
    · exact h.elim
  case field t x f => obtain ⟨v, h1, h2⟩ := fieldV_cases h; exact after_value (h1 w) h2
  case indexAddr t x i => obtain ⟨ad, h1, h2⟩ := h; exact after_value (h1 w) h2
  case index t x i => obtain ⟨v, h1, h2⟩ := h; exact after_value (h1 w) h2
  case extract t i =>
    obtain ⟨vs, x, h1, h2, hk⟩ := tupV_cases h
    refine after_value (v := x) (w' := w) ?_ hk
    simp [Does, h1, Instr.extract, h2]
  case call c => exact callV_sound h
  all_goals exact h

/-! ### Regions in their order -/

def gv (v : Value) (want : Bool) (run skip : Prop) : Prop :=
  match v with
  | .bool b => if b = want then run else skip
  | _ => skip

def guardV (ops : List Oper) (o : Oper) (e : Env) (run skip : Prop) : Prop :=
  match o.guard with
  | none => run
  | some (j, want) => (match (ops[j]?).bind (·.dst) with
    | some d => gv (e d) want run skip
    | none => skip)

theorem guardV_cases {ops : List Oper} {o : Oper} {e : Env} {a : Act} {n : Nat} {ds : List Deferred} {run skip : Prop} (hr : Rep n e a ds) (h : guardV ops o e run skip) :
    (Region.wanted o (yielded ops.toArray a.tmps) = true ∧ run) ∨ (Region.wanted o (yielded ops.toArray a.tmps) = false ∧ skip) := by
  unfold guardV at h
  unfold Region.wanted
  split at h
  · rename_i hg; rw [hg]; exact .inl ⟨rfl, h⟩
  · rename_i j want hg
    rw [hg]
    have hy : yielded ops.toArray a.tmps j = match ((ops[j]?).bind (·.dst)).bind (a.tmps[·]?) with | some (.bool b) => some b | _ => none := by
      simp [yielded]; rfl
    split at h
    · rename_i d hd
      have hv := hr.val d
      rw [Array.getD_eq_getD_getElem?] at hv
      simp only [hy, hd, Option.bind_some]
      unfold gv at h
      cases ht : a.tmps[d]? with
      | none =>
        rw [ht] at hv
        simp only [Option.getD_none] at hv
        rw [← hv] at h
        exact .inr ⟨by simp, by simpa [undef] using h⟩
      | some x =>
        rw [ht] at hv
        simp only [Option.getD_some] at hv
        rw [← hv] at h
        clear hv ht
        cases x with
        | bool b =>
          by_cases hb : b = want
          · exact .inl ⟨by simp [hb], by simpa [hb] using h⟩
          · exact .inr ⟨by simp [hb], by simpa [hb] using h⟩
        | _ => exact .inr ⟨by simp, h⟩
    · rename_i hd
      simp only [hy, hd]
      exact .inr ⟨by simp, h⟩

def opsV (P : Program) (ops : List Oper) (N : Env → World → Prop) : List Oper → Env → World → Prop
  | [], e, w => N e w
  | o :: r, e, w => guardV ops o e (opV P o e w (fun v w' => opsV P ops N r (put e o.dst v) w')) (opsV P ops N r (put e o.dst undef) w)

def fitsOps (n : Nat) (l : List Oper) : Bool := l.all fun o => match o.dst with | some d => decide (d < n) | none => true

theorem fits_dst {n : Nat} {l : List Oper} (h : fitsOps n l = true) {o : Oper} (ho : o ∈ l) : ∀ d, o.dst = some d → d < n := by
  intro d hd
  have := List.all_eq_true.1 h o ho
  simpa [hd] using this

theorem opsV_sound {n : Nat} {ops : List Oper} {N : Env → World → Prop} {Q : Exit → Act → World → Prop} (hQ : ∀ e a w, Rep n e a → N e w → Q .normal a w) :
    ∀ (l : List Oper) (e : Env) (a : Act) (w : World), fitsOps n l = true → Rep n e a → opsV P ops N l e w → wpListW P ops.toArray Q l a w
  | [], e, a, w, _, hr, h => hQ e a w hr h
  | o :: r, e, a, w, hf, hr, h => by
    have hd := fits_dst hf (List.mem_cons_self ..)
    have hf' : fitsOps n r = true := by simp only [fitsOps, List.all_cons, Bool.and_eq_true] at hf; exact hf.2
    unfold wpListW
    rcases guardV_cases hr h with ⟨hw, h⟩ | ⟨hw, h⟩
    · rw [if_pos hw]
      unfold opW
      rw [hr.eval]
      exact (opV_sound h).upon fun v w' hk => opsV_sound hQ r _ _ _ hf' (hr.put hd v) hk
    · rw [if_neg (by simp [hw])]
      exact opsV_sound hQ r _ _ _ hf' (hr.put hd undef) h

/-! ### Regions whose order is drawn -/

/-- What an operation of this mode does to the world: 0 (pure), 1, 2 (a load): nothing; 4: it keeps what was there; 3: anything. -/
def Cl (m : Nat) (w w' : World) : Prop := if m ≤ 2 then w' = w else if m = 4 then Ext w w' else True
theorem Cl.refl (m : Nat) (w : World) : Cl m w w := by
  unfold Cl; split
  · rfl
  · split
    · exact Ext.refl _
    · trivial

def wpAnyC (P : Program) (ops : Array Oper) (mode : Nat → Nat) (Q : Exit → Act → World → Prop) : Nat → Array Bool → Act → World → Prop
  | 0, listed, a, w => Region.ready .any ops listed = [] ∧ Q .normal a w
  | fuel + 1, listed, a, w =>
    (Region.ready .any ops listed = [] → Q .normal a w) ∧
    ∀ i ∈ Region.ready .any ops listed, wpOpW P ops Q i (fun a' w' => Cl (mode i) w w' ∧ wpAnyC P ops mode Q fuel (listed.setIfInBounds i true) a' w') a w

theorem wpAny_of_C {ops : Array Oper} {mode : Nat → Nat} {Q : Exit → Act → World → Prop} {ro : Option Nat} (hd : ro = none ∨ noDefer ops.toList = true) : ∀ (fuel : Nat) (listed : Array Bool) (a : Act) (w : World),
    wpAnyC P ops mode Q fuel listed a w → wpAnyIn (wf ro) 0 P .any ops Q fuel listed a w
  | 0, _, _, _, h => h
  | fuel + 1, _, _, _, h => ⟨h.1, fun i hi => wpOpIn_mono (fun a' w' h' => wpAny_of_C hd fuel _ a' w' h'.2) (wpOpW_in hd (h.2 i hi))⟩

/-- In every world of the class the operation leaves v, and the world alone. -/
def YieldsC (P : Program) (ops : Array Oper) (C : World → Prop) (o : Oper) (v : Value) (a : Act) : Prop :=
  (Region.wanted o (yielded ops a.tmps) = true ∧ ∀ w, C w → (execOp a.eval o).run P w = .ok (.value v) w) ∨ (Region.wanted o (yielded ops a.tmps) = false ∧ v = undef)

theorem YieldsC.of_same {ops : Array Oper} {C : World → Prop} {o : Oper} {v : Value} {a a' : Act} (hy : YieldsC P ops C o v a) (he : execOp a'.eval o = execOp a.eval o)
    (hw : Region.wanted o (yielded ops a'.tmps) = Region.wanted o (yielded ops a.tmps)) : YieldsC P ops C o v a' := by
  unfold YieldsC at *
  rw [he, hw]
  exact hy

theorem YieldsC.wpOp {ops : Array Oper} {C : World → Prop} {Q : Exit → Act → World → Prop} {i : Nat} {o : Oper} {v : Value} {a : Act} (hi : ops[i]? = some o) (hC : C w) (hy : YieldsC P ops C o v a)
    {K : Act → World → Prop} (h : K (a.put o.dst v) w) : wpOpW P ops Q i K a w := by
  unfold wpOpW
  simp only [hi]
  rcases hy with ⟨hw, hv⟩ | ⟨hw, rfl⟩
  · simp only [hw, if_true, opW, hv w hC, Oper.uponIn]; exact h
  · simp only [hw, Bool.false_eq_true, if_false]; exact h

/-- An operation that is apart from oi: whether oi's value is in its place already makes no difference to it, nor it to oi. -/
theorem wpOp_shift {ops : Array Oper} {C : World → Prop} {Q : Exit → Act → World → Prop} {j : Nat} {oi oj : Oper} {v : Value} (hj : ops[j]? = some oj) (hap : oi.apart ops oj = true)
    (hsi : ∀ cs b, oi.op ≠ .select cs b) (hsj : ∀ cs b, oj.op ≠ .select cs b) (hQ : ∀ c a w, ¬ Q (.panic c) a w) {K : Act → World → Prop} {a : Act}
    (hy : YieldsC P ops C oi v a) (h : wpOpW P ops Q j K (a.put oi.dst v) w) :
    wpOpW P ops Q j (fun a' w' => YieldsC P ops C oi v a' ∧ K (a'.put oi.dst v) w') a w := by
  obtain ⟨h1, h2, h3⟩ := Oper.apart_spec hap
  have keep : ∀ (a : Act), YieldsC P ops C oi v a → ∀ u, YieldsC P ops C oi v (a.put oj.dst u) := fun a hy u =>
    hy.of_same (execOp_put oi hsi a oj.dst u h3) (wanted_put oi a oj.dst u h3)
  have next : ∀ (a : Act) u w, YieldsC P ops C oi v a → K ((a.put oi.dst v).put oj.dst u) w → YieldsC P ops C oi v (a.put oj.dst u) ∧ K ((a.put oj.dst u).put oi.dst v) w :=
    fun a u w hy hk => ⟨keep a hy u, by rw [← Act.put_comm a v u h2]; exact hk⟩
  unfold wpOpW at h ⊢
  simp only [hj] at h ⊢
  rw [wanted_put oj a oi.dst v h1] at h
  by_cases hw : Region.wanted oj (yielded ops a.tmps) = true
  · rw [if_pos hw] at h ⊢
    unfold opW at h ⊢
    rw [execOp_put oj hsj a oi.dst v h1] at h
    generalize (execOp a.eval oj).run P w = r at h ⊢
    cases r with
    | halt x w' => cases x <;> simp only [Oper.uponIn] at h ⊢; exact (hQ _ _ _ h).elim
    | ok n w' =>
      cases n <;> simp only [Oper.uponIn] at h ⊢
      case value u => exact next a u w' hy h
      case skip => exact next a _ w' hy h
      case defer d =>
        refine next { a with defers := d :: a.defers } undef w' (hy.of_same rfl rfl) ?_
        rw [← Act.put_defers]; exact h
      case enter f args =>
        refine ⟨h.1, CallsIn.mono h.2 fun e w'' he => ?_⟩
        cases e with
        | returned u => exact next a u w'' hy he
        | panicked c => exact (hQ _ _ _ he).elim
        | outgrown => exact he
      case row row args => exact ⟨h.1, RowsIn.mono h.2 fun u w'' he => next a u w'' hy he⟩
      case round l f tmps assign body =>
        refine ⟨h.1, RoundIn.mono h.2 fun e w'' he => ?_⟩
        cases e with
        | returned u => exact next a u w'' hy he
        | panicked c => exact (hQ _ _ _ he).elim
        | outgrown => exact he
  · rw [if_neg hw] at h ⊢
    exact next a undef w hy h

theorem first {ops : Array Oper} {mode : Nat → Nat} {Q : Exit → Act → World → Prop} {C : World → Prop} {D : Nat → Bool} {i : Nat} {oi : Oper} {v : Value}
    (hi : ops[i]? = some oi) (hsel : ∀ (j : Nat) (o : Oper) cs b, ops[j]? = some o → o.op ≠ .select cs b) (hQ : ∀ c a w, ¬ Q (.panic c) a w) (hm : mode i ≤ 2)
    (hD : ∀ d, D d = true → ∀ od, ops[d]? = some od → ∃ e ∈ od.after, Region.binds .any e = true ∧ (e.on = i ∨ D e.on = true)) :
    ∀ (fuel : Nat) (listed : Array Bool) (a : Act) (w : World),
      (∀ d, D d = true → listed.getD d false = false) → listed.getD i false = false →
      (∀ j oj, ops[j]? = some oj → D j = false → j ≠ i → listed.getD j true = false → ∀ w1 w2, C w1 → Cl (mode j) w1 w2 → C w2) →
      (∀ j oj, ops[j]? = some oj → j ≠ i → listed.getD j true = false → (∀ e ∈ oj.after, Region.binds .any e = true → e.on ≠ i) → oi.apart ops oj = true) →
      i ∈ Region.ready .any ops listed → C w → YieldsC P ops C oi v a →
      wpAnyC P ops mode Q fuel (listed.setIfInBounds i true) (a.put oi.dst v) w → wpAnyC P ops mode Q (fuel + 1) listed a w := by
  intro fuel
  have own : ∀ w, Cl (mode i) w w := fun w => Cl.refl _ _
  induction fuel with
  | zero =>
    intro listed a w _ _ _ _ hr hC hy H
    refine ⟨fun h => (by rw [h] at hr; cases hr), fun j hj => ?_⟩
    by_cases hji : j = i
    · subst hji; exact hy.wpOp hi hC ⟨own w, H⟩
    · have := ready_mono hj hji
      rw [H.1] at this
      cases this
  | succ fuel ih =>
    intro listed a w hDu hiu hpres hfree hr hC hy H
    refine ⟨fun h => (by rw [h] at hr; cases hr), fun j hj => ?_⟩
    by_cases hji : j = i
    · subst hji; exact hy.wpOp hi hC ⟨own w, H⟩
    · have h1 := H.2 j (ready_mono hj hji)
      obtain ⟨hjun, oj, hoj, hall⟩ := mem_ready.1 hj
      have hnot : ∀ e ∈ oj.after, Region.binds .any e = true → e.on ≠ i := fun e he hb heq => by
        have h1 := hall e he hb
        rw [heq, hiu] at h1
        cases h1
      have hjD : D j = false := by
        cases hd : D j with
        | false => rfl
        | true =>
          obtain ⟨e, he, hb, h'⟩ := hD j hd oj hoj
          have h1 := hall e he hb
          rcases h' with h' | h'
          · rw [h', hiu] at h1; cases h1
          · rw [hDu _ h'] at h1; cases h1
      have h2 := wpOp_shift hoj (hfree j oj hoj hji hjun hnot) (fun cs b => hsel i oi cs b hi) (fun cs b => hsel j oj cs b hoj) hQ hy h1
      refine wpOpW_mono (fun a' w' h3 => ⟨h3.2.1, ?_⟩) h2
      have hne : ∀ k (d : Bool), k ≠ j → (listed.setIfInBounds j true).getD k d = listed.getD k d := fun k d hk => getD_set_ne d (Ne.symm hk)
      refine ih (listed.setIfInBounds j true) a' w' ?_ ?_ ?_ ?_ (ready_mono hr (Ne.symm hji)) (hpres j oj hoj hjD hji hjun _ _ hC h3.2.1) h3.1 ?_
      · intro d hd
        rw [hne d false (fun h => by subst h; rw [hjD] at hd; cases hd)]
        exact hDu d hd
      · rw [hne i false (Ne.symm hji)]; exact hiu
      · intro k ok hk hkD hki hun
        by_cases hkj : k = j
        · subst hkj; exact hpres k ok hk hkD hki hjun
        · rw [hne k true hkj] at hun; exact hpres k ok hk hkD hki hun
      · intro k ok hk hki hun hno
        by_cases hkj : k = j
        · subst hkj; exact hfree k ok hk hki hjun hno
        · rw [hne k true hkj] at hun; exact hfree k ok hk hki hun hno
      · rw [Array.setIfInBounds_comm _ _ hji]
        exact h3.2.2

def pbin (P : Program) (op : BinOp) (t : TypeId) (x y : Value) (K : Value → Prop) : Prop :=
  match x, y with
  | .int k a, .int k' b => intV op k a k' b K
  | .bool a, .bool b => P.underlying t = some .bool ∧ (match op with | .eql => K (.bool (a == b)) | .neq => K (.bool (a != b)) | _ => False)
  | _, _ => False
def pconv (P : Program) (s d : TypeId) (x : Value) (K : Value → Prop) : Prop :=
  match P.underlying d, x with
  | some (.int k), .int _ n => (P.underlying s).isSome = true ∧ K (.int k (k.wrap n))
  | _, _ => False

def pureV (P : Program) (o : Oper) (e : Env) (K : Value → Prop) : Prop :=
  match o.op with
  | .move x | .assign x => K (ev e x)
  | .pick c a b => boolV (ev e c) (fun t => K (if t then ev e a else ev e b))
  | .build t ps => ∃ v, (∀ w, Does P (Instr.build t (ps.map fun (i, x) => (i, ev e x))) w v w) ∧ K v
  | .nilCheck x => ptrV (ev e x) (fun a => K (.pointer (some a)))
  | .binOp op t x y _ => pbin P op t (ev e x) (ev e y) K
  | .unOp op _ x => unV op (ev e x) K
  | .convert s d x => pconv P s d (ev e x) K
  | .makeFunc fn first cap => K (.func fn (first.map (ev e)) (cap.map (ev e)))
  | .slice t x lo hi mx => ∃ v, SlA P t (ev e x) (lo.map (ev e)) (hi.map (ev e)) (mx.map (ev e)) v ∧ K v
  | .fieldAddr t x f => (match fieldOff P t f with | some off => ptrV (ev e x) (fun a => K (.pointer (some (a.add off)))) | none => False)
  | .field t x f => fieldV P t f (ev e x) K
  | .indexAddr t x i => ∃ ad, IxA P t (ev e x) (ev e i) ad ∧ K (.pointer (some ad))
  | .index t x i => ∃ v, IxV P t (ev e x) (ev e i) v ∧ K v
  | .extract t i => tupV (ev e t) i K
  | .call c => (match c.callee with
    | .builtin .len => (match c.argTypes[0]?, (c.args.map (ev e))[0]? with
      | some t, some x => (match P.underlying t with
        | some (.slice _) => ∃ n : Nat, LenIs x n ∧ K (.int .i64 n)
        | _ => False)
      | _, _ => False)
    | .builtin .min => (match (c.args.map (ev e)).toList with
      | [.int k x, .int _ y] => K (.int k (if y < x then y else x))
      | _ => False)
    | .builtin .max => (match (c.args.map (ev e)).toList with
      | [.int k x, .int _ y] => K (.int k (if x < y then y else x))
      | _ => False)
    | _ => False)
  | _ => False

/-- A run that ends in a value, in every world, and leaves it alone. -/
def Pure (P : Program) (s : Sem Next) (v : Value) : Prop := ∀ w, s.run P w = .ok (.value v) w

theorem pure_value {s : Sem Value} {v : Value} (hs : ∀ w, Does P s w v w) : Pure P (do pure (Next.value (← s)) : Sem Next) v := by
  intro w
  have := hs w
  unfold Does at this
  simp only [Sem.run_bind, this, Result.andThen_ok, Sem.run_pure]

theorem pureV_sound {o : Oper} {e : Env} {K : Value → Prop} (h : pureV P o e K) : ∃ v, Pure P (execOp (ev e) o) v ∧ K v := by
  obtain ⟨dst, op, ty, pos, aft, gd⟩ := o
  cases op <;> simp only [pureV] at h <;> simp only [execOp]
  case move x => exact ⟨_, fun w => rfl, h⟩
  case assign x => exact ⟨_, fun w => rfl, h⟩
  case pick c a b =>
    obtain ⟨t, ht, hk⟩ := boolV_cases h
    refine ⟨_, fun w => ?_, hk⟩
    simp only [ht]
    cases t <;> rfl
  case build t ps => obtain ⟨v, h1, h2⟩ := h; exact ⟨v, pure_value h1, h2⟩
  case nilCheck x =>
    obtain ⟨a, ha, hk⟩ := ptrV_cases h
    exact ⟨_, fun w => by simp only [ha]; rfl, hk⟩
  case binOp op t x y yt =>
    unfold pbin at h
    split at h
    · rename_i k a k' b hx hy
      obtain ⟨v, h1, h2⟩ := intV_sound (P := P) (t := t) (ox := x) (oy := y) h
      refine ⟨v, pure_value (s := do eqGuard op t x y (ev e x) (ev e y); binOp op t (ev e x) (ev e y)) (fun w => ?_), h2⟩
      rw [hx, hy]; exact h1 w
    · rename_i a b hx hy
      obtain ⟨h0, h'⟩ := h
      obtain ⟨v, h1, h2⟩ := bool_op (P := P) (op := op) (a := a) (b := b) (ox := x) (oy := y) (K := K) h0 h'
      refine ⟨v, pure_value (s := do eqGuard op t x y (ev e x) (ev e y); binOp op t (ev e x) (ev e y)) (fun w => ?_), h2⟩
      rw [hx, hy]; exact h1 w
    · exact h.elim
  case unOp op t x => obtain ⟨v, h1, h2⟩ := unV_cases (P := P) h; exact ⟨v, pure_value h1, h2⟩
  case convert s d x =>
    unfold pconv at h
    split at h
    · rename_i k k' n hd hx
      obtain ⟨h1, h2⟩ := h
      obtain ⟨u, hu⟩ := Option.isSome_iff_exists.1 h1
      refine ⟨_, pure_value (fun w => ?_), h2⟩
      rw [hx]
      simp [Does, convert, run_underlying hu, run_underlying hd, Conv.intToInt]
    · exact h.elim
  case makeFunc fn first cap => exact ⟨_, pure_value (fun w => rfl), h⟩
  case slice t x lo hi mx => obtain ⟨v, h1, h2⟩ := h; exact ⟨v, pure_value h1, h2⟩
  case fieldAddr t x f =>
    split at h
    · rename_i off ho
      obtain ⟨a, ha, hk⟩ := ptrV_cases h
      rw [ha]
      exact ⟨_, pure_value (fieldOff_run ho a), hk⟩
    · exact h.elim
  case field t x f => obtain ⟨v, h1, h2⟩ := fieldV_cases h; exact ⟨v, pure_value h1, h2⟩
  case indexAddr t x i => obtain ⟨ad, h1, h2⟩ := h; exact ⟨_, pure_value h1, h2⟩
  case index t x i => obtain ⟨v, h1, h2⟩ := h; exact ⟨_, pure_value h1, h2⟩
  case extract t i =>
    obtain ⟨vs, x, h1, h2, hk⟩ := tupV_cases h
    refine ⟨x, pure_value (fun w => ?_), hk⟩
    simp [Does, h1, Instr.extract, h2]
  case call c =>
    obtain ⟨callee, args, ats⟩ := c
    cases callee with
    | value o => exact h.elim
    | invoke r m => exact h.elim
    | builtin b =>
      have fin : ∀ s : Sem Value, (∀ cs, builtin b ats ty cs (args.map (ev e)) = (do pure (.value (← s)) : Sem Next)) → ∀ v, (∀ w, Does P s w v w) →
          Pure P (do let d ← resolve (ev e) { callee := .builtin b, args := args, argTypes := ats } ty; invoke d.target d.args) v := by
        intro s hs v h1 w
        have := pure_value h1 w
        simp only [Sem.run_bind, resolve, Sem.run_pure, Result.andThen_ok, invoke, hs] at this ⊢
        exact this
      cases b with
      | len =>
        simp only at h
        split at h
        · rename_i t x ht hx
          split at h
          · rename_i el hu
            obtain ⟨n, hn, hk⟩ := h
            exact ⟨_, fin (Builtin.len_ ats ty (args.map (ev e))) (fun _ => rfl) _ (fun w => lenIs_run hu hn _ _ _ ht hx), hk⟩
          · exact h.elim
        · exact h.elim
      | min =>
        simp only at h
        split at h
        · rename_i k x k2 y hx
          refine ⟨_, fin (Builtin.min_ ats ty (args.map (ev e))) (fun _ => rfl) _ (fun w => ?_), h⟩
          simp only [Does, Builtin.min_, hx]
          simp [Builtin.min2]
        · exact h.elim
      | max =>
        simp only at h
        split at h
        · rename_i k x k2 y hx
          refine ⟨_, fin (Builtin.max_ ats ty (args.map (ev e))) (fun _ => rfl) _ (fun w => ?_), h⟩
          simp only [Does, Builtin.max_, hx]
          simp [Builtin.max2]
        · exact h.elim
      | _ => exact h.elim
  all_goals exact h.elim

def modeV (P : Program) (o : Oper) (m : Nat) (e : Env) (w : World) (K : Value → World → Prop) : Prop :=
  match m with
  | 0 => pureV P o e (fun v => K v w)
  | 1 => (match o.op with | .load t a => ∃ v, Ld P w t (ev e a) v ∧ K v w | _ => False)
  | 2 => (match o.op with | .load t a => ∃ v, (∀ w', Ext w w' → Ld P w' t (ev e a) v) ∧ K v w | _ => False)
  | 3 => opV P o e w K
  | _ => opV P o e w (fun v w' => Ext w w' ∧ K v w')

def dV (P : Program) (ops : List Oper) (N : Env → World → Prop) : List (Nat × Nat) → Env → World → Prop
  | [], e, w => N e w
  | (i, m) :: r, e, w => (match ops[i]? with
    | none => False
    | some o => guardV ops o e (modeV P o m e w (fun v w' => dV P ops N r (put e o.dst v) w')) (dV P ops N r (put e o.dst undef) w))

def modeIn (pl : List (Nat × Nat)) (j : Nat) : Nat := match pl.find? (·.1 == j) with | some (_, m) => m | none => 3

/-- Which operations wait for operation i, through however many others. -/
def waits (ops : Array Oper) (i : Nat) : Array Bool :=
  ops.foldl (fun D o => D.push (o.after.any fun e => Region.binds .any e && (e.on == i || D.getD e.on false))) #[]

def beside (m m' : Nat) : Bool := match m with
  | 0 => true
  | 1 => decide (m' ≤ 2)
  | _ => decide (m' ≤ 2) || m' == 4

def quietOk (ops : Array Oper) (mode : Nat → Nat) (listed : Array Bool) (i m : Nat) : Bool :=
  let D := waits ops i
  (Region.ready .any ops listed).contains i && Region.free .any ops listed i && decide (mode i ≤ 2) &&
  (List.range ops.size).all fun j =>
    (!(D.getD j false) || (!(listed.getD j false) && (match ops[j]? with
      | some o => o.after.any fun e => Region.binds .any e && (e.on == i || D.getD e.on false)
      | none => false))) &&
    (listed.getD j true || j == i || D.getD j false || beside m (mode j))

def planFrom (ops : Array Oper) (mode : Nat → Nat) : List (Nat × Nat) → Array Bool → Bool
  | [], listed => (Region.ready .any ops listed).isEmpty
  | (i, m) :: r, listed =>
    (if m ≤ 2 then quietOk ops mode listed i m else mode i == m && Region.ready .any ops listed == [i]) && planFrom ops mode r (listed.setIfInBounds i true)

def planOk (ops : Array Oper) (pl : List (Nat × Nat)) : Bool := (Region.noSelect ops && pl.length == ops.size) && planFrom ops (modeIn pl) pl (Array.replicate ops.size false)

theorem Cl.of_quiet {m : Nat} {w w' : World} (hm : m ≤ 2) (h : Cl m w w') : w' = w := by unfold Cl at h; rwa [if_pos hm] at h

theorem quiet_step {ops : Array Oper} {mode : Nat → Nat} {Q : Exit → Act → World → Prop} {C : World → Prop} {i m : Nat} {oi : Oper} {v : Value} {listed : Array Bool}
    (hi : ops[i]? = some oi) (hs : Region.noSelect ops = true) (hQ : ∀ c a w, ¬ Q (.panic c) a w) (hok : quietOk ops mode listed i m = true)
    (hpres : ∀ m' w1 w2, beside m m' = true → C w1 → Cl m' w1 w2 → C w2) (fuel : Nat) (a : Act) (w : World) (hC : C w) (hy : YieldsC P ops C oi v a)
    (H : wpAnyC P ops mode Q fuel (listed.setIfInBounds i true) (a.put oi.dst v) w) : wpAnyC P ops mode Q (fuel + 1) listed a w := by
  unfold quietOk at hok
  simp only [Bool.and_eq_true, List.all_eq_true, List.mem_range, decide_eq_true_eq] at hok
  obtain ⟨⟨⟨hr, hf⟩, hm⟩, hall⟩ := hok
  have hr' : i ∈ Region.ready .any ops listed := by simpa using hr
  have hD : ∀ d, ((waits ops i).getD d false) = true → ∀ od, ops[d]? = some od → listed.getD d false = false ∧ ∃ e ∈ od.after, Region.binds .any e = true ∧ (e.on = i ∨ (waits ops i).getD e.on false = true) := by
    intro d hd od hod
    have h1 := (hall d (Array.getElem?_eq_some_iff.1 hod).1).1
    rw [hd, hod] at h1
    simp only [Bool.not_true, Bool.false_or, Bool.and_eq_true, Bool.not_eq_true'] at h1
    obtain ⟨h1, h2⟩ := h1
    obtain ⟨e, he, hb⟩ := Array.any_eq_true'.1 h2
    simp only [Bool.and_eq_true, Bool.or_eq_true, beq_iff_eq] at hb
    exact ⟨h1, e, he, hb.1, hb.2⟩
  have hsz : (waits ops i).size = ops.size := by
    unfold waits
    rw [← Array.foldl_toList]
    have : ∀ (l : List Oper) (D : Array Bool), (l.foldl (fun D o => D.push (o.after.any fun e => Region.binds .any e && (e.on == i || D.getD e.on false))) D).size = D.size + l.length := by
      intro l
      induction l with
      | nil => intro D; rfl
      | cons o l ih => intro D; rw [List.foldl_cons, ih]; simp; omega
    rw [this]; simp
  have hin : ∀ d, ((waits ops i).getD d false) = true → ∃ od, ops[d]? = some od := by
    intro d hd
    rcases Nat.lt_or_ge d ops.size with h | h
    · exact ⟨ops[d], Array.getElem?_eq_getElem h⟩
    · rw [Array.getD_eq_getD_getElem?, Array.getElem?_eq_none (by omega)] at hd; cases hd
  refine first (D := fun d => (waits ops i).getD d false) hi (Region.noSelect_spec hs) hQ hm (fun d hd od hod => (hD d hd od hod).2) fuel listed a w ?_ ?_ ?_ (Region.free_spec hi hf) hr' hC hy H
  · intro d hd
    obtain ⟨od, hod⟩ := hin d hd
    exact (hD d hd od hod).1
  · have h0 := (mem_ready.1 hr').1
    rcases Nat.lt_or_ge i listed.size with h' | h'
    · simpa [h'] using h0
    · simp [Array.getElem?_eq_none h'] at h0
  · intro j oj hoj hjD hji hun w1 w2 h1 h2
    have h3 := (hall j (Array.getElem?_eq_some_iff.1 hoj).1).2
    rw [hun, hjD] at h3
    simp only [Bool.false_or, Bool.or_false, Bool.or_eq_true, beq_iff_eq, hji, false_or] at h3
    exact hpres _ _ _ h3 h1 h2

theorem dV_sound {n : Nat} {ops : List Oper} {mode : Nat → Nat} {N : Env → World → Prop} {Q : Exit → Act → World → Prop} (hs : Region.noSelect ops.toArray = true) (hQ : ∀ c a w, ¬ Q (.panic c) a w)
    (hN : ∀ e a w, Rep n e a → N e w → Q .normal a w) (hf : fitsOps n ops = true) :
    ∀ (pl : List (Nat × Nat)) (listed : Array Bool) (e : Env) (a : Act) (w : World), planFrom ops.toArray mode pl listed = true → Rep n e a → dV P ops N pl e w →
      wpAnyC P ops.toArray mode Q pl.length listed a w
  | [], listed, e, a, w, hp, hr, h => ⟨by simpa [planFrom] using hp, hN e a w hr h⟩
  | (i, m) :: r, listed, e, a, w, hp, hr, h => by
    simp only [planFrom, Bool.and_eq_true] at hp
    obtain ⟨hp, hp'⟩ := hp
    unfold dV at h
    cases ho : ops[i]? with
    | none => rw [ho] at h; exact h.elim
    | some o =>
      rw [ho] at h
      have hi : ops.toArray[i]? = some o := by simpa using ho
      have hd := fits_dst hf (List.mem_of_getElem? ho)
      have ih := fun (e : Env) (a : Act) (w : World) (hr : Rep n e a) (h : dV P ops N r e w) => dV_sound hs hQ hN hf r _ e a w hp' hr h
      by_cases hm : m ≤ 2
      · rw [if_pos hm] at hp
        rcases guardV_cases hr h with ⟨hw, h⟩ | ⟨hw, h⟩
        · have fin : ∀ (C : World → Prop) (v : Value), (∀ m' w1 w2, beside m m' = true → C w1 → Cl m' w1 w2 → C w2) → C w → (∀ w', C w' → (execOp (ev e) o).run P w' = .ok (.value v) w') →
              dV P ops N r (put e o.dst v) w → wpAnyC P ops.toArray mode Q (r.length + 1) listed a w := by
            intro C v hpres hC hv hk
            refine quiet_step hi hs hQ hp hpres r.length a w hC (.inl ⟨hw, fun w' hw' => ?_⟩) (ih _ _ _ (hr.put hd v) hk)
            rw [hr.eval]; exact hv w' hw'
          match m, hm with
          | 0, _ =>
            simp only [modeV] at h
            obtain ⟨v, h1, h2⟩ := pureV_sound h
            exact fin (fun _ => True) v (fun _ _ _ _ _ _ => trivial) trivial (fun w' _ => h1 w') h2
          | 1, _ =>
            simp only [modeV] at h
            split at h
            · rename_i t x hop
              obtain ⟨v, h1, h2⟩ := h
              refine fin (fun w' => w' = w) v (fun m' w1 w2 hb h1 h2 => ?_) rfl (fun w' hw' => ?_) h2
              · simp only [beside, decide_eq_true_eq] at hb
                exact (Cl.of_quiet hb h2).trans h1
              · rw [hw']
                simp only [execOp, hop]
                unfold Ld Does at h1
                simp only [Sem.run_bind, h1, Result.andThen_ok, Sem.run_pure]
            · exact h.elim
          | 2, _ =>
            simp only [modeV] at h
            split at h
            · rename_i t x hop
              obtain ⟨v, h1, h2⟩ := h
              refine fin (fun w' => Ext w w') v (fun m' w1 w2 hb h1 h2 => ?_) (Ext.refl _) (fun w' hw' => ?_) h2
              · simp only [beside, Bool.or_eq_true, decide_eq_true_eq, beq_iff_eq] at hb
                rcases hb with hb | hb
                · rw [Cl.of_quiet hb h2]; exact h1
                · subst hb
                  have h2' : Ext w1 w2 := by unfold Cl at h2; simpa using h2
                  exact h1.trans' h2'
              · have h1 := h1 w' hw'
                simp only [execOp, hop]
                unfold Ld Does at h1
                simp only [Sem.run_bind, h1, Result.andThen_ok, Sem.run_pure]
            · exact h.elim
        · refine quiet_step (C := fun w' => w' = w ∨ True) hi hs hQ hp (fun _ _ _ _ _ _ => .inr trivial) r.length a w (.inl rfl) (.inr ⟨hw, rfl⟩) (ih _ _ _ (hr.put hd undef) h)
      · rw [if_neg hm] at hp
        simp only [Bool.and_eq_true, beq_iff_eq] at hp
        obtain ⟨hmi, hready⟩ := hp
        refine ⟨fun h0 => (by rw [h0] at hready; cases hready), fun j hj => ?_⟩
        rw [hready] at hj
        obtain rfl := List.mem_singleton.1 hj
        unfold wpOpW
        simp only [hi]
        rcases guardV_cases hr h with ⟨hw, h⟩ | ⟨hw, h⟩
        · rw [if_pos hw]
          unfold opW
          rw [hr.eval]
          match m, hm, hmi with
          | 3, _, hmi =>
            simp only [modeV] at h
            exact (opV_sound h).upon fun v w' hk => ⟨by rw [hmi]; simp [Cl], ih _ _ _ (hr.put hd v) hk⟩
          | k + 4, _, hmi =>
            simp only [modeV] at h
            refine (opV_sound h).upon fun v w' hk => ⟨?_, ih _ _ _ (hr.put hd v) hk.2⟩
            rw [hmi]
            unfold Cl
            rw [if_neg (by omega)]
            split
            · exact hk.1
            · trivial
        · rw [if_neg (by simp [hw])]
          exact ⟨Cl.refl _ _, ih _ _ _ (hr.put hd undef) h⟩

/-! ### Code -/

def resL (P : Program) (e : Env) (w : World) : List ResultVar → (List Value → Prop) → Prop
  | [], K => K []
  | .tmp t :: r, K => resL P e w r (fun vs => K (e t :: vs))
  | .cell a t :: r, K => ptrV (e a) fun ad => ∃ v, Ld P w t (.pointer (some ad)) v ∧ resL P e w r (fun vs => K (v :: vs))

def one (K : Value → Prop) : List Value → Prop
  | [v] => K v
  | vs => K (.tuple vs.toArray)

def retV (P : Program) (rs : List ResultVar) (K : Value → World → Prop) (e : Env) (w : World) : Prop := resL P e w rs (one fun v => K v w)


def condV (v : Value) (T F : Prop) : Prop := match v with | .bool b => if b then T else F | _ => False

def regV (P : Program) (ops : List Oper) (draw : Bool) (N : Env → World → Prop) (e : Env) (w : World) : Prop :=
  if draw then ∃ pl, planOk ops.toArray pl = true ∧ dV P ops N pl e w.drew else opsV P ops N ops e w

def vc (P : Program) : Code → (Env → World → Prop) → (Nat → Env → World → Prop) → (Env → World → Prop) → Env → World → Prop
  | .skip, N, _, _, e, w => N e w
  | .region _ ops draw, N, _, _, e, w => regV P ops.toList draw N e w
  | .seq a b, N, X, R, e, w => vc P a (fun e w => vc P b N X R e w) X R e w
  | .cond c a b, N, X, R, e, w => condV (ev e c) (vc P a N X R e w) (vc P b N X R e w)
  | .block id c, N, X, R, e, w => vc P c N (fun j e w => if j = id then N e w else X j e w) R e w
  | .loop c, _, X, R, e, w => ∃ (I : Env → World → Prop) (m : Env → World → Nat), I e w ∧ ∀ e1 w1, I e1 w1 → vc P c (fun e2 w2 => I e2 w2 ∧ m e2 w2 < m e1 w1) X R e1 w1
  | .exit id, _, X, _, e, w => X id e w
  | .ret, _, _, R, e, w => R e w
  | .label _, N, _, _, e, w => N e w
  | .scope c, N, X, R, e, w => vc P c N X R e w
  | _, _, _, _, _, _ => False

def fits (n : Nat) : Code → Bool
  | .region _ ops _ => fitsOps n ops.toList
  | .seq a b => fits n a && fits n b
  | .cond _ a b => fits n a && fits n b
  | .block _ c => fits n c
  | .loop c => fits n c
  | .scope c => fits n c
  | .rangeFunc _ ps a b => ps.all (fun t => decide (t < n)) && fits n a && fits n b
  | _ => true

/-- Code that may stand in a round: no defer statement, no range over a function. -/
def flat : Code → Bool
  | .region _ ops _ => noDefer ops.toList
  | .seq a b => flat a && flat b
  | .cond _ a b => flat a && flat b
  | .block _ c => flat c
  | .loop c => flat c
  | .scope c => flat c
  | .rangeFunc _ _ _ _ => false
  | _ => true

/-! ### The laws of the walk that the fenced calculus lacks -/
theorem stepR_scope {b : Frame} {a : Act} {k : List Item} {cs : List Frame} {c : Code} : step P (lone (b.atR a (.code (.scope c) :: k)) cs w) = .next (lone (b.atR a (.code c :: .inScope c :: k)) cs w) :=
  step_lone_go (by simp [stepG, stepG.exec, Frame.atR])
theorem stepR_inScope {b : Frame} {a : Act} {k : List Item} {cs : List Frame} {c : Code} : step P (lone (b.atR a (.inScope c :: k)) cs w) = .next (lone (b.atR a k) cs w) :=
  step_lone_go (by simp [stepG, stepG.exec, Frame.atR])
theorem wpIn_scope {F : Fence} {n : Nat} {c : Code} {Q : Exit → Act → World → Prop} {a : Act} (h : c.wpIn F n P (Exit.noGoto Q) a w) : (Code.scope c).wpIn F n P Q a w := by
  intro b k cs hro hb hr
  have h0 : (lone (b.atR a (.code (.scope c) :: k)) cs w).fenced P F := fenced_calm hb hr rfl
  obtain ⟨e, a₁, w₁, hq, harr⟩ := h b (.inScope c :: k) cs hro hb hr
  cases e with
  | normal => exact ⟨.normal, a₁, w₁, hq, .head h0 stepR_scope (StepsIn.trans harr (.one (fenced_calm hb hr rfl) stepR_inScope))⟩
  | exit id =>
    have hx : exitTo id (.inScope c :: k) = exitTo id k := by simp [exitTo]
    exact ⟨.exit id, a₁, w₁, hq, fun k' hk => .head h0 stepR_scope (harr.1 k' (by rw [hx]; exact hk)),
      fun hr' hk => let ⟨k₁, h1, h2⟩ := harr.2 hr' (by rw [hx]; exact hk); ⟨k₁, h1, .head h0 stepR_scope h2⟩⟩
  | goto l => exact hq.elim
  | ret => exact ⟨_, a₁, w₁, hq, .of_steps (.one h0 stepR_scope) harr⟩
  | panic ch => exact ⟨_, a₁, w₁, hq, .of_steps (.one h0 stepR_scope) harr⟩
  | outgrown => exact ⟨_, a₁, w₁, hq, .of_steps (.one h0 stepR_scope) harr⟩
theorem wpIn_region_drawn {F : Fence} {id : Nat} {ops : Array Oper} {Q : Exit → Act → World → Prop} {a : Act} (hm : P.follows .mixedOrders = true) (h : wpAnyIn F 0 P .any ops Q ops.size (Array.replicate ops.size false) a w.drew) : (Code.region id ops true).wpIn F 0 P Q a w :=
  wpIn_region_any hm h

/-- The exits of a piece of code, over frames as functions. -/
def exits (n : Nat) (N : Env → World → Prop) (X : Nat → Env → World → Prop) (R : Env → World → Prop) : Exit → Act → World → Prop
  | .normal, a, w => ∃ e, Rep n e a ∧ N e w
  | .exit id, a, w => ∃ e, Rep n e a ∧ X id e w
  | .ret, a, w => ∃ e, Rep n e a ∧ R e w
  | _, _, _ => False

theorem vc_sound (hm : P.follows .mixedOrders = true) {n : Nat} : ∀ (c : Code) (N : Env → World → Prop) (X : Nat → Env → World → Prop) (R : Env → World → Prop) (e : Env) (a : Act) (w : World),
    fits n c = true → Rep n e a → vc P c N X R e w → c.wpIn Fence.wide 0 P (exits n N X R) a w
  | .skip, N, X, R, e, a, w, _, hr, h => wpIn_skip ⟨e, hr, h⟩
  | .ret, N, X, R, e, a, w, _, hr, h => wpIn_ret ⟨e, hr, h⟩
  | .exit id, N, X, R, e, a, w, _, hr, h => wpIn_exit ⟨e, hr, h⟩
  | .label l, N, X, R, e, a, w, _, hr, h => wpIn_label ⟨e, hr, h⟩
  | .scope c, N, X, R, e, a, w, hf, hr, h => by
    refine wpIn_scope (wpIn_mono (vc_sound hm c N X R e a w hf hr h) ?_)
    intro ex a' w' hq
    cases ex <;> first | exact hq | exact hq.elim
  | .seq x y, N, X, R, e, a, w, hf, hr, h => by
    simp only [fits, Bool.and_eq_true] at hf
    refine wpIn_seq (wpIn_mono (vc_sound hm x _ X R e a w hf.1 hr h) ?_)
    intro ex a' w' hq
    cases ex with
    | normal => obtain ⟨e', hr', h'⟩ := hq; exact vc_sound hm y N X R e' a' w' hf.2 hr' h'
    | _ => exact hq
  | .cond c x y, N, X, R, e, a, w, hf, hr, h => by
    simp only [fits, Bool.and_eq_true] at hf
    simp only [vc, condV] at h
    split at h
    · rename_i b hb
      rw [← hr.eval] at hb
      refine wpIn_cond hb ?_
      cases b
      · exact vc_sound hm y N X R e a w hf.2 hr (by simpa using h)
      · exact vc_sound hm x N X R e a w hf.1 hr (by simpa using h)
    · exact h.elim
  | .block id c, N, X, R, e, a, w, hf, hr, h => by
    refine wpIn_block (wpIn_mono (vc_sound hm c _ _ R e a w hf hr h) ?_)
    intro ex a' w' hq
    cases ex with
    | exit j =>
      obtain ⟨e', hr', h'⟩ := hq
      by_cases hj : j = id
      · simp only [Exit.inBlock, hj, if_true] at h' ⊢; exact ⟨e', hr', h'⟩
      · simp only [Exit.inBlock, hj, if_false] at h' ⊢; exact ⟨e', hr', h'⟩
    | _ => exact hq
  | .loop c, N, X, R, e, a, w, hf, hr, h => by
    obtain ⟨I, m, h0, hround⟩ := h
    let mu : Act → World → Nat := fun a w => m (fun i => a.tmps.getD i undef) w
    have hmu : ∀ e a w, Rep n e a → mu a w = m e w := fun e a w hr => by
      show m (fun i => a.tmps.getD i undef) w = m e w
      congr 1
      funext i; exact hr.val i
    refine wpIn_loop (fun a w => ∃ e, Rep n e a ∧ I e w) mu ⟨e, hr, h0⟩ ?_
    rintro a1 w1 ⟨e1, hr1, hI1⟩
    refine wpIn_mono (vc_sound hm c _ X R e1 a1 w1 hf hr1 (hround e1 w1 hI1)) ?_
    intro ex a' w' hq
    cases ex with
    | normal =>
      obtain ⟨e', hr', h1, h2⟩ := hq
      exact ⟨⟨e', hr', h1⟩, by rw [hmu _ _ _ hr', hmu _ _ _ hr1]; exact h2⟩
    | _ => exact hq
  | .region id ops draw, N, X, R, e, a, w, hf, hr, h => by
    simp only [vc, regV] at h
    simp only [fits] at hf
    let Q : Exit → Act → World → Prop := fun | .normal, a, w => ∃ e, Rep n e a ∧ N e w | _, _, _ => False
    have hQ : ∀ ex a w, Q ex a w → exits n N X R ex a w := fun ex a w hq => by cases ex <;> first | exact hq | exact hq.elim
    refine wpIn_mono (Q := Q) ?_ hQ
    cases draw with
    | false =>
      have := opsV_sound (n := n) (N := N) (Q := Q) (fun e a w hr hn => ⟨e, hr, hn⟩) ops.toList e a w hf hr (by simpa using h)
      exact wpIn_region_list (wpListW_in (ro := none) (.inl rfl) (by simpa using this))
    | true =>
      rw [if_pos rfl] at h
      obtain ⟨pl, hp, h⟩ := h
      simp only [planOk, Bool.and_eq_true, beq_iff_eq] at hp
      obtain ⟨⟨hp1, hp2⟩, hp3⟩ := hp
      have := dV_sound (n := n) (ops := ops.toList) (N := N) (Q := Q) (mode := modeIn pl) (by simpa using hp1) (fun _ _ _ hq => hq) (fun e a w hr hn => ⟨e, hr, hn⟩) hf pl _ e a w.drew (by simpa using hp3) hr h
      refine wpIn_region_drawn hm ?_
      have h2 := wpAny_of_C (ro := none) (.inl rfl) _ _ _ _ this
      simp only [Array.toArray_toList] at h2
      rw [hp2] at h2
      rw [wf_none] at h2
      simpa using h2

def oneRes (tmps : Array Value) : ResultVar → Sem Value
  | .tmp t => pure (tmps.getD t undef)
  | .cell c t => do loadVar t (← asAddr (tmps.getD c undef))

theorem results_eq (fn : Func) (tmps : Array Value) : results fn tmps = (do let vs ← fn.results.mapM (oneRes tmps); pure (if h : vs.size = 1 then vs[0] else .tuple vs)) := by
  unfold results
  congr 1

theorem resL_sound {n : Nat} {e : Env} {a : Act} (hr : Rep n e a) : ∀ (rs : List ResultVar) (K : List Value → Prop), resL P e w rs K →
    ∃ vs, (rs.mapM (oneRes a.tmps)).run P w = .ok vs w ∧ K vs
  | [], K, h => ⟨[], rfl, h⟩
  | .tmp t :: r, K, h => by
    obtain ⟨vs, h1, h2⟩ := resL_sound hr r _ h
    refine ⟨e t :: vs, ?_, h2⟩
    have : (oneRes a.tmps (.tmp t)).run P w = .ok (e t) w := by simp only [oneRes, Sem.run_pure, hr.val]
    simp only [List.mapM_cons, Sem.run_bind, Sem.run_pure, Result.andThen_ok, h1, this]
  | .cell c t :: r, K, h => by
    simp only [resL] at h
    obtain ⟨ad, had, v, hv, h⟩ := ptrV_cases h
    obtain ⟨vs, h1, h2⟩ := resL_sound hr r _ h
    refine ⟨v :: vs, ?_, h2⟩
    unfold Ld Does Instr.loadAt Instr.sureAddr at hv
    simp only [Sem.run_bind, Sem.run_pure, Result.andThen_ok] at hv
    have : (oneRes a.tmps (.cell c t)).run P w = .ok v w := by
      unfold oneRes
      simp only [hr.val, had, asAddr, Sem.run_bind, Sem.run_pure, Result.andThen_ok, hv]
    simp only [List.mapM_cons, Sem.run_bind, Sem.run_pure, Result.andThen_ok, h1, this]

theorem retV_sound {n : Nat} {fn : Func} {K : Value → World → Prop} {e : Env} {a : Act} (hr : Rep n e a) (h : retV P fn.results.toList K e w) :
    ∃ v, (results fn a.tmps).run P w = .ok v w ∧ K v w := by
  obtain ⟨vs, h1, h2⟩ := resL_sound hr _ _ h
  have key : (results fn a.tmps).run P w = .ok (if h : vs.toArray.size = 1 then vs.toArray[0] else .tuple vs.toArray) w := by
    rw [results_eq, Array.mapM_eq_mapM_toList]
    simp only [Sem.run_bind, Sem.run_map, h1, Result.andThen_ok, Sem.run_pure]
  refine ⟨_, key, ?_⟩
  match vs, h2 with
  | [v], h2 => exact h2
  | [], h2 => exact h2
  | x :: y :: r, h2 => rw [dif_neg (by simp)]; exact h2

theorem FC.of_body (hm : P.follows .mixedOrders = true) {f : FuncId} {fn : Func} {c : Code} {args : Array Value} {K : Value → World → Prop} (hf : P.funcs[f]? = some fn) (hb : fn.body = some c)
    (hn : (fn.name == "runtime.NumGoroutine") = false) (hfit : fits fn.ntmps c = true) (hargs : args.size ≤ fn.ntmps)
    (h : vc P c (retV P fn.results.toList K) (fun _ _ _ => False) (retV P fn.results.toList K) (fun i => args.getD i undef) w) : FC P f args w K := by
  unfold FC
  have : (callFunc f args).run P w = .ok (.enter f args) w := by
    unfold callFunc
    have hn' : ¬ fn.name = "runtime.NumGoroutine" := fun h => by rw [h] at hn; simp at hn
    simp [hf, hn', hb]
  rw [this]
  refine callsIn_wide.1 (callsIn_of_wp (F := Fence.wide) (n := 0) hf hb trivial (wpIn_mono (vc_sound hm c _ _ _ _ _ w hfit (?_ : Rep fn.ntmps (fun i => args.getD i undef) _) h) ?_))
  · refine ⟨rfl, by simp; omega, fun i => ?_⟩
    simp only [Array.getD_eq_getD_getElem?, Array.getElem?_append]
    by_cases hi : i < args.size
    · simp [hi]
    · simp only [hi, Array.getElem?_replicate, if_false, Array.getElem?_eq_none (Nat.le_of_not_lt hi), Option.getD_none]
      split <;> rfl
  · intro ex a' w' hq
    cases ex with
    | normal => obtain ⟨e', hr', h'⟩ := hq; obtain ⟨v, h1, h2⟩ := retV_sound hr' h'; exact ⟨hr'.defers, v, h1, v, rfl, h2⟩
    | ret => obtain ⟨e', hr', h'⟩ := hq; obtain ⟨v, h1, h2⟩ := retV_sound hr' h'; exact ⟨hr'.defers, v, h1, v, rfl, h2⟩
    | exit id => obtain ⟨_, _, h⟩ := hq; exact h
    | _ => exact hq.elim

end

theorem lapp_cons {α : Type} (a : α) (l r : List α) : List.append (a :: l) r = a :: List.append l r := rfl
theorem lapp_nil {α : Type} (r : List α) : List.append [] r = r := rfl

end Go.V
namespace Go.V
open Go Go.RowKit

/-! ### Steps of a walk -/

/-- The loops of a piece of code, the outer ones first. -/
def loopsOf : Code → List Code
  | .seq a b => loopsOf a ++ loopsOf b
  | .cond _ a b => loopsOf a ++ loopsOf b
  | .block _ c => loopsOf c
  | .scope c => loopsOf c
  | .loop c => .loop c :: loopsOf c
  | _ => []
def nthLoop (f : Func) (k : Nat) : Code := match f.body with
  | some c => (loopsOf c).getD k .skip
  | none => .skip


def argE (l : List Value) : Env := fun i => l.getD i undef
theorem argE_apply (l : List Value) (i : Nat) : argE l i = l.getD i undef := rfl

section
variable {P : Program} {w : World}

theorem FC.body (hm : P.follows .mixedOrders = true) {f : FuncId} {fn : Func} {c : Code} {l : List Value} {rs : List ResultVar} {K : Value → World → Prop} (hf : P.funcs[f]? = some fn) (hb : fn.body = some c)
    (hn : (fn.name == "runtime.NumGoroutine") = false) (hfit : fits fn.ntmps c = true) (hargs : l.length ≤ fn.ntmps) (hrs : fn.results.toList = rs)
    (h : vc P c (retV P rs K) (fun _ _ _ => False) (retV P rs K) (argE l) w) : FC P f l.toArray w K := by
  subst hrs
  refine FC.of_body hm hf hb hn hfit (by simpa using hargs) ?_
  have : (fun i => l.toArray.getD i undef) = argE l := by funext i; simp [argE]
  rw [this]; exact h

variable {N : Env → World → Prop} {X : Nat → Env → World → Prop} {R : Env → World → Prop} {e : Env}

theorem vc_seq {a b : Code} (h : ∀ K : Env → World → Prop, (∀ e w, vc P b N X R e w → K e w) → vc P a K X R e w) : vc P (.seq a b) N X R e w := h _ fun _ _ h => h
theorem vc_reg {id : Nat} {l : List Oper} (h : opsV P l N l e w) : vc P (.region id l.toArray false) N X R e w := h
theorem vc_draw {id : Nat} {l : List Oper} (pl : List (Nat × Nat)) (hp : planOk l.toArray pl = true) (h : dV P l N pl e w.drew) : vc P (.region id l.toArray true) N X R e w := ⟨pl, hp, h⟩
/-- An operation without its edges and its place. -/
def lite (o : Oper) : Oper := { o with pos := "", after := #[] }
theorem guardV_lite (ops : List Oper) (o : Oper) (e : Env) (run skip : Prop) : guardV (ops.map lite) (lite o) e run skip = guardV ops o e run skip := by
  unfold guardV
  have hd : ∀ j : Nat, ((ops.map lite)[j]?).bind (·.dst) = (ops[j]?).bind (·.dst) := by
    intro j
    rw [List.getElem?_map]
    cases ops[j]? <;> rfl
  simp only [hd]
  rfl
theorem opsV_lite (ops : List Oper) : ∀ (l : List Oper) (e : Env) (w : World), opsV P (ops.map lite) N (l.map lite) e w = opsV P ops N l e w
  | [], _, _ => rfl
  | o :: r, e, w => by
    simp only [List.map_cons, opsV, guardV_lite]
    have h1 : ∀ K, opV P (lite o) e w K = opV P o e w K := fun _ => rfl
    have h2 : (lite o).dst = o.dst := rfl
    simp only [h1, h2, opsV_lite ops r]
theorem vc_regL {id : Nat} {l : List Oper} (l' : List Oper) (hl : l.map lite = l') (h : opsV P l' N l' e w) : vc P (.region id l.toArray false) N X R e w := by
  subst hl
  rw [opsV_lite] at h
  exact vc_reg h

theorem vc_skip (h : N e w) : vc P .skip N X R e w := h
theorem vc_exit {id : Nat} (h : X id e w) : vc P (.exit id) N X R e w := h
theorem vc_ret (h : R e w) : vc P .ret N X R e w := h
theorem vc_block {id : Nat} {c : Code} (h : vc P c N (fun j e w => if j = id then N e w else X j e w) R e w) : vc P (.block id c) N X R e w := h
theorem vc_label {l : Nat} (h : N e w) : vc P (.label l) N X R e w := h
theorem vc_scope {c : Code} (h : vc P c N X R e w) : vc P (.scope c) N X R e w := h
theorem vc_condD {c : Operand} {a b : Code} {p : Prop} {inst : Decidable p} (hc : ev e c = .bool (@decide p inst)) (hT : p → vc P a N X R e w) (hF : ¬ p → vc P b N X R e w) : vc P (.cond c a b) N X R e w := by
  simp only [vc, condV, hc]
  by_cases hp : p
  · simpa [hp] using hT hp
  · simpa [hp] using hF hp
theorem vc_condB {c : Operand} {a b : Code} {t : Bool} (hc : ev e c = .bool t) (hT : t = true → vc P a N X R e w) (hF : t = false → vc P b N X R e w) : vc P (.cond c a b) N X R e w := by
  simp only [vc, condV, hc]
  cases t
  · simpa using hF rfl
  · simpa using hT rfl
theorem vc_condT {c : Operand} {a b : Code} (hc : ev e c = .bool true) (h : vc P a N X R e w) : vc P (.cond c a b) N X R e w := vc_condB hc (fun _ => h) (fun h => by cases h)
theorem vc_condF {c : Operand} {a b : Code} (hc : ev e c = .bool false) (h : vc P b N X R e w) : vc P (.cond c a b) N X R e w := vc_condB hc (fun h => by cases h) (fun _ => h)
theorem vc_cond {c : Operand} {a b : Code} (h : condV (ev e c) (vc P a N X R e w) (vc P b N X R e w)) : vc P (.cond c a b) N X R e w := h
theorem vc_loop {c : Code} (I : Env → World → Prop) (m : Env → World → Nat) (h0 : I e w) (h : ∀ e1 w1, I e1 w1 → vc P c (fun e2 w2 => I e2 w2 ∧ m e2 w2 < m e1 w1) X R e1 w1) : vc P (.loop c) N X R e w := ⟨I, m, h0, h⟩
end

theorem fc_call {P : Program} {w : World} {f : FuncId} {a : Array Value} {l : List Value} {K : Value → World → Prop} (h : FC P f l.toArray w K) (ha : a = l.toArray) : FC P f a w K := ha ▸ h

theorem cast_add (a b : Nat) : (a : Int) + (b : Int) = ((a + b : Nat) : Int) := by omega
theorem cast_mul (a b : Nat) : (a : Int) * (b : Int) = ((a * b : Nat) : Int) := by simp
theorem wrap64_nat (n : Nat) : IntKind.u64.wrap (n : Int) = ((n % 18446744073709551616 : Nat) : Int) := by
  rw [show IntKind.u64.wrap (n : Int) = (n : Int) % 18446744073709551616 from by simp [IntKind.wrap, IntKind.bits, IntKind.signed]]
  omega
theorem wrap32_nat (n : Nat) : IntKind.u32.wrap (n : Int) = ((n % 4294967296 : Nat) : Int) := by
  rw [show IntKind.u32.wrap (n : Int) = (n : Int) % 4294967296 from by simp [IntKind.wrap, IntKind.bits, IntKind.signed]]
  omega
theorem wrap8_nat (n : Nat) : IntKind.u8.wrap (n : Int) = ((n % 256 : Nat) : Int) := by
  rw [show IntKind.u8.wrap (n : Int) = (n : Int) % 256 from by simp [IntKind.wrap, IntKind.bits, IntKind.signed]]
  omega
theorem wrap64_sub (a b : Nat) (hb : b ≤ 18446744073709551616) : IntKind.u64.wrap ((a : Int) - (b : Int)) = (((a + (18446744073709551616 - b)) % 18446744073709551616 : Nat) : Int) := by
  rw [show IntKind.u64.wrap ((a : Int) - (b : Int)) = ((a : Int) - (b : Int)) % 18446744073709551616 from by simp [IntKind.wrap, IntKind.bits, IntKind.signed]]
  omega
theorem wrap64_i (n : Int) : IntKind.u64.wrap n = n % 18446744073709551616 := by simp [IntKind.wrap, IntKind.bits, IntKind.signed]
theorem fdiv_nat (a b : Nat) : (a : Int).fdiv (b : Int) = ((a / b : Nat) : Int) := by rw [Int.fdiv_eq_ediv_of_nonneg _ (by omega)]; rfl
theorem tdiv_nat (a b : Nat) : (a : Int).tdiv (b : Int) = ((a / b : Nat) : Int) := rfl
theorem tmod_nat (a b : Nat) : (a : Int).tmod (b : Int) = ((a % b : Nat) : Int) := rfl
theorem shl_pow (a s : Nat) : (a : Int) * 2 ^ s = ((a * 2 ^ s : Nat) : Int) := by simp
theorem shr_pow (a s : Nat) : (a : Int).fdiv (2 ^ s) = ((a / 2 ^ s : Nat) : Int) := by
  rw [show ((2 : Int) ^ s) = ((2 ^ s : Nat) : Int) by simp]
  exact fdiv_nat _ _
theorem shr_nat (a s m : Nat) : (a : Int).fdiv (2 ^ (min s m)) = ((a / 2 ^ (min s m) : Nat) : Int) := by
  rw [show ((2 : Int) ^ (min s m)) = ((2 ^ (min s m) : Nat) : Int) by simp]
  exact fdiv_nat _ _
theorem shl_nat (a s m : Nat) : (a : Int) * 2 ^ (min s m) = ((a * 2 ^ (min s m) : Nat) : Int) := by simp
theorem bv_nat (k : IntKind) (n : Nat) (h : n < 2 ^ k.bits) : (BitVec.ofInt k.bits (n : Int)).toNat = n := by
  rw [BitVec.ofInt_natCast, BitVec.toNat_ofNat, Nat.mod_eq_of_lt h]
theorem and64_nat (a b : Nat) (ha : a < 18446744073709551616) (hb : b < 18446744073709551616) : bitsV .and .u64 (a : Int) (b : Int) = ((a &&& b : Nat) : Int) := by
  unfold bitsV
  simp only [BitVec.toNat_and, bv_nat .u64 a ha, bv_nat .u64 b hb]
  rw [wrap64_nat, Nat.mod_eq_of_lt (Nat.lt_of_le_of_lt Nat.and_le_left ha)]
theorem or64_nat (a b : Nat) (ha : a < 18446744073709551616) (hb : b < 18446744073709551616) : bitsV .or .u64 (a : Int) (b : Int) = ((a ||| b : Nat) : Int) := by
  unfold bitsV
  simp only [BitVec.toNat_or, bv_nat .u64 a ha, bv_nat .u64 b hb]
  rw [wrap64_nat, Nat.mod_eq_of_lt (Nat.or_lt_two_pow (n := 64) ha hb)]
theorem and32_nat (a b : Nat) (ha : a < 4294967296) (hb : b < 4294967296) : bitsV .and .u32 (a : Int) (b : Int) = ((a &&& b : Nat) : Int) := by
  unfold bitsV
  simp only [BitVec.toNat_and, bv_nat .u32 a ha, bv_nat .u32 b hb]
  rw [wrap32_nat, Nat.mod_eq_of_lt (Nat.lt_of_le_of_lt Nat.and_le_left ha)]
theorem or32_nat (a b : Nat) (ha : a < 4294967296) (hb : b < 4294967296) : bitsV .or .u32 (a : Int) (b : Int) = ((a ||| b : Nat) : Int) := by
  unfold bitsV
  simp only [BitVec.toNat_or, bv_nat .u32 a ha, bv_nat .u32 b hb]
  rw [wrap32_nat, Nat.mod_eq_of_lt (Nat.or_lt_two_pow (n := 32) ha hb)]
theorem bits_u64 : IntKind.u64.bits = 64 := rfl
theorem bits_u32 : IntKind.u32.bits = 32 := rfl
theorem bits_u8 : IntKind.u8.bits = 8 := rfl
theorem bits_i64 : IntKind.i64.bits = 64 := rfl
theorem shr1 (a : Nat) : (a : Int).fdiv 2 = ((a / 2 : Nat) : Int) := fdiv_nat a 2
theorem shr8 (a : Nat) : (a : Int).fdiv 256 = ((a / 256 : Nat) : Int) := fdiv_nat a 256
theorem shr16 (a : Nat) : (a : Int).fdiv 65536 = ((a / 65536 : Nat) : Int) := fdiv_nat a 65536
theorem shr32 (a : Nat) : (a : Int).fdiv 4294967296 = ((a / 4294967296 : Nat) : Int) := fdiv_nat a 4294967296
theorem shr58 (a : Nat) : (a : Int).fdiv 288230376151711744 = ((a / 288230376151711744 : Nat) : Int) := fdiv_nat a 288230376151711744
theorem low32 (a : Nat) (ha : a < 18446744073709551616) : bitsV .and .u64 (a : Int) 4294967295 = ((a % 4294967296 : Nat) : Int) := by
  have := and64_nat a 4294967295 ha (by decide)
  rw [show ((4294967295 : Nat) : Int) = 4294967295 from rfl] at this
  rw [this]
  congr 1
  exact Nat.and_two_pow_sub_one_eq_mod a 32
theorem cast_add_one (a : Nat) : (a : Int) + 1 = ((a + 1 : Nat) : Int) := by omega
theorem cast_succ_sub (a : Nat) : ((a + 1 : Nat) : Int) - 1 = (a : Int) := by omega
theorem cast_zero_lt (a : Nat) : (0 : Int) < (a : Int) ↔ 0 < a := by omega
theorem cast_zero_le (a : Nat) : ((0 : Int) ≤ (a : Int)) ↔ True := by simp
theorem cast_eq_zero (a : Nat) : (a : Int) = 0 ↔ a = 0 := by omega

/-! ### The calculus, where the values are written out -/
section
variable {P : Program} {w : World}
theorem binV_int {op : BinOp} {t : TypeId} {ox oy : Operand} {k k' : IntKind} {a b : Int} {K : Value → World → Prop} : binV P op t ox oy (.int k a) (.int k' b) w K = intV op k a k' b (fun v => K v w) := rfl
theorem binV_eqB {t : TypeId} {ox oy : Operand} {a b : Bool} {K : Value → World → Prop} : binV P .eql t ox oy (.bool a) (.bool b) w K = (P.underlying t = some .bool ∧ K (.bool (a == b)) w) := rfl
theorem binV_neB {t : TypeId} {ox oy : Operand} {a b : Bool} {K : Value → World → Prop} : binV P .neq t ox oy (.bool a) (.bool b) w K = (P.underlying t = some .bool ∧ K (.bool (a != b)) w) := rfl
theorem boolV_bool {b : Bool} {K : Bool → Prop} : boolV (.bool b) K = K b := rfl
def optV (o : Option Value) (K : Value → Prop) : Prop := match o with | some x => K x | none => False
theorem optV_some {x : Value} {K : Value → Prop} : optV (some x) K = K x := rfl
theorem tupV_lit {vs : List Value} {i : Nat} {K : Value → Prop} : tupV (.tuple vs.toArray) i K = optV vs[i]? K := by
  simp only [tupV, List.getElem?_toArray]
  cases vs[i]? <;> rfl
theorem ptrV_ptr {a : Addr} {K : Addr → Prop} : ptrV (.pointer (some a)) K = K a := rfl
theorem unV_not {b : Bool} {K : Value → Prop} : unV .not (.bool b) K = K (.bool !b) := rfl
theorem unV_neg {k : IntKind} {n : Int} {K : Value → Prop} : unV .neg (.int k n) K = arith k (0 - n) K := rfl
theorem gv_bool {b want : Bool} {run skip : Prop} : gv (.bool b) want run skip = if b = want then run else skip := rfl
theorem gv_tuple {vs : Array Value} {want : Bool} {run skip : Prop} : gv (.tuple vs) want run skip = skip := rfl
theorem convV_int {s d : TypeId} {k k' : IntKind} {n : Int} {K : Value → World → Prop} (h : P.underlying d = some (.int k)) : convV P s d (.int k' n) w K = ((P.underlying s).isSome = true ∧ K (.int k (k.wrap n)) w) := by simp only [convV, h]
theorem fieldV_one {t : TypeId} {f off : Nat} {cs : List Value} {K : Value → Prop} (h : fieldVal P t f = some (off, none)) : fieldV P t f (.agg cs.toArray) K = optV cs[off]? K := by
  simp only [fieldV, h, List.getElem?_toArray]
  cases cs[off]? <;> rfl
theorem fieldV_many {t : TypeId} {f off n : Nat} {cs : List Value} {K : Value → Prop} (h : fieldVal P t f = some (off, some n)) : fieldV P t f (.agg cs.toArray) K = K (.agg ((cs.take (off + n)).drop off).toArray) := by
  simp only [fieldV, h]
  congr 2
  simp [List.take_drop]
theorem pbin_int {op : BinOp} {t : TypeId} {k k' : IntKind} {a b : Int} {K : Value → Prop} : pbin P op t (.int k a) (.int k' b) K = intV op k a k' b K := rfl
theorem pbin_eqB {t : TypeId} {a b : Bool} {K : Value → Prop} : pbin P .eql t (.bool a) (.bool b) K = (P.underlying t = some .bool ∧ K (.bool (a == b))) := rfl
theorem pbin_neB {t : TypeId} {a b : Bool} {K : Value → Prop} : pbin P .neq t (.bool a) (.bool b) K = (P.underlying t = some .bool ∧ K (.bool (a != b))) := rfl
theorem pconv_int {s d : TypeId} {k k' : IntKind} {n : Int} {K : Value → Prop} (h : P.underlying d = some (.int k)) : pconv P s d (.int k' n) K = ((P.underlying s).isSome = true ∧ K (.int k (k.wrap n))) := by simp only [pconv, h]
end

/-! ### Worlds that grow -/

theorem Ext.at {w w' : World} (h : Ext w w') {b : Nat} {o : Obj} (hb : w.heap[b]? = some o) : w'.heap[b]? = some o := by
  rw [h.block b (Array.getElem?_eq_some_iff.1 hb).1]; exact hb
theorem below_at {B : Nat} {w w' : World} (h : Bel B w w') {b : Nat} {o : Obj} (hb : w.heap[b]? = some o) (hB : b < B) : w'.heap[b]? = some o := by
  rw [h.block b hB]; exact hb

/-! ### Slices that are read -/

def cellH (H : Array Obj) (a : Addr) : Option Value := match H[a.block]? with
  | some (.cells c _ _) => if a.spot.isSome then none else c[a.off]?
  | _ => none
theorem cell_eq (w : World) (a : Addr) : w.cell? a = cellH w.heap a := rfl

/-- v is a slice of n elements of s cells; f tells the cells. -/
def Sl (H : Array Obj) (v : Value) (n s : Nat) (f : Nat → Value) : Prop :=
  n ≤ 140737488355328 ∧ (((∃ a, v = .slice a 0 0) ∧ n = 0) ∨
    ∃ b off cap c t fr, v = .slice (some ⟨b, off, none⟩) n cap ∧ n ≤ cap ∧ H[b]? = some (.cells c t fr) ∧ ∀ j, j < n * s → c[off + j]? = some (f j))

theorem Sl.up {w w' : World} {v : Value} {n s : Nat} {f : Nat → Value} (h : Sl w.heap v n s f) (hE : Ext w w') : Sl w'.heap v n s f := by
  refine ⟨h.1, h.2.imp id ?_⟩
  rintro ⟨b, off, cap, c, t, fr, h1, h2, h3, h4⟩
  exact ⟨b, off, cap, c, t, fr, h1, h2, hE.at h3, h4⟩

theorem Sl.len {H : Array Obj} {v : Value} {n s : Nat} {f : Nat → Value} (h : Sl H v n s f) : LenIs v n := by
  rcases h.2 with ⟨⟨a0, rfl⟩, rfl⟩ | ⟨b, off, cap, c, t, fr, rfl, _⟩
  · exact ⟨_, _, rfl⟩
  · exact ⟨_, _, rfl⟩

theorem Sl.addr {H : Array Obj} {v : Value} {n s : Nat} {f : Nat → Value} (h : Sl H v n s f) : (v = .slice none 0 0 ∧ n = 0) ∨ ∃ a cap, v = .slice (some a) n cap := by
  rcases h.2 with ⟨⟨a0, rfl⟩, rfl⟩ | ⟨b, off, cap, c, t, fr, rfl, _⟩
  · cases a0 with
    | none => exact .inl ⟨rfl, rfl⟩
    | some a => exact .inr ⟨a, 0, rfl⟩
  · exact .inr ⟨_, _, rfl⟩
theorem LenIs.lit {a : Option Addr} {n c : Nat} : LenIs (.slice a n c) n := ⟨a, c, rfl⟩
theorem LenIs.cast {v : Value} {n m : Nat} (h : LenIs v n) (e : n = m) : LenIs v m := e ▸ h
theorem LenIs.uniq {v : Value} {n m : Nat} (h : LenIs v n) (h' : LenIs v m) : n = m := by
  obtain ⟨a, c, rfl⟩ := h
  obtain ⟨a', c', h'⟩ := h'
  injection h'

/-- The slice with another length. -/
def resl (v : Value) (m : Nat) : Value := match v with | .slice a _ c => .slice a m c | v => v
def reslC (v : Value) (m : Nat) : Value := match v with | .slice a _ _ => .slice a m m | v => v

theorem Sl.take {H : Array Obj} {v : Value} {n s : Nat} {f : Nat → Value} (h : Sl H v n s f) {m : Nat} (hm : m ≤ n) : Sl H (resl v m) m s f := by
  refine ⟨Nat.le_trans hm h.1, ?_⟩
  rcases h.2 with ⟨⟨a0, rfl⟩, rfl⟩ | ⟨b, off, cap, c, t, fr, rfl, h2, h3, h4⟩
  · left; obtain rfl : m = 0 := by omega
    exact ⟨⟨_, rfl⟩, rfl⟩
  · right; exact ⟨b, off, cap, c, t, fr, rfl, by omega, h3, fun j hj => h4 j (Nat.lt_of_lt_of_le hj (Nat.mul_le_mul_right s hm))⟩

theorem Sl.takeC {H : Array Obj} {v : Value} {n s : Nat} {f : Nat → Value} (h : Sl H v n s f) {m : Nat} (hm : m ≤ n) : Sl H (reslC v m) m s f := by
  refine ⟨Nat.le_trans hm h.1, ?_⟩
  rcases h.2 with ⟨⟨a0, rfl⟩, rfl⟩ | ⟨b, off, cap, c, t, fr, rfl, h2, h3, h4⟩
  · left; obtain rfl : m = 0 := by omega
    exact ⟨⟨_, rfl⟩, rfl⟩
  · right; exact ⟨b, off, m, c, t, fr, rfl, by omega, h3, fun j hj => h4 j (Nat.lt_of_lt_of_le hj (Nat.mul_le_mul_right s hm))⟩

theorem Sl.congr {H : Array Obj} {v : Value} {n s : Nat} {f g : Nat → Value} (h : Sl H v n s f) (hfg : ∀ j, j < n * s → f j = g j) : Sl H v n s g := by
  refine ⟨h.1, h.2.imp id ?_⟩
  rintro ⟨b, off, cap, c, t, fr, h1, h2, h3, h4⟩
  exact ⟨b, off, cap, c, t, fr, h1, h2, h3, fun j hj => by rw [h4 j hj, hfg j hj]⟩

/-! ### Types -/

structure SlT (P : Program) (t el : TypeId) (s bytes : Nat) (z : Value) : Prop where
  und : P.underlying t = some (.slice el)
  info : (P.info? el).map (fun i => (i.zero, i.size, i.bytes)) = some (some z, s, bytes)

def scalB (P : Program) (t : TypeId) : Bool := match P.underlying t, P.info? t with
  | some (.struct _), _ | some (.array ..), _ | none, _ | _, none => false
  | some _, some i => i.size == 1

/-- A struct (or an array) of so many cells. -/
def aggN (P : Program) (t : TypeId) : Option Nat := match P.underlying t, P.info? t with
  | some (.struct _), some i | some (.array ..), some i => some i.size
  | _, _ => none

section
variable {P : Program} {w : World}

theorem scal_agg {t : TypeId} (h : scalB P t = true) (w : World) : (isAgg t).run P w = .ok false w := by
  unfold scalB at h
  unfold isAgg
  split at h <;> first | (cases h; done) | skip
  rename_i d i h1 h2 hu hi
  cases d <;> simp_all [run_underlying hu]

theorem scal_size {t : TypeId} (h : scalB P t = true) (w : World) : (sizeOf t).run P w = .ok 1 w := by
  unfold scalB at h
  split at h <;> first | (cases h; done) | skip
  rename_i d i h1 h2 hu hi
  have : i.size = 1 := by simpa using h
  simp [sizeOf, info_parts' hi, this]

theorem agg_agg {t n : Nat} (h : aggN P t = some n) (w : World) : (isAgg t).run P w = .ok true w ∧ (sizeOf t).run P w = .ok n w := by
  unfold aggN at h
  split at h
  · rename_i i hu hi
    injection h with h
    exact ⟨by simp [isAgg, run_underlying hu], by simp [sizeOf, info_parts' hi, h]⟩
  · rename_i i hu hi
    injection h with h
    exact ⟨by simp [isAgg, run_underlying hu], by simp [sizeOf, info_parts' hi, h]⟩
  · cases h

theorem ld_scal {t : TypeId} (h : scalB P t = true) {ad : Addr} {v : Value} (hc : w.cell? ad = some v) : Ld P w t (.pointer (some ad)) v := by
  unfold Ld Does Instr.loadAt Instr.sureAddr loadVar
  simp [scal_agg h, hc]

theorem ld_agg {t n : Nat} (h : aggN P t = some n) {ad : Addr} {cs : List Value} (hn : cs.length = n) (hc : ∀ j v, cs[j]? = some v → w.cell? (ad.add j) = some v) :
    Ld P w t (.pointer (some ad)) (.agg cs.toArray) := by
  unfold Ld Does Instr.loadAt Instr.sureAddr loadVar
  have := run_loadCells_list (P := P) w ad cs hc
  rw [hn] at this
  simp [(agg_agg h w).1, (agg_agg h w).2, this]

theorem addr_add (b off n : Nat) : (⟨b, off, none⟩ : Addr).add n = ⟨b, off + n, none⟩ := by
  unfold Addr.add; split
  · subst_vars; rfl
  · rfl

theorem info_size {el s bytes : Nat} {z : Value} (h : (P.info? el).map (fun i => (i.zero, i.size, i.bytes)) = some (some z, s, bytes)) (w : World) : (sizeOf el).run P w = .ok s w := by
  obtain ⟨i, hi, _, hs, _⟩ := info_parts h
  simp [sizeOf, info_parts' hi, hs]

theorem ix_lit {t el s bytes : Nat} {z : Value} (T : SlT P t el s bytes z) {b off n cap : Nat} {k : IntKind} {i : Int} (h0 : 0 ≤ i) (h1 : i < n) :
    IxA P t (.slice (some ⟨b, off, none⟩) n cap) (.int k i) ⟨b, off + i.toNat * s, none⟩ := by
  intro w
  unfold Does Instr.indexAt
  simp [asIntOf, run_underlying T.und, info_size T.info, h0, h1, addr_add]

/-- An element of a slice that is read: where it lies, and its cells. -/
theorem Sl.ix {t el s bytes : Nat} {z : Value} (T : SlT P t el s bytes z) {v : Value} {n : Nat} {f : Nat → Value} {H : Array Obj} (h : Sl H v n s f) {k : IntKind} {i : Int} (h0 : 0 ≤ i) (h1 : i < n) :
    ∃ b off, IxA P t v (.int k i) ⟨b, off, none⟩ ∧ ∃ c ty fr, H[b]? = some (.cells c ty fr) ∧ ∀ j, j < s → c[off + j]? = some (f (i.toNat * s + j)) := by
  rcases h.2 with ⟨⟨a0, rfl⟩, rfl⟩ | ⟨b, off, cap, c, ty, fr, rfl, h2, h3, h4⟩
  · omega
  · refine ⟨b, off + i.toNat * s, ix_lit T h0 h1, c, ty, fr, h3, fun j hj => ?_⟩
    rw [Nat.add_assoc]
    refine h4 _ ?_
    have : i.toNat + 1 ≤ n := by omega
    have := Nat.mul_le_mul_right s this
    rw [Nat.add_mul] at this
    omega

/-- One that is a single cell. -/
theorem Sl.get {t el bytes : Nat} {z : Value} (T : SlT P t el 1 bytes z) (hs : scalB P el = true) {v : Value} {n : Nat} {f : Nat → Value} (h : Sl w.heap v n 1 f) {k : IntKind} {i : Int} (h0 : 0 ≤ i) (h1 : i < n) :
    ∃ ad, IxA P t v (.int k i) ad ∧ ∀ w', Ext w w' → Ld P w' el (.pointer (some ad)) (f i.toNat) := by
  obtain ⟨b, off, h2, c, ty, fr, h3, h4⟩ := h.ix T (k := k) h0 h1
  refine ⟨_, h2, fun w' hE => ld_scal hs ?_⟩
  have := h4 0 (by omega)
  simp only [Nat.mul_one, Nat.add_zero] at this
  simp [cell_eq, cellH, hE.at h3, this]

theorem sl_cut {t el s bytes : Nat} {z : Value} (T : SlT P t el s bytes z) {H : Array Obj} {v : Value} {n : Nat} {f : Nat → Value} (h : Sl H v n s f) {k : IntKind} {m : Nat} (hm : m ≤ n) :
    SlA P t v none (some (.int k m)) none (resl v m) := by
  intro w
  have key : ∀ (a : Option Addr) (n cap : Nat), m ≤ cap → Does P (Instr.sliceAt t (.slice a n cap) none (some (.int k m)) none) w (.slice a m cap) w := by
    intro a n cap hc
    unfold Does Instr.sliceAt Instr.slice
    simp [run_underlying T.und, Instr.sliceBounds, Instr.sliceBound, asIntOf, hc, info_size T.info]
    intro _
    cases a <;> simp [Addr.add]
  rcases h.2 with ⟨⟨a0, rfl⟩, rfl⟩ | ⟨b, off, cap, c, ty, fr, rfl, h2, h3, h4⟩
  · exact key _ _ _ (by omega)
  · exact key _ _ _ (by omega)

theorem sl_cutC {t el s bytes : Nat} {z : Value} (T : SlT P t el s bytes z) {H : Array Obj} {v : Value} {n : Nat} {f : Nat → Value} (h : Sl H v n s f) {k k' : IntKind} {m : Nat} (hm : m ≤ n) :
    SlA P t v none (some (.int k m)) (some (.int k' m)) (reslC v m) := by
  intro w
  have key : ∀ (a : Option Addr) (n cap : Nat), m ≤ cap → Does P (Instr.sliceAt t (.slice a n cap) none (some (.int k m)) (some (.int k' m))) w (.slice a m m) w := by
    intro a n cap hc
    unfold Does Instr.sliceAt Instr.slice
    simp [run_underlying T.und, Instr.sliceBounds, Instr.sliceBound, asIntOf, hc, info_size T.info]
    intro _
    cases a <;> simp [Addr.add]
  rcases h.2 with ⟨⟨a0, rfl⟩, rfl⟩ | ⟨b, off, cap, c, ty, fr, rfl, h2, h3, h4⟩
  · exact key _ _ _ (by omega)
  · exact key _ _ _ (by omega)

/-! ### Rows that the call owns -/

/-- Block b holds just these cells, and may be written. -/
def Row (w : World) (b : Nat) (el : TypeId) (xs : List Value) : Prop := w.heap[b]? = some (.cells xs.toArray el (0, 0))

/-- Of w' all but block b is as it was in w. -/
structure Upd (b : Nat) (w w' : World) : Prop where
  os : w'.os = w.os
  tape : w'.tape = w.tape
  output : w'.output = w.output
  size : w'.heap.size = w.heap.size
  block : ∀ k, k ≠ b → w'.heap[k]? = w.heap[k]?
  dr : w'.drawn = w.drawn

theorem Upd.below {B b : Nat} {w0 w w' : World} (h : Bel B w0 w) (hu : Upd b w w') (hb : B ≤ b) : Bel B w0 w' :=
  h.trans ⟨⟨hu.os, hu.tape, hu.output, by rw [hu.size]; exact Nat.le_refl _, fun k hk => hu.block k (by omega)⟩, by rw [hu.dr]; exact Nat.le_refl _⟩

theorem Row.lt {b : Nat} {el : TypeId} {xs : List Value} (h : Row w b el xs) : b < w.heap.size := (Array.getElem?_eq_some_iff.1 h).1
theorem Row.upd {b b' : Nat} {el : TypeId} {xs : List Value} {w' : World} (h : Row w b el xs) (hu : Upd b' w w') (hne : b ≠ b') : Row w' b el xs := by
  unfold Row; rw [hu.block b hne]; exact h
theorem Row.up {b : Nat} {el : TypeId} {xs : List Value} {w' : World} (h : Row w b el xs) (hE : Ext w w') : Row w' b el xs := hE.at h
theorem Row.below {B b : Nat} {el : TypeId} {xs : List Value} {w' : World} (h : Row w b el xs) (hE : Bel B w w') (hb : b < B) : Row w' b el xs := below_at hE h hb
theorem Row.drew {b : Nat} {el : TypeId} {xs : List Value} (h : Row w b el xs) : Row w.drew b el xs := h

theorem Row.cell {b : Nat} {el : TypeId} {xs : List Value} (h : Row w b el xs) {i : Nat} {u : Value} (hi : xs[i]? = some u) : w.cell? ⟨b, i, none⟩ = some u := by
  unfold Row at h
  simp [World.cell?, h, hi]

theorem Row.ld {t : TypeId} (hs : scalB P t = true) {b : Nat} {el : TypeId} {xs : List Value} (h : Row w b el xs) {i : Nat} {u : Value} (hi : xs[i]? = some u) : Ld P w t (.pointer (some ⟨b, i, none⟩)) u :=
  ld_scal hs (h.cell hi)

theorem Row.ldAgg {t n : Nat} (ha : aggN P t = some n) {b : Nat} {el : TypeId} {xs : List Value} (h : Row w b el xs) {i : Nat} {cs : List Value} (hn : cs.length = n) (hi : ∀ j, j < n → xs[i + j]? = cs[j]?) :
    Ld P w t (.pointer (some ⟨b, i, none⟩)) (.agg cs.toArray) := by
  refine ld_agg ha hn fun j v hv => ?_
  rw [addr_add]
  have hj : j < n := by rw [← hn]; exact (List.getElem?_eq_some_iff.1 hv).1
  exact h.cell (by rw [hi j hj, hv])

theorem Row.sl {b : Nat} {el : TypeId} {xs : List Value} (h : Row w b el xs) {off n cap s : Nat} {f : Nat → Value} (hn : n ≤ cap) (hb : n ≤ 140737488355328) (hf : ∀ j, j < n * s → xs[off + j]? = some (f j)) :
    Sl w.heap (.slice (some ⟨b, off, none⟩) n cap) n s f :=
  ⟨hb, .inr ⟨b, off, cap, _, el, _, rfl, hn, h, fun j hj => by simpa using hf j hj⟩⟩

theorem Row.setCell {b : Nat} {el : TypeId} {xs : List Value} (h : Row w b el xs) (i : Nat) (u : Value) : Row (w.setCell ⟨b, i, none⟩ u) b el (xs.set i u) ∧ Upd b w (w.setCell ⟨b, i, none⟩ u) := by
  unfold Row at h ⊢
  refine ⟨?_, rfl, rfl, rfl, by simp [World.setCell], fun k hk => ?_, rfl⟩
  · simp only [World.setCell, Array.getElem?_modify, if_true, h, Option.map_some]
    simp
  · exact Below.heap_setCell _ _ _ _ hk

theorem Row.frozen {b : Nat} {el : TypeId} {xs : List Value} (h : Row w b el xs) (i : Nat) : w.frozen? ⟨b, i, none⟩ = false := by
  unfold Row at h
  simp [World.frozen?, h]

theorem Row.st {t : TypeId} (hs : scalB P t = true) {b : Nat} {el : TypeId} {xs : List Value} (h : Row w b el xs) {i : Nat} (hi : i < xs.length) {u : Value} (hu : u.oneCell' = true) :
    ∃ w', St P w t (.pointer (some ⟨b, i, none⟩)) u w' ∧ Row w' b el (xs.set i u) ∧ Upd b w w' := by
  obtain ⟨h1, h2⟩ := h.setCell i u
  refine ⟨_, ?_, h1, h2⟩
  have hc : u.cells = #[u] := by cases u <;> first | rfl | (simp [Value.oneCell'] at hu)
  have hcell : w.cell? ⟨b, i, none⟩ = some xs[i] := h.cell (by simp [hi])
  unfold St Does Instr.storeAt Instr.sureAddr storeVar
  simp [scal_size hs, hc, storeCells, run_store P w _ u .plain hu, hcell, h.frozen, Addr.add]

theorem Row.setCells {b : Nat} {el : TypeId} : ∀ (vs : List Value) (k : Nat) {xs : List Value} {w : World} (o : Nat), Row w b el xs → o + k + vs.length ≤ xs.length → (∀ v ∈ vs, v.oneCell' = true) →
    ∃ w', (storeCells ⟨b, o, none⟩ vs k).run P w = .ok () w' ∧ Row w' b el (xs.take (o + k) ++ vs ++ xs.drop (o + k + vs.length)) ∧ Upd b w w'
  | [], k, xs, w, o, h, _, _ => ⟨w, by simp [storeCells], by simpa using h, rfl, rfl, rfl, rfl, fun _ _ => rfl, rfl⟩
  | v :: vs, k, xs, w, o, h, hl, h1 => by
    simp only [List.length_cons] at hl
    obtain ⟨h2, h3⟩ := h.setCell (o + k) v
    have hi : o + k < xs.length := by omega
    have hcell : w.cell? ⟨b, o + k, none⟩ = some xs[o + k] := h.cell (by simp [hi])
    obtain ⟨w', h4, h5, h6⟩ := Row.setCells vs (k + 1) (w := w.setCell ⟨b, o + k, none⟩ v) o h2 (by simp; omega) (fun u hu => h1 u (by simp [hu]))
    refine ⟨w', ?_, ?_, ⟨h6.os.trans h3.os, h6.tape.trans h3.tape, h6.output.trans h3.output, h6.size.trans h3.size, fun k hk => (h6.block k hk).trans (h3.block k hk), h6.dr.trans h3.dr⟩⟩
    · simp [storeCells, addr_add, run_store P w _ v .plain (h1 v (by simp)), hcell, h.frozen, h4]
    · have e : (xs.set (o + k) v).take (o + (k + 1)) ++ vs ++ (xs.set (o + k) v).drop (o + (k + 1) + vs.length) = xs.take (o + k) ++ (v :: vs) ++ xs.drop (o + k + (v :: vs).length) := by
        rw [show o + (k + 1) = o + k + 1 by omega, List.take_add_one, List.take_set_of_le (by omega), List.drop_set_of_lt (by omega)]
        simp [hi, Nat.add_assoc, Nat.add_comm 1]
      rw [← e]; exact h5

/-- A struct (or what has several cells) is stored. -/
theorem Row.stAgg {t n : Nat} (ha : aggN P t = some n) {b : Nat} {el : TypeId} {xs : List Value} (h : Row w b el xs) {i : Nat} {cs : List Value} (hn : cs.length = n) (hi : i + n ≤ xs.length) (hu : ∀ v ∈ cs, v.oneCell' = true) :
    ∃ w', St P w t (.pointer (some ⟨b, i, none⟩)) (.agg cs.toArray) w' ∧ Row w' b el (xs.take i ++ cs ++ xs.drop (i + n)) ∧ Upd b w w' := by
  obtain ⟨w', h1, h2, h3⟩ := h.setCells (P := P) cs 0 i (by omega) hu
  refine ⟨w', ?_, by simpa [hn] using h2, h3⟩
  unfold St Does Instr.storeAt Instr.sureAddr storeVar
  simp [(agg_agg ha w).2, Value.cells, hn, h1]

/-- A new block: where it lies; what it holds; all else is as it was. -/
structure New (w : World) (b : Nat) (el : TypeId) (xs : List Value) (w' : World) : Prop where
  num : b = w.heap.size
  size : w'.heap.size = b + 1
  ext : Ext w w'
  row : Row w' b el xs

theorem New.alloc (w : World) (el : TypeId) (cs : Array Value) : New w w.heap.size el cs.toList (w.alloc (.cells cs el)) :=
  ⟨rfl, by simp, (Ext.refl _).alloc' _, by unfold Row; simpa using heap_alloc_new w (.cells cs el)⟩

theorem New.fresh {b : Nat} {el : TypeId} {xs : List Value} {w' : World} (h : New w b el xs w') : w.heap.size ≤ b := by rw [h.num]; exact Nat.le_refl _

theorem box_any (t : TypeId) (v : Value) : ∃ b w', Does P (Instr.box t v) w (.pointer (some ⟨b, 0, none⟩)) w' ∧ New w b t v.cells.toList w' :=
  ⟨_, _, by simp [Does, Instr.box, newVar, newRow], New.alloc w t v.cells⟩

theorem alloc_any {t : TypeId} {z : Value} {s bytes : Nat} (h : (P.info? t).map (fun i => (i.zero, i.size, i.bytes)) = some (some z, s, bytes)) :
    ∃ b w', Does P (Instr.alloc t true (.tuple #[])) w (.pointer (some ⟨b, 0, none⟩)) w' ∧ New w b t z.cells.toList w' := by
  obtain ⟨i, hi, hz, _, _⟩ := info_parts h
  exact ⟨_, _, by simp [Does, Instr.alloc, zeroValue, info_parts' hi, hz, newVar, newRow], New.alloc w t z.cells⟩

theorem make_any {t el s bytes : Nat} {z : Value} (T : SlT P t el s bytes z) {kl kc : IntKind} {n : Nat} (hn : bytes * n ≤ 140737488355328) (h63 : n ≤ 9223372036854775807) :
    ∃ b w', Does P (Instr.makeSlice t (.int kl n) (.int kc n)) w (.slice (some ⟨b, 0, none⟩) n n) w' ∧ New w b el (madeCells z.cells (n * s)).toList w' := by
  obtain ⟨i, hi, hz, hs, hb⟩ := info_parts T.info
  subst hs; subst hb
  have hb' : (i.bytes : Int) * (n : Int) ≤ 281474976710656 := by
    have h : ((i.bytes * n : Nat) : Int) ≤ 281474976710656 := by omega
    rwa [Int.natCast_mul] at h
  have hr := run_make (P := P) w t el i z T.und hi hz kl kc n n (by omega) (Int.le_refl _) hb' (by omega)
  simp only [Int.toNat_natCast] at hr
  exact ⟨_, _, hr, New.alloc w el _⟩

theorem foldl_splice : ∀ (vs : List Value) (k off : Nat) (cs : Array Value), off + k + vs.length ≤ cs.size →
    ((vs.zipIdx k).foldl (fun (cs : Array Value) (x : Value × Nat) => cs.setIfInBounds (off + x.2) x.1) cs).toList = cs.toList.take (off + k) ++ vs ++ cs.toList.drop (off + k + vs.length)
  | [], k, off, cs, _ => by simp
  | v :: vs, k, off, cs, h => by
    simp only [List.length_cons] at h
    simp only [List.zipIdx_cons, List.foldl_cons]
    rw [foldl_splice vs (k + 1) off _ (by simp; omega)]
    have hi : off + k < cs.size := by omega
    rw [Array.toList_setIfInBounds, show off + (k + 1) = off + k + 1 by omega, List.take_add_one, List.take_set_of_le (by omega), List.drop_set_of_lt (by omega)]
    simp [hi, Nat.add_assoc, Nat.add_comm 1]

def partsFrom (k : Nat) : List Value → List (Nat × Value)
  | [] => []
  | v :: r => (k, v) :: partsFrom (k + 1) r

theorem fill_from (s : Nat) : ∀ (vs : List Value) (k : Nat) (cs : Array Value), (∀ v ∈ vs, v.cells.size = s) → (k + vs.length) * s ≤ cs.size →
    ∃ r, Instr.fill (fun i => some (i * s, s)) cs (partsFrom k vs) = some r ∧ r.toList = cs.toList.take (k * s) ++ vs.flatMap (fun v => v.cells.toList) ++ cs.toList.drop ((k + vs.length) * s)
  | [], k, cs, _, _ => ⟨cs, rfl, by simp⟩
  | v :: vs, k, cs, hv, h => by
    have h0 := hv v (by simp)
    simp only [List.length_cons] at h
    have hm : k * s + s ≤ cs.size := by
      have : (k + 1) * s ≤ (k + (vs.length + 1)) * s := Nat.mul_le_mul_right s (by omega)
      rw [Nat.add_mul] at this; omega
    have e : ((v.cells.zipIdx).foldl (fun cs (x : Value × Nat) => cs.setIfInBounds (k * s + x.2) x.1) cs).toList = cs.toList.take (k * s) ++ v.cells.toList ++ cs.toList.drop ((k + 1) * s) := by
      rw [← Array.foldl_toList, Array.toList_zipIdx, foldl_splice _ 0 (k * s) cs (by simp [h0]; exact hm)]
      simp [h0, Nat.add_mul]
    have hsz : ((v.cells.zipIdx).foldl (fun cs (x : Value × Nat) => cs.setIfInBounds (k * s + x.2) x.1) cs).size = cs.size := by
      rw [← Array.length_toList, e]; simp [h0, Nat.add_mul]; omega
    obtain ⟨r, h1, h2⟩ := fill_from s vs (k + 1) _ (fun u hu => hv u (by simp [hu])) (by rw [hsz]; rw [show k + 1 + vs.length = k + (vs.length + 1) by omega]; exact h)
    refine ⟨r, ?_, ?_⟩
    · simp only [partsFrom, Instr.fill]
      rw [if_neg (by simp [h0]; exact hm)]
      exact h1
    · rw [h2, e]
      have hl : (cs.toList.take (k * s) ++ v.cells.toList).length = (k + 1) * s := by simp [h0, Nat.add_mul]; omega
      have e1 : (k + 1 + vs.length) * s = (k + 1) * s + vs.length * s := Nat.add_mul _ _ _
      have e2 : (k + (v :: vs).length) * s = (k + 1) * s + vs.length * s := by rw [← Nat.add_mul]; congr 1; simp; omega
      rw [List.take_left' hl, e1, e2, ← List.drop_drop, ← List.drop_drop, List.drop_left' hl]
      simp

theorem slice_lit {t el s bytes : Nat} {z : Value} (T : SlT P t el s bytes z) (vs : List Value) (hv : ∀ v ∈ vs, v.cells.size = s) (hn : vs.length * s ≤ 16777216) :
    ∃ b w', Does P (Instr.buildSlice t vs.length (partsFrom 0 vs).toArray) w (.slice (some ⟨b, 0, none⟩) vs.length vs.length) w' ∧ New w b el (vs.flatMap fun v => v.cells.toList) w' := by
  obtain ⟨i, hi, hzz, hsz, _⟩ := info_parts T.info
  have key : ∀ zero : Array Value, ∃ b w', (do
      let some cells := Instr.fill (fun i => some (i * s, s)) ((Array.range (vs.length * s)).map (zero[· % zero.size]!)) (partsFrom 0 vs) | stuck "buildSlice: a part of the wrong size"
      pure (.slice (some (← newRow el cells)) vs.length vs.length) : Sem Value).run P w = .ok (.slice (some ⟨b, 0, none⟩) vs.length vs.length) w' ∧ New w b el (vs.flatMap fun v => v.cells.toList) w' := by
    intro zero
    obtain ⟨r, h1, h2⟩ := fill_from s vs 0 ((Array.range (vs.length * s)).map (zero[· % zero.size]!)) hv (by simp)
    have h2' : r.toList = vs.flatMap fun v => v.cells.toList := by rw [h2]; simp
    refine ⟨w.heap.size, w.alloc (.cells r el), ?_, by rw [← h2']; exact New.alloc w el r⟩
    simp [h1, newRow]
  unfold Does Instr.buildSlice
  by_cases h0 : vs.length * s = 0
  · obtain ⟨b, w', h1, h2⟩ := key #[]
    refine ⟨b, w', ?_, h2⟩
    rw [← h1]
    simp [run_underlying T.und, info_size T.info, h0]
    rfl
  · obtain ⟨b, w', h1, h2⟩ := key z.cells
    refine ⟨b, w', ?_, h2⟩
    rw [← h1]
    simp [run_underlying T.und, info_size T.info, h0, Nat.not_lt.2 hn, zeroValue, info_parts' hi, hzz]
    rfl

/-! ### copy, append -/

theorem copy_row {t el bytes : Nat} {z : Value} (T : SlT P t el 1 bytes z) {b off n cap : Nat} {el' : TypeId} {xs : List Value} (h : Row w b el' xs) {src : Value} {m : Nat} {f : Nat → Value} (hs : Sl w.heap src m 1 f)
    (hfit : off + min m n ≤ xs.length) (h1 : ∀ j, j < m → (f j).oneCell' = true) {t' : TypeId} (ht' : t' = t) {ty : TypeId} :
    ∃ w', Does P (Builtin.copy_ #[t, t'] ty #[.slice (some ⟨b, off, none⟩) n cap, src]) w (.int .i64 (min m n : Nat)) w' ∧
      Row w' b el' (xs.take off ++ (List.range (min m n)).map f ++ xs.drop (off + min m n)) ∧ Upd b w w' := by
  subst ht'
  obtain ⟨i, hi, _, hsz, _⟩ := info_parts T.info
  have hcs : ∀ v ∈ (List.range (min m n)).map f, v.oneCell' = true := by
    intro v hv
    obtain ⟨j, hj, rfl⟩ := List.mem_map.1 hv
    exact h1 j (by have := List.mem_range.1 hj; omega)
  obtain ⟨w', h2, h3, h4⟩ := h.setCells (P := P) ((List.range (min m n)).map f) 0 off (by simp; omega) hcs
  refine ⟨w', ?_, by simpa using h3, h4⟩
  rcases hs.2 with ⟨⟨a0, rfl⟩, rfl⟩ | ⟨b2, off2, cap2, c, ty2, fr, rfl, _, hb, hc⟩
  · have e0 : min 0 n = 0 := by omega
    have hw : w' = w := by
      have h2' := h2
      simp only [e0, List.range_zero, List.map_nil, storeCells, Sem.run_pure] at h2'
      injection h2' with _ h2'
      exact h2'.symm
    subst hw
    cases a0 with
    | none => simp [Does, Builtin.copy_, run_underlying T.und, Builtin.lenOf, Builtin.firstCells, sizeOf, info_parts' hi, storeCells, goInt, e0]
    | some a =>
      simp [Does, Builtin.copy_, run_underlying T.und, Builtin.lenOf, Builtin.firstCells, sizeOf, info_parts' hi, storeCells, loadCells, goInt, e0]
      rfl
  · have hl := run_loadCells (P := P) w ⟨b2, off2, none⟩ (min m n) f (fun j hj => by
      rw [addr_add]
      have := hc j (by omega)
      simp [World.cell?, hb, this])
    unfold Does Builtin.copy_
    simp [run_underlying T.und, Builtin.lenOf, Builtin.firstCells, sizeOf, info_parts' hi, hsz, goInt]
    erw [hl]
    dsimp only [Result.andThen]
    erw [h2]

theorem append_own {t el s bytes : Nat} {z : Value} (T : SlT P t el s bytes z) (hz : z.cells.size = s) (hs : 0 < s) {base : Nat} {v : Value} {n : Nat} {xs : List Value} (hown : w.ownsRow base el s v n xs) (hbase : base ≤ w.heap.size)
    {src : Value} {m : Nat} {f : Nat → Value} (hsrc : Sl w.heap src m s f) (h1 : ∀ j, j < m * s → (f j).oneCell' = true) (hb : (n + m) * bytes ≤ 140737488355328) (hm : n + m ≤ 140737488355328) {t' : TypeId} (ht' : t' = t) {ty : TypeId} :
    ∃ v' w', Does P (Builtin.append_ #[t, t'] ty #[v, src]) w v' w' ∧ w'.ownsRow base el s v' (n + m) (xs ++ (List.range (m * s)).map f) ∧ w.grownBy w' v.ownBlock := by
  subst ht'
  obtain ⟨i, hi, hzz, hsz, hby⟩ := info_parts T.info
  rcases hsrc.2 with ⟨⟨a0, rfl⟩, rfl⟩ | ⟨b2, off2, cap2, c, ty2, fr, rfl, _, hb2, hc⟩
  · cases a0 with
    | none =>
      have hr := run_append_owned_none (P := P) w base t' ty el i s T.und hi v n xs hown
      exact ⟨v, w, hr, by simpa using hown, ⟨rfl, rfl, rfl, Nat.le_refl _, fun _ _ _ => rfl⟩⟩
    | some a =>
      obtain ⟨v', w', h2, h3, h4, _⟩ := run_append_own (P := P) w base t' ty el i z s bytes T.und hi hzz hsz hby hz hs v n xs hown a 0 0 [] (by simp) (fun j u hu => by simp at hu) (fun u hu => by simp at hu) (by unfold maxLen; omega) hb hbase
      exact ⟨v', w', h2, by simpa using h3, h4⟩
  · obtain ⟨v', w', h2, h3, h4, _⟩ := run_append_own (P := P) w base t' ty el i z s bytes T.und hi hzz hsz hby hz hs v n xs hown ⟨b2, off2, none⟩ m cap2 ((List.range (m * s)).map f) (by simp) (fun j u hu => by
        rw [addr_add]
        have hj : j < m * s := by have := (List.getElem?_eq_some_iff.1 hu).1; simpa using this
        have := hc j hj
        simp [hj] at hu
        simp [World.cell?, hb2, this, hu]) (fun u hu => by
        obtain ⟨j, hj, rfl⟩ := List.mem_map.1 hu
        exact h1 j (List.mem_range.1 hj)) (by unfold maxLen; omega) hb hbase
    exact ⟨v', w', h2, h3, h4⟩

end
end Go.V
namespace Go.V
open Go Go.RowKit

/-- Names of blocks: a local one, a result of a call, one that was handed in. -/
inductive Nm where
  | l (d : Nat)
  | r (d j : Nat)
  | up (n : Nm)
  deriving DecidableEq

/-- What one cell reads as, for ever. -/
inductive G where
  | lit (v : Value)
  | sl (els : List (List G))

/-- What a slot reads as. -/
inductive D where
  | g (x : G)
  | nil
  | agg (cs : List D)
  | tup (ds : List D)
  | own (k : Nm) (b o n cap s : Nat)
  | ptr (k : Nm) (b i off s : Nat)
  | ip (cs : List G)
  | fn (f : FuncId) (first caps : List D)
  | yl (l : Nat)
  | arr (k : Nm) (b n : Nat)
  | junk

def D.one : D → Bool
  | .agg _ | .tup _ | .junk => false
  | _ => true

abbrev CI := Nat → Nat → Prop

inductive RdG (I : CI) (H : Array Obj) : G → Value → Prop
  | lit (v : Value) (h : v.oneCell' = true) : RdG I H (.lit v) v
  | nil : RdG I H (.sl []) (.slice none 0 0)
  | nilA (a : Addr) : RdG I H (.sl []) (.slice (some a) 0 0)
  | sl (els : List (List G)) (b off n cap s : Nat) (cur : Array Value) (el : TypeId) (fr : Nat × Nat) (f : Nat → Nat → Value) (hn : n = els.length) (h1 : els.length ≤ cap) (h2 : els.length ≤ 140737488355328)
      (hb : H[b]? = some (.cells cur el fr)) (hl : ∀ es ∈ els, es.length = s)
      (hc : ∀ (i : Nat) (es : List G) (j : Nat) (g : G), els[i]? = some es → es[j]? = some g → I b (off + i * s + j) ∧ cur[off + i * s + j]? = some (f i j))
      (hr : ∀ (i : Nat) (es : List G) (j : Nat) (g : G), els[i]? = some es → es[j]? = some g → RdG I H g (f i j)) : RdG I H (.sl els) (.slice (some ⟨b, off, none⟩) n cap)

inductive RdD (I : CI) (H : Array Obj) : D → Value → Prop
  | g {x : G} {v : Value} (h : RdG I H x v) : RdD I H (.g x) v
  | nil : RdD I H .nil (.slice none 0 0)
  | agg (cs : List D) (vs : List Value) (hl : vs.length = cs.length) (h : ∀ (j : Nat) (d : D) (u : Value), cs[j]? = some d → vs[j]? = some u → RdD I H d u) : RdD I H (.agg cs) (.agg vs.toArray)
  | tup (cs : List D) (vs : List Value) (hl : vs.length = cs.length) (h : ∀ (j : Nat) (d : D) (u : Value), cs[j]? = some d → vs[j]? = some u → RdD I H d u) : RdD I H (.tup cs) (.tuple vs.toArray)
  | own (k : Nm) (b o n cap s : Nat) (cur : Array Value) (el : TypeId) (fr : Nat × Nat) (h1 : n ≤ cap) (h2 : cap ≤ maxLen) (h3 : n ≤ 140737488355328) (hb : H[b]? = some (.cells cur el fr)) (hs : (o + cap) * s ≤ cur.size) :
      RdD I H (.own k b o n cap s) (.slice (some ⟨b, o * s, none⟩) n cap)
  | ptr (k : Nm) (b i off s : Nat) : RdD I H (.ptr k b i off s) (.pointer (some ⟨b, i * s + off, none⟩))
  | ip (cs : List G) (b o : Nat) (cur : Array Value) (el : TypeId) (fr : Nat × Nat) (f : Nat → Value) (hb : H[b]? = some (.cells cur el fr))
      (hc : ∀ (j : Nat) (g : G), cs[j]? = some g → I b (o + j) ∧ cur[o + j]? = some (f j)) (hr : ∀ (j : Nat) (g : G), cs[j]? = some g → RdG I H g (f j)) : RdD I H (.ip cs) (.pointer (some ⟨b, o, none⟩))
  | fn (f : FuncId) (first caps : List D) (vs us : List Value) (h1 : vs.length = first.length) (h2 : us.length = caps.length) (h3 : ∀ (j : Nat) (d : D) (u : Value), first[j]? = some d → vs[j]? = some u → RdD I H d u)
      (h4 : ∀ (j : Nat) (d : D) (u : Value), caps[j]? = some d → us[j]? = some u → RdD I H d u) : RdD I H (.fn f first caps) (.func (.func f) vs.toArray us.toArray)
  | yl (l : Nat) : RdD I H (.yl l) (.func (.yield l) #[] #[])
  | arr (k : Nm) (b n : Nat) (cur : Array Value) (el : TypeId) (fr : Nat × Nat) (h1 : n ≤ 140737488355328) (hb : H[b]? = some (.cells cur el fr)) (hs : n ≤ cur.size) : RdD I H (.arr k b n) (.pointer (some ⟨b, 0, none⟩))
  | junk (v : Value) : RdD I H .junk v

/-- Lists, one by one. -/
structure RdL (I : CI) (H : Array Obj) (ds : List D) (vs : List Value) : Prop where
  len : vs.length = ds.length
  at_ : ∀ (j : Nat) (d : D) (u : Value), ds[j]? = some d → vs[j]? = some u → RdD I H d u

theorem RdL.nil {I : CI} {H : Array Obj} : RdL I H [] [] := ⟨rfl, fun j d u h => by simp at h⟩
theorem RdL.cons {I : CI} {H : Array Obj} {d : D} {v : Value} {ds : List D} {vs : List Value} (h : RdD I H d v) (hs : RdL I H ds vs) : RdL I H (d :: ds) (v :: vs) := by
  refine ⟨by simp [hs.len], fun j d' u h1 h2 => ?_⟩
  cases j with
  | zero => simp at h1 h2; subst h1; subst h2; exact h
  | succ j => exact hs.at_ j d' u (by simpa using h1) (by simpa using h2)
theorem RdL.uncons {I : CI} {H : Array Obj} {d : D} {ds : List D} {vs : List Value} (h : RdL I H (d :: ds) vs) : ∃ v r, vs = v :: r ∧ RdD I H d v ∧ RdL I H ds r := by
  cases vs with
  | nil => have := h.len; simp at this
  | cons v r => exact ⟨v, r, rfl, h.at_ 0 d v rfl rfl, by have := h.len; simpa using this, fun j d' u h1 h2 => h.at_ (j + 1) d' u (by simpa using h1) (by simpa using h2)⟩
theorem RdL.unnil {I : CI} {H : Array Obj} {vs : List Value} (h : RdL I H [] vs) : vs = [] := List.eq_nil_of_length_eq_zero h.len
theorem RdL.app {I : CI} {H : Array Obj} : ∀ {a b : List D} {x y : List Value}, RdL I H a x → RdL I H b y → RdL I H (a ++ b) (x ++ y)
  | [], b, x, y, h, k => by rw [h.unnil]; exact k
  | d :: a, b, x, y, h, k => by obtain ⟨v, r, rfl, h1, h2⟩ := h.uncons; exact .cons h1 (h2.app k)

theorem RdD.ofL {I : CI} {H : Array Obj} {cs : List D} {vs : List Value} (h : RdL I H cs vs) : RdD I H (.agg cs) (.agg vs.toArray) := .agg cs vs h.len h.at_
theorem RdD.ofT {I : CI} {H : Array Obj} {cs : List D} {vs : List Value} (h : RdL I H cs vs) : RdD I H (.tup cs) (.tuple vs.toArray) := .tup cs vs h.len h.at_
theorem RdD.agg_inv {I : CI} {H : Array Obj} {cs : List D} {v : Value} (h : RdD I H (.agg cs) v) : ∃ vs, v = .agg vs.toArray ∧ RdL I H cs vs := by
  cases h with | agg _ vs hl h => exact ⟨vs, rfl, hl, h⟩
theorem RdD.tup_inv {I : CI} {H : Array Obj} {cs : List D} {v : Value} (h : RdD I H (.tup cs) v) : ∃ vs, v = .tuple vs.toArray ∧ RdL I H cs vs := by
  cases h with | tup _ vs hl h => exact ⟨vs, rfl, hl, h⟩
theorem RdD.g_inv {I : CI} {H : Array Obj} {x : G} {v : Value} (h : RdD I H (.g x) v) : RdG I H x v := by cases h with | g h => exact h
theorem RdG.lit_inv {I : CI} {H : Array Obj} {x v : Value} (h : RdG I H (.lit x) v) : v = x := by cases h with | lit _ h => rfl
theorem RdD.lit_inv {I : CI} {H : Array Obj} {x v : Value} (h : RdD I H (.g (.lit x)) v) : v = x := h.g_inv.lit_inv
theorem RdD.nil_inv {I : CI} {H : Array Obj} {v : Value} (h : RdD I H .nil v) : v = .slice none 0 0 := by cases h; rfl
theorem RdD.yl_inv {I : CI} {H : Array Obj} {l : Nat} {v : Value} (h : RdD I H (.yl l) v) : v = .func (.yield l) #[] #[] := by cases h; rfl
theorem RdD.ptr_inv {I : CI} {H : Array Obj} {k : Nm} {b i off s : Nat} {v : Value} (h : RdD I H (.ptr k b i off s) v) : v = .pointer (some ⟨b, i * s + off, none⟩) := by cases h; rfl
theorem RdG.one {I : CI} {H : Array Obj} {x : G} {v : Value} (h : RdG I H x v) : v.oneCell' = true := by cases h <;> first | assumption | rfl
theorem RdD.oneV {I : CI} {H : Array Obj} {d : D} {v : Value} (h : RdD I H d v) (h1 : d.one = true) : v.oneCell' = true := by
  cases h <;> first | rfl | (exact RdG.one (by assumption)) | (simp [D.one] at h1)

/-- Heaps: blocks stay blocks of their size; what is in I stays. -/
def HEv (I : CI) (H H' : Array Obj) : Prop := ∀ (b : Nat) (cur : Array Value) (el : TypeId) (fr : Nat × Nat), H[b]? = some (.cells cur el fr) →
  ∃ cur' : Array Value, H'[b]? = some (.cells cur' el fr) ∧ cur'.size = cur.size ∧ ∀ j, I b j → cur'[j]? = cur[j]?

theorem HEv.refl (I : CI) (H : Array Obj) : HEv I H H := fun b cur el fr h => ⟨cur, h, rfl, fun _ _ => rfl⟩

theorem RdG.mono {I I' : CI} {H H' : Array Obj} (hI : ∀ b j, I b j → I' b j) (hE : HEv I H H') {x : G} {v : Value} (h : RdG I H x v) : RdG I' H' x v := by
  induction h with
  | lit v h => exact .lit v h
  | nil => exact .nil
  | nilA a => exact .nilA a
  | sl els b off n cap s cur el fr f hn h1 h2 hb hl hc hr ih =>
    obtain ⟨cur', hb', _, hk⟩ := hE b cur el fr hb
    exact .sl els b off n cap s cur' el fr f hn h1 h2 hb' hl (fun i es j g he hg => ⟨hI _ _ (hc i es j g he hg).1, by rw [hk _ (hc i es j g he hg).1]; exact (hc i es j g he hg).2⟩) ih

theorem RdD.mono {I I' : CI} {H H' : Array Obj} (hI : ∀ b j, I b j → I' b j) (hE : HEv I H H') {d : D} {v : Value} (h : RdD I H d v) : RdD I' H' d v := by
  induction h with
  | g h => exact .g (h.mono hI hE)
  | nil => exact .nil
  | agg cs vs hl h ih => exact .agg cs vs hl ih
  | tup cs vs hl h ih => exact .tup cs vs hl ih
  | own k b o n cap s cur el fr h1 h2 h3 hb hs =>
    obtain ⟨cur', hb', hz, _⟩ := hE b cur el fr hb
    exact .own k b o n cap s cur' el fr h1 h2 h3 hb' (by rw [hz]; exact hs)
  | ptr k b i off s => exact .ptr k b i off s
  | ip cs b o cur el fr f hb hc hr =>
    obtain ⟨cur', hb', _, hk⟩ := hE b cur el fr hb
    exact .ip cs b o cur' el fr f hb' (fun j g hg => ⟨hI _ _ (hc j g hg).1, by rw [hk _ (hc j g hg).1]; exact (hc j g hg).2⟩) (fun j g hg => (hr j g hg).mono hI hE)
  | fn f first caps vs us h1 h2 h3 h4 ih3 ih4 => exact .fn f first caps vs us h1 h2 ih3 ih4
  | yl l => exact .yl l
  | arr k b n cur el fr h1 hb hs =>
    obtain ⟨cur', hb', hz, _⟩ := hE b cur el fr hb
    exact .arr k b n cur' el fr h1 hb' (by rw [hz]; exact hs)
  | junk v => exact .junk v

theorem RdL.mono {I I' : CI} {H H' : Array Obj} (hI : ∀ b j, I b j → I' b j) (hE : HEv I H H') {ds : List D} {vs : List Value} (h : RdL I H ds vs) : RdL I' H' ds vs :=
  ⟨h.len, fun j d u h1 h2 => (h.at_ j d u h1 h2).mono hI hE⟩

/-! ### The memory that a call owns -/

structure Blk where
  b : Nat
  s : Nat
  p : Nat
  els : List (List D)

/-- The record of a loop over a function that is under way; or a map. -/
structure Gh where
  l : Nat
  r : Obj
  ds : List D
def ghT : Obj → List Value
  | .loop r => r.tmps.toList
  | _ => []
def ghB : Obj → Bool
  | .loop _ => true
  | .map _ _ => true
  | _ => false

structure Store where
  f : Nm → Option Blk
  g : Option Gh
instance : CoeFun Store fun _ => Nm → Option Blk := ⟨Store.f⟩
def updS (S : Store) (k : Nm) (x : Option Blk) : Store := ⟨fun i => if i = k then x else S i, S.g⟩
def updG (S : Store) (g : Option Gh) : Store := ⟨S.f, g⟩
theorem updS_apply (S : Store) (k : Nm) (x : Option Blk) (i : Nm) : updS S k x i = if i = k then x else S i := rfl
theorem updS_g {S : Store} {k : Nm} {x : Option Blk} : (updS S k x).g = S.g := rfl
theorem updG_apply {S : Store} {g : Option Gh} {i : Nm} : updG S g i = S i := rfl
theorem updG_g {S : Store} {g : Option Gh} : (updG S g).g = g := rfl
theorem updG_same {S : Store} {g : Option Gh} (h : S.g = g) : updG S g = S := by subst h; rfl
theorem Store.ext2 {S T : Store} (h : ∀ k, S k = T k) (hg : S.g = T.g) : S = T := by
  cases S; cases T
  have : ∀ (f f' : Nm → Option Blk), (∀ k, f k = f' k) → f = f' := fun f f' h => funext h
  simp only at hg
  subst hg
  congr
  exact this _ _ h

structure Has (I : CI) (H : Array Obj) (B : Blk) : Prop where
  mk ::
  ex : ∃ cur el, H[B.b]? = some (.cells cur el (0, 0)) ∧ B.els.length * B.s ≤ cur.size ∧
    (∀ (i : Nat) (es : List D), B.els[i]? = some es → es.length = B.s) ∧
    (∀ (i : Nat) (es : List D) (j : Nat) (d : D), B.els[i]? = some es → es[j]? = some d → ∃ u, cur[i * B.s + j]? = some u ∧ RdD I H d u) ∧
    (∀ j, I B.b j → j < B.p * B.s) ∧ B.p ≤ B.els.length

/-- The tables at package level that the code reads: where, what. -/
def gtabs : List (Nat × List G) := [(0, (List.range 64).map fun i => .lit (.int .u8 ((Lib.deBruijn64tab.getD i 0 : Nat) : Int)))]

structure GI (I : CI) (w : World) : Prop where
  old : ∀ b j, I b j → b < w.heap.size
  gl : ∀ p ∈ gtabs, RdD I w.heap (.ip p.2) (.pointer (some ⟨p.1, 0, none⟩))
theorem GI.mono {I I' : CI} {w w' : World} (h : GI I w) (hI : ∀ b j, I b j → I' b j) (hE : HEv I w.heap w'.heap) (ho : ∀ b j, I' b j → b < w'.heap.size) : GI I' w' := ⟨ho, fun p hp => (h.gl p hp).mono hI hE⟩

/-- The loop's record lies there; what it keeps of the frame reads as data. -/
structure HasG (I : CI) (H : Array Obj) (G : Gh) : Prop where
  rec_ : H[G.l]? = some G.r
  kind : ghB G.r = true
  rd : RdL I H G.ds (ghT G.r)

structure Rel (I : CI) (S : Store) (w : World) : Prop where
  gi : GI I w
  has : ∀ k B, S k = some B → Has I w.heap B
  inj : ∀ k k' B B', S k = some B → S k' = some B' → B.b = B'.b → k = k'
  gho : ∀ G, S.g = some G → HasG I w.heap G

theorem Rel.old {I : CI} {S : Store} {w : World} (h : Rel I S w) : ∀ b j, I b j → b < w.heap.size := h.gi.old
theorem Rel.cell_at {I : CI} {S : Store} {w : World} (h : Rel I S w) {k : Nm} {B : Blk} (hk : S k = some B) : ∃ cur el, w.heap[B.b]? = some (.cells cur el (0, 0)) := by
  obtain ⟨cur, el, hb, _⟩ := (h.has k B hk).ex
  exact ⟨cur, el, hb⟩
theorem Rel.ltg {I : CI} {S : Store} {w : World} (h : Rel I S w) {G : Gh} (hg : S.g = some G) : G.l < w.heap.size := (Array.getElem?_eq_some_iff.1 (h.gho G hg).rec_).1
theorem Rel.apart {I : CI} {S : Store} {w : World} (h : Rel I S w) {k : Nm} {B : Blk} (hk : S k = some B) {G : Gh} (hg : S.g = some G) : G.l ≠ B.b := by
  intro e
  obtain ⟨cur, el, hb⟩ := h.cell_at hk
  have := (h.gho G hg).rec_
  rw [e, hb] at this
  injection this with this
  have k := (h.gho G hg).kind
  rw [← this] at k
  cases k
theorem HasG.mono {I I' : CI} {H H' : Array Obj} {G : Gh} (h : HasG I H G) (hI : ∀ b j, I b j → I' b j) (hE : HEv I H H') (hk : H'[G.l]? = H[G.l]?) : HasG I' H' G := ⟨hk.trans h.rec_, h.kind, h.rd.mono hI hE⟩
theorem Rel.lt {I : CI} {S : Store} {w : World} (h : Rel I S w) {k : Nm} {B : Blk} (hk : S k = some B) : B.b < w.heap.size := by
  obtain ⟨cur, el, hb, _⟩ := (h.has k B hk).ex
  exact (Array.getElem?_eq_some_iff.1 hb).1

/-- From one state to a later one. -/
structure Stp (I : CI) (S : Store) (w : World) (I' : CI) (S' : Store) (w' : World) : Prop where
  os : w'.os = w.os
  tape : w'.tape = w.tape
  output : w'.output = w.output
  size : w.heap.size ≤ w'.heap.size
  dr : w.drawn ≤ w'.drawn
  sub : ∀ b j, I b j → I' b j
  new : ∀ b j, I' b j → I b j ∨ w.heap.size ≤ b ∨ ∃ k B, S k = some B ∧ B.b = b
  ev : HEv I w.heap w'.heap
  frame : ∀ b, b < w.heap.size → (∀ k B, S k = some B → B.b ≠ b) → (∀ G, S.g = some G → G.l ≠ b) → w'.heap[b]? = w.heap[b]?
  live : ∀ k' B', S' k' = some B' → w.heap.size ≤ B'.b ∨ ∃ k B, S k = some B ∧ B.b = B'.b
  liveG : ∀ G', S'.g = some G' → w.heap.size ≤ G'.l ∨ ∃ G, S.g = some G ∧ G.l = G'.l

theorem Stp.refl (I : CI) (S : Store) (w : World) : Stp I S w I S w :=
  ⟨rfl, rfl, rfl, Nat.le_refl _, Nat.le_refl _, fun _ _ h => h, fun _ _ h => .inl h, HEv.refl _ _, fun _ _ _ _ => rfl, fun k B h => .inr ⟨k, B, h, rfl⟩, fun G h => .inr ⟨G, h, rfl⟩⟩

theorem HEv.trans {I I' : CI} {A B C : Array Obj} (hI : ∀ b j, I b j → I' b j) (h : HEv I A B) (k : HEv I' B C) : HEv I A C := by
  intro b cur el fr hb
  obtain ⟨c1, h1, h2, h3⟩ := h b cur el fr hb
  obtain ⟨c2, k1, k2, k3⟩ := k b c1 el fr h1
  exact ⟨c2, k1, k2.trans h2, fun j hj => (k3 j (hI _ _ hj)).trans (h3 j hj)⟩

theorem Stp.trans {I I' I'' : CI} {S S' S'' : Store} {w w' w'' : World} (h : Stp I S w I' S' w') (k : Stp I' S' w' I'' S'' w'') : Stp I S w I'' S'' w'' where
  os := k.os.trans h.os
  tape := k.tape.trans h.tape
  output := k.output.trans h.output
  size := Nat.le_trans h.size k.size
  dr := Nat.le_trans h.dr k.dr
  sub := fun b j hb => k.sub b j (h.sub b j hb)
  new := fun b j hb => by
    rcases k.new b j hb with h1 | h1 | ⟨n, B, h1, h2⟩
    · exact h.new b j h1
    · exact .inr (.inl (Nat.le_trans h.size h1))
    · rcases h.live n B h1 with h3 | ⟨m, C, h3, h4⟩
      · exact .inr (.inl (h2 ▸ h3))
      · exact .inr (.inr ⟨m, C, h3, h4.trans h2⟩)
  ev := h.ev.trans h.sub k.ev
  frame := fun b hb hn hg => by
    refine (k.frame b (Nat.lt_of_lt_of_le hb h.size) (fun n B hB e => ?_) (fun G hG e => ?_)).trans (h.frame b hb hn hg)
    · rcases h.live n B hB with h3 | ⟨m, C, h3, h4⟩
      · omega
      · exact hn m C h3 (h4.trans e)
    · rcases h.liveG G hG with h3 | ⟨C, h3, h4⟩
      · omega
      · exact hg C h3 (h4.trans e)
  live := fun n B hB => by
    rcases k.live n B hB with h3 | ⟨m, C, h3, h4⟩
    · exact .inl (Nat.le_trans h.size h3)
    · rcases h.live m C h3 with h5 | ⟨q, E, h5, h6⟩
      · exact .inl (h4 ▸ h5)
      · exact .inr ⟨q, E, h5, h6.trans h4⟩
  liveG := fun G hG => by
    rcases k.liveG G hG with h3 | ⟨C, h3, h4⟩
    · exact .inl (Nat.le_trans h.size h3)
    · rcases h.liveG C h3 with h5 | ⟨E, h5, h6⟩
      · exact .inl (h4 ▸ h5)
      · exact .inr ⟨E, h5, h6.trans h4⟩

/-- A world that only drew. -/
theorem Stp.drew {I : CI} {S : Store} {w0 w : World} {I0 : CI} {S0 : Store} (h : Stp I0 S0 w0 I S w) : Stp I0 S0 w0 I S w.drew :=
  ⟨h.os, h.tape, h.output, h.size, Nat.le_succ_of_le h.dr, h.sub, h.new, h.ev, h.frame, h.live, h.liveG⟩
theorem Rel.drew {I : CI} {S : Store} {w : World} (h : Rel I S w) : Rel I S w.drew := ⟨⟨h.gi.old, h.gi.gl⟩, h.has, h.inj, fun G hG => ⟨(h.gho G hG).rec_, (h.gho G hG).kind, (h.gho G hG).rd⟩⟩

/-- Old memory as it was: no block of the caller's is turned. -/
theorem Stp.of_ext {I I' : CI} {S : Store} {w w' : World} (h : Ext w w') (hI : ∀ b j, I b j → I' b j) (hn : ∀ b j, I' b j → I b j ∨ w.heap.size ≤ b) (ho : ∀ b j, I b j → b < w.heap.size) : Stp I S w I' S w' where
  os := h.os
  tape := h.tape
  output := h.output
  size := h.size
  dr := h.dr
  sub := hI
  new := fun b j hb => (hn b j hb).imp id .inl
  ev := fun b cur el fr hb => ⟨cur, h.at hb, rfl, fun _ _ => rfl⟩
  frame := fun b hb _ _ => h.block b hb
  live := fun k B hk => .inr ⟨k, B, hk, rfl⟩
  liveG := fun G hG => .inr ⟨G, hG, rfl⟩

theorem hev_ext {I : CI} {w w' : World} (h : Ext w w') : HEv I w.heap w'.heap := fun b cur el fr hb => ⟨cur, h.at hb, rfl, fun _ _ => rfl⟩

theorem Has.mono {I I' : CI} {H H' : Array Obj} {B : Blk} (h : Has I H B) (hI : ∀ b j, I b j → I' b j) (hb : ∀ j, I' B.b j → I B.b j) (hE : HEv I H H') (hk : H'[B.b]? = H[B.b]?) : Has I' H' B := by
  obtain ⟨cur, el, h1, h2, h3, h4, h5, h6⟩ := h.ex
  refine ⟨cur, el, by rw [hk]; exact h1, h2, h3, fun i es j d he hd => ?_, fun j hj => h5 j (hb j hj), h6⟩
  obtain ⟨u, hu, hr⟩ := h4 i es j d he hd
  exact ⟨u, hu, hr.mono hI hE⟩

/-- The caller's memory behind a step that turned none of it. -/
theorem Rel.ext {I I' : CI} {S : Store} {w w' : World} (h : Rel I S w) (hE : Ext w w') (hI : ∀ b j, I b j → I' b j) (hn : ∀ b j, I' b j → I b j ∨ w.heap.size ≤ b) (ho : ∀ b j, I' b j → b < w'.heap.size) : Rel I' S w' where
  gi := h.gi.mono hI (hev_ext hE) ho
  has := fun k B hk => by
    refine (h.has k B hk).mono hI (fun j hj => ?_) (hev_ext hE) (hE.block _ (h.lt hk))
    rcases hn _ _ hj with h1 | h1
    · exact h1
    · have := h.lt hk; omega
  inj := h.inj
  gho := fun G hG => (h.gho G hG).mono hI (hev_ext hE) (hE.block _ (h.ltg hG))

theorem Rel.sub {I : CI} {S S' : Store} {w : World} (h : Rel I S w) (f : Nm → Nm) (hf : ∀ k B, S' k = some B → S (f k) = some B) (hi : ∀ k k' B B', S' k = some B → S' k' = some B' → f k = f k' → k = k') (hg : ∀ G, S'.g = some G → S.g = some G) : Rel I S' w where
  gi := h.gi
  has := fun k B hk => h.has (f k) B (hf k B hk)
  inj := fun k k' B B' hk hk' hb => hi k k' B B' hk hk' (h.inj _ _ B B' (hf k B hk) (hf k' B' hk') hb)
  gho := fun G hG => h.gho G (hg G hG)

/-- A new block of the call's own. -/
theorem Rel.alloc {I : CI} {S : Store} {w w' : World} (h : Rel I S w) {b : Nat} {el : TypeId} {xs : List Value} (hN : New w b el xs w') {s : Nat} {els : List (List D)} (hz : els.length * s ≤ xs.length)
    (hl : ∀ (i : Nat) (es : List D), els[i]? = some es → es.length = s) (hc : ∀ (i : Nat) (es : List D) (j : Nat) (d : D), els[i]? = some es → es[j]? = some d → ∃ u, xs[i * s + j]? = some u ∧ RdD I w.heap d u) (k : Nm) (p : Nat) (hp : p ≤ els.length) :
    Rel I (updS S k (some ⟨b, s, p, els⟩)) w' ∧ Stp I S w I (updS S k (some ⟨b, s, p, els⟩)) w' := by
  have hb : b = w.heap.size := hN.num
  have ho : ∀ q B, S q = some B → B.b ≠ b := fun q B hq e => by have := h.lt hq; omega
  have hI : ∀ b' j, I b' j → b' ≠ b := fun b' j hj e => by have := h.old b' j hj; omega
  have hR := h.ext (I' := I) hN.ext (fun _ _ h => h) (fun _ _ h => .inl h) (fun b' j hj => Nat.lt_of_lt_of_le (h.old b' j hj) hN.ext.size)
  refine ⟨⟨hR.gi, fun q B hq => ?_, fun q q' B B' hq hq' hbb => ?_, hR.gho⟩, ⟨hN.ext.os, hN.ext.tape, hN.ext.output, hN.ext.size, hN.ext.dr, fun _ _ h => h, fun _ _ h => .inl h, hev_ext hN.ext, fun b' hb' _ _ => hN.ext.block b' hb', fun q B hq => ?_, fun G hG => .inr ⟨G, hG, rfl⟩⟩⟩
  · rw [updS_apply] at hq
    split at hq
    · injection hq with hq; subst hq
      have hrow := hN.row
      unfold Row at hrow
      refine ⟨xs.toArray, el, hrow, by simpa using hz, hl, fun i es j d he hd => ?_, fun j hj => (hI _ _ hj rfl).elim, hp⟩
      obtain ⟨u, hu, hr⟩ := hc i es j d he hd
      exact ⟨u, by simpa using hu, hr.mono (fun _ _ h => h) (hev_ext hN.ext)⟩
    · exact hR.has q B hq
  · rw [updS_apply] at hq hq'
    split at hq <;> split at hq'
    · rename_i e1 e2; rw [e1, e2]
    · injection hq with hq; subst hq; exact (ho q' B' hq' hbb.symm).elim
    · injection hq' with hq'; subst hq'; exact (ho q B hq hbb).elim
    · exact h.inj q q' B B' hq hq' hbb
  · rw [updS_apply] at hq
    split at hq
    · injection hq with hq; subst hq; exact .inl (by simp [hb])
    · exact .inr ⟨q, B, hq, rfl⟩

/-- A block of the call's own is written; what is frozen of it stays. -/
theorem Rel.write {I : CI} {S : Store} {w w' : World} (h : Rel I S w) {k : Nm} {B : Blk} (hk : S k = some B) {xs ys : List Value} {el : TypeId} (hrow : Row w B.b el xs) (hrow' : Row w' B.b el ys) (hU : Upd B.b w w') (hlen : ys.length = xs.length)
    {els : List (List D)} (hpl : B.p ≤ els.length) (hz : els.length * B.s ≤ ys.length) (hl : ∀ (i : Nat) (es : List D), els[i]? = some es → es.length = B.s) (hfr : ∀ j, j < B.p * B.s → ys[j]? = xs[j]?)
    (hc : ∀ (i : Nat) (es : List D) (j : Nat) (d : D), els[i]? = some es → es[j]? = some d → ∃ u, ys[i * B.s + j]? = some u ∧ RdD I w.heap d u) :
    Rel I (updS S k (some ⟨B.b, B.s, B.p, els⟩)) w' ∧ Stp I S w I (updS S k (some ⟨B.b, B.s, B.p, els⟩)) w' := by
  obtain ⟨cur, el0, h1, _, _, _, h5, _⟩ := (h.has k B hk).ex
  have hE : HEv I w.heap w'.heap := by
    intro b c e fr hb
    by_cases hbb : b = B.b
    · subst hbb
      unfold Row at hrow hrow'
      rw [hrow] at hb
      injection hb with hb
      injection hb with e1 e2 e3
      subst e1; subst e2; subst e3
      exact ⟨ys.toArray, hrow', by simpa using hlen, fun j hj => by simpa using hfr j (h5 j hj)⟩
    · exact ⟨c, by rw [hU.block b hbb]; exact hb, rfl, fun _ _ => rfl⟩
  have hI : ∀ b j, I b j → I b j := fun _ _ h => h
  refine ⟨⟨h.gi.mono hI hE (fun b j hj => by rw [hU.size]; exact h.old b j hj), fun q C hq => ?_, fun q q' C C' hq hq' hbb => ?_, fun G hG => (h.gho G hG).mono hI hE (hU.block _ (h.apart hk hG))⟩,
    ⟨hU.os, hU.tape, hU.output, by rw [hU.size]; exact Nat.le_refl _, by rw [hU.dr]; exact Nat.le_refl _, hI, fun _ _ h => .inl h, hE, fun b _ hn _ => hU.block b (fun e => hn k B hk e.symm), fun q C hq => ?_, fun G hG => .inr ⟨G, hG, rfl⟩⟩⟩
  · rw [updS_apply] at hq
    split at hq
    · injection hq with hq; subst hq
      unfold Row at hrow'
      refine ⟨ys.toArray, el, hrow', by simpa using hz, hl, fun i es j d he hd => ?_, h5, hpl⟩
      obtain ⟨u, hu, hr⟩ := hc i es j d he hd
      exact ⟨u, by simpa using hu, hr.mono hI hE⟩
    · rename_i hne
      refine (h.has q C hq).mono hI (fun j hj => hj) hE (hU.block _ (fun e => hne (h.inj q k C B hq hk e)))
  · rw [updS_apply] at hq hq'
    split at hq <;> split at hq'
    · rename_i e1 e2; rw [e1, e2]
    · rename_i e1 _; injection hq with hq; subst hq; rw [e1]; exact h.inj k q' B C' hk hq' hbb
    · rename_i _ e2; injection hq' with hq'; subst hq'; rw [e2]; exact h.inj q k C B hq hk hbb
    · exact h.inj q q' C C' hq hq' hbb
  · rw [updS_apply] at hq
    split at hq
    · injection hq with hq; subst hq; exact .inr ⟨k, B, hk, rfl⟩
    · exact .inr ⟨q, C, hq, rfl⟩

/-! ### What is frozen -/

def D.toG : D → Option G
  | .g x => some x
  | .nil => some (.sl [])
  | _ => none
def pureL : List D → Option (List G)
  | [] => some []
  | d :: r => match d.toG, pureL r with
    | some x, some l => some (x :: l)
    | _, _ => none
def pureLL : List (List D) → Option (List (List G))
  | [] => some []
  | d :: r => match pureL d, pureLL r with
    | some x, some l => some (x :: l)
    | _, _ => none
def gl (l : List (List G)) : List (List D) := l.map (List.map D.g)
theorem pureL_map (l : List G) : pureL (l.map D.g) = some l := by
  induction l with
  | nil => rfl
  | cons a r ih => simp [pureL, D.toG, ih]
theorem pureLL_gl (l : List (List G)) : pureLL (gl l) = some l := by
  induction l with
  | nil => rfl
  | cons a r ih => simp only [gl, List.map_cons, pureLL, pureL_map]; rw [show List.map (List.map D.g) r = gl r from rfl, ih]

theorem RdD.toG {I : CI} {H : Array Obj} {d : D} {x : G} {v : Value} (h : RdD I H d v) (hx : d.toG = some x) : RdG I H x v := by
  cases h <;> simp only [D.toG] at hx <;> first | (cases hx; done) | skip
  case g h => injection hx with hx; subst hx; exact h
  case nil => injection hx with hx; subst hx; exact .nil

theorem pureL_len : ∀ {l : List D} {m : List G}, pureL l = some m → m.length = l.length
  | [], m, h => by simp [pureL] at h; subst h; rfl
  | d :: r, m, h => by
    simp only [pureL] at h
    split at h
    · rename_i x l hx hl; injection h with h; subst h; simp [pureL_len hl]
    · cases h
theorem pureL_at : ∀ {l : List D} {m : List G}, pureL l = some m → ∀ {j : Nat} {g : G}, m[j]? = some g → ∃ d, l[j]? = some d ∧ d.toG = some g
  | [], m, h, j, g, hg => by simp [pureL] at h; subst h; simp at hg
  | d :: r, m, h, j, g, hg => by
    simp only [pureL] at h
    split at h
    · rename_i x l hx hl
      injection h with h; subst h
      cases j with
      | zero => simp at hg; subst hg; exact ⟨d, rfl, hx⟩
      | succ j => obtain ⟨d', h1, h2⟩ := pureL_at hl (by simpa using hg); exact ⟨d', by simpa using h1, h2⟩
    · cases h
theorem pureLL_len : ∀ {l : List (List D)} {m : List (List G)}, pureLL l = some m → m.length = l.length
  | [], m, h => by simp [pureLL] at h; subst h; rfl
  | d :: r, m, h => by
    simp only [pureLL] at h
    split at h
    · rename_i x l hx hl; injection h with h; subst h; simp [pureLL_len hl]
    · cases h
theorem pureLL_at : ∀ {l : List (List D)} {m : List (List G)}, pureLL l = some m → ∀ {j : Nat} {g : List G}, m[j]? = some g → ∃ d, l[j]? = some d ∧ pureL d = some g
  | [], m, h, j, g, hg => by simp [pureLL] at h; subst h; simp at hg
  | d :: r, m, h, j, g, hg => by
    simp only [pureLL] at h
    split at h
    · rename_i x l hx hl
      injection h with h; subst h
      cases j with
      | zero => simp at hg; subst hg; exact ⟨d, rfl, hx⟩
      | succ j => obtain ⟨d', h1, h2⟩ := pureLL_at hl (by simpa using hg); exact ⟨d', by simpa using h1, h2⟩
    · cases h

/-- The first m elements of a block of the call's own are frozen: then they read as data for ever. -/
def frzI (I : CI) (B : Blk) (m : Nat) : CI := fun b j => I b j ∨ (b = B.b ∧ j < m * B.s)

theorem hev_I {I I' : CI} {H : Array Obj} : HEv I H H := HEv.refl I H

theorem Rel.freeze {I : CI} {S : Store} {w : World} (h : Rel I S w) {k : Nm} {B : Blk} (hk : S k = some B) (m : Nat) (hm : m ≤ B.els.length) :
    Rel (frzI I B m) (updS S k (some ⟨B.b, B.s, max B.p m, B.els⟩)) w ∧ Stp I S w (frzI I B m) (updS S k (some ⟨B.b, B.s, max B.p m, B.els⟩)) w := by
  have hI : ∀ b j, I b j → frzI I B m b j := fun b j h => .inl h
  have hb := h.lt hk
  refine ⟨⟨h.gi.mono hI (HEv.refl _ _) (fun b j hj => ?_), fun q C hq => ?_, fun q q' C C' hq hq' hbb => ?_, fun G hG => (h.gho G hG).mono hI (HEv.refl _ _) rfl⟩, ⟨rfl, rfl, rfl, Nat.le_refl _, Nat.le_refl _, hI, fun b j hj => ?_, HEv.refl _ _, fun _ _ _ _ => rfl, fun q C hq => ?_, fun G hG => .inr ⟨G, hG, rfl⟩⟩⟩
  · rcases hj with hj | ⟨rfl, _⟩
    · exact h.old b j hj
    · exact hb
  · rw [updS_apply] at hq
    split at hq
    · injection hq with hq; subst hq
      obtain ⟨cur, el, h1, h2, h3, h4, h5, h6⟩ := (h.has k B hk).ex
      refine ⟨cur, el, h1, h2, h3, fun i es j d he hd => ?_, fun j hj => ?_, Nat.max_le.2 ⟨h6, hm⟩⟩
      · obtain ⟨u, hu, hr⟩ := h4 i es j d he hd; exact ⟨u, hu, hr.mono hI (HEv.refl _ _)⟩
      · have hle : ∀ a, a ≤ max B.p m → a * B.s ≤ max B.p m * B.s := fun a ha => Nat.mul_le_mul_right _ ha
        rcases hj with hj | ⟨_, hj⟩
        · exact Nat.lt_of_lt_of_le (h5 j hj) (hle _ (Nat.le_max_left _ _))
        · exact Nat.lt_of_lt_of_le hj (hle _ (Nat.le_max_right _ _))
    · rename_i hne
      refine (h.has q C hq).mono hI (fun j hj => ?_) (HEv.refl _ _) rfl
      rcases hj with hj | ⟨e, _⟩
      · exact hj
      · exact (hne (h.inj q k C B hq hk e)).elim
  · rw [updS_apply] at hq hq'
    split at hq <;> split at hq'
    · rename_i e1 e2; rw [e1, e2]
    · rename_i e1 _; injection hq with hq; subst hq; rw [e1]; exact h.inj k q' B C' hk hq' hbb
    · rename_i _ e2; injection hq' with hq'; subst hq'; rw [e2]; exact h.inj q k C B hq hk hbb
    · exact h.inj q q' C C' hq hq' hbb
  · rcases hj with hj | ⟨rfl, _⟩
    · exact .inl hj
    · exact .inr (.inr ⟨k, B, hk, rfl⟩)
  · rw [updS_apply] at hq
    split at hq
    · injection hq with hq; subst hq; exact .inr ⟨k, B, hk, rfl⟩
    · exact .inr ⟨q, C, hq, rfl⟩

/-- A handle of what is frozen reads as data. -/
theorem Rel.thaw {I : CI} {S : Store} {w : World} (h : Rel I S w) {k : Nm} {b o n cap s p : Nat} {els : List (List D)} (hk : S k = some ⟨b, s, p, els⟩) {v : Value} (hv : RdD I w.heap (.own k b o n cap s) v) {gs : List (List G)}
    (hg : pureLL ((els.drop o).take n) = some gs) (hn : o + n ≤ els.length) : RdG (frzI I ⟨b, s, p, els⟩ (o + n)) w.heap (.sl gs) v := by
  cases hv with
  | own _ _ _ _ _ _ cur0 el0 fr0 h1 h2 hn47 hb0 hs =>
    obtain ⟨cur, el, hb, hz, hl, hc, _⟩ := (h.has k _ hk).ex
    simp only at hb hz hl hc
    have hgl : gs.length = n := by rw [pureLL_len hg]; simp; omega
    have hat : ∀ (i : Nat) (es : List G), gs[i]? = some es → ∃ ds, els[o + i]? = some ds ∧ pureL ds = some es ∧ i < n := by
      intro i es he
      obtain ⟨ds, h3, h4⟩ := pureLL_at hg he
      have hi : i < n := by rw [← hgl]; exact (List.getElem?_eq_some_iff.1 he).1
      rw [List.getElem?_take, if_pos hi, List.getElem?_drop] at h3
      exact ⟨ds, h3, h4, hi⟩
    have hcell : ∀ (i : Nat) (es : List G) (j : Nat) (g : G), gs[i]? = some es → es[j]? = some g → ∃ u, cur[o * s + i * s + j]? = some u ∧ RdG I w.heap g u ∧ o * s + i * s + j < (o + n) * s := by
      intro i es j g he hj
      obtain ⟨ds, h3, h4, hi⟩ := hat i es he
      obtain ⟨d, h5, h6⟩ := pureL_at h4 hj
      obtain ⟨u, hu, hr⟩ := hc (o + i) ds j d h3 h5
      rw [Nat.add_mul] at hu
      refine ⟨u, hu, hr.toG h6, ?_⟩
      have hjs : j < s := by rw [← hl _ _ h3]; exact (List.getElem?_eq_some_iff.1 h5).1
      have h7 : (o + i + 1) * s ≤ (o + n) * s := Nat.mul_le_mul_right s (by omega)
      rw [Nat.add_mul, Nat.add_mul] at h7
      omega
    refine .sl gs b (o * s) n cap s cur el (0, 0) (fun i j => (cur[o * s + i * s + j]?).getD undef) hgl.symm (by omega) (by omega) hb (fun es he => ?_) (fun i es j g he hj => ?_) (fun i es j g he hj => ?_)
    · obtain ⟨i, hi⟩ := List.mem_iff_getElem?.1 he
      obtain ⟨ds, h3, h4, _⟩ := hat i es hi
      rw [pureL_len h4]; exact hl _ _ h3
    · obtain ⟨u, hu, _, hlt⟩ := hcell i es j g he hj
      exact ⟨.inr ⟨rfl, hlt⟩, by rw [hu]; rfl⟩
    · obtain ⟨u, hu, hr, _⟩ := hcell i es j g he hj
      rw [hu]
      exact hr.mono (fun _ _ h => .inl h) (HEv.refl _ _)

end Go.V

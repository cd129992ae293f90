/- Operations in one step, continuations as constants (so that simp does not run ahead). No program in sight. -/
import Derived.Test.YtkmoeenhboicmaaDoorO
set_option linter.unusedSimpArgs false
set_option linter.unusedVariables false
namespace Go.V
open Go Go.RowKit

section
variable {P : Program} {N : DEnv → Store → Prop} {e : DEnv} {S : Store} {d : Option Nat} {t : TypeId} {r : List Ci} {r' : List (Option Ci × Nat)}

def Kr (P : Program) (N : DEnv → Store → Prop) (r : List Ci) (e : DEnv) (d : Option Nat) (x : D) (S : Store) : Prop := runV P N r (putD e d x) S
theorem Kr_eq {x : D} : Kr P N r e d x S = runV P N r (putD e d x) S := rfl
def Kd (P : Program) (N : DEnv → Store → Prop) (r : List (Option Ci × Nat)) (e : DEnv) (d : Option Nat) (x : D) (S : Store) : Prop := runD P N r (putD e d x) S
theorem Kd_eq {x : D} : Kd P N r' e d x S = runD P N r' (putD e d x) S := rfl
def Kq (K : D → Store → Prop) (S : Store) (x : D) : Prop := K x S
theorem Kq_eq {K : D → Store → Prop} {x : D} : Kq K S x = K x S := rfl
def Kl (Q : D → Prop) (v : Value) : Prop := Q (.g (.lit v))
theorem Kl_eq {Q : D → Prop} {v : Value} : Kl Q v = Q (.g (.lit v)) := rfl
def Kb (P : Program) (op : BinOp) (u : TypeId) (Q : D → Prop) (a b : Value) : Prop := pbin P op u a b (Kl Q)
theorem Kb_eq {op : BinOp} {u : TypeId} {Q : D → Prop} {a b : Value} : Kb P op u Q a b = pbin P op u a b (Kl Q) := rfl
def Ku (op : UnOp) (Q : D → Prop) (a : Value) : Prop := unV op a (Kl Q)
theorem Ku_eq {op : UnOp} {Q : D → Prop} {a : Value} : Ku op Q a = unV op a (Kl Q) := rfl
def Kc (P : Program) (s u : TypeId) (Q : D → Prop) (a : Value) : Prop := pconv P s u a (Kl Q)
theorem Kc_eq {s u : TypeId} {Q : D → Prop} {a : Value} : Kc P s u Q a = pconv P s u a (Kl Q) := rfl
def Kp (e : DEnv) (a b : Operand) (Q : D → Prop) (t : Bool) : Prop := Q (if t then pev e a else pev e b)
theorem Kp_t {a b : Operand} {Q : D → Prop} : Kp e a b Q true = Q (pev e a) := rfl
theorem Kp_f {a b : Operand} {Q : D → Prop} : Kp e a b Q false = Q (pev e b) := rfl
theorem Kp_eq {a b : Operand} {Q : D → Prop} {t : Bool} : Kp e a b Q t = Q (if t then pev e a else pev e b) := rfl
def Ki (s : Nat) (x : D) (Q : D → Prop) (n : Int) : Prop := ixD s x n Q
theorem Ki_eq {s : Nat} {x : D} {Q : D → Prop} {n : Int} : Ki s x Q n = ixD s x n Q := rfl
def Kf (P : Program) (S : Store) (K : D → Store → Prop) (f : FuncId) (args : List D) : Prop := PFC P f args S K
theorem Kf_eq {K : D → Store → Prop} {f : FuncId} {args : List D} : Kf P S K f args = PFC P f args S K := rfl
def Ke (P : Program) (S : Store) (K : D → Store → Prop) (f : FuncId) (args : List D) : Prop := ExtC P f args S K
theorem Ke_eq {K : D → Store → Prop} {f : FuncId} {args : List D} : Ke P S K f args = ExtC P f args S K := rfl
def Kt (K : D → Store → Prop) (S : Store) : Prop := K (.tup []) S
theorem Kt_eq {K : D → Store → Prop} : Kt K S = K (.tup []) S := rfl
def Kmin (Q : D → Prop) (a b : Value) : Prop := minD a b (Kl Q)
theorem Kmin_eq {Q : D → Prop} {a b : Value} : Kmin Q a b = minD a b (Kl Q) := rfl
def Kmax (Q : D → Prop) (a b : Value) : Prop := maxD a b (Kl Q)
theorem Kmax_eq {Q : D → Prop} {a b : Value} : Kmax Q a b = maxD a b (Kl Q) := rfl
def Kx (e : DEnv) (p : Nat × Operand) : Nat × D := (p.1, pev e p.2)
theorem Kx_eq {i : Nat} {x : Operand} : Kx e (i, x) = (i, pev e x) := rfl
def Ky (e : DEnv) (p : Nat × Operand) : D := pev e p.2
theorem Ky_eq {i : Nat} {x : Operand} : Ky e (i, x) = pev e x := rfl

theorem rv_guard {j : Nat} {w : Bool} {op : Op} : runV P N (⟨d, some (some j, w), op, t⟩ :: r) e S = pgv (e j) w (runV P N (⟨d, none, op, t⟩ :: r) e S) (runV P N r (putD e d (.tup [])) S) := rfl
theorem rd_guard {j m : Nat} {w : Bool} {op : Op} : runD P N ((some ⟨d, some (some j, w), op, t⟩, m) :: r') e S = pgv (e j) w (runD P N ((some ⟨d, none, op, t⟩, m) :: r') e S) (runD P N r' (putD e d (.tup [])) S) := rfl

theorem rv_move {x : Operand} : runV P N (⟨d, none, .move x, t⟩ :: r) e S = runV P N r (putD e d (pev e x)) S := by
  rw [runV_cons, cguard_none, po_move]
  try rfl
theorem rv_assign {x : Operand} : runV P N (⟨d, none, .assign x, t⟩ :: r) e S = runV P N r (putD e d (pev e x)) S := by
  rw [runV_cons, cguard_none, po_assign]
  try rfl
theorem rv_pick {c a b : Operand} : runV P N (⟨d, none, .pick c a b, t⟩ :: r) e S = boolD (pev e c) (Kp e a b (Kq (Kr P N r e d) S)) := by
  rw [runV_cons, cguard_none, po_pick]
  try rfl
theorem rv_build {u : TypeId} {ps : List (Nat × Operand)} : runV P N (⟨d, none, .build u ps.toArray, t⟩ :: r) e S = buildD P u (ps.map (Kx e)) (Kq (Kr P N r e d) S) := by
  rw [runV_cons, cguard_none, po_build]
  try rfl
theorem rv_nilCheck {x : Operand} : runV P N (⟨d, none, .nilCheck x, t⟩ :: r) e S = nilChD (pev e x) (Kq (Kr P N r e d) S) := by
  rw [runV_cons, cguard_none, po_nilCheck]
  try rfl
theorem rv_bin {op : BinOp} {u u' : TypeId} {x y : Operand} : runV P N (⟨d, none, .binOp op u x y u', t⟩ :: r) e S = lit2 (pev e x) (pev e y) (Kb P op u (Kq (Kr P N r e d) S)) := by
  rw [runV_cons, cguard_none, po_bin]
  try rfl
theorem rv_un {op : UnOp} {u : TypeId} {x : Operand} : runV P N (⟨d, none, .unOp op u x, t⟩ :: r) e S = litD (pev e x) (Ku op (Kq (Kr P N r e d) S)) := by
  rw [runV_cons, cguard_none, po_un]
  try rfl
theorem rv_conv {s u : TypeId} {x : Operand} : runV P N (⟨d, none, .convert s u x, t⟩ :: r) e S = litD (pev e x) (Kc P s u (Kq (Kr P N r e d) S)) := by
  rw [runV_cons, cguard_none, po_conv]
  try rfl
theorem rv_func {f : FuncId} {a c : List Operand} : runV P N (⟨d, none, .makeFunc (.func f) a.toArray c.toArray, t⟩ :: r) e S = runV P N r (putD e d (.fn f (a.map (pev e)) (c.map (pev e)))) S := by
  rw [runV_cons, cguard_none, po_func]
  try rfl
theorem rv_slice {u s : TypeId} {x : Operand} {lo hi mx : Option Operand} (h : slS P u = some s) : runV P N (⟨d, none, .slice u x lo hi mx, t⟩ :: r) e S = slD s (pev e x) (lo.map (pev e)) (hi.map (pev e)) (mx.map (pev e)) (Kq (Kr P N r e d) S) := by
  rw [runV_cons, cguard_none, po_slice h]
  try rfl
theorem rv_faddr {u : TypeId} {x : Operand} {f : Nat} : runV P N (⟨d, none, .fieldAddr u x f, t⟩ :: r) e S = faddrD P u f (pev e x) (Kq (Kr P N r e d) S) := by
  rw [runV_cons, cguard_none, po_faddr]
  try rfl
theorem rv_field {u : TypeId} {x : Operand} {f : Nat} : runV P N (⟨d, none, .field u x f, t⟩ :: r) e S = fieldD P u f (pev e x) (Kq (Kr P N r e d) S) := by
  rw [runV_cons, cguard_none, po_field]
  try rfl
theorem rv_ixaddr {u s : TypeId} {x i : Operand} (h : slS P u = some s) : runV P N (⟨d, none, .indexAddr u x i, t⟩ :: r) e S = idxD (pev e i) (Ki s (pev e x) (Kq (Kr P N r e d) S)) := by
  rw [runV_cons, cguard_none, po_ixaddr h]
  try rfl
theorem rv_extract {x : Operand} {i : Nat} : runV P N (⟨d, none, .extract x i, t⟩ :: r) e S = tupD (pev e x) i (Kq (Kr P N r e d) S) := by
  rw [runV_cons, cguard_none, po_extract]
  try rfl
theorem rv_len {x : Operand} {u s : TypeId} (h : slS P u = some s) : runV P N (⟨d, none, .call { callee := .builtin .len, args := #[x], argTypes := #[u] }, t⟩ :: r) e S = lenD (pev e x) (Kq (Kr P N r e d) S) := by
  rw [runV_cons, cguard_none, po_len h]
  try rfl
theorem rv_min {x y : Operand} {ats : Array TypeId} : runV P N (⟨d, none, .call { callee := .builtin .min, args := #[x, y], argTypes := ats }, t⟩ :: r) e S = lit2 (pev e x) (pev e y) (Kmin (Kq (Kr P N r e d) S)) := by
  rw [runV_cons, cguard_none, po_min]
  try rfl
theorem rv_max {x y : Operand} {ats : Array TypeId} : runV P N (⟨d, none, .call { callee := .builtin .max, args := #[x, y], argTypes := ats }, t⟩ :: r) e S = lit2 (pev e x) (pev e y) (Kmax (Kq (Kr P N r e d) S)) := by
  rw [runV_cons, cguard_none, po_max]
  try rfl
theorem rv_load {u : TypeId} {a : Operand} : runV P N (⟨d, none, .load u a, t⟩ :: r) e S = loadD P S u (pev e a) (Kq (Kr P N r e d) S) := by
  rw [runV_cons, cguard_none, po_load]
  try rfl
theorem rv_alloc {u : TypeId} {z : List D} (h : zeroD P u = some z) : runV P N (⟨d, none, .alloc u, t⟩ :: r) e S = ∀ b, runV P N r (putD e d (.ptr (.l (d.getD 0)) b 0 0 z.length)) (updS S (.l (d.getD 0)) (some ⟨b, z.length, 0, [z]⟩)) := by
  rw [runV_cons, cguard_none, po_alloc h]
  try rfl
theorem rv_box {u : TypeId} {x : Operand} : runV P N (⟨d, none, .box u x, t⟩ :: r) e S = boxD (.l (d.getD 0)) S (pev e x) (Kr P N r e d) := by
  rw [runV_cons, cguard_none, po_box]
  try rfl
theorem rv_lit {u : TypeId} {n : Nat} {ps : List (Nat × Operand)} {q : SlZ} (h : slZ P u = some q) : runV P N (⟨d, none, .buildSlice u n ps.toArray, t⟩ :: r) e S = litsD q (.l (d.getD 0)) S n (ps.map (·.1)) (ps.map (Ky e)) (Kr P N r e d) := by
  rw [runV_cons, cguard_none, po_lit h]
  try rfl
theorem rv_make {u : TypeId} {l c : Operand} {q : SlZ} (h : slZ P u = some q) : runV P N (⟨d, none, .makeSlice u l c, t⟩ :: r) e S = makeD q (.l (d.getD 0)) S (pev e l) (pev e c) (Kr P N r e d) := by
  rw [runV_cons, cguard_none, po_make h]
  try rfl
theorem rv_call {x : Operand} {as : List Operand} {ats : Array TypeId} : runV P N (⟨d, none, .call { callee := .value x, args := as.toArray, argTypes := ats }, t⟩ :: r) e S = callD P (pev e x) (as.map (pev e)) (Kf P S (Kr P N r e d)) := by
  rw [runV_cons, cguard_none, po_call]
  try rfl
theorem rv_store {u : TypeId} {a x : Operand} : runV P N (⟨d, none, .store u a x, t⟩ :: r) e S = storeD P S u (pev e a) (pev e x) (Kt (Kr P N r e d)) := by
  rw [runV_cons, cguard_none, po_store]
  try rfl
theorem rv_copy {x y : Operand} {u : TypeId} {q : SlZ} (h : slZ P u = some q) : runV P N (⟨d, none, .call { callee := .builtin .copy, args := #[x, y], argTypes := #[u, u] }, t⟩ :: r) e S = copyD q S (pev e x) (pev e y) (Kr P N r e d) := by
  rw [runV_cons, cguard_none, po_copy h]
  try rfl
theorem rv_app {x y : Operand} {u : TypeId} {q : SlZ} (h : slZ P u = some q) : runV P N (⟨d, none, .call { callee := .builtin .append, args := #[x, y], argTypes := #[u, u] }, t⟩ :: r) e S = appD q S (.l (d.getD 0)) (pev e x) (pev e y) (Kr P N r e d) := by
  rw [runV_cons, cguard_none, po_app h]
  try rfl
theorem rd0_move {x : Operand} : runD P N ((some ⟨d, none, .move x, t⟩, 0) :: r') e S = runD P N r' (putD e d (pev e x)) S := by
  rw [runD_cons, cguard_none, pm_0, pp_move]
  try rfl
theorem rd0_assign {x : Operand} : runD P N ((some ⟨d, none, .assign x, t⟩, 0) :: r') e S = runD P N r' (putD e d (pev e x)) S := by
  rw [runD_cons, cguard_none, pm_0, pp_assign]
  try rfl
theorem rd0_pick {c a b : Operand} : runD P N ((some ⟨d, none, .pick c a b, t⟩, 0) :: r') e S = boolD (pev e c) (Kp e a b (Kq (Kd P N r' e d) S)) := by
  rw [runD_cons, cguard_none, pm_0, pp_pick]
  try rfl
theorem rd0_build {u : TypeId} {ps : List (Nat × Operand)} : runD P N ((some ⟨d, none, .build u ps.toArray, t⟩, 0) :: r') e S = buildD P u (ps.map (Kx e)) (Kq (Kd P N r' e d) S) := by
  rw [runD_cons, cguard_none, pm_0, pp_build]
  try rfl
theorem rd0_nilCheck {x : Operand} : runD P N ((some ⟨d, none, .nilCheck x, t⟩, 0) :: r') e S = nilChD (pev e x) (Kq (Kd P N r' e d) S) := by
  rw [runD_cons, cguard_none, pm_0, pp_nilCheck]
  try rfl
theorem rd0_bin {op : BinOp} {u u' : TypeId} {x y : Operand} : runD P N ((some ⟨d, none, .binOp op u x y u', t⟩, 0) :: r') e S = lit2 (pev e x) (pev e y) (Kb P op u (Kq (Kd P N r' e d) S)) := by
  rw [runD_cons, cguard_none, pm_0, pp_bin]
  try rfl
theorem rd0_un {op : UnOp} {u : TypeId} {x : Operand} : runD P N ((some ⟨d, none, .unOp op u x, t⟩, 0) :: r') e S = litD (pev e x) (Ku op (Kq (Kd P N r' e d) S)) := by
  rw [runD_cons, cguard_none, pm_0, pp_un]
  try rfl
theorem rd0_conv {s u : TypeId} {x : Operand} : runD P N ((some ⟨d, none, .convert s u x, t⟩, 0) :: r') e S = litD (pev e x) (Kc P s u (Kq (Kd P N r' e d) S)) := by
  rw [runD_cons, cguard_none, pm_0, pp_conv]
  try rfl
theorem rd0_func {f : FuncId} {a c : List Operand} : runD P N ((some ⟨d, none, .makeFunc (.func f) a.toArray c.toArray, t⟩, 0) :: r') e S = runD P N r' (putD e d (.fn f (a.map (pev e)) (c.map (pev e)))) S := by
  rw [runD_cons, cguard_none, pm_0, pp_func]
  try rfl
theorem rd0_slice {u s : TypeId} {x : Operand} {lo hi mx : Option Operand} (h : slS P u = some s) : runD P N ((some ⟨d, none, .slice u x lo hi mx, t⟩, 0) :: r') e S = slD s (pev e x) (lo.map (pev e)) (hi.map (pev e)) (mx.map (pev e)) (Kq (Kd P N r' e d) S) := by
  rw [runD_cons, cguard_none, pm_0, pp_slice h]
  try rfl
theorem rd0_faddr {u : TypeId} {x : Operand} {f : Nat} : runD P N ((some ⟨d, none, .fieldAddr u x f, t⟩, 0) :: r') e S = faddrD P u f (pev e x) (Kq (Kd P N r' e d) S) := by
  rw [runD_cons, cguard_none, pm_0, pp_faddr]
  try rfl
theorem rd0_field {u : TypeId} {x : Operand} {f : Nat} : runD P N ((some ⟨d, none, .field u x f, t⟩, 0) :: r') e S = fieldD P u f (pev e x) (Kq (Kd P N r' e d) S) := by
  rw [runD_cons, cguard_none, pm_0, pp_field]
  try rfl
theorem rd0_ixaddr {u s : TypeId} {x i : Operand} (h : slS P u = some s) : runD P N ((some ⟨d, none, .indexAddr u x i, t⟩, 0) :: r') e S = idxD (pev e i) (Ki s (pev e x) (Kq (Kd P N r' e d) S)) := by
  rw [runD_cons, cguard_none, pm_0, pp_ixaddr h]
  try rfl
theorem rd0_extract {x : Operand} {i : Nat} : runD P N ((some ⟨d, none, .extract x i, t⟩, 0) :: r') e S = tupD (pev e x) i (Kq (Kd P N r' e d) S) := by
  rw [runD_cons, cguard_none, pm_0, pp_extract]
  try rfl
theorem rd0_len {x : Operand} {u s : TypeId} (h : slS P u = some s) : runD P N ((some ⟨d, none, .call { callee := .builtin .len, args := #[x], argTypes := #[u] }, t⟩, 0) :: r') e S = lenD (pev e x) (Kq (Kd P N r' e d) S) := by
  rw [runD_cons, cguard_none, pm_0, pp_len h]
  try rfl
theorem rd0_min {x y : Operand} {ats : Array TypeId} : runD P N ((some ⟨d, none, .call { callee := .builtin .min, args := #[x, y], argTypes := ats }, t⟩, 0) :: r') e S = lit2 (pev e x) (pev e y) (Kmin (Kq (Kd P N r' e d) S)) := by
  rw [runD_cons, cguard_none, pm_0, pp_min]
  try rfl
theorem rd0_max {x y : Operand} {ats : Array TypeId} : runD P N ((some ⟨d, none, .call { callee := .builtin .max, args := #[x, y], argTypes := ats }, t⟩, 0) :: r') e S = lit2 (pev e x) (pev e y) (Kmax (Kq (Kd P N r' e d) S)) := by
  rw [runD_cons, cguard_none, pm_0, pp_max]
  try rfl
theorem rd1_load {u : TypeId} {a : Operand} : runD P N ((some ⟨d, none, .load u a, t⟩, 1) :: r') e S = loadD P S u (pev e a) (Kq (Kd P N r' e d) S) := by
  rw [runD_cons, cguard_none, pm_1]
  try rfl
theorem rd2_load {u : TypeId} {a : Operand} : runD P N ((some ⟨d, none, .load u a, t⟩, 2) :: r') e S = loadD P S u (pev e a) (Kq (Kd P N r' e d) S) := by
  rw [runD_cons, cguard_none, pm_2]
  try rfl
theorem rd3_alloc {u : TypeId} {z : List D} (h : zeroD P u = some z) : runD P N ((some ⟨d, none, .alloc u, t⟩, 3) :: r') e S = ∀ b, runD P N r' (putD e d (.ptr (.l (d.getD 0)) b 0 0 z.length)) (updS S (.l (d.getD 0)) (some ⟨b, z.length, 0, [z]⟩)) := by
  rw [runD_cons, cguard_none, pm_3, po_alloc h]
  try rfl
theorem rd3_box {u : TypeId} {x : Operand} : runD P N ((some ⟨d, none, .box u x, t⟩, 3) :: r') e S = boxD (.l (d.getD 0)) S (pev e x) (Kd P N r' e d) := by
  rw [runD_cons, cguard_none, pm_3, po_box]
  try rfl
theorem rd3_lit {u : TypeId} {n : Nat} {ps : List (Nat × Operand)} {q : SlZ} (h : slZ P u = some q) : runD P N ((some ⟨d, none, .buildSlice u n ps.toArray, t⟩, 3) :: r') e S = litsD q (.l (d.getD 0)) S n (ps.map (·.1)) (ps.map (Ky e)) (Kd P N r' e d) := by
  rw [runD_cons, cguard_none, pm_3, po_lit h]
  try rfl
theorem rd3_make {u : TypeId} {l c : Operand} {q : SlZ} (h : slZ P u = some q) : runD P N ((some ⟨d, none, .makeSlice u l c, t⟩, 3) :: r') e S = makeD q (.l (d.getD 0)) S (pev e l) (pev e c) (Kd P N r' e d) := by
  rw [runD_cons, cguard_none, pm_3, po_make h]
  try rfl
theorem rd3_call {x : Operand} {as : List Operand} {ats : Array TypeId} : runD P N ((some ⟨d, none, .call { callee := .value x, args := as.toArray, argTypes := ats }, t⟩, 3) :: r') e S = callD P (pev e x) (as.map (pev e)) (Kf P S (Kd P N r' e d)) := by
  rw [runD_cons, cguard_none, pm_3, po_call]
  try rfl
theorem rd3_store {u : TypeId} {a x : Operand} : runD P N ((some ⟨d, none, .store u a x, t⟩, 3) :: r') e S = storeD P S u (pev e a) (pev e x) (Kt (Kd P N r' e d)) := by
  rw [runD_cons, cguard_none, pm_3, po_store]
  try rfl
theorem rd3_copy {x y : Operand} {u : TypeId} {q : SlZ} (h : slZ P u = some q) : runD P N ((some ⟨d, none, .call { callee := .builtin .copy, args := #[x, y], argTypes := #[u, u] }, t⟩, 3) :: r') e S = copyD q S (pev e x) (pev e y) (Kd P N r' e d) := by
  rw [runD_cons, cguard_none, pm_3, po_copy h]
  try rfl
theorem rd3_app {x y : Operand} {u : TypeId} {q : SlZ} (h : slZ P u = some q) : runD P N ((some ⟨d, none, .call { callee := .builtin .append, args := #[x, y], argTypes := #[u, u] }, t⟩, 3) :: r') e S = appD q S (.l (d.getD 0)) (pev e x) (pev e y) (Kd P N r' e d) := by
  rw [runD_cons, cguard_none, pm_3, po_app h]
  try rfl
theorem rd3_load {u : TypeId} {a : Operand} : runD P N ((some ⟨d, none, .load u a, t⟩, 3) :: r') e S = loadD P S u (pev e a) (Kq (Kd P N r' e d) S) := by
  rw [runD_cons, cguard_none, pm_3, po_load]
  try rfl
theorem rd4_alloc {u : TypeId} {z : List D} (h : zeroD P u = some z) : runD P N ((some ⟨d, none, .alloc u, t⟩, 4) :: r') e S = ∀ b, runD P N r' (putD e d (.ptr (.l (d.getD 0)) b 0 0 z.length)) (updS S (.l (d.getD 0)) (some ⟨b, z.length, 0, [z]⟩)) := by
  rw [runD_cons, cguard_none, pm_4, pe_alloc h]
  try rfl
theorem rd4_box {u : TypeId} {x : Operand} : runD P N ((some ⟨d, none, .box u x, t⟩, 4) :: r') e S = boxD (.l (d.getD 0)) S (pev e x) (Kd P N r' e d) := by
  rw [runD_cons, cguard_none, pm_4, pe_box]
  try rfl
theorem rd4_lit {u : TypeId} {n : Nat} {ps : List (Nat × Operand)} {q : SlZ} (h : slZ P u = some q) : runD P N ((some ⟨d, none, .buildSlice u n ps.toArray, t⟩, 4) :: r') e S = litsD q (.l (d.getD 0)) S n (ps.map (·.1)) (ps.map (Ky e)) (Kd P N r' e d) := by
  rw [runD_cons, cguard_none, pm_4, pe_lit h]
  try rfl
theorem rd4_make {u : TypeId} {l c : Operand} {q : SlZ} (h : slZ P u = some q) : runD P N ((some ⟨d, none, .makeSlice u l c, t⟩, 4) :: r') e S = makeD q (.l (d.getD 0)) S (pev e l) (pev e c) (Kd P N r' e d) := by
  rw [runD_cons, cguard_none, pm_4, pe_make h]
  try rfl
theorem rd4_call {x : Operand} {as : List Operand} {ats : Array TypeId} : runD P N ((some ⟨d, none, .call { callee := .value x, args := as.toArray, argTypes := ats }, t⟩, 4) :: r') e S = callD P (pev e x) (as.map (pev e)) (Ke P S (Kd P N r' e d)) := by
  rw [runD_cons, cguard_none, pm_4, pe_call]
  try rfl

/-! ### Code in one step -/

variable {X : Nat → DEnv → Store → Prop} {R : DEnv → Store → Prop}
def Kv (P : Program) (c : Code) (N : DEnv → Store → Prop) (X : Nat → DEnv → Store → Prop) (R : DEnv → Store → Prop) (e : DEnv) (S : Store) : Prop := pvc P c N X R e S
theorem Kv_eq {c : Code} : Kv P c N X R e S = pvc P c N X R e S := rfl
theorem pvs_skip : pvc P .skip N X R e S = N e S := rfl
theorem pvs_ret : pvc P .ret N X R e S = R e S := rfl
theorem pvs_exit {id : Nat} : pvc P (.exit id) N X R e S = X id e S := rfl
theorem pvs_label {l : Nat} : pvc P (.label l) N X R e S = N e S := rfl
theorem pvs_scope {c : Code} : pvc P (.scope c) N X R e S = pvc P c N X R e S := rfl
theorem pvs_block {id : Nat} {c : Code} : pvc P (.block id c) N X R e S = pvc P c N (fun j e S => if j = id then N e S else X j e S) R e S := rfl
theorem pvs_cond {c : Operand} {a b : Code} : pvc P (.cond c a b) N X R e S = condD (pev e c) (Kv P a N X R e S) (Kv P b N X R e S) := rfl
theorem condD_t {a b : Prop} : condD (.g (.lit (.bool true))) a b = a := by simp [condD]
theorem condD_f {a b : Prop} : condD (.g (.lit (.bool false))) a b = b := by simp [condD]
theorem pv_cdD {a b p : Prop} {inst : Decidable p} (hT : p → a) (hF : ¬ p → b) : condD (.g (.lit (.bool (@decide p inst)))) a b := by
  by_cases hp : p
  · simpa [condD, hp] using hT hp
  · simpa [condD, hp] using hF hp
theorem cg_condD {x x' : D} {a b : Prop} (h : x = x') : condD x a b = condD x' a b := by rw [h]
theorem cg_pvc {c : Code} : pvc P c N X R e S = pvc P c N X R e S := rfl
set_option linter.defProp false in
/-- A region, shortly. -/
def cmpB := And.intro @comp_nil <| And.intro @comp_cons <| And.intro @compD_nil <| And.intro @compD_cons <| And.intro @gsl_none <| And.intro @gsl_some <| And.intro @List.getElem?_cons_zero.{0} <| And.intro @List.getElem?_cons_succ.{0} <| And.intro @Option.map_some.{0, 0} <| And.intro @Option.bind_some.{0, 0} <| And.intro @lapp_cons @lapp_nil

theorem ExtC_is {f : FuncId} {args : List D} {K : D → Store → Prop} (h : coeDs args S fun args' S' => PC P f args' (Kq K S')) : ExtC P f args S K := h
end
attribute [congr] cg_condD cg_pvc
attribute [go_sem ↓] pdT_nil pdT_lin pdT_fork Kv_eq pvs_skip pvs_ret pvs_exit pvs_label pvs_scope pvs_block pvs_cond condD_t condD_f
attribute [go_sem] condD_t condD_f retC retS retR resD oneD coeDs_nil coeDs_cons coeD_agg coeD_g coeD_nil coeD_own coeCs_nil coeCs_cons coeC_g coeC_nil coeC_own
attribute [go_sem ↓] rv_guard rd_guard rv_move rv_assign rv_pick rv_build rv_nilCheck rv_bin rv_un rv_conv rv_func rv_faddr rv_field rv_extract rv_min rv_max rv_load rv_box rv_call rv_store rd0_move rd0_assign rd0_pick rd0_build
attribute [go_sem ↓] rd0_nilCheck rd0_bin rd0_un rd0_conv rd0_func rd0_faddr rd0_field rd0_extract rd0_min rd0_max rd1_load rd2_load rd3_box rd3_call rd3_store rd3_load rd4_box rd4_call Kr_eq Kd_eq Kq_eq Kl_eq Kb_eq Ku_eq
attribute [go_sem ↓] Kc_eq Kp_t Kp_f Ki_eq Kf_eq Ke_eq Kt_eq Kmin_eq Kmax_eq runV_nil runD_nil pgv_tt pgv_tf pgv_ft pgv_ff pgv_tup lit2_g litD_g boolD_lit idxD_lit pbin_int pbin_eqB pbin_neB unV_not
attribute [go_sem ↓] unV_neg loadD_ptr loadD_ip optB_some optL_some optD_some optG_some optA_some optLL_some storeD_ptr lenD_own lenD_sl lenD_nil lenD_eS ixD_own ixD_sl ixD_eS srcD_own srcD_nil bndD_some bndD_none nilChD_ptr nilChD_ip tupD_tup
attribute [go_sem ↓] callD_fn copyD_own appD_own appD_nil litsD_1 litsD_2 litsD_3 litsD_4 minD_i maxD_i makeD_i iv_add64 iv_sub64 iv_mul64 iv_quo64 iv_rem iv_eql iv_neq iv_lss iv_leq iv_gtr iv_geq iv_and iv_or iv_xor
attribute [go_sem ↓] iv_shl iv_shr iv_addu iv_subu iv_mulu iv_quou
attribute [go_sem] comp_nil comp_cons gsl_none gsl_some compD_nil compD_cons Kp_eq Kx_eq Ky_eq pgv_tt pgv_tf pgv_ft pgv_ff pgv_tup lit2_g litD_g boolD_lit idxD_lit pbin_int pbin_eqB pbin_neB unV_not unV_neg loadD_ptr
attribute [go_sem] loadD_ip optB_some optL_some optD_some optG_some optA_some optLL_some storeD_ptr lenD_own lenD_sl lenD_nil lenD_eS ixD_own ixD_sl ixD_eS srcD_own srcD_nil bndD_some bndD_none nilChD_ptr nilChD_ip tupD_tup callD_fn copyD_own appD_own
attribute [go_sem] appD_nil litsD_1 litsD_2 litsD_3 litsD_4 minD_i maxD_i makeD_i iv_add64 iv_sub64 iv_mul64 iv_quo64 iv_rem iv_eql iv_neq iv_lss iv_leq iv_gtr iv_geq iv_and iv_or iv_xor iv_shl iv_shr
attribute [go_sem] iv_addu iv_subu iv_mulu iv_quou cast_zero0 cast_add_two Nat.add_one_pos Nat.lt_irrefl imp_self implies_true pev_tmp pev_const pev_func putD_some putD_none updD_apply updS_apply ofVal_int ofVal_bool ofVal_str ofVal_nil ofVal_agg cellD_int cellD_bool
attribute [go_sem] cellD_str cellD_nil boxD buildD fillD argD_apply List.getElem?_toArray List.map_toArray List.map_cons List.map_nil List.getElem?_cons_zero List.getElem?_cons_succ List.getElem?_nil List.getD_cons_zero List.getD_cons_succ List.getD_nil List.nil_append List.cons_append List.append_nil List.append_assoc List.set_cons_zero List.set_cons_succ List.drop_zero List.drop_succ_cons
attribute [go_sem] List.take_succ_cons List.take_zero List.length_cons List.length_nil Option.map_some Option.map_none Option.bind_some Option.getD_some Option.isSome_some Option.isSome_none cond_true cond_false true_and and_true Nm.l.injEq Nm.up.injEq Bool.false_eq_true Bool.not_true Bool.not_false cl_agg cl_g cl_nil cl_own cl_ptr
attribute [go_sem] cl_fn on_g on_nil on_own on_ptr on_fn List.all_cons List.all_nil Bool.and_true Bool.and_self cast_add cast_add_one cast_succ_sub cast_zero_lt cast_zero_le cast_eq_zero Int.ofNat_lt Int.ofNat_le Int.natCast_inj Int.toNat_natCast ne_eq not_false_eq_true not_true_eq_false decide_true
attribute [go_sem] decide_false Nat.min_def bits_u64 bits_u32 bits_u8 bits_i64 cast_mul wrap64_nat wrap32_nat wrap8_nat tdiv_nat tmod_nat shl_pow shr_pow shr1 shr8 shr16 shr32 lapp_cons lapp_nil

end Go.V

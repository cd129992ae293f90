/- Each kind of operation, and what simp may look into. No program in sight. -/
import Derived.Test.YtkmoeenhboicmaaDoorZ
set_option linter.unusedSimpArgs false
set_option linter.unusedVariables false
namespace Go.V
open Go Go.RowKit

section
variable {P : Program} {e : DEnv} {S : Store} {d : Option Nat} {t : TypeId} {K : D → Store → Prop} {Q : D → Prop}

/-! ### Operations, plain -/
theorem po_move {x : Operand} : popV P { dst := d, op := .move x, type := t, pos := "", after := #[], guard := none } e S K = K (pev e x) S := rfl
theorem po_assign {x : Operand} : popV P { dst := d, op := .assign x, type := t, pos := "", after := #[], guard := none } e S K = K (pev e x) S := rfl
theorem po_pick {c a b : Operand} : popV P { dst := d, op := .pick c a b, type := t, pos := "", after := #[], guard := none } e S K = boolD (pev e c) fun t => K (if t then pev e a else pev e b) S := rfl
theorem po_build {u : TypeId} {ps : List (Nat × Operand)} : popV P { dst := d, op := .build u ps.toArray, type := t, pos := "", after := #[], guard := none } e S K = buildD P u (ps.map fun p => (p.1, pev e p.2)) fun d => K d S := rfl
theorem po_nilCheck {x : Operand} : popV P { dst := d, op := .nilCheck x, type := t, pos := "", after := #[], guard := none } e S K = nilChD (pev e x) fun d => K d S := rfl
theorem po_bin {op : BinOp} {u u' : TypeId} {x y : Operand} : popV P { dst := d, op := .binOp op u x y u', type := t, pos := "", after := #[], guard := none } e S K = lit2 (pev e x) (pev e y) fun a b => pbin P op u a b fun v => K (.g (.lit v)) S := rfl
theorem po_un {op : UnOp} {u : TypeId} {x : Operand} : popV P { dst := d, op := .unOp op u x, type := t, pos := "", after := #[], guard := none } e S K = litD (pev e x) fun a => unV op a fun v => K (.g (.lit v)) S := rfl
theorem po_conv {s u : TypeId} {x : Operand} : popV P { dst := d, op := .convert s u x, type := t, pos := "", after := #[], guard := none } e S K = litD (pev e x) fun a => pconv P s u a fun v => K (.g (.lit v)) S := rfl
theorem po_func {f : FuncId} {a c : List Operand} : popV P { dst := d, op := .makeFunc (.func f) a.toArray c.toArray, type := t, pos := "", after := #[], guard := none } e S K = K (.fn f (a.map (pev e)) (c.map (pev e))) S := rfl
theorem po_slice {u s : TypeId} (h : slS P u = some s) {x : Operand} {lo hi mx : Option Operand} : popV P { dst := d, op := .slice u x lo hi mx, type := t, pos := "", after := #[], guard := none } e S K = slD s (pev e x) (lo.map (pev e)) (hi.map (pev e)) (mx.map (pev e)) fun d => K d S := by
  simp only [popV, ppureV, h]
theorem po_faddr {u : TypeId} {x : Operand} {f : Nat} : popV P { dst := d, op := .fieldAddr u x f, type := t, pos := "", after := #[], guard := none } e S K = faddrD P u f (pev e x) fun d => K d S := rfl
theorem po_field {u : TypeId} {x : Operand} {f : Nat} : popV P { dst := d, op := .field u x f, type := t, pos := "", after := #[], guard := none } e S K = fieldD P u f (pev e x) fun d => K d S := rfl
theorem po_ixaddr {u s : TypeId} (h : slS P u = some s) {x i : Operand} : popV P { dst := d, op := .indexAddr u x i, type := t, pos := "", after := #[], guard := none } e S K = idxD (pev e i) fun n => ixD s (pev e x) n fun d => K d S := by simp only [popV, ppureV, h]
theorem po_extract {x : Operand} {i : Nat} : popV P { dst := d, op := .extract x i, type := t, pos := "", after := #[], guard := none } e S K = tupD (pev e x) i fun d => K d S := rfl
theorem po_alloc {u : TypeId} {z : List D} (hz : zeroD P u = some z) : popV P { dst := d, op := .alloc u, type := t, pos := "", after := #[], guard := none } e S K = ∀ b, K (.ptr (.l (d.getD 0)) b 0 0 z.length) (updS S (.l (d.getD 0)) (some ⟨b, z.length, 0, [z]⟩)) := by
  simp only [popV, newV, hz]; rfl
def boxD (k : Nm) (S : Store) (x : D) (K : D → Store → Prop) : Prop := x.cells.all D.one = true ∧ ∀ b, K (.ptr k b 0 0 x.cells.length) (updS S k (some ⟨b, x.cells.length, 0, [x.cells]⟩))
theorem po_box {u : TypeId} {x : Operand} : popV P { dst := d, op := .box u x, type := t, pos := "", after := #[], guard := none } e S K = boxD (.l (d.getD 0)) S (pev e x) K := rfl
def litsD (q : SlZ) (k : Nm) (S : Store) (n : Nat) (is : List Nat) (ds : List D) (K : D → Store → Prop) : Prop := is = List.range n ∧ (∀ d ∈ ds, d.cells.all D.one = true ∧ d.cells.length = q.s) ∧ n * q.s ≤ 16777216 ∧ ∀ b, K (.own k b 0 n n q.s) (updS S k (some ⟨b, q.s, 0, ds.map D.cells⟩))
theorem po_lit {u : TypeId} {n : Nat} {ps : List (Nat × Operand)} {q : SlZ} (hq : slZ P u = some q) : popV P { dst := d, op := .buildSlice u n ps.toArray, type := t, pos := "", after := #[], guard := none } e S K =
    litsD q (.l (d.getD 0)) S n (ps.map (·.1)) (ps.map fun p => pev e p.2) K := by
  simp only [popV, newV, hq, litsD, List.map_map]; rfl
def makeD (q : SlZ) (k : Nm) (S : Store) (l c : D) (K : D → Store → Prop) : Prop := idxD l fun n => idxD c fun m => n = m ∧ 0 ≤ n ∧ n ≤ 140737488355328 ∧ (q.bytes : Int) * n ≤ 140737488355328 ∧
      ∀ b, K (.own k b 0 n.toNat n.toNat q.s) (updS S k (some ⟨b, q.s, 0, List.replicate n.toNat q.z⟩))
theorem po_make {u : TypeId} {l c : Operand} {q : SlZ} (hq : slZ P u = some q) : popV P { dst := d, op := .makeSlice u l c, type := t, pos := "", after := #[], guard := none } e S K = makeD q (.l (d.getD 0)) S (pev e l) (pev e c) K := by
  simp only [popV, newV, hq]; rfl
theorem makeD_i {q : SlZ} {k : Nm} {k1 k2 : IntKind} {n : Nat} : makeD q k S (.g (.lit (.int k1 n))) (.g (.lit (.int k2 n))) K = (n ≤ 140737488355328 ∧ q.bytes * n ≤ 140737488355328 ∧ ∀ b, K (.own k b 0 n n q.s) (updS S k (some ⟨b, q.s, 0, List.replicate n q.z⟩))) := by
  simp only [makeD, idxD_lit, Int.toNat_natCast, true_and, eq_iff_iff]
  rw [← Int.natCast_mul]
  constructor
  · rintro ⟨_, h1, h2, h3⟩; exact ⟨by omega, by omega, h3⟩
  · rintro ⟨h1, h2, h3⟩; exact ⟨by omega, by omega, by omega, h3⟩
theorem po_load {u : TypeId} {a : Operand} : popV P { dst := d, op := .load u a, type := t, pos := "", after := #[], guard := none } e S K = loadD P S u (pev e a) fun d => K d S := rfl
theorem po_store {u : TypeId} {a x : Operand} : popV P { dst := d, op := .store u a x, type := t, pos := "", after := #[], guard := none } e S K = storeD P S u (pev e a) (pev e x) fun S' => K (.tup []) S' := rfl
theorem po_call {x : Operand} {as : List Operand} {ats : Array TypeId} : popV P { dst := d, op := .call { callee := .value x, args := as.toArray, argTypes := ats }, type := t, pos := "", after := #[], guard := none } e S K = callD P (pev e x) (as.map (pev e)) fun f args => PFC P f args S K := rfl
theorem po_len {x : Operand} {u s : TypeId} (h : slS P u = some s) : popV P { dst := d, op := .call { callee := .builtin .len, args := #[x], argTypes := #[u] }, type := t, pos := "", after := #[], guard := none } e S K = lenD (pev e x) fun d => K d S := by
  simp only [popV, ppureV, List.getElem?_toArray, List.getElem?_cons_zero, h, Option.isSome_some, true_and]
theorem po_app {x y : Operand} {u : TypeId} {q : SlZ} (hq : slZ P u = some q) : popV P { dst := d, op := .call { callee := .builtin .append, args := #[x, y], argTypes := #[u, u] }, type := t, pos := "", after := #[], guard := none } e S K = appD q S (.l (d.getD 0)) (pev e x) (pev e y) K := by
  simp only [popV, hq, true_and]; rfl
theorem po_copy {x y : Operand} {u : TypeId} {q : SlZ} (hq : slZ P u = some q) : popV P { dst := d, op := .call { callee := .builtin .copy, args := #[x, y], argTypes := #[u, u] }, type := t, pos := "", after := #[], guard := none } e S K = copyD q S (pev e x) (pev e y) K := by
  simp only [popV, hq, true_and]
def minD (a b : Value) (K : Value → Prop) : Prop := match a, b with | .int k x, .int _ y => K (.int k (if y < x then y else x)) | _, _ => False
def maxD (a b : Value) (K : Value → Prop) : Prop := match a, b with | .int k x, .int _ y => K (.int k (if x < y then y else x)) | _, _ => False
theorem minD_i {k k' : IntKind} {x y : Int} {K : Value → Prop} : minD (.int k x) (.int k' y) K = K (.int k (if y < x then y else x)) := rfl
theorem maxD_i {k k' : IntKind} {x y : Int} {K : Value → Prop} : maxD (.int k x) (.int k' y) K = K (.int k (if x < y then y else x)) := rfl
theorem po_min {x y : Operand} {ats : Array TypeId} : popV P { dst := d, op := .call { callee := .builtin .min, args := #[x, y], argTypes := ats }, type := t, pos := "", after := #[], guard := none } e S K = lit2 (pev e x) (pev e y) fun a b => minD a b fun v => K (.g (.lit v)) S := by
  simp only [popV, ppureV, eq_iff_iff]
  unfold lit2 litD minD
  rfl
theorem po_max {x y : Operand} {ats : Array TypeId} : popV P { dst := d, op := .call { callee := .builtin .max, args := #[x, y], argTypes := ats }, type := t, pos := "", after := #[], guard := none } e S K = lit2 (pev e x) (pev e y) fun a b => maxD a b fun v => K (.g (.lit v)) S := by
  simp only [popV, ppureV, eq_iff_iff]
  unfold lit2 litD maxD
  rfl

/-! ### Drawn: by mode. The modes 0, 1, 2 and 3 are alike to the plain forms. -/
theorem pm_0 {o : Oper} : pmodeV P o 0 e S K = ppureV P o e fun d => K d S := rfl
theorem pm_3 {o : Oper} : pmodeV P o 3 e S K = popV P o e S K := rfl
theorem pm_4 {o : Oper} : pmodeV P o 4 e S K = pextV P o e S K := rfl
theorem pm_1 {u : TypeId} {a : Operand} : pmodeV P { dst := d, op := .load u a, type := t, pos := "", after := #[], guard := none } 1 e S K = loadD P S u (pev e a) fun d => K d S := rfl
theorem pm_2 {u : TypeId} {a : Operand} : pmodeV P { dst := d, op := .load u a, type := t, pos := "", after := #[], guard := none } 2 e S K = loadD P S u (pev e a) fun d => K d S := rfl
theorem pp_move {x : Operand} : ppureV P { dst := d, op := .move x, type := t, pos := "", after := #[], guard := none } e Q = Q (pev e x) := rfl
theorem pp_assign {x : Operand} : ppureV P { dst := d, op := .assign x, type := t, pos := "", after := #[], guard := none } e Q = Q (pev e x) := rfl
theorem pp_pick {c a b : Operand} : ppureV P { dst := d, op := .pick c a b, type := t, pos := "", after := #[], guard := none } e Q = boolD (pev e c) fun t => Q (if t then pev e a else pev e b) := rfl
theorem pp_build {u : TypeId} {ps : List (Nat × Operand)} : ppureV P { dst := d, op := .build u ps.toArray, type := t, pos := "", after := #[], guard := none } e Q = buildD P u (ps.map fun p => (p.1, pev e p.2)) Q := rfl
theorem pp_nilCheck {x : Operand} : ppureV P { dst := d, op := .nilCheck x, type := t, pos := "", after := #[], guard := none } e Q = nilChD (pev e x) Q := rfl
theorem pp_bin {op : BinOp} {u u' : TypeId} {x y : Operand} : ppureV P { dst := d, op := .binOp op u x y u', type := t, pos := "", after := #[], guard := none } e Q = lit2 (pev e x) (pev e y) fun a b => pbin P op u a b fun v => Q (.g (.lit v)) := rfl
theorem pp_un {op : UnOp} {u : TypeId} {x : Operand} : ppureV P { dst := d, op := .unOp op u x, type := t, pos := "", after := #[], guard := none } e Q = litD (pev e x) fun a => unV op a fun v => Q (.g (.lit v)) := rfl
theorem pp_conv {s u : TypeId} {x : Operand} : ppureV P { dst := d, op := .convert s u x, type := t, pos := "", after := #[], guard := none } e Q = litD (pev e x) fun a => pconv P s u a fun v => Q (.g (.lit v)) := rfl
theorem pp_func {f : FuncId} {a c : List Operand} : ppureV P { dst := d, op := .makeFunc (.func f) a.toArray c.toArray, type := t, pos := "", after := #[], guard := none } e Q = Q (.fn f (a.map (pev e)) (c.map (pev e))) := rfl
theorem pp_slice {u s : TypeId} (h : slS P u = some s) {x : Operand} {lo hi mx : Option Operand} : ppureV P { dst := d, op := .slice u x lo hi mx, type := t, pos := "", after := #[], guard := none } e Q = slD s (pev e x) (lo.map (pev e)) (hi.map (pev e)) (mx.map (pev e)) Q := by
  simp only [ppureV, h]
theorem pp_faddr {u : TypeId} {x : Operand} {f : Nat} : ppureV P { dst := d, op := .fieldAddr u x f, type := t, pos := "", after := #[], guard := none } e Q = faddrD P u f (pev e x) Q := rfl
theorem pp_field {u : TypeId} {x : Operand} {f : Nat} : ppureV P { dst := d, op := .field u x f, type := t, pos := "", after := #[], guard := none } e Q = fieldD P u f (pev e x) Q := rfl
theorem pp_ixaddr {u s : TypeId} (h : slS P u = some s) {x i : Operand} : ppureV P { dst := d, op := .indexAddr u x i, type := t, pos := "", after := #[], guard := none } e Q = idxD (pev e i) fun n => ixD s (pev e x) n Q := by simp only [ppureV, h]
theorem pp_extract {x : Operand} {i : Nat} : ppureV P { dst := d, op := .extract x i, type := t, pos := "", after := #[], guard := none } e Q = tupD (pev e x) i Q := rfl
theorem pp_len {x : Operand} {u s : TypeId} (h : slS P u = some s) : ppureV P { dst := d, op := .call { callee := .builtin .len, args := #[x], argTypes := #[u] }, type := t, pos := "", after := #[], guard := none } e Q = lenD (pev e x) Q := by
  simp only [ppureV, List.getElem?_toArray, List.getElem?_cons_zero, h, Option.isSome_some, true_and]
theorem pp_min {x y : Operand} {ats : Array TypeId} : ppureV P { dst := d, op := .call { callee := .builtin .min, args := #[x, y], argTypes := ats }, type := t, pos := "", after := #[], guard := none } e Q = lit2 (pev e x) (pev e y) fun a b => minD a b fun v => Q (.g (.lit v)) :=
  po_min (P := P) (e := e) (x := x) (y := y) (ats := ats) (K := fun d _ => Q d) (S := noS) (t := t) (d := d)
theorem pp_max {x y : Operand} {ats : Array TypeId} : ppureV P { dst := d, op := .call { callee := .builtin .max, args := #[x, y], argTypes := ats }, type := t, pos := "", after := #[], guard := none } e Q = lit2 (pev e x) (pev e y) fun a b => maxD a b fun v => Q (.g (.lit v)) :=
  po_max (P := P) (e := e) (x := x) (y := y) (ats := ats) (K := fun d _ => Q d) (S := noS) (t := t) (d := d)
theorem pe_alloc {u : TypeId} {z : List D} (hz : zeroD P u = some z) : pextV P { dst := d, op := .alloc u, type := t, pos := "", after := #[], guard := none } e S K = ∀ b, K (.ptr (.l (d.getD 0)) b 0 0 z.length) (updS S (.l (d.getD 0)) (some ⟨b, z.length, 0, [z]⟩)) := by
  simp only [pextV, newV, hz]; rfl
theorem pe_box {u : TypeId} {x : Operand} : pextV P { dst := d, op := .box u x, type := t, pos := "", after := #[], guard := none } e S K = boxD (.l (d.getD 0)) S (pev e x) K := rfl
theorem pe_lit {u : TypeId} {n : Nat} {ps : List (Nat × Operand)} {q : SlZ} (hq : slZ P u = some q) : pextV P { dst := d, op := .buildSlice u n ps.toArray, type := t, pos := "", after := #[], guard := none } e S K =
    litsD q (.l (d.getD 0)) S n (ps.map (·.1)) (ps.map fun p => pev e p.2) K := by
  simp only [pextV, newV, hq, litsD, List.map_map]; rfl
theorem pe_make {u : TypeId} {l c : Operand} {q : SlZ} (hq : slZ P u = some q) : pextV P { dst := d, op := .makeSlice u l c, type := t, pos := "", after := #[], guard := none } e S K = makeD q (.l (d.getD 0)) S (pev e l) (pev e c) K := by
  simp only [pextV, newV, hq]; rfl
def ExtC (P : Program) (f : FuncId) (args : List D) (S : Store) (K : D → Store → Prop) : Prop := coeDs args S fun args' S' => PC P f args' fun d => K d S'
theorem pe_call {x : Operand} {as : List Operand} {ats : Array TypeId} : pextV P { dst := d, op := .call { callee := .value x, args := as.toArray, argTypes := ats }, type := t, pos := "", after := #[], guard := none } e S K = callD P (pev e x) (as.map (pev e)) fun f args => ExtC P f args S K := rfl

theorem litsD_1 {q : SlZ} {k : Nm} {x0 : D} : litsD q k S 1 [0] [x0] K = ((x0.cells.all D.one = true ∧ x0.cells.length = q.s) ∧ 1 * q.s ≤ 16777216 ∧ ∀ b, K (.own k b 0 1 1 q.s) (updS S k (some ⟨b, q.s, 0, [x0.cells]⟩))) := by
  have h : [0] = List.range 1 := rfl
  simp only [litsD, h, true_and, List.mem_cons, List.not_mem_nil, or_false, forall_eq_or_imp, forall_eq, List.map_cons, List.map_nil, and_assoc]
theorem litsD_2 {q : SlZ} {k : Nm} {x0 x1 : D} : litsD q k S 2 [0, 1] [x0, x1] K = ((x0.cells.all D.one = true ∧ x0.cells.length = q.s) ∧ (x1.cells.all D.one = true ∧ x1.cells.length = q.s) ∧ 2 * q.s ≤ 16777216 ∧ ∀ b, K (.own k b 0 2 2 q.s) (updS S k (some ⟨b, q.s, 0, [x0.cells, x1.cells]⟩))) := by
  have h : [0, 1] = List.range 2 := rfl
  simp only [litsD, h, true_and, List.mem_cons, List.not_mem_nil, or_false, forall_eq_or_imp, forall_eq, List.map_cons, List.map_nil, and_assoc]
theorem litsD_3 {q : SlZ} {k : Nm} {x0 x1 x2 : D} : litsD q k S 3 [0, 1, 2] [x0, x1, x2] K = ((x0.cells.all D.one = true ∧ x0.cells.length = q.s) ∧ (x1.cells.all D.one = true ∧ x1.cells.length = q.s) ∧ (x2.cells.all D.one = true ∧ x2.cells.length = q.s) ∧ 3 * q.s ≤ 16777216 ∧ ∀ b, K (.own k b 0 3 3 q.s) (updS S k (some ⟨b, q.s, 0, [x0.cells, x1.cells, x2.cells]⟩))) := by
  have h : [0, 1, 2] = List.range 3 := rfl
  simp only [litsD, h, true_and, List.mem_cons, List.not_mem_nil, or_false, forall_eq_or_imp, forall_eq, List.map_cons, List.map_nil, and_assoc]
theorem litsD_4 {q : SlZ} {k : Nm} {x0 x1 x2 x3 : D} : litsD q k S 4 [0, 1, 2, 3] [x0, x1, x2, x3] K = ((x0.cells.all D.one = true ∧ x0.cells.length = q.s) ∧ (x1.cells.all D.one = true ∧ x1.cells.length = q.s) ∧ (x2.cells.all D.one = true ∧ x2.cells.length = q.s) ∧ (x3.cells.all D.one = true ∧ x3.cells.length = q.s) ∧ 4 * q.s ≤ 16777216 ∧ ∀ b, K (.own k b 0 4 4 q.s) (updS S k (some ⟨b, q.s, 0, [x0.cells, x1.cells, x2.cells, x3.cells]⟩))) := by
  have h : [0, 1, 2, 3] = List.range 4 := rfl
  simp only [litsD, h, true_and, List.mem_cons, List.not_mem_nil, or_false, forall_eq_or_imp, forall_eq, List.map_cons, List.map_nil, and_assoc]
theorem litsD_i {q : SlZ} {k : Nm} {n : Nat} {is : List Nat} {ds : List D} (h1 : is = List.range n) (h2 : ∀ d ∈ ds, d.cells.all D.one = true ∧ d.cells.length = q.s) (h3 : n * q.s ≤ 16777216) (h4 : ∀ b, K (.own k b 0 n n q.s) (updS S k (some ⟨b, q.s, 0, ds.map D.cells⟩))) : litsD q k S n is ds K := ⟨h1, h2, h3, h4⟩
/-- A literal's elements are appended to a row. -/
theorem RowD.appL {q : SlZ} {k k2 : Nm} {dd : D} {els new : List (List D)} {b n cap p : Nat} (h : RowD S k q.s dd els) (hk : k ≠ k2) (hn : n = new.length) (h1 : ∀ es ∈ new, es.all D.one = true) (hl : els.length + new.length ≤ 140737488355328)
    (hb : (els.length + new.length) * q.bytes ≤ 140737488355328) (hK : ∀ d' S', RowD S' k q.s d' (els ++ new) → (∀ j, j ≠ k → S' j = updS S k2 (some ⟨b, q.s, p, new⟩) j) → K d' S') :
    appD q (updS S k2 (some ⟨b, q.s, p, new⟩)) k dd (.own k2 b 0 n cap q.s) K := by
  subst hn
  refine RowD.app (h.up (by simp [updS, hk])) (new := new) (fun K hK => ?_) hl hb hK
  rw [srcD_own]
  refine ⟨rfl, ?_⟩
  simp only [updS, if_true]
  exact ⟨rfl, rfl, by simp, h1, by simpa using hK⟩
theorem RowD.coeD {α : Type} {f : α → List G} {xs : List α} {k : Nm} {s : Nat} {dd : D} (h : RowD S k s dd (rS f xs)) (hk : ∀ S', RowD S' k s dd (rS f xs) → (∀ j, j ≠ k → S' j = S j) → K (.g (eS f xs)) S') : coeD dd S K := by
  have := h.coe hk
  rcases h with ⟨rfl, _⟩ | ⟨b, cap, p, rfl, _⟩ <;> exact this
theorem RowD.coe1 {α : Type} {f : α → List G} {xs : List α} {k : Nm} {s : Nat} {dd : D} {K : List D → Store → Prop} (h : RowD S k s dd (rS f xs)) (hk : ∀ S', RowD S' k s dd (rS f xs) → (∀ j, j ≠ k → S' j = S j) → K [.g (eS f xs)] S') : coeDs [dd] S K := by
  rw [coeDs_cons]
  exact h.coeD hk
theorem cl_agg {cs : List D} : (D.agg cs).cells = cs := rfl
theorem cl_g {x : G} : (D.g x).cells = [.g x] := rfl
theorem cl_nil : D.nil.cells = [.nil] := rfl
theorem cl_own {k : Nm} {b o n c s : Nat} : (D.own k b o n c s).cells = [.own k b o n c s] := rfl
theorem cl_ptr {k : Nm} {b o n s : Nat} : (D.ptr k b o n s).cells = [.ptr k b o n s] := rfl
theorem cl_fn {f : FuncId} {a c : List D} : (D.fn f a c).cells = [.fn f a c] := rfl
theorem on_g {x : G} : (D.g x).one = true := rfl
theorem on_nil : D.nil.one = true := rfl
theorem on_own {k : Nm} {b o n c s : Nat} : (D.own k b o n c s).one = true := rfl
theorem on_ptr {k : Nm} {b o n s : Nat} : (D.ptr k b o n s).one = true := rfl
theorem on_fn {f : FuncId} {a c : List D} : (D.fn f a c).one = true := rfl
theorem tg_g {x : G} : (D.g x).toG = some x := rfl
theorem tg_nil : D.nil.toG = some (.sl []) := rfl
theorem pgv_tt {a b : Prop} : pgv (.g (.lit (.bool true))) true a b = a := by simp [pgv]
theorem pgv_tf {a b : Prop} : pgv (.g (.lit (.bool true))) false a b = b := by simp [pgv]
theorem pgv_ft {a b : Prop} : pgv (.g (.lit (.bool false))) true a b = b := by simp [pgv]
theorem pgv_ff {a b : Prop} : pgv (.g (.lit (.bool false))) false a b = a := by simp [pgv]

/-! ### What simp may look into -/
theorem cg_runV {N : DEnv → Store → Prop} {l l' : List Ci} (h : l = l') : runV P N l e S = runV P N l' e S := by rw [h]
theorem cg_runD {N : DEnv → Store → Prop} {l l' : List (Option Ci × Nat)} (h : l = l') : runD P N l e S = runD P N l' e S := by rw [h]
theorem cg_pgv {x x' : D} (h : x = x') {w : Bool} {a b : Prop} : pgv x w a b = pgv x' w a b := by rw [h]
theorem cg_loadD {u : TypeId} {x x' : D} (h : x = x') : loadD P S u x Q = loadD P S u x' Q := by rw [h]
theorem cg_storeD {u : TypeId} {x x' y y' : D} {K : Store → Prop} (h : x = x') (h' : y = y') : storeD P S u x y K = storeD P S u x' y' K := by rw [h, h']
theorem cg_litD {x x' : D} {K : Value → Prop} (h : x = x') : litD x K = litD x' K := by rw [h]
theorem cg_lit2 {x x' y y' : D} {K : Value → Value → Prop} (h : x = x') (h' : y = y') : lit2 x y K = lit2 x' y' K := by rw [h, h']
theorem cg_idxD {x x' : D} {K : Int → Prop} (h : x = x') : idxD x K = idxD x' K := by rw [h]
theorem cg_ixD {s : Nat} {x x' : D} {i i' : Int} (h : x = x') (h' : i = i') : ixD s x i Q = ixD s x' i' Q := by rw [h, h']
theorem cg_lenD {x x' : D} (h : x = x') : lenD x Q = lenD x' Q := by rw [h]
theorem cg_slD {s : Nat} {x x' : D} {lo lo' hi hi' mx mx' : Option D} (h : x = x') (h1 : lo = lo') (h2 : hi = hi') (h3 : mx = mx') : slD s x lo hi mx Q = slD s x' lo' hi' mx' Q := by rw [h, h1, h2, h3]
theorem cg_bndD {x x' : Option D} {n : Int} {K : Int → Prop} (h : x = x') : bndD x n K = bndD x' n K := by rw [h]
theorem cg_tupD {x x' : D} {i : Nat} (h : x = x') : tupD x i Q = tupD x' i Q := by rw [h]
theorem cg_fieldD {u : TypeId} {f : Nat} {x x' : D} (h : x = x') : fieldD P u f x Q = fieldD P u f x' Q := by rw [h]
theorem cg_faddrD {u : TypeId} {f : Nat} {x x' : D} (h : x = x') : faddrD P u f x Q = faddrD P u f x' Q := by rw [h]
theorem cg_nilChD {x x' : D} (h : x = x') : nilChD x Q = nilChD x' Q := by rw [h]
theorem cg_boolD {x x' : D} {K : Bool → Prop} (h : x = x') : boolD x K = boolD x' K := by rw [h]
theorem cg_buildD {u : TypeId} {ps ps' : List (Nat × D)} (h : ps = ps') : buildD P u ps Q = buildD P u ps' Q := by rw [h]
theorem cg_callD {x x' : D} {as as' : List D} {K : FuncId → List D → Prop} (h : x = x') (h' : as = as') : callD P x as K = callD P x' as' K := by rw [h, h']
theorem cg_boxD {k : Nm} {x x' : D} (h : x = x') : boxD k S x K = boxD k S x' K := by rw [h]
theorem cg_litsD {q : SlZ} {k : Nm} {n : Nat} {is is' : List Nat} {ds ds' : List D} (h : is = is') (h' : ds = ds') : litsD q k S n is ds K = litsD q k S n is' ds' K := by rw [h, h']
theorem cg_makeD {q : SlZ} {k : Nm} {l l' c c' : D} (h : l = l') (h' : c = c') : makeD q k S l c K = makeD q k S l' c' K := by rw [h, h']
theorem cg_appD {q : SlZ} {k : Nm} {x x' y y' : D} (h : x = x') (h' : y = y') : appD q S k x y K = appD q S k x' y' K := by rw [h, h']
theorem cg_copyD {q : SlZ} {x x' y y' : D} (h : x = x') (h' : y = y') : copyD q S x y K = copyD q S x' y' K := by rw [h, h']
theorem cg_srcD {s : Nat} {x x' : D} {K : List (List D) → Prop} (h : x = x') : srcD S s x K = srcD S s x' K := by rw [h]
theorem cg_cellsD {u : TypeId} {l l' : List D} (h : l = l') : cellsD P u l Q = cellsD P u l' Q := by rw [h]
theorem cg_stCells {u : TypeId} {o : Nat} {x x' : D} {l l' : List D} {K : List D → Prop} (h : x = x') (h' : l = l') : stCells P u o x l K = stCells P u o x' l' K := by rw [h, h']
theorem cg_optB {x x' : Option Blk} {K : Blk → Prop} (h : x = x') : optB x K = optB x' K := by rw [h]
theorem cg_optL {x x' : Option (List D)} {K : List D → Prop} (h : x = x') : optL x K = optL x' K := by rw [h]
theorem cg_optD {x x' : Option D} (h : x = x') : optD x Q = optD x' Q := by rw [h]
theorem cg_optG {x x' : Option (List G)} {K : List G → Prop} (h : x = x') : optG x K = optG x' K := by rw [h]
theorem cg_optA {α : Type} {x x' : Option α} {K : α → Prop} (h : x = x') : optA x K = optA x' K := by rw [h]
theorem cg_optLL {x x' : Option (List (List G))} {K : List (List G) → Prop} (h : x = x') : optLL x K = optLL x' K := by rw [h]
theorem cg_pbin {op : BinOp} {u : TypeId} {x x' y y' : Value} {K : Value → Prop} (h : x = x') (h' : y = y') : pbin P op u x y K = pbin P op u x' y' K := by rw [h, h']
theorem cg_intV {op : BinOp} {k k' : IntKind} {a a' b b' : Int} {K : Value → Prop} (h : a = a') (h' : b = b') : intV op k a k' b K = intV op k a' k' b' K := by rw [h, h']
theorem cg_arith {k : IntKind} {a a' : Int} {K : Value → Prop} (h : a = a') : arith k a K = arith k a' K := by rw [h]
theorem cg_unV {op : UnOp} {x x' : Value} {K : Value → Prop} (h : x = x') : unV op x K = unV op x' K := by rw [h]
theorem cg_pconv {s u : TypeId} {x x' : Value} {K : Value → Prop} (h : x = x') : pconv P s u x K = pconv P s u x' K := by rw [h]
theorem cg_minD {x x' y y' : Value} {K : Value → Prop} (h : x = x') (h' : y = y') : minD x y K = minD x' y' K := by rw [h, h']
theorem cg_maxD {x x' y y' : Value} {K : Value → Prop} (h : x = x') (h' : y = y') : maxD x y K = maxD x' y' K := by rw [h, h']
theorem cg_PFC {f : FuncId} {as as' : List D} (h : as = as') : PFC P f as S K = PFC P f as' S K := by rw [h]
theorem cg_PC {f : FuncId} {as as' : List D} (h : as = as') : PC P f as Q = PC P f as' Q := by rw [h]
theorem cg_ExtC {f : FuncId} {as as' : List D} (h : as = as') : ExtC P f as S K = ExtC P f as' S K := by rw [h]
theorem cg_coeDs {as as' : List D} {K : List D → Store → Prop} (h : as = as') : coeDs as S K = coeDs as' S K := by rw [h]
theorem cg_coeD {x x' : D} (h : x = x') : coeD x S K = coeD x' S K := by rw [h]
theorem cg_coeC {x x' : D} (h : x = x') : coeC x S K = coeC x' S K := by rw [h]
theorem cg_coeCs {x x' : List D} {K : List D → Store → Prop} (h : x = x') : coeCs x S K = coeCs x' S K := by rw [h]
attribute [congr] cg_runV cg_runD cg_pgv cg_loadD cg_storeD cg_litD cg_lit2 cg_idxD cg_ixD cg_lenD cg_slD cg_bndD cg_tupD cg_fieldD cg_faddrD cg_nilChD cg_boolD cg_buildD cg_callD cg_boxD cg_litsD cg_makeD cg_appD cg_copyD cg_srcD cg_cellsD cg_stCells cg_optB cg_optL cg_optD cg_optG cg_optA cg_optLL cg_pbin cg_intV cg_arith cg_unV cg_pconv cg_minD cg_maxD cg_PFC cg_PC cg_ExtC cg_coeDs cg_coeD cg_coeC cg_coeCs
end

/-! ### Integers of 64 and fewer bits, operation by operation -/
section
variable {k : IntKind} {a b : Int} {K : Value → Prop}
theorem iv_add64 : intV .add .i64 a .i64 b K = (R64 (a + b) ∧ K (.int .i64 (a + b))) := by simp [intV, arith]
theorem iv_sub64 : intV .sub .i64 a .i64 b K = (R64 (a - b) ∧ K (.int .i64 (a - b))) := by simp [intV, arith]
theorem iv_mul64 : intV .mul .i64 a .i64 b K = (R64 (a * b) ∧ K (.int .i64 (a * b))) := by simp [intV, arith]
theorem iv_quo64 : intV .quo .i64 a .i64 b K = (b ≠ 0 ∧ R64 (a.tdiv b) ∧ K (.int .i64 (a.tdiv b))) := by simp [intV, arith]
theorem iv_rem : intV .rem k a k b K = (b ≠ 0 ∧ K (.int k (a.tmod b))) := by simp [intV]
theorem iv_eql : intV .eql k a k b K = K (.bool (decide (a = b))) := by simp [intV]
theorem iv_neq : intV .neq k a k b K = K (.bool (decide (a ≠ b))) := by simp [intV]
theorem iv_lss : intV .lss k a k b K = K (.bool (decide (a < b))) := by simp [intV]
theorem iv_leq : intV .leq k a k b K = K (.bool (decide (a ≤ b))) := by simp [intV]
theorem iv_gtr : intV .gtr k a k b K = K (.bool (decide (b < a))) := by simp [intV]
theorem iv_geq : intV .geq k a k b K = K (.bool (decide (b ≤ a))) := by simp [intV]
theorem iv_and : intV .and k a k b K = K (.int k (bitsV .and k a b)) := by simp [intV]
theorem iv_or : intV .or k a k b K = K (.int k (bitsV .or k a b)) := by simp [intV]
theorem iv_xor : intV .xor k a k b K = K (.int k (bitsV .xor k a b)) := by simp [intV]
theorem iv_shl {k' : IntKind} : intV .shl k a k' b K = (0 ≤ b ∧ K (.int k (k.wrap (a * 2 ^ (min b.toNat k.bits))))) := rfl
theorem iv_shr {k' : IntKind} : intV .shr k a k' b K = (0 ≤ b ∧ K (.int k (a.fdiv (2 ^ (min b.toNat k.bits))))) := rfl
theorem iv_addu (hk : k ≠ .i64) : intV .add k a k b K = K (.int k (k.wrap (a + b))) := by cases k <;> simp [intV, arith] at hk ⊢
theorem iv_subu (hk : k ≠ .i64) : intV .sub k a k b K = K (.int k (k.wrap (a - b))) := by cases k <;> simp [intV, arith] at hk ⊢
theorem iv_mulu (hk : k ≠ .i64) : intV .mul k a k b K = K (.int k (k.wrap (a * b))) := by cases k <;> simp [intV, arith] at hk ⊢
theorem iv_quou (hk : k ≠ .i64) : intV .quo k a k b K = (b ≠ 0 ∧ K (.int k (k.wrap (a.tdiv b)))) := by cases k <;> simp [intV, arith] at hk ⊢
end

end Go.V

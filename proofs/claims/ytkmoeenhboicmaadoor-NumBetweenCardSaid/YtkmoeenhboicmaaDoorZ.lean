/- Steps of a walk over values as data; slices of one kind of thing. No program in sight. -/
import Derived.Test.YtkmoeenhboicmaaDoorE
set_option linter.unusedSimpArgs false
set_option linter.unusedVariables false
namespace Go.V
open Go Go.RowKit

section
variable {P : Program} {N : DEnv → Store → Prop} {X : Nat → DEnv → Store → Prop} {R : DEnv → Store → Prop} {e : DEnv} {S : Store}

theorem pv_seq {a b : Code} (h : ∀ K : DEnv → Store → Prop, (∀ e S, pvc P b N X R e S → K e S) → pvc P a K X R e S) : pvc P (.seq a b) N X R e S := h _ fun _ _ h => h
theorem pv_reg {id : Nat} {l : List Oper} (h : runV P N (comp l l) e S) : pvc P (.region id l.toArray false) N X R e S := (by rw [runV_pops] at h; exact h)
theorem pv_draw {id : Nat} {l : List Oper} (pl : List (Nat × Nat)) (hp : planOk l.toArray pl = true) (h : runD P N (compD l pl) e S) : pvc P (.region id l.toArray true) N X R e S := .inl ⟨pl, hp, (by rw [runD_pd] at h; exact h)⟩
theorem pv_drawT {id : Nat} {l : List Oper} (t : PT) (hp : planTok l.toArray t = true) (h : pdT P l N t e S) : pvc P (.region id l.toArray true) N X R e S := .inr ⟨t, hp, h⟩
theorem pdT_nil {l : List Oper} : pdT P l N .nil e S = N e S := rfl
theorem pdT_lin {l : List Oper} {pl : List (Nat × Nat)} {r : PT} : pdT P l N (.lin pl r) e S = runD P (pdT P l N r) (compD l pl) e S := by rw [runD_pd]; rfl
theorem pdT_fork {l : List Oper} {i m j k : Nat} {a b : PT} : pdT P l N (.fork i m a j k b) e S = (runD P (pdT P l N a) (compD l [(i, m)]) e S ∧ runD P (pdT P l N b) (compD l [(j, k)]) e S) := by rw [runD_pd, runD_pd]; rfl
theorem cg_pdT {l : List Oper} {t : PT} : pdT P l N t e S = pdT P l N t e S := rfl
attribute [congr] cg_pdT
theorem pv_skip (h : N e S) : pvc P .skip N X R e S := h
theorem pv_exit {id : Nat} (h : X id e S) : pvc P (.exit id) N X R e S := h
theorem pv_ret (h : R e S) : pvc P .ret N X R e S := h
theorem pv_block {id : Nat} {c : Code} (h : pvc P c N (fun j e S => if j = id then N e S else X j e S) R e S) : pvc P (.block id c) N X R e S := h
theorem pv_label {l : Nat} (h : N e S) : pvc P (.label l) N X R e S := h
theorem pv_scope {c : Code} (h : pvc P c N X R e S) : pvc P (.scope c) N X R e S := h
theorem pv_condD {c : Operand} {a b : Code} {p : Prop} {inst : Decidable p} (hc : pev e c = .g (.lit (.bool (@decide p inst)))) (hT : p → pvc P a N X R e S) (hF : ¬ p → pvc P b N X R e S) : pvc P (.cond c a b) N X R e S := by
  simp only [pvc, condD, hc]
  by_cases hp : p
  · simpa [hp] using hT hp
  · simpa [hp] using hF hp
theorem pv_condB {c : Operand} {a b : Code} {t : Bool} (hc : pev e c = .g (.lit (.bool t))) (hT : t = true → pvc P a N X R e S) (hF : t = false → pvc P b N X R e S) : pvc P (.cond c a b) N X R e S := by
  simp only [pvc, condD, hc]
  cases t
  · simpa using hF rfl
  · simpa using hT rfl
theorem pv_condT {c : Operand} {a b : Code} (hc : pev e c = .g (.lit (.bool true))) (h : pvc P a N X R e S) : pvc P (.cond c a b) N X R e S := pv_condB hc (fun _ => h) (fun h => by cases h)
theorem pv_condF {c : Operand} {a b : Code} (hc : pev e c = .g (.lit (.bool false))) (h : pvc P b N X R e S) : pvc P (.cond c a b) N X R e S := pv_condB hc (fun h => by cases h) (fun _ => h)
theorem pv_loop {c : Code} (J : DEnv → Store → Prop) (m : DEnv → Store → Nat) (h0 : J e S) (h : ∀ e1 S1, J e1 S1 → pvc P c (fun e2 S2 => J e2 S2 ∧ m e2 S2 < m e1 S1) X R e1 S1) : pvc P (.loop c) N X R e S := ⟨J, m, h0, h⟩
theorem pops_cons {ops : List Oper} {o : Oper} {l : List Oper} (h : pguardV ops o e (popV P o e S fun d S' => popsV P ops N l (putD e o.dst d) S') (popsV P ops N l (putD e o.dst (.tup [])) S)) : popsV P ops N (o :: l) e S := h

/-! ### Calls -/

/-- A call of a function that answers data: K0 tells of the answer. -/
theorem call_pc {f : FuncId} {args : List D} {K0 : D → Prop} {K : D → Store → Prop} (h : PC P f args K0) (hk : ∀ d, K0 d → K d S) : PFC P f args S K := (h.mono hk).toPFC
/-- A call whose answer is known. -/
theorem call_is {f : FuncId} {args : List D} {r : D} {K : D → Store → Prop} (h : PC P f args fun d => d = r) (hk : K r S) : PFC P f args S K := call_pc h fun d hd => by subst hd; exact hk
theorem ext_is {f : FuncId} {args : List D} {r : D} {K : D → Prop} (h : PC P f args fun d => d = r) (hk : K r) : PC P f args K := h.mono fun d hd => by subst hd; exact hk

theorem cast_add_two (a : Nat) : (a : Int) + 2 = ((a + 2 : Nat) : Int) := by omega
theorem cast_zero0 : ((0 : Nat) : Int) = 0 := rfl
theorem pconv_is {s d : TypeId} {k k' : IntKind} {n : Int} {K : Value → Prop} (h : P.underlying d = some (.int k)) (hs : (P.underlying s).isSome = true) : pconv P s d (.int k' n) K = K (.int k (k.wrap n)) := by simp only [pconv, h, hs, true_and]
theorem ofVal_int {k : IntKind} {n : Int} : ofVal (.int k n) = .g (.lit (.int k n)) := rfl
theorem ofVal_bool {b : Bool} : ofVal (.bool b) = .g (.lit (.bool b)) := rfl
theorem ofVal_str {s : ByteArray} : ofVal (.string s) = .g (.lit (.string s)) := rfl
theorem ofVal_nil : ofVal (.slice none 0 0) = .nil := rfl
theorem ofVal_agg {l : List Value} : ofVal (.agg l.toArray) = .agg (l.map cellD) := rfl
theorem cellD_int {k : IntKind} {n : Int} : cellD (.int k n) = .g (.lit (.int k n)) := rfl
theorem cellD_bool {b : Bool} : cellD (.bool b) = .g (.lit (.bool b)) := rfl
theorem cellD_str {s : ByteArray} : cellD (.string s) = .g (.lit (.string s)) := rfl
theorem cellD_nil : cellD (.slice none 0 0) = .nil := rfl

theorem newV_alloc {t : TypeId} {z : List D} (hz : zeroD P t = some z) {dst : Option Nat} {ty : TypeId} {pos : String} {aft : Array Edge} {gd : Option (Nat × Bool)} {K : D → Store → Prop} :
    newV P { dst := dst, op := .alloc t, type := ty, pos := pos, after := aft, guard := gd } e S K = ∀ b, K (.ptr (.l (dst.getD 0)) b 0 0 z.length) (updS S (.l (dst.getD 0)) (some ⟨b, z.length, 0, [z]⟩)) := by simp only [newV, hz]; rfl
theorem newV_box {t : TypeId} {x : Operand} {dst : Option Nat} {ty : TypeId} {pos : String} {aft : Array Edge} {gd : Option (Nat × Bool)} {K : D → Store → Prop} :
    newV P { dst := dst, op := .box t x, type := ty, pos := pos, after := aft, guard := gd } e S K = ((pev e x).cells.all D.one = true ∧ ∀ b, K (.ptr (.l (dst.getD 0)) b 0 0 (pev e x).cells.length) (updS S (.l (dst.getD 0)) (some ⟨b, (pev e x).cells.length, 0, [(pev e x).cells]⟩))) := rfl
theorem newV_lit {t : TypeId} {n : Nat} {ps : Array (Nat × Operand)} {q : SlZ} (hq : slZ P t = some q) {dst : Option Nat} {ty : TypeId} {pos : String} {aft : Array Edge} {gd : Option (Nat × Bool)} {K : D → Store → Prop} :
    newV P { dst := dst, op := .buildSlice t n ps, type := ty, pos := pos, after := aft, guard := gd } e S K = (ps.toList.map (·.1) = List.range n ∧ (∀ d ∈ ps.toList.map (fun p => pev e p.2), d.cells.all D.one = true ∧ d.cells.length = q.s) ∧ n * q.s ≤ 16777216 ∧
        ∀ b, K (.own (.l (dst.getD 0)) b 0 n n q.s) (updS S (.l (dst.getD 0)) (some ⟨b, q.s, 0, ps.toList.map fun p => (pev e p.2).cells⟩))) := by simp only [newV, hq]; rfl
theorem newV_make {t : TypeId} {l c : Operand} {q : SlZ} (hq : slZ P t = some q) {dst : Option Nat} {ty : TypeId} {pos : String} {aft : Array Edge} {gd : Option (Nat × Bool)} {K : D → Store → Prop} :
    newV P { dst := dst, op := .makeSlice t l c, type := ty, pos := pos, after := aft, guard := gd } e S K = (idxD (pev e l) fun n => idxD (pev e c) fun m => n = m ∧ 0 ≤ n ∧ n ≤ 140737488355328 ∧ (q.bytes : Int) * n ≤ 140737488355328 ∧
      ∀ b, K (.own (.l (dst.getD 0)) b 0 n.toNat n.toNat q.s) (updS S (.l (dst.getD 0)) (some ⟨b, q.s, 0, List.replicate n.toNat q.z⟩))) := by simp only [newV, hq]; rfl

/-! ### Slices of one kind of thing -/

def eS {α : Type} (f : α → List G) (xs : List α) : G := .sl (xs.map f)
def rS {α : Type} (f : α → List G) (xs : List α) : List (List D) := gl (xs.map f)
def optA {α : Type} (o : Option α) (K : α → Prop) : Prop := match o with | some x => K x | none => False
theorem optA_some {α : Type} {x : α} {K : α → Prop} : optA (some x) K = K x := rfl
variable {α : Type} {f : α → List G} {xs : List α}

theorem sl_nil (f : α → List G) : G.sl [] = eS f [] := rfl
theorem lenD_eS {K : D → Prop} : lenD (.g (eS f xs)) K = K (.g (.lit (.int .i64 xs.length))) := by simp [eS, lenD]
theorem ixD_eS {s : Nat} {i : Int} {K : D → Prop} : ixD s (.g (eS f xs)) i K = (0 ≤ i ∧ i < xs.length ∧ optA xs[i.toNat]? fun x => (f x).length = s ∧ K (.ip (f x))) := by
  simp only [eS, ixD, List.length_map, List.getElem?_map]
  cases xs[i.toNat]? <;> rfl
theorem slD_eS {s : Nat} {lo hi mx : Option D} {K : D → Prop} (hs : ∀ x ∈ xs, (f x).length = s) : slD s (.g (eS f xs)) lo hi mx K =
    bndD lo 0 fun l => bndD hi xs.length fun h => 0 ≤ l ∧ l ≤ h ∧ h ≤ xs.length ∧ (mx.isSome = true → mx = hi) ∧ K (.g (eS f ((xs.take h.toNat).drop l.toNat))) := by
  have : ∀ es ∈ xs.map f, es.length = s := by intro es he; obtain ⟨x, hx, rfl⟩ := List.mem_map.1 he; exact hs x hx
  simp only [eS, slD, List.length_map, List.map_drop, List.map_take]
  congr; funext l; congr; funext h
  simp only [this, implies_true, true_and, eq_iff_iff]
  constructor
  · rintro ⟨h1, h2, h3, h4, _, h5⟩; exact ⟨h1, h2, h3, h4, h5⟩
  · rintro ⟨h1, h2, h3, h4, h5⟩; exact ⟨h1, h2, h3, h4, fun _ => this, h5⟩
theorem srcD_eS {s : Nat} {K : List (List D) → Prop} (hs : ∀ x ∈ xs, (f x).length = s) : srcD S s (.g (eS f xs)) K = K (rS f xs) := by
  have : ∀ es ∈ xs.map f, es.length = s := by intro es he; obtain ⟨x, hx, rfl⟩ := List.mem_map.1 he; exact hs x hx
  simp only [eS, srcD, rS, eq_iff_iff]
  exact ⟨fun h => h.2, fun h => ⟨this, h⟩⟩

theorem rS_len : (rS f xs).length = xs.length := by simp [rS, gl]
theorem rS_get {i : Nat} : (rS f xs)[i]? = (xs[i]?).map fun x => (f x).map D.g := by simp [rS, gl, Option.map_map, Function.comp_def]
theorem rS_nil : ([] : List (List D)) = rS f [] := rfl
theorem rS_app {ys : List α} : rS f xs ++ rS f ys = rS f (xs ++ ys) := by simp [rS, gl]
theorem rS_take {n : Nat} : (rS f xs).take n = rS f (xs.take n) := by simp [rS, gl, List.map_take]
theorem rS_drop {n : Nat} : (rS f xs).drop n = rS f (xs.drop n) := by simp [rS, gl, List.map_drop]
theorem rS_set {i : Nat} {y : α} {es : List D} (h : es = (f y).map D.g) : (rS f xs).set i es = rS f (xs.set i y) := by subst h; simp [rS, gl, List.map_set]
theorem rS_one {y : α} {es : List D} (h : es = (f y).map D.g) : [es] = rS f [y] := by subst h; rfl
theorem rS_rep {n : Nat} {y : α} {es : List D} (h : es = (f y).map D.g) : List.replicate n es = rS f (List.replicate n y) := by subst h; simp [rS, gl]
theorem pureLL_rS : pureLL (rS f xs) = some (xs.map f) := pureLL_gl _
theorem optLL_rS {K : List (List G) → Prop} : optLL (pureLL (rS f xs)) K = K (xs.map f) := by rw [pureLL_rS]; rfl
theorem sl_eS : G.sl (xs.map f) = eS f xs := rfl
theorem rS_ones : ∀ es ∈ rS f xs, es.all D.one = true := by
  intro es he
  simp only [rS, gl, List.mem_map] at he
  obtain ⟨a, _, rfl⟩ := he
  simp [D.one]
theorem all_g (l : List G) : (l.map D.g).all D.one = true := by simp [D.one]

/-- A row that is made by appending: nothing yet, or a block of the call's own. -/
def RowD (S : Store) (k : Nm) (s : Nat) (d : D) (els : List (List D)) : Prop := (d = .nil ∧ els = []) ∨ ∃ b cap p, d = .own k b 0 els.length cap s ∧ S k = some ⟨b, s, p, els⟩

theorem RowD.nil {k : Nm} {s : Nat} : RowD S k s .nil [] := .inl ⟨rfl, rfl⟩
theorem RowD.own {k : Nm} {b cap s p n : Nat} {els : List (List D)} (hn : n = els.length) (h : S k = some ⟨b, s, p, els⟩) : RowD S k s (.own k b 0 n cap s) els := .inr ⟨b, cap, p, by rw [hn], h⟩
theorem RowD.up {S' : Store} {k : Nm} {s : Nat} {d : D} {els : List (List D)} (h : RowD S k s d els) (hS : S' k = S k) : RowD S' k s d els := h.imp id fun ⟨b, cap, p, h1, h2⟩ => ⟨b, cap, p, h1, hS ▸ h2⟩

/-- append to such a row. -/
theorem RowD.app {q : SlZ} {k : Nm} {d src : D} {els : List (List D)} (h : RowD S k q.s d els) {new : List (List D)} {K : D → Store → Prop} (hs : ∀ K, K new → srcD S q.s src K) (hl : els.length + new.length ≤ 140737488355328)
    (hb : (els.length + new.length) * q.bytes ≤ 140737488355328) (hk : ∀ d' S', RowD S' k q.s d' (els ++ new) → (∀ j, j ≠ k → S' j = S j) → K d' S') : appD q S k d src K := by
  rcases h with ⟨rfl, rfl⟩ | ⟨b, cap, p, rfl, hS⟩
  · rw [appD_nil]
    refine hs _ ⟨by simpa using hl, by simpa using hb, fun h0 => ?_, fun h0 b' cap' => ?_⟩
    · subst h0; exact hk _ _ .nil fun _ _ => rfl
    · refine hk _ _ (.inr ⟨b', cap', 0, rfl, by simp [updS]⟩) fun j hj => by simp [updS, hj]
  · rw [appD_own, hS]
    refine ⟨rfl, rfl, rfl, rfl, rfl, hs _ ⟨hl, hb, fun b' cap' => ?_⟩⟩
    refine hk _ _ (.inr ⟨b', cap', p, by simp, by simp [updS]⟩) fun j hj => by simp [updS, hj]

/-- Such a row is handed on. -/
theorem RowD.coe {k : Nm} {s : Nat} {d : D} (h : RowD S k s d (rS f xs)) {K : D → Store → Prop} (hk : ∀ S', RowD S' k s d (rS f xs) → (∀ j, j ≠ k → S' j = S j) → K (.g (eS f xs)) S') : coeC d S K := by
  rcases h with ⟨rfl, h0⟩ | ⟨b, cap, p, rfl, hS⟩
  · have : xs = [] := by have := congrArg List.length h0; simpa [rS_len] using this
    subst this
    rw [coeC_nil]
    exact hk S .nil fun _ _ => rfl
  · rw [coeC_own, hS]
    refine ⟨rfl, rfl, by simp, ?_⟩
    simp only [List.drop_zero, List.take_length, pureLL_rS, optLL_some]
    exact hk _ (.inr ⟨b, cap, max p (0 + (rS f xs).length), rfl, by simp [updS]⟩) fun j hj => by simp [updS, hj]

theorem RowD.len {k : Nm} {s : Nat} {d : D} {els : List (List D)} (h : RowD S k s d els) {K : D → Prop} (hk : K (.g (.lit (.int .i64 els.length)))) : lenD d K := by
  rcases h with ⟨rfl, rfl⟩ | ⟨b, cap, p, rfl, hS⟩ <;> exact hk

end

/-! ### Out of the concrete contracts -/

/-- What a call may make that is read for ever. -/
def nI (I : CI) (w w' : World) : CI := fun b j => I b j ∨ (w.heap.size ≤ b ∧ b < w'.heap.size)

theorem pc_new {P : Program} {f : FuncId} {args : List D} {K : D → Prop} (h : ∀ w I vs, GI I w → RdL I w.heap args vs → FC P f vs.toArray w fun r w' => Ext w w' ∧ ∃ d, RdD (nI I w w') w'.heap d r ∧ K d) : PC P f args K := by
  intro w I vs hG hv
  refine (h w I vs hG hv).mono ?_
  rintro r w' ⟨hE, d, hd, hk⟩
  exact ⟨nI I w w', d, hE, fun b j hb => .inl hb, fun b j hb => hb.imp id And.left, fun b j hb => hb.elim (fun h => Nat.lt_of_lt_of_le (hG.old b j h) hE.size) And.right, hd, hk⟩

theorem pc_lit {P : Program} {f : FuncId} {args : List D} {K : D → Prop} (h : ∀ w I vs, GI I w → RdL I w.heap args vs → FC P f vs.toArray w fun r w' => Ext w w' ∧ r.oneCell' = true ∧ K (.g (.lit r))) : PC P f args K :=
  pc_new fun w I vs hG hv => (h w I vs hG hv).mono fun r w' ⟨hE, h1, hk⟩ => ⟨hE, _, .g (.lit r h1), hk⟩

theorem nI_sub {I : CI} {w w' : World} (b j : Nat) (h : I b j) : nI I w w' b j := .inl h

theorem RdL.one {I : CI} {H : Array Obj} {d : D} {vs : List Value} (h : RdL I H [d] vs) : ∃ v, vs = [v] ∧ RdD I H d v := by
  obtain ⟨v, r, rfl, h1, h2⟩ := h.uncons
  exact ⟨v, by rw [h2.unnil], h1⟩
theorem RdL.two {I : CI} {H : Array Obj} {d d' : D} {vs : List Value} (h : RdL I H [d, d'] vs) : ∃ v v', vs = [v, v'] ∧ RdD I H d v ∧ RdD I H d' v' := by
  obtain ⟨v, r, rfl, h1, h2⟩ := h.uncons
  obtain ⟨v', rfl, h3⟩ := h2.one
  exact ⟨v, v', rfl, h1, h3⟩
theorem RdL.three {I : CI} {H : Array Obj} {d d' d'' : D} {vs : List Value} (h : RdL I H [d, d', d''] vs) : ∃ v v' v'', vs = [v, v', v''] ∧ RdD I H d v ∧ RdD I H d' v' ∧ RdD I H d'' v'' := by
  obtain ⟨v, r, rfl, h1, h2⟩ := h.uncons
  obtain ⟨v', v'', rfl, h3, h4⟩ := h2.two
  exact ⟨v, v', v'', rfl, h1, h3, h4⟩

end Go.V

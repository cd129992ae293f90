/- Contracts, regions and code over values as data. No program in sight. -/
import Derived.Test.YtkmoeenhboicmaaDoorU
set_option linter.unusedSimpArgs false
set_option linter.unusedVariables false
namespace Go.V
open Go Go.RowKit

section
variable {P : Program} {I : CI} {S : Store} {w : World} {e : DEnv} {e' : Env}

/-! ### What is handed on is frozen -/

def coeC (d : D) (S : Store) (K : D → Store → Prop) : Prop := match d with
  | .own k b o n _ s => optB (S k) fun B => B.b = b ∧ B.s = s ∧ o + n ≤ B.els.length ∧ (match pureLL ((B.els.drop o).take n) with
    | some gs => K (.g (.sl gs)) (updS S k (some ⟨B.b, B.s, max B.p (o + n), B.els⟩))
    | none => False)
  | .nil => K (.g (.sl [])) S
  | d => K d S
def optLL (o : Option (List (List G))) (K : List (List G) → Prop) : Prop := match o with | some x => K x | none => False
theorem optLL_some {x : List (List G)} {K : List (List G) → Prop} : optLL (some x) K = K x := rfl
theorem coeC_own {k : Nm} {b o n c s : Nat} {K : D → Store → Prop} : coeC (.own k b o n c s) S K = optB (S k) fun B => B.b = b ∧ B.s = s ∧ o + n ≤ B.els.length ∧ optLL (pureLL ((B.els.drop o).take n)) fun gs => K (.g (.sl gs)) (updS S k (some ⟨B.b, B.s, max B.p (o + n), B.els⟩)) := rfl
theorem coeC_nil {K : D → Store → Prop} : coeC .nil S K = K (.g (.sl [])) S := rfl
theorem coeC_g {x : G} {K : D → Store → Prop} : coeC (.g x) S K = K (.g x) S := rfl
theorem coeC_ptr {k : Nm} {b i off s : Nat} {K : D → Store → Prop} : coeC (.ptr k b i off s) S K = K (.ptr k b i off s) S := rfl
theorem coeC_fn {f : Nat} {a c : List D} {K : D → Store → Prop} : coeC (.fn f a c) S K = K (.fn f a c) S := rfl
def coeCs : List D → Store → (List D → Store → Prop) → Prop
  | [], S, K => K [] S
  | d :: r, S, K => coeC d S fun d' S' => coeCs r S' fun r' S'' => K (d' :: r') S''
theorem coeCs_nil {K : List D → Store → Prop} : coeCs [] S K = K [] S := rfl
theorem coeCs_cons {d : D} {r : List D} {K : List D → Store → Prop} : coeCs (d :: r) S K = coeC d S fun d' S' => coeCs r S' fun r' S'' => K (d' :: r') S'' := rfl
def coeD (d : D) (S : Store) (K : D → Store → Prop) : Prop := match d with
  | .agg cs => coeCs cs S fun cs' S' => K (.agg cs') S'
  | d => coeC d S K
theorem coeD_agg {cs : List D} {K : D → Store → Prop} : coeD (.agg cs) S K = coeCs cs S fun cs' S' => K (.agg cs') S' := rfl
theorem coeD_g {x : G} {K : D → Store → Prop} : coeD (.g x) S K = K (.g x) S := rfl
theorem coeD_nil {K : D → Store → Prop} : coeD .nil S K = K (.g (.sl [])) S := rfl
theorem coeD_own {k : Nm} {b o n c s : Nat} {K : D → Store → Prop} : coeD (.own k b o n c s) S K = coeC (.own k b o n c s) S K := rfl
theorem coeD_ptr {k : Nm} {b i off s : Nat} {K : D → Store → Prop} : coeD (.ptr k b i off s) S K = K (.ptr k b i off s) S := rfl
theorem coeD_fn {f : Nat} {a c : List D} {K : D → Store → Prop} : coeD (.fn f a c) S K = K (.fn f a c) S := rfl
def coeDs : List D → Store → (List D → Store → Prop) → Prop
  | [], S, K => K [] S
  | d :: r, S, K => coeD d S fun d' S' => coeDs r S' fun r' S'' => K (d' :: r') S''
theorem coeDs_nil {K : List D → Store → Prop} : coeDs [] S K = K [] S := rfl
theorem coeDs_cons {d : D} {r : List D} {K : List D → Store → Prop} : coeDs (d :: r) S K = coeD d S fun d' S' => coeDs r S' fun r' S'' => K (d' :: r') S'' := rfl
theorem coeCs_pure (l : List G) {K : List D → Store → Prop} : coeCs (l.map D.g) S K = K (l.map D.g) S := by
  induction l generalizing S K with
  | nil => rfl
  | cons a r ih => simp only [List.map_cons, coeCs_cons, coeC_g, ih]

theorem coeC_sound (hR : Rel I S w) {d : D} {v : Value} (hd : RdD I w.heap d v) {K : D → Store → Prop} (h : coeC d S K) : ∃ I' S' d', Stp I S w I' S' w ∧ Rel I' S' w ∧ RdD I' w.heap d' v ∧ K d' S' := by
  cases d with
  | own k b o n c s =>
    rw [coeC_own] at h
    obtain ⟨B, hk, rfl, rfl, hon, h⟩ := optB_cases h
    unfold optLL at h
    split at h
    · rename_i gs hg
      obtain ⟨r1, r2⟩ := hR.freeze hk (o + n) hon
      have := hR.thaw (b := B.b) (s := B.s) (p := B.p) (els := B.els) hk hd hg hon
      exact ⟨_, _, _, r2, r1, .g this, h⟩
    · exact h.elim
  | nil => cases hd; exact ⟨I, S, _, Stp.refl _ _ _, hR, .g .nil, h⟩
  | _ => exact ⟨I, S, _, Stp.refl _ _ _, hR, hd, h⟩

theorem coeCs_sound : ∀ (ds : List D) {I : CI} {S : Store} (hR : Rel I S w) {vs : List Value} (hd : RdL I w.heap ds vs) {K : List D → Store → Prop} (h : coeCs ds S K), ∃ I' S' ds', Stp I S w I' S' w ∧ Rel I' S' w ∧ RdL I' w.heap ds' vs ∧ K ds' S'
  | [], I, S, hR, vs, hd, K, h => ⟨I, S, [], Stp.refl _ _ _, hR, hd, h⟩
  | d :: r, I, S, hR, vs, hd, K, h => by
    obtain ⟨v, us, rfl, h1, h2⟩ := hd.uncons
    obtain ⟨I1, S1, d1, s1, r1, q1, h⟩ := coeC_sound hR h1 h
    obtain ⟨I2, S2, d2, s2, r2, q2, h⟩ := coeCs_sound r r1 (h2.mono s1.sub (HEv.refl _ _)) h
    exact ⟨I2, S2, _, s1.trans s2, r2, .cons (q1.mono s2.sub (HEv.refl _ _)) q2, h⟩

theorem coeD_sound (hR : Rel I S w) {d : D} {v : Value} (hd : RdD I w.heap d v) {K : D → Store → Prop} (h : coeD d S K) : ∃ I' S' d', Stp I S w I' S' w ∧ Rel I' S' w ∧ RdD I' w.heap d' v ∧ K d' S' := by
  unfold coeD at h
  split at h
  · obtain ⟨vs, rfl, hl⟩ := hd.agg_inv
    obtain ⟨I1, S1, d1, s1, r1, q1, h⟩ := coeCs_sound _ hR hl h
    exact ⟨I1, S1, _, s1, r1, RdD.ofL q1, h⟩
  · exact coeC_sound hR hd h

theorem coeDs_sound : ∀ (ds : List D) {I : CI} {S : Store} (hR : Rel I S w) {vs : List Value} (hd : RdL I w.heap ds vs) {K : List D → Store → Prop} (h : coeDs ds S K), ∃ I' S' ds', Stp I S w I' S' w ∧ Rel I' S' w ∧ RdL I' w.heap ds' vs ∧ K ds' S'
  | [], I, S, hR, vs, hd, K, h => ⟨I, S, [], Stp.refl _ _ _, hR, hd, h⟩
  | d :: r, I, S, hR, vs, hd, K, h => by
    obtain ⟨v, us, rfl, h1, h2⟩ := hd.uncons
    obtain ⟨I1, S1, d1, s1, r1, q1, h⟩ := coeD_sound hR h1 h
    obtain ⟨I2, S2, d2, s2, r2, q2, h⟩ := coeDs_sound r r1 (h2.mono s1.sub (HEv.refl _ _)) h
    exact ⟨I2, S2, _, s1.trans s2, r2, .cons (q1.mono s2.sub (HEv.refl _ _)) q2, h⟩

/-! ### Contracts -/

/-- A call, with all that the caller owns. -/
def PFC (P : Program) (f : FuncId) (args : List D) (S : Store) (K : D → Store → Prop) : Prop :=
  ∀ (w : World) (I : CI) (vs : List Value), Rel I S w → RdL I w.heap args vs → FC P f vs.toArray w fun r w' => ∃ I' S' d, Stp I S w I' S' w' ∧ Rel I' S' w' ∧ RdD I' w'.heap d r ∧ K d S'

/-- A call that turns nothing that was there. -/
def PC (P : Program) (f : FuncId) (args : List D) (K : D → Prop) : Prop :=
  ∀ (w : World) (I : CI) (vs : List Value), GI I w → RdL I w.heap args vs → FC P f vs.toArray w fun r w' => ∃ I' d, Ext w w' ∧ (∀ b j, I b j → I' b j) ∧ (∀ b j, I' b j → I b j ∨ w.heap.size ≤ b) ∧
    (∀ b j, I' b j → b < w'.heap.size) ∧ RdD I' w'.heap d r ∧ K d

theorem PC.mono {f : FuncId} {args : List D} {K K' : D → Prop} (h : PC P f args K) (hk : ∀ d, K d → K' d) : PC P f args K' := fun w I vs h1 h2 =>
  (h w I vs h1 h2).mono fun _ _ ⟨I', d, a, b, c, d', e, f⟩ => ⟨I', d, a, b, c, d', e, hk _ f⟩
theorem PFC.mono {f : FuncId} {args : List D} {K K' : D → Store → Prop} (h : PFC P f args S K) (hk : ∀ d S, K d S → K' d S) : PFC P f args S K' := fun w I vs h1 h2 =>
  (h w I vs h1 h2).mono fun _ _ ⟨I', S', d, a, b, c, d'⟩ => ⟨I', S', d, a, b, c, hk _ _ d'⟩

theorem PC.toPFC {f : FuncId} {args : List D} {K : D → Store → Prop} (h : PC P f args fun d => K d S) : PFC P f args S K := fun w I vs hR hv =>
  (h w I vs hR.gi hv).mono fun r w' ⟨I', d, hE, hI, hn, ho, hd, hk⟩ => ⟨I', S, d, Stp.of_ext hE hI hn hR.old, hR.ext hE hI hn ho, hd, hk⟩

/-- What is handed over reads as data for the callee. -/
theorem PFC.coe {f : FuncId} {args : List D} {K : D → Store → Prop} (h : coeDs args S fun args' S' => PFC P f args' S' K) : PFC P f args S K := fun w I vs hR hv => by
  obtain ⟨I1, S1, ds, s1, r1, q1, h⟩ := coeDs_sound args hR hv h
  exact (h w I1 vs r1 q1).mono fun r w' ⟨I', S', d, a, b, c, k⟩ => ⟨I', S', d, s1.trans a, b, c, k⟩

/-! ### Operations -/

def dnm (o : Oper) : Nm := .l (o.dst.getD 0)

def callD (P : Program) (d : D) (args : List D) (K : FuncId → List D → Prop) : Prop := match d with
  | .fn f first caps => K f (first ++ args ++ caps)
  | _ => False
theorem callD_fn {f : FuncId} {first caps args : List D} {K : FuncId → List D → Prop} : callD P (.fn f first caps) args K = K f (first ++ args ++ caps) := rfl

/-- New blocks: what they are alike to be with or without calls beside them. -/
def newV (P : Program) (o : Oper) (e : DEnv) (S : Store) (K : D → Store → Prop) : Prop := match o.op with
  | .alloc t => (match zeroD P t with | some z => ∀ b, K (.ptr (dnm o) b 0 0 z.length) (updS S (dnm o) (some ⟨b, z.length, 0, [z]⟩)) | none => False)
  | .box t x => (pev e x).cells.all D.one = true ∧ ∀ b, K (.ptr (dnm o) b 0 0 (pev e x).cells.length) (updS S (dnm o) (some ⟨b, (pev e x).cells.length, 0, [(pev e x).cells]⟩))
  | .buildSlice t n ps => (match slZ P t with
    | some q => ps.toList.map (·.1) = List.range n ∧ (∀ d ∈ ps.toList.map (fun p => pev e p.2), d.cells.all D.one = true ∧ d.cells.length = q.s) ∧ n * q.s ≤ 16777216 ∧
        ∀ b, K (.own (dnm o) b 0 n n q.s) (updS S (dnm o) (some ⟨b, q.s, 0, ps.toList.map fun p => (pev e p.2).cells⟩))
    | none => False)
  | .makeSlice t l c => (match slZ P t with
    | some q => idxD (pev e l) fun n => idxD (pev e c) fun m => n = m ∧ 0 ≤ n ∧ n ≤ 140737488355328 ∧ (q.bytes : Int) * n ≤ 140737488355328 ∧ ∀ b, K (.own (dnm o) b 0 n.toNat n.toNat q.s) (updS S (dnm o) (some ⟨b, q.s, 0, List.replicate n.toNat q.z⟩))
    | none => False)
  | _ => False

def popV (P : Program) (o : Oper) (e : DEnv) (S : Store) (K : D → Store → Prop) : Prop := match o.op with
  | .alloc _ | .box _ _ | .buildSlice _ _ _ | .makeSlice _ _ _ => newV P o e S K
  | .load t a => loadD P S t (pev e a) fun d => K d S
  | .store t a x => storeD P S t (pev e a) (pev e x) fun S' => K (.tup []) S'
  | .call c => (match c.callee with
    | .value x => callD P (pev e x) (c.args.toList.map (pev e)) fun f args => PFC P f args S K
    | .builtin .append => (match c.argTypes.toList, c.args.toList with
      | [t, t'], [x, y] => t' = t ∧ (match slZ P t with | some q => appD q S (dnm o) (pev e x) (pev e y) K | none => False)
      | _, _ => False)
    | .builtin .copy => (match c.argTypes.toList, c.args.toList with
      | [t, t'], [x, y] => t' = t ∧ (match slZ P t with | some q => copyD q S (pev e x) (pev e y) K | none => False)
      | _, _ => False)
    | _ => ppureV P o e fun d => K d S)
  | _ => ppureV P o e fun d => K d S

/-- Beside a load that may come later or ahead: old memory stays. -/
def pextV (P : Program) (o : Oper) (e : DEnv) (S : Store) (K : D → Store → Prop) : Prop := match o.op with
  | .alloc _ | .box _ _ | .buildSlice _ _ _ | .makeSlice _ _ _ => newV P o e S K
  | .call c => (match c.callee with
    | .value x => callD P (pev e x) (c.args.toList.map (pev e)) fun f args => coeDs args S fun args' S' => PC P f args' fun d => K d S'
    | _ => False)
  | _ => False

abbrev Post (I : CI) (S : Store) (w : World) (K : D → Store → Prop) : Value → World → Prop := fun v w' => ∃ I' S' d, Stp I S w I' S' w' ∧ Rel I' S' w' ∧ RdD I' w'.heap d v ∧ K d S'

theorem parts_range {n : Nat} {ps : List (Nat × Operand)} (h : ps.map (·.1) = List.range n) (g : Operand → Value) : ps.map (fun (i, x) => (i, g x)) = partsFrom 0 (ps.map fun p => g p.2) ∧ ps.length = n := by
  have hn : ps.length = n := by have := congrArg List.length h; simpa using this
  refine ⟨?_, hn⟩
  have key : ∀ (ps : List (Nat × Operand)) (k : Nat), ps.map (·.1) = List.range' k ps.length → ps.map (fun (i, x) => (i, g x)) = partsFrom k (ps.map fun p => g p.2) := by
    intro ps
    induction ps with
    | nil => intro k _; rfl
    | cons p r ih =>
      intro k hk
      simp only [List.map_cons, List.length_cons, List.range'_succ] at hk
      injection hk with h1 h2
      simp only [List.map_cons, partsFrom, ih (k + 1) h2, h1]
  refine key ps 0 ?_
  rw [h, List.range_eq_range', hn]

theorem newV_sound (he : EnvR I w.heap e e') (hR : Rel I S w) {o : Oper} {K : D → Store → Prop} (h : newV P o e S K) : opV P o e' w fun v w' => Ext w w' ∧ Post I S w K v w' := by
  obtain ⟨dst, op, ty, pos, aft, gd⟩ := o
  cases op <;> simp only [newV] at h <;> simp only [opV]
  case alloc t =>
    split at h
    · rename_i z hz
      obtain ⟨v, w', h1, h2, h3⟩ := alloc_sound (P := P) hR hz (k := dnm ⟨dst, .alloc t, ty, pos, aft, gd⟩) (K := K) h
      exact ⟨v, w', h1, h2, h3⟩
    · exact h.elim
  case box t x =>
    obtain ⟨v, w', h1, h2, h3⟩ := box_sound (P := P) hR (t := t) (he.ev x) h.1 (K := K) h.2
    exact ⟨v, w', h1, h2, h3⟩
  case buildSlice t n ps =>
    split at h
    · rename_i q hq
      obtain ⟨h1, h2, h3, h4⟩ := h
      obtain ⟨e1, e2⟩ := parts_range h1 (V.ev e')
      have hd : RdL I w.heap (ps.toList.map fun p => pev e p.2) (ps.toList.map fun p => V.ev e' p.2) := by
        have := he.evs (ps.toList.map (·.2))
        simpa [Function.comp_def] using this
      obtain ⟨v, w', h5, h6, h7⟩ := lit_sound (P := P) hR hq hd h2 (by simpa [e2] using h3) (k := dnm ⟨dst, .buildSlice t n ps, ty, pos, aft, gd⟩) (K := K) (by
        intro b
        have := h4 b
        simp only [List.length_map, e2, List.map_map]
        exact this)
      refine ⟨v, w', ?_, h6, h7⟩
      have e3 : (ps.map fun (i, x) => (i, V.ev e' x)) = (partsFrom 0 (ps.toList.map fun p => V.ev e' p.2)).toArray := by
        apply Array.ext'
        simpa using e1
      rw [e3]
      simp only [List.length_map, e2] at h5
      exact h5
    · exact h.elim
  case makeSlice t l c =>
    split at h
    · rename_i q hq
      obtain ⟨kl, n, hl, h⟩ := idxD_cases h
      obtain ⟨kc, m, hc, rfl, h0, h47, hb, h⟩ := idxD_cases h
      have h1 := he.ev l
      have h2 := he.ev c
      rw [hl] at h1; rw [hc] at h2
      rw [h1.lit_inv, h2.lit_inv]
      obtain ⟨n, rfl⟩ := Int.eq_ofNat_of_zero_le h0
      obtain ⟨v, w', h5, h6, h7⟩ := make_sound (P := P) hR hq (n := n) (kl := kl) (kc := kc) (by rw [← Int.natCast_mul] at hb; omega) (by omega) (K := K) h
      exact ⟨v, w', h5, h6, h7⟩
    · exact h.elim
  all_goals exact h.elim

theorem FC.arr {f : FuncId} {a : Array Value} {K : Value → World → Prop} (h : FC P f a.toList.toArray w K) : FC P f a w K := h

theorem callD_sound (he : EnvR I w.heap e e') {x : Operand} {args : Array Operand} {Q : FuncId → List D → Prop} (h : callD P (pev e x) (args.toList.map (pev e)) Q) {K : Value → World → Prop} {ats : Array TypeId} {ty : TypeId}
    (hk : ∀ f ds vs, Q f ds → RdL I w.heap ds vs → FC P f vs.toArray w K) : callV P e' { callee := .value x, args := args, argTypes := ats } ty w K := by
  unfold callD at h
  have hr := he.ev x
  split at h
  · rename_i f first caps hx
    rw [hx] at hr
    have hargs := he.evs args.toList
    have key : ∀ (vs us : List Value), V.ev e' x = .func (.func f) vs.toArray us.toArray → RdL I w.heap first vs → RdL I w.heap caps us → FC P f (vs.toArray ++ args.map (V.ev e') ++ us.toArray) w K := by
      intro vs us _ h1 h2
      have := hk f _ _ h ((h1.app hargs).app h2)
      have e : (vs ++ args.toList.map (V.ev e') ++ us).toArray = vs.toArray ++ args.map (V.ev e') ++ us.toArray := by apply Array.ext'; simp
      rw [e] at this
      exact this
    cases x with
    | func g =>
      simp only [pev] at hx
      injection hx with h1 h2 h3
      subst h1; subst h2; subst h3
      have := key [] [] rfl .nil .nil
      simpa [callV] using this
    | tmp t =>
      simp only [callV]
      generalize V.ev e' (.tmp t) = u at hr key ⊢
      cases hr with | fn _ _ _ vs us h1 h2 h3 h4 => exact key vs us rfl ⟨h1, h3⟩ ⟨h2, h4⟩
    | const t =>
      simp only [callV]
      generalize V.ev e' (.const t) = u at hr key ⊢
      cases hr with | fn _ _ _ vs us h1 h2 h3 h4 => exact key vs us rfl ⟨h1, h3⟩ ⟨h2, h4⟩
    | global t => simp [pev] at hx
  · exact h.elim

theorem pureV_opV {o : Oper} {K : Value → Prop} (h : pureV P o e' K) : After P (fun v w' => w' = w ∧ K v) ((execOp (V.ev e') o).run P w) := by
  obtain ⟨v, h1, h2⟩ := pureV_sound h
  rw [h1 w]
  exact ⟨rfl, h2⟩

theorem After.weak {K K' : Value → World → Prop} {r : Result Next} (h : After P K r) (hk : ∀ v w, K v w → K' v w) : After P K' r := h.mono hk

theorem popV_sound (he : EnvR I w.heap e e') (hR : Rel I S w) {o : Oper} {K : D → Store → Prop} (h : popV P o e S K) : After P (Post I S w K) ((execOp (V.ev e') o).run P w) := by
  have pure_ : ppureV P o e (fun d => K d S) → After P (Post I S w K) ((execOp (V.ev e') o).run P w) := fun h =>
    (pureV_opV (ppure_sound he h)).mono fun v w' ⟨hw, d, hd, hk⟩ => by subst hw; exact ⟨I, S, d, Stp.refl _ _ _, hR, hd, hk⟩
  have new_ : newV P o e S K → After P (Post I S w K) ((execOp (V.ev e') o).run P w) := fun h => (opV_sound (newV_sound he hR h)).mono fun v w' h => h.2
  have op_ : opV P o e' w (Post I S w K) → After P (Post I S w K) ((execOp (V.ev e') o).run P w) := opV_sound
  obtain ⟨dst, op, ty, pos, aft, gd⟩ := o
  cases op <;> simp only [popV] at h <;> first | exact pure_ h | exact new_ h | skip
  case load t a =>
    obtain ⟨u, h1, d, h2, h3⟩ := loadD_sound (P := P) hR (he.ev a) h
    exact op_ ⟨u, h1 w (Below.refl _ _), I, S, d, Stp.refl _ _ _, hR, h2, h3⟩
  case store t a x =>
    obtain ⟨w', h1, I', S', h2, h3, h4⟩ := storeD_sound (P := P) hR (he.ev a) (he.ev x) h
    exact op_ ⟨w', h1, I', S', _, h2, h3, RdD.ofT .nil, h4⟩
  case call c =>
    obtain ⟨callee, args, ats⟩ := c
    cases callee with
    | value x => exact op_ (callD_sound he h fun f ds vs hq hv => hq w I vs hR hv)
    | invoke r m => exact pure_ h
    | builtin b =>
      cases b <;> first | exact pure_ h | skip
      all_goals simp only at h
      all_goals split at h
      rotate_left 2
      · rename_i t t' x y ht hx
        obtain ⟨rfl, h⟩ := h
        split at h
        · rename_i q hq
          obtain ⟨r, w', h1, h2⟩ := copyD_sound (P := P) hR hq (he.ev x) (he.ev y) h rfl ty
          refine op_ ?_
          simp only [opV, callV]
          have e1 : ats = #[t', t'] := by apply Array.ext'; simpa using ht
          have e2 : args.map (V.ev e') = #[V.ev e' x, V.ev e' y] := by apply Array.ext'; simp [hx]
          rw [e1, e2]
          exact ⟨r, w', h1, h2⟩
        · exact h.elim
      · exact h.elim
      · rename_i t t' x y ht hx
        obtain ⟨rfl, h⟩ := h
        split at h
        · rename_i q hq
          obtain ⟨r, w', h1, h2⟩ := appD_sound (P := P) hR hq (he.ev x) (he.ev y) h rfl ty
          refine op_ ?_
          simp only [opV, callV]
          have e1 : ats = #[t', t'] := by apply Array.ext'; simpa using ht
          have e2 : args.map (V.ev e') = #[V.ev e' x, V.ev e' y] := by apply Array.ext'; simp [hx]
          rw [e1, e2]
          exact ⟨r, w', h1, h2⟩
        · exact h.elim
      · exact h.elim

theorem pextV_sound (he : EnvR I w.heap e e') (hR : Rel I S w) {o : Oper} {K : D → Store → Prop} (h : pextV P o e S K) : After P (fun v w' => Ext w w' ∧ Post I S w K v w') ((execOp (V.ev e') o).run P w) := by
  have new_ : newV P o e S K → After P (fun v w' => Ext w w' ∧ Post I S w K v w') ((execOp (V.ev e') o).run P w) := fun h => opV_sound (newV_sound he hR h)
  have op_ : opV P o e' w (fun v w' => Ext w w' ∧ Post I S w K v w') → After P (fun v w' => Ext w w' ∧ Post I S w K v w') ((execOp (V.ev e') o).run P w) := opV_sound
  obtain ⟨dst, op, ty, pos, aft, gd⟩ := o
  cases op <;> simp only [pextV] at h <;> first | exact h.elim | exact new_ h | skip
  case call c =>
    obtain ⟨callee, args, ats⟩ := c
    cases callee with
    | value x =>
      refine op_ (callD_sound he h fun f ds vs hq hv => ?_)
      obtain ⟨I1, S1, ds1, s1, r1, q1, hq⟩ := coeDs_sound ds hR hv hq
      exact (hq w I1 vs r1.gi q1).mono fun r w' ⟨I', d, hE, hI, hn, ho, hd, hk⟩ => ⟨hE, I', S1, d, s1.trans (Stp.of_ext hE hI hn r1.old), r1.ext hE hI hn ho, hd, hk⟩
    | invoke r m => exact h.elim
    | builtin b => exact h.elim

end
end Go.V

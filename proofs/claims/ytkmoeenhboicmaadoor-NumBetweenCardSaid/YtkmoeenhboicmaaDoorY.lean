/- Regions and code over values as data. No program in sight. -/
import Derived.Test.YtkmoeenhboicmaaDoorX
set_option linter.unusedSimpArgs false
set_option linter.unusedVariables false
namespace Go.V
open Go Go.RowKit

section
variable {P : Program}

/-- A state that came of another one. -/
structure At (I0 : CI) (S0 : Store) (w0 : World) (N : DEnv → Store → Prop) (e' : Env) (w : World) : Prop where
  mk ::
  ex : ∃ I S e, Stp I0 S0 w0 I S w ∧ Rel I S w ∧ EnvR I w.heap e e' ∧ N e S

def pgv (d : D) (want : Bool) (run skip : Prop) : Prop := match d with
  | .g (.lit (.bool b)) => if b = want then run else skip
  | .tup [] => skip
  | _ => False
theorem pgv_bool {b want : Bool} {run skip : Prop} : pgv (.g (.lit (.bool b))) want run skip = if b = want then run else skip := rfl
theorem pgv_tup {want : Bool} {run skip : Prop} : pgv (.tup []) want run skip = skip := rfl
def pguardV (ops : List Oper) (o : Oper) (e : DEnv) (run skip : Prop) : Prop :=
  match o.guard with
  | none => run
  | some (j, want) => (match (ops[j]?).bind (·.dst) with
    | some d => pgv (e d) want run skip
    | none => skip)

theorem pguard_sound {I : CI} {H : Array Obj} {e : DEnv} {e' : Env} (he : EnvR I H e e') {ops : List Oper} {o : Oper} {run skip : Prop} (h : pguardV ops o e run skip) {run' skip' : Prop} (hr : run → run') (hs : skip → skip') : guardV ops o e' run' skip' := by
  unfold pguardV at h
  unfold guardV
  split at h
  · rename_i hg; rw [hg]; exact hr h
  · rename_i j want hg
    rw [hg]
    simp only
    split at h
    · rename_i d hd
      rw [hd]
      simp only
      have hrd := he d
      unfold pgv at h
      split at h
      · rename_i b hb
        rw [hb] at hrd
        rw [hrd.lit_inv]
        simp only [gv]
        split at h
        · rename_i hbw; rw [if_pos hbw]; exact hr h
        · rename_i hbw; rw [if_neg hbw]; exact hs h
      · rename_i hb
        rw [hb] at hrd
        obtain ⟨vs, hv, hl⟩ := hrd.tup_inv
        rw [hv]
        exact hs h
      · exact h.elim
    · rename_i hd
      rw [hd]
      exact hs h

def popsV (P : Program) (ops : List Oper) (N : DEnv → Store → Prop) : List Oper → DEnv → Store → Prop
  | [], e, S => N e S
  | o :: r, e, S => pguardV ops o e (popV P o e S fun d S' => popsV P ops N r (putD e o.dst d) S') (popsV P ops N r (putD e o.dst (.tup [])) S)

theorem undef_rd (I : CI) (H : Array Obj) : RdD I H (.tup []) undef := RdD.ofT .nil

theorem popsV_sound {n : Nat} {ops : List Oper} {N : DEnv → Store → Prop} {I0 : CI} {S0 : Store} {w0 : World} {Q : Exit → Act → World → Prop} (hQ : ∀ e' a w, Rep n e' a → At I0 S0 w0 N e' w → Q .normal a w) :
    ∀ (l : List Oper) (I : CI) (S : Store) (e : DEnv) (e' : Env) (a : Act) (w : World), fitsOps n l = true → Rep n e' a → EnvR I w.heap e e' → Rel I S w → Stp I0 S0 w0 I S w → popsV P ops N l e S → wpList P ops.toArray Q l a w
  | [], I, S, e, e', a, w, _, hr, he, hR, hS, h => hQ e' a w hr ⟨I, S, e, hS, hR, he, h⟩
  | o :: r, I, S, e, e', a, w, hf, hr, he, hR, hS, h => by
    have hd := fits_dst hf (List.mem_cons_self ..)
    have hf' : fitsOps n r = true := by simp only [fitsOps, List.all_cons, Bool.and_eq_true] at hf; exact hf.2
    unfold wpList
    have h' : guardV ops o e' (popV P o e S fun d S' => popsV P ops N r (putD e o.dst d) S') (popsV P ops N r (putD e o.dst (.tup [])) S) := pguard_sound he h id id
    rcases guardV_cases hr h' with ⟨hw, h⟩ | ⟨hw, h⟩
    · rw [if_pos hw]
      left
      unfold Oper.wp
      rw [hr.eval]
      refine (popV_sound he hR h).upon fun v w' ⟨I', S', d, s1, r1, hd', hk⟩ => ?_
      exact popsV_sound hQ r I' S' _ _ _ _ hf' (hr.put hd v) ((he.mono s1.sub s1.ev).put hd' _) r1 (hS.trans s1) hk
    · rw [if_neg (by simp [hw])]
      exact popsV_sound hQ r I S _ _ _ _ hf' (hr.put hd undef) (he.put (undef_rd _ _) _) hR hS h

def pmodeV (P : Program) (o : Oper) (m : Nat) (e : DEnv) (S : Store) (K : D → Store → Prop) : Prop :=
  match m with
  | 0 => ppureV P o e (fun d => K d S)
  | 1 => (match o.op with | .load t a => loadD P S t (pev e a) (fun d => K d S) | _ => False)
  | 2 => (match o.op with | .load t a => loadD P S t (pev e a) (fun d => K d S) | _ => False)
  | 3 => popV P o e S K
  | _ => pextV P o e S K

def pdV (P : Program) (ops : List Oper) (N : DEnv → Store → Prop) : List (Nat × Nat) → DEnv → Store → Prop
  | [], e, S => N e S
  | (i, m) :: r, e, S => (match ops[i]? with
    | none => False
    | some o => pguardV ops o e (pmodeV P o m e S (fun d S' => pdV P ops N r (putD e o.dst d) S')) (pdV P ops N r (putD e o.dst (.tup [])) S))

theorem pdV_sound {n : Nat} {ops : List Oper} {mode : Nat → Nat} {N : DEnv → Store → Prop} {I0 : CI} {S0 : Store} {w0 : World} {Q : Exit → Act → World → Prop} (hs : Region.noSelect ops.toArray = true) (hQ : ∀ c a w, ¬ Q (.panic c) a w)
    (hN : ∀ e' a w, Rep n e' a → At I0 S0 w0 N e' w → Q .normal a w) (hf : fitsOps n ops = true) :
    ∀ (pl : List (Nat × Nat)) (listed : Array Bool) (I : CI) (S : Store) (e : DEnv) (e' : Env) (a : Act) (w : World), planFrom ops.toArray mode pl listed = true → Rep n e' a → EnvR I w.heap e e' → Rel I S w → Stp I0 S0 w0 I S w →
      pdV P ops N pl e S → wpAnyC P ops.toArray mode Q pl.length listed a w
  | [], listed, I, S, e, e', a, w, hp, hr, he, hR, hS, h => ⟨by simpa [planFrom] using hp, hN e' a w hr ⟨I, S, e, hS, hR, he, h⟩⟩
  | (i, m) :: r, listed, I, S, e, e', a, w, hp, hr, he, hR, hS, h => by
    simp only [planFrom, Bool.and_eq_true] at hp
    obtain ⟨hp, hp'⟩ := hp
    unfold pdV at h
    cases ho : ops[i]? with
    | none => rw [ho] at h; exact h.elim
    | some o =>
      rw [ho] at h
      simp only at h
      have hi : ops.toArray[i]? = some o := by simpa using ho
      have hd := fits_dst hf (List.mem_of_getElem? ho)
      have ih := fun (I : CI) (S : Store) (e : DEnv) (e' : Env) (a : Act) (w : World) (hr : Rep n e' a) (he : EnvR I w.heap e e') (hR : Rel I S w) (hS : Stp I0 S0 w0 I S w) (h : pdV P ops N r e S) =>
        pdV_sound hs hQ hN hf r _ I S e e' a w hp' hr he hR hS h
      have h' : guardV ops o e' (pmodeV P o m e S (fun d S' => pdV P ops N r (putD e o.dst d) S')) (pdV P ops N r (putD e o.dst (.tup [])) S) := pguard_sound he h id id
      by_cases hm : m ≤ 2
      · rw [if_pos hm] at hp
        rcases guardV_cases hr h' with ⟨hw, h⟩ | ⟨hw, h⟩
        · have fin : ∀ (C : World → Prop) (v : Value) (d : D), RdD I w.heap d v → (∀ m' w1 w2, beside m m' = true → C w1 → Cl m' w1 w2 → C w2) → C w → (∀ w', C w' → (execOp (V.ev e') o).run P w' = .ok (.value v) w') →
              pdV P ops N r (putD e o.dst d) S → wpAnyC P ops.toArray mode Q (r.length + 1) listed a w := by
            intro C v d hdv hpres hC hv hk
            refine quiet_step hi hs hQ hp hpres r.length a w hC (.inl ⟨hw, fun w' hw' => ?_⟩) (ih I S _ _ _ w (hr.put hd v) (he.put hdv _) hR hS hk)
            rw [hr.eval]; exact hv w' hw'
          have load_ : ∀ (h : match o.op with | .load t a => loadD P S t (pev e a) (fun d => pdV P ops N r (putD e o.dst d) S) | _ => False),
              ∃ u d, (∀ w', Below w.heap.size w w' → (execOp (V.ev e') o).run P w' = .ok (.value u) w') ∧ RdD I w.heap d u ∧ pdV P ops N r (putD e o.dst d) S := by
            intro h
            split at h
            · rename_i t x hop
              obtain ⟨u, h1, d, h2, h3⟩ := loadD_sound (P := P) hR (he.ev x) h
              refine ⟨u, d, fun w' hE => ?_, h2, h3⟩
              have h1 := h1 w' hE
              simp only [execOp, hop]
              unfold Ld Does at h1
              simp only [Sem.run_bind, h1, Result.andThen_ok, Sem.run_pure]
            · exact h.elim
          match m, hm with
          | 0, _ =>
            simp only [pmodeV] at h
            obtain ⟨v, h1, d, h2, h3⟩ := pureV_sound (ppure_sound (P := P) he h)
            exact fin (fun _ => True) v d h2 (fun _ _ _ _ _ _ => trivial) trivial (fun w' _ => h1 w') h3
          | 1, _ =>
            simp only [pmodeV] at h
            obtain ⟨u, d, h1, h2, h3⟩ := load_ h
            refine fin (fun w' => w' = w) u d h2 (fun m' w1 w2 hb h1 h2 => ?_) rfl (fun w' hw' => ?_) h3
            · simp only [beside, decide_eq_true_eq] at hb
              exact (Cl.of_quiet hb h2).trans h1
            · subst hw'; exact h1 _ (Below.refl _ _)
          | 2, _ =>
            simp only [pmodeV] at h
            obtain ⟨u, d, h1, h2, h3⟩ := load_ h
            refine fin (fun w' => Below w.heap.size w w') u d h2 (fun m' w1 w2 hb h1 h2 => ?_) (Below.refl _ _) h1 h3
            simp only [beside, Bool.or_eq_true, decide_eq_true_eq, beq_iff_eq] at hb
            rcases hb with hb | hb
            · rw [Cl.of_quiet hb h2]; exact h1
            · subst hb
              have h2' : Below w1.heap.size w1 w2 := by unfold Cl at h2; simpa using h2
              exact h1.trans (h2'.mono h1.size)
        · refine quiet_step (C := fun w' => w' = w ∨ True) hi hs hQ hp (fun _ _ _ _ _ _ => .inr trivial) r.length a w (.inl rfl) (.inr ⟨hw, rfl⟩) (ih I S _ _ _ w (hr.put hd undef) (he.put (undef_rd _ _) _) hR hS h)
      · rw [if_neg hm] at hp
        simp only [Bool.and_eq_true, beq_iff_eq] at hp
        obtain ⟨hmi, hready⟩ := hp
        refine ⟨fun h0 => (by rw [h0] at hready; cases hready), fun j hj => ?_⟩
        rw [hready] at hj
        obtain rfl := List.mem_singleton.1 hj
        unfold wpOp
        simp only [hi]
        rcases guardV_cases hr h' with ⟨hw, h⟩ | ⟨hw, h⟩
        · rw [if_pos hw]
          left
          unfold Oper.wp
          rw [hr.eval]
          match m, hm, hmi with
          | 3, _, hmi =>
            simp only [pmodeV] at h
            exact (popV_sound he hR h).upon fun v w' ⟨I', S', d, s1, r1, hd', hk⟩ => ⟨by rw [hmi]; simp [Cl], ih I' S' _ _ _ _ (hr.put hd v) ((he.mono s1.sub s1.ev).put hd' _) r1 (hS.trans s1) hk⟩
          | k + 4, _, hmi =>
            simp only [pmodeV] at h
            refine (pextV_sound he hR h).upon fun v w' ⟨hE, I', S', d, s1, r1, hd', hk⟩ => ⟨?_, ih I' S' _ _ _ _ (hr.put hd v) ((he.mono s1.sub s1.ev).put hd' _) r1 (hS.trans s1) hk⟩
            rw [hmi]
            unfold Cl
            rw [if_neg (by omega)]
            split
            · exact hE
            · trivial
        · rw [if_neg (by simp [hw])]
          exact ⟨Cl.refl _ _, ih I S _ _ _ w (hr.put hd undef) (he.put (undef_rd _ _) _) hR hS h⟩

/-! ### Plans with two orders -/

/-- A plan: operations in a row; two that act, in either order; the end. -/
inductive PT where
  | nil
  | lin (pl : List (Nat × Nat)) (r : PT)
  | fork (i m : Nat) (a : PT) (j k : Nat) (b : PT)
def lenF : List (Nat × Nat) → Nat → Nat
  | [], f => f
  | _ :: r, f => lenF r f + 1
def PT.size : PT → Nat
  | .nil => 0
  | .lin pl r => lenF pl r.size
  | .fork _ _ a _ _ _ => a.size + 1
def PT.pairs : PT → List (Nat × Nat)
  | .nil => []
  | .lin pl r => pl ++ r.pairs
  | .fork i m a j k b => (i, m) :: (j, k) :: (a.pairs ++ b.pairs)
def stepOk (ops : Array Oper) (mode : Nat → Nat) (l : Array Bool) (i m : Nat) : Bool := if m ≤ 2 then quietOk ops mode l i m else mode i == m && Region.ready .any ops l == [i]
def planL (ops : Array Oper) (mode : Nat → Nat) : List (Nat × Nat) → Array Bool → Option (Array Bool)
  | [], l => some l
  | (i, m) :: r, l => if stepOk ops mode l i m = true then planL ops mode r (l.setIfInBounds i true) else none
def planT (ops : Array Oper) (mode : Nat → Nat) : PT → Array Bool → Bool
  | .nil, l => (Region.ready .any ops l).isEmpty
  | .lin pl r, l => (match planL ops mode pl l with | some l' => planT ops mode r l' | none => false)
  | .fork i m a j k b, l => (decide (3 ≤ m) && decide (3 ≤ k) && mode i == m && mode j == k && Region.ready .any ops l == [i, j] && a.size == b.size) && (planT ops mode a (l.setIfInBounds i true) && planT ops mode b (l.setIfInBounds j true))
def pdT (P : Program) (ops : List Oper) (N : DEnv → Store → Prop) : PT → DEnv → Store → Prop
  | .nil, e, S => N e S
  | .lin pl r, e, S => pdV P ops (pdT P ops N r) pl e S
  | .fork i m a j k b, e, S => pdV P ops (pdT P ops N a) [(i, m)] e S ∧ pdV P ops (pdT P ops N b) [(j, k)] e S

section
variable {n : Nat} {ops : List Oper} {mode : Nat → Nat} {I0 : CI} {S0 : Store} {w0 : World} {Q : Exit → Act → World → Prop}

/-- One operation that acts. -/
theorem act_sound {N : DEnv → Store → Prop} {i m : Nat} {o : Oper} {I : CI} {S : Store} {e : DEnv} {e' : Env} {a : Act} {w : World} {W : Act → World → Prop} (hf : fitsOps n ops = true) (hi : ops.toArray[i]? = some o) (ho : ops[i]? = some o) (hm : ¬ m ≤ 2) (hmi : mode i = m)
    (hr : Rep n e' a) (he : EnvR I w.heap e e') (hR : Rel I S w) (hS : Stp I0 S0 w0 I S w) (ih : ∀ (I : CI) (S : Store) (e : DEnv) (e' : Env) (a : Act) (w : World), Rep n e' a → EnvR I w.heap e e' → Rel I S w → Stp I0 S0 w0 I S w → N e S → W a w)
    (h : pdV P ops N [(i, m)] e S) : wpOp P ops.toArray Q i (fun a' w' => Cl (mode i) w w' ∧ W a' w') a w := by
  unfold pdV at h
  rw [ho] at h
  simp only [pdV] at h
  have hd := fits_dst hf (List.mem_of_getElem? ho)
  have h' : guardV ops o e' (pmodeV P o m e S (fun d S' => N (putD e o.dst d) S')) (N (putD e o.dst (.tup [])) S) := pguard_sound he h id id
  unfold wpOp
  simp only [hi]
  rcases guardV_cases hr h' with ⟨hw, h⟩ | ⟨hw, h⟩
  · rw [if_pos hw]
    left
    unfold Oper.wp
    rw [hr.eval]
    match m, hm, hmi with
    | 3, _, hmi =>
      simp only [pmodeV] at h
      exact (popV_sound he hR h).upon fun v w' ⟨I', S', d, s1, r1, hd', hk⟩ => ⟨by rw [hmi]; simp [Cl], ih I' S' _ _ _ _ (hr.put hd v) ((he.mono s1.sub s1.ev).put hd' _) r1 (hS.trans s1) hk⟩
    | k + 4, _, hmi =>
      simp only [pmodeV] at h
      refine (pextV_sound he hR h).upon fun v w' ⟨hE, I', S', d, s1, r1, hd', hk⟩ => ⟨?_, ih I' S' _ _ _ _ (hr.put hd v) ((he.mono s1.sub s1.ev).put hd' _) r1 (hS.trans s1) hk⟩
      rw [hmi]
      unfold Cl
      rw [if_neg (by omega)]
      split
      · exact hE
      · trivial
  · rw [if_neg (by simp [hw])]
    exact ⟨Cl.refl _ _, ih I S _ _ _ w (hr.put hd undef) (he.put (undef_rd _ _) _) hR hS h⟩

theorem pdL_sound {N : DEnv → Store → Prop} (hs : Region.noSelect ops.toArray = true) (hQ : ∀ c a w, ¬ Q (.panic c) a w) (hf : fitsOps n ops = true) {fuel : Nat} {l' : Array Bool}
    (hN : ∀ (I : CI) (S : Store) (e : DEnv) (e' : Env) (a : Act) (w : World), Rep n e' a → EnvR I w.heap e e' → Rel I S w → Stp I0 S0 w0 I S w → N e S → wpAnyC P ops.toArray mode Q fuel l' a w) :
    ∀ (pl : List (Nat × Nat)) (listed : Array Bool) (I : CI) (S : Store) (e : DEnv) (e' : Env) (a : Act) (w : World), planL ops.toArray mode pl listed = some l' → Rep n e' a → EnvR I w.heap e e' → Rel I S w → Stp I0 S0 w0 I S w →
      pdV P ops N pl e S → wpAnyC P ops.toArray mode Q (lenF pl fuel) listed a w
  | [], listed, I, S, e, e', a, w, hp, hr, he, hR, hS, h => by
    simp only [planL, Option.some.injEq] at hp
    subst hp
    exact hN I S e e' a w hr he hR hS h
  | (i, m) :: r, listed, I, S, e, e', a, w, hp, hr, he, hR, hS, h => by
    simp only [planL] at hp
    split at hp
    rotate_left
    · cases hp
    rename_i hc
    have hp' := hp
    have hp := hc
    unfold stepOk at hp
    have h0 := h
    unfold pdV at h
    cases ho : ops[i]? with
    | none => rw [ho] at h; exact h.elim
    | some o =>
      rw [ho] at h
      simp only at h
      have hi : ops.toArray[i]? = some o := by simpa using ho
      have hd := fits_dst hf (List.mem_of_getElem? ho)
      have ih := fun (I : CI) (S : Store) (e : DEnv) (e' : Env) (a : Act) (w : World) (hr : Rep n e' a) (he : EnvR I w.heap e e') (hR : Rel I S w) (hS : Stp I0 S0 w0 I S w) (h : pdV P ops N r e S) =>
        pdL_sound hs hQ hf hN r _ I S e e' a w hp' hr he hR hS h
      have h' : guardV ops o e' (pmodeV P o m e S (fun d S' => pdV P ops N r (putD e o.dst d) S')) (pdV P ops N r (putD e o.dst (.tup [])) S) := pguard_sound he h id id
      by_cases hm : m ≤ 2
      · rw [if_pos hm] at hp
        rcases guardV_cases hr h' with ⟨hw, h⟩ | ⟨hw, h⟩
        · have fin : ∀ (C : World → Prop) (v : Value) (d : D), RdD I w.heap d v → (∀ m' w1 w2, beside m m' = true → C w1 → Cl m' w1 w2 → C w2) → C w → (∀ w', C w' → (execOp (V.ev e') o).run P w' = .ok (.value v) w') →
              pdV P ops N r (putD e o.dst d) S → wpAnyC P ops.toArray mode Q (lenF r fuel + 1) listed a w := by
            intro C v d hdv hpres hC hv hk
            refine quiet_step hi hs hQ hp hpres (lenF r fuel) a w hC (.inl ⟨hw, fun w' hw' => ?_⟩) (ih I S _ _ _ w (hr.put hd v) (he.put hdv _) hR hS hk)
            rw [hr.eval]; exact hv w' hw'
          have load_ : ∀ (h : match o.op with | .load t a => loadD P S t (pev e a) (fun d => pdV P ops N r (putD e o.dst d) S) | _ => False),
              ∃ u d, (∀ w', Below w.heap.size w w' → (execOp (V.ev e') o).run P w' = .ok (.value u) w') ∧ RdD I w.heap d u ∧ pdV P ops N r (putD e o.dst d) S := by
            intro h
            split at h
            · rename_i t x hop
              obtain ⟨u, h1, d, h2, h3⟩ := loadD_sound (P := P) hR (he.ev x) h
              refine ⟨u, d, fun w' hE => ?_, h2, h3⟩
              have h1 := h1 w' hE
              simp only [execOp, hop]
              unfold Ld Does at h1
              simp only [Sem.run_bind, h1, Result.andThen_ok, Sem.run_pure]
            · exact h.elim
          match m, hm with
          | 0, _ =>
            simp only [pmodeV] at h
            obtain ⟨v, h1, d, h2, h3⟩ := pureV_sound (ppure_sound (P := P) he h)
            exact fin (fun _ => True) v d h2 (fun _ _ _ _ _ _ => trivial) trivial (fun w' _ => h1 w') h3
          | 1, _ =>
            simp only [pmodeV] at h
            obtain ⟨u, d, h1, h2, h3⟩ := load_ h
            refine fin (fun w' => w' = w) u d h2 (fun m' w1 w2 hb h1 h2 => ?_) rfl (fun w' hw' => ?_) h3
            · simp only [beside, decide_eq_true_eq] at hb
              exact (Cl.of_quiet hb h2).trans h1
            · subst hw'; exact h1 _ (Below.refl _ _)
          | 2, _ =>
            simp only [pmodeV] at h
            obtain ⟨u, d, h1, h2, h3⟩ := load_ h
            refine fin (fun w' => Below w.heap.size w w') u d h2 (fun m' w1 w2 hb h1 h2 => ?_) (Below.refl _ _) h1 h3
            simp only [beside, Bool.or_eq_true, decide_eq_true_eq, beq_iff_eq] at hb
            rcases hb with hb | hb
            · rw [Cl.of_quiet hb h2]; exact h1
            · subst hb
              have h2' : Below w1.heap.size w1 w2 := by unfold Cl at h2; simpa using h2
              exact h1.trans (h2'.mono h1.size)
        · refine quiet_step (C := fun w' => w' = w ∨ True) hi hs hQ hp (fun _ _ _ _ _ _ => .inr trivial) (lenF r fuel) a w (.inl rfl) (.inr ⟨hw, rfl⟩) (ih I S _ _ _ w (hr.put hd undef) (he.put (undef_rd _ _) _) hR hS h)
      · rw [if_neg hm] at hp
        simp only [Bool.and_eq_true, beq_iff_eq] at hp
        obtain ⟨hmi, hready⟩ := hp
        refine ⟨fun h0 => (by rw [h0] at hready; cases hready), fun j hj => ?_⟩
        rw [hready] at hj
        obtain rfl := List.mem_singleton.1 hj
        refine act_sound (N := pdV P ops N r) hf hi ho hm hmi hr he hR hS ih ?_
        unfold pdV
        rw [ho]
        exact h

theorem pdT_sound {N : DEnv → Store → Prop} (hs : Region.noSelect ops.toArray = true) (hQ : ∀ c a w, ¬ Q (.panic c) a w) (hN : ∀ e' a w, Rep n e' a → At I0 S0 w0 N e' w → Q .normal a w) (hf : fitsOps n ops = true) :
    ∀ (t : PT) (listed : Array Bool) (I : CI) (S : Store) (e : DEnv) (e' : Env) (a : Act) (w : World), planT ops.toArray mode t listed = true → Rep n e' a → EnvR I w.heap e e' → Rel I S w → Stp I0 S0 w0 I S w →
      pdT P ops N t e S → wpAnyC P ops.toArray mode Q t.size listed a w
  | .nil, listed, I, S, e, e', a, w, hp, hr, he, hR, hS, h => ⟨by simpa [planT] using hp, hN e' a w hr ⟨I, S, e, hS, hR, he, h⟩⟩
  | .lin pl r, listed, I, S, e, e', a, w, hp, hr, he, hR, hS, h => by
    simp only [planT] at hp
    split at hp
    · rename_i l' hl
      exact pdL_sound hs hQ hf (fun I S e e' a w hr he hR hS h => pdT_sound hs hQ hN hf r l' I S e e' a w hp hr he hR hS h) pl listed I S e e' a w hl hr he hR hS h
    · cases hp
  | .fork i m x j k y, listed, I, S, e, e', a, w, hp, hr, he, hR, hS, h => by
    simp only [planT, Bool.and_eq_true, decide_eq_true_eq, beq_iff_eq] at hp
    obtain ⟨⟨⟨⟨⟨⟨hm, hk⟩, hmi⟩, hmj⟩, hready⟩, hsz⟩, hx, hy⟩ := hp
    have get : ∀ {q c : Nat} {N' : DEnv → Store → Prop}, pdV P ops N' [(q, c)] e S → ∃ o, ops[q]? = some o := by
      intro q c N' h
      unfold pdV at h
      cases ho : ops[q]? with
      | none => rw [ho] at h; exact h.elim
      | some o => exact ⟨o, rfl⟩
    refine ⟨fun h0 => (by rw [h0] at hready; cases hready), fun q hq => ?_⟩
    rw [hready] at hq
    have hq' : q = i ∨ q = j := by simpa using hq
    rcases hq' with rfl | rfl
    · obtain ⟨o, ho⟩ := get h.1
      exact act_sound hf (by simpa using ho) ho (by omega) hmi hr he hR hS (fun I S e e' a w hr he hR hS h => pdT_sound hs hQ hN hf x _ I S e e' a w hx hr he hR hS h) h.1
    · obtain ⟨o, ho⟩ := get h.2
      show wpOp P ops.toArray Q q (fun a' w' => Cl (mode q) w w' ∧ wpAnyC P ops.toArray mode Q x.size (listed.setIfInBounds q true) a' w') a w
      rw [hsz]
      exact act_sound hf (by simpa using ho) ho (by omega) hmj hr he hR hS (fun I S e e' a w hr he hR hS h => pdT_sound hs hQ hN hf y _ I S e e' a w hy hr he hR hS h) h.2
end
def planTok (ops : Array Oper) (t : PT) : Bool := (Region.noSelect ops && t.size == ops.size) && planT ops (modeIn t.pairs) t (Array.replicate ops.size false)

/-! ### The same, shortly: an operation without its edges, its guard by the slot -/

structure Ci where
  dst : Option Nat
  g : Option (Option Nat × Bool)
  op : Op
  ty : TypeId
def Ci.o (c : Ci) : Oper := { dst := c.dst, op := c.op, type := c.ty, pos := "", after := #[], guard := none }
def gsl (ops : List Oper) : Option (Nat × Bool) → Option (Option Nat × Bool)
  | none => none
  | some (j, w) => some ((ops[j]?).bind (·.dst), w)
def comp (ops : List Oper) : List Oper → List Ci
  | [] => []
  | o :: r => ⟨o.dst, gsl ops o.guard, o.op, o.type⟩ :: comp ops r
theorem comp_nil {ops : List Oper} : comp ops [] = [] := rfl
theorem comp_cons {ops r : List Oper} {d : Option Nat} {op : Op} {t : TypeId} {pos : String} {aft : Array Edge} {gd : Option (Nat × Bool)} : comp ops ({ dst := d, op := op, type := t, pos := pos, after := aft, guard := gd } :: r) = ⟨d, gsl ops gd, op, t⟩ :: comp ops r := rfl
theorem gsl_none {ops : List Oper} : gsl ops none = none := rfl
theorem gsl_some {ops : List Oper} {j : Nat} {w : Bool} : gsl ops (some (j, w)) = some ((ops[j]?).bind (·.dst), w) := rfl
def cguard (c : Ci) (e : DEnv) (run skip : Prop) : Prop := match c.g with
  | none => run
  | some (some d, w) => pgv (e d) w run skip
  | some (none, _) => skip
theorem cguard_none {d : Option Nat} {op : Op} {t : TypeId} {e : DEnv} {run skip : Prop} : cguard ⟨d, none, op, t⟩ e run skip = run := rfl
theorem cguard_some {d : Option Nat} {op : Op} {t : TypeId} {e : DEnv} {j : Nat} {w : Bool} {run skip : Prop} : cguard ⟨d, some (some j, w), op, t⟩ e run skip = pgv (e j) w run skip := rfl
def runV (P : Program) (N : DEnv → Store → Prop) : List Ci → DEnv → Store → Prop
  | [], e, S => N e S
  | c :: r, e, S => cguard c e (popV P c.o e S fun d S' => runV P N r (putD e c.dst d) S') (runV P N r (putD e c.dst (.tup [])) S)
theorem runV_nil {N : DEnv → Store → Prop} {e : DEnv} {S : Store} : runV P N [] e S = N e S := rfl
theorem runV_cons {N : DEnv → Store → Prop} {e : DEnv} {S : Store} {d : Option Nat} {g : Option (Option Nat × Bool)} {op : Op} {t : TypeId} {r : List Ci} :
    runV P N (⟨d, g, op, t⟩ :: r) e S = cguard ⟨d, g, op, t⟩ e (popV P { dst := d, op := op, type := t, pos := "", after := #[], guard := none } e S fun x S' => runV P N r (putD e d x) S') (runV P N r (putD e d (.tup [])) S) := rfl

theorem cguard_eq {ops : List Oper} {o : Oper} {e : DEnv} {run skip : Prop} : cguard ⟨o.dst, gsl ops o.guard, o.op, o.type⟩ e run skip = pguardV ops o e run skip := by
  unfold cguard gsl pguardV
  cases o.guard with
  | none => rfl
  | some p =>
    obtain ⟨j, w⟩ := p
    simp only
    cases (ops[j]?).bind (·.dst) <;> rfl

theorem popV_lite {o : Oper} {e : DEnv} {S : Store} {K : D → Store → Prop} : popV P { dst := o.dst, op := o.op, type := o.type, pos := "", after := #[], guard := none } e S K = popV P o e S K := rfl
theorem pextV_lite {o : Oper} {e : DEnv} {S : Store} {K : D → Store → Prop} : pextV P { dst := o.dst, op := o.op, type := o.type, pos := "", after := #[], guard := none } e S K = pextV P o e S K := rfl
theorem pmodeV_lite {o : Oper} {m : Nat} {e : DEnv} {S : Store} {K : D → Store → Prop} : pmodeV P { dst := o.dst, op := o.op, type := o.type, pos := "", after := #[], guard := none } m e S K = pmodeV P o m e S K := rfl

theorem runV_pops {ops : List Oper} {N : DEnv → Store → Prop} : ∀ (l : List Oper) (e : DEnv) (S : Store), runV P N (comp ops l) e S = popsV P ops N l e S
  | [], e, S => rfl
  | o :: r, e, S => by
    simp only [comp, runV, popsV, Ci.o, cguard_eq, popV_lite, runV_pops r]

def compD (ops : List Oper) : List (Nat × Nat) → List (Option Ci × Nat)
  | [] => []
  | (i, m) :: r => ((ops[i]?).map fun o => ⟨o.dst, gsl ops o.guard, o.op, o.type⟩, m) :: compD ops r
theorem compD_nil {ops : List Oper} : compD ops [] = [] := rfl
theorem compD_cons {ops : List Oper} {i m : Nat} {r : List (Nat × Nat)} : compD ops ((i, m) :: r) = ((ops[i]?).map fun o => ⟨o.dst, gsl ops o.guard, o.op, o.type⟩, m) :: compD ops r := rfl
def runD (P : Program) (N : DEnv → Store → Prop) : List (Option Ci × Nat) → DEnv → Store → Prop
  | [], e, S => N e S
  | (none, _) :: _, _, _ => False
  | (some c, m) :: r, e, S => cguard c e (pmodeV P c.o m e S fun d S' => runD P N r (putD e c.dst d) S') (runD P N r (putD e c.dst (.tup [])) S)
theorem runD_nil {N : DEnv → Store → Prop} {e : DEnv} {S : Store} : runD P N [] e S = N e S := rfl
theorem runD_cons {N : DEnv → Store → Prop} {e : DEnv} {S : Store} {d : Option Nat} {g : Option (Option Nat × Bool)} {op : Op} {t : TypeId} {m : Nat} {r : List (Option Ci × Nat)} :
    runD P N ((some ⟨d, g, op, t⟩, m) :: r) e S = cguard ⟨d, g, op, t⟩ e (pmodeV P { dst := d, op := op, type := t, pos := "", after := #[], guard := none } m e S fun x S' => runD P N r (putD e d x) S') (runD P N r (putD e d (.tup [])) S) := rfl
theorem runD_pd {ops : List Oper} {N : DEnv → Store → Prop} : ∀ (pl : List (Nat × Nat)) (e : DEnv) (S : Store), runD P N (compD ops pl) e S = pdV P ops N pl e S
  | [], e, S => rfl
  | (i, m) :: r, e, S => by
    simp only [compD, pdV]
    cases ops[i]? with
    | none => rfl
    | some o => simp only [Option.map_some, runD, Ci.o, cguard_eq, pmodeV_lite, runD_pd r]

/-! ### Code -/

def condD (d : D) (T F : Prop) : Prop := match d with | .g (.lit (.bool b)) => if b then T else F | _ => False

def pregV (P : Program) (ops : List Oper) (draw : Bool) (N : DEnv → Store → Prop) (e : DEnv) (S : Store) : Prop :=
  if draw then (∃ pl, planOk ops.toArray pl = true ∧ pdV P ops N pl e S) ∨ (∃ t, planTok ops.toArray t = true ∧ pdT P ops N t e S) else popsV P ops N ops e S

def pvc (P : Program) : Code → (DEnv → Store → Prop) → (Nat → DEnv → Store → Prop) → (DEnv → Store → Prop) → DEnv → Store → Prop
  | .skip, N, _, _, e, S => N e S
  | .region _ ops draw, N, _, _, e, S => pregV P ops.toList draw N e S
  | .seq a b, N, X, R, e, S => pvc P a (fun e S => pvc P b N X R e S) X R e S
  | .cond c a b, N, X, R, e, S => condD (pev e c) (pvc P a N X R e S) (pvc P b N X R e S)
  | .block id c, N, X, R, e, S => pvc P c N (fun j e S => if j = id then N e S else X j e S) R e S
  | .loop c, _, X, R, e, S => ∃ (J : DEnv → Store → Prop) (m : DEnv → Store → Nat), J e S ∧ ∀ e1 S1, J e1 S1 → pvc P c (fun e2 S2 => J e2 S2 ∧ m e2 S2 < m e1 S1) X R e1 S1
  | .exit id, _, X, _, e, S => X id e S
  | .ret, _, _, R, e, S => R e S
  | .label _, N, _, _, e, S => N e S
  | .scope c, N, X, R, e, S => pvc P c N X R e S
  | _, _, _, _, _, _ => False

/-- The exits of a piece of code, over values as data. -/
def pexits (n : Nat) (I0 : CI) (S0 : Store) (w0 : World) (N : DEnv → Store → Prop) (X : Nat → DEnv → Store → Prop) (R : DEnv → Store → Prop) : Exit → Act → World → Prop
  | .normal, a, w => ∃ e', Rep n e' a ∧ At I0 S0 w0 N e' w
  | .exit id, a, w => ∃ e', Rep n e' a ∧ At I0 S0 w0 (X id) e' w
  | .ret, a, w => ∃ e', Rep n e' a ∧ At I0 S0 w0 R e' w
  | _, _, _ => False

theorem least_of {Q : Nat → Prop} (h : ∃ n, Q n) : ∃ n, Q n ∧ ∀ m, Q m → n ≤ m := by
  obtain ⟨n, hn⟩ := h
  induction n using Nat.strongRecOn with
  | ind n ih =>
    by_cases hm : ∃ m, Q m ∧ m < n
    · obtain ⟨m, h1, h2⟩ := hm; exact ih m h2 h1
    · exact ⟨n, hn, fun m hq => Nat.le_of_not_lt fun hlt => hm ⟨m, hq, hlt⟩⟩

theorem pvc_sound (hm : P.follows .mixedOrders = true) {n : Nat} {I0 : CI} {S0 : Store} {w0 : World} : ∀ (c : Code) (N : DEnv → Store → Prop) (X : Nat → DEnv → Store → Prop) (R : DEnv → Store → Prop) (e' : Env) (a : Act) (w : World),
    fits n c = true → Rep n e' a → At I0 S0 w0 (pvc P c N X R) e' w → c.wp P (pexits n I0 S0 w0 N X R) a w
  | .skip, N, X, R, e', a, w, _, hr, h => wp_skip ⟨e', hr, h⟩
  | .ret, N, X, R, e', a, w, _, hr, h => wp_ret ⟨e', hr, h⟩
  | .exit id, N, X, R, e', a, w, _, hr, h => wp_exit ⟨e', hr, h⟩
  | .label l, N, X, R, e', a, w, _, hr, h => wp_label ⟨e', hr, h⟩
  | .scope c, N, X, R, e', a, w, hf, hr, h => by
    refine wp_scope_straight (wp_mono (pvc_sound hm c N X R e' a w hf hr h) ?_)
    intro ex a' w' hq
    cases ex <;> first | exact hq | exact hq.elim
  | .seq x y, N, X, R, e', a, w, hf, hr, h => by
    simp only [fits, Bool.and_eq_true] at hf
    refine wp_seq (wp_mono (pvc_sound hm x (fun e S => pvc P y N X R e S) X R e' a w hf.1 hr h) ?_)
    intro ex a' w' hq
    cases ex with
    | normal => obtain ⟨e2, hr', h'⟩ := hq; exact pvc_sound hm y N X R e2 a' w' hf.2 hr' h'
    | _ => exact hq
  | .cond c x y, N, X, R, e', a, w, hf, hr, h => by
    simp only [fits, Bool.and_eq_true] at hf
    obtain ⟨I, S, e, hS, hR, he, h⟩ := h.ex
    simp only [pvc, condD] at h
    split at h
    · rename_i b hb
      have hv := he.ev c
      rw [hb] at hv
      have hv' : a.eval c = .bool b := by rw [hr.eval]; exact hv.lit_inv
      refine wp_cond hv' ?_
      cases b
      · exact pvc_sound hm y N X R e' a w hf.2 hr ⟨I, S, e, hS, hR, he, by simpa using h⟩
      · exact pvc_sound hm x N X R e' a w hf.1 hr ⟨I, S, e, hS, hR, he, by simpa using h⟩
    · exact h.elim
  | .block id c, N, X, R, e', a, w, hf, hr, h => by
    refine wp_block (wp_mono (pvc_sound hm c N (fun j e S => if j = id then N e S else X j e S) R e' a w hf hr h) ?_)
    intro ex a' w' hq
    cases ex with
    | exit j =>
      obtain ⟨e2, hr', h'⟩ := hq
      by_cases hj : j = id
      · subst hj
        simp only [Exit.inBlock, if_true] at h' ⊢; exact ⟨e2, hr', h'⟩
      · simp only [Exit.inBlock, hj, if_false] at h' ⊢; exact ⟨e2, hr', h'⟩
    | _ => exact hq
  | .loop c, N, X, R, e', a, w, hf, hr, h => by
    obtain ⟨I, S, e, hS, hR, he, J, m, h0, hround⟩ := h.ex
    let Q : Env → World → Nat → Prop := fun e' w k => At I0 S0 w0 (fun e S => J e S ∧ m e S = k) e' w
    let Inv : Act → World → Prop := fun a w => ∃ e', Rep n e' a ∧ ∃ k, Q e' w k
    let mu : Act → World → Nat := fun a w => Classical.epsilon fun k => Q (fun i => a.tmps.getD i undef) w k ∧ ∀ m, Q (fun i => a.tmps.getD i undef) w m → k ≤ m
    have hmu : ∀ e' a w, Rep n e' a → (∃ k, Q e' w k) → Q e' w (mu a w) ∧ ∀ m, Q e' w m → mu a w ≤ m := by
      intro e' a w hr hk
      have he : (fun i => a.tmps.getD i undef) = e' := by funext i; exact hr.val i
      subst he
      exact Classical.epsilon_spec (p := fun k => Q (fun i => a.tmps.getD i undef) w k ∧ ∀ m, Q (fun i => a.tmps.getD i undef) w m → k ≤ m) (least_of hk)
    refine wp_loop Inv mu ⟨e', hr, m e S, ⟨I, S, e, hS, hR, he, h0, rfl⟩⟩ ?_
    rintro a1 w1 ⟨e1, hr1, hk⟩
    obtain ⟨⟨I1, S1, d1, s1, r1, v1, j1, k1⟩, hmin⟩ := hmu e1 a1 w1 hr1 hk
    refine wp_mono (pvc_sound hm c (fun e2 S2 => J e2 S2 ∧ m e2 S2 < m d1 S1) X R e1 a1 w1 hf hr1 ⟨I1, S1, d1, s1, r1, v1, hround d1 S1 j1⟩) ?_
    intro ex a' w' hq
    cases ex with
    | normal =>
      obtain ⟨e2, hr2, ⟨I2, S2, d2, s2, r2, v2, j2, k2⟩⟩ := hq
      have hQ : Q e2 w' (m d2 S2) := ⟨I2, S2, d2, s2, r2, v2, j2, rfl⟩
      refine ⟨⟨e2, hr2, _, hQ⟩, ?_⟩
      have := (hmu e2 a' w' hr2 ⟨_, hQ⟩).2 _ hQ
      omega
    | _ => exact hq
  | .region id ops draw, N, X, R, e', a, w, hf, hr, h => by
    obtain ⟨I, S, e, hS, hR, he, h⟩ := h.ex
    simp only [pvc, pregV] at h
    simp only [fits] at hf
    let Q : Exit → Act → World → Prop := fun | .normal, a, w => ∃ e', Rep n e' a ∧ At I0 S0 w0 N e' w | _, _, _ => False
    have hQ : ∀ ex a w, Q ex a w → pexits n I0 S0 w0 N X R ex a w := fun ex a w hq => by cases ex <;> first | exact hq | exact hq.elim
    refine wp_mono (Q := Q) ?_ hQ
    cases draw with
    | false =>
      have := popsV_sound (n := n) (N := N) (Q := Q) (fun e' a w hr hn => ⟨e', hr, hn⟩) ops.toList I S e e' a w hf hr he hR hS (by simpa using h)
      exact wp_region_list (by simpa using this)
    | true =>
      rw [if_pos rfl] at h
      rcases h with ⟨pl, hp, h⟩ | ⟨pl, hp, h⟩
      · simp only [planOk, Bool.and_eq_true, beq_iff_eq] at hp
        obtain ⟨⟨hp1, hp2⟩, hp3⟩ := hp
        have := pdV_sound (n := n) (ops := ops.toList) (N := N) (Q := Q) (mode := modeIn pl) (by simpa using hp1) (fun _ _ _ hq => hq) (fun e' a w hr hn => ⟨e', hr, hn⟩) hf pl _ I S e e' a w.drew (by simpa using hp3) hr he hR.drew hS.drew h
        refine wp_region_draw fun t => ?_
        simp only [Region.schedule, hm, Bool.true_or, if_true]
        have h2 := wpAny_of_C _ _ _ _ this
        simp only [Array.toArray_toList] at h2
        rw [hp2] at h2
        exact wpAny_sound ops.size t _ a _ (by simpa using h2)
      · simp only [planTok, Bool.and_eq_true, beq_iff_eq] at hp
        obtain ⟨⟨hp1, hp2⟩, hp3⟩ := hp
        have := pdT_sound (n := n) (ops := ops.toList) (N := N) (Q := Q) (mode := modeIn pl.pairs) (by simpa using hp1) (fun _ _ _ hq => hq) (fun e' a w hr hn => ⟨e', hr, hn⟩) hf pl _ I S e e' a w.drew (by simpa using hp3) hr he hR.drew hS.drew h
        refine wp_region_draw fun t => ?_
        simp only [Region.schedule, hm, Bool.true_or, if_true]
        have h2 := wpAny_of_C _ _ _ _ this
        simp only [Array.toArray_toList] at h2
        rw [hp2] at h2
        exact wpAny_sound ops.size t _ a _ (by simpa using h2)
  | .rangeFunc .., _, _, _, _, _, _, _, _, h => by obtain ⟨I, S, e, hS, hR, he, h⟩ := h.ex; exact h.elim
  | .goto _, _, _, _, _, _, _, _, _, h => by obtain ⟨I, S, e, hS, hR, he, h⟩ := h.ex; exact h.elim
  | .refuse _, _, _, _, _, _, _, _, _, h => by obtain ⟨I, S, e, hS, hR, he, h⟩ := h.ex; exact h.elim

/-! ### Results, bodies -/

def resD (P : Program) (e : DEnv) (S : Store) : List ResultVar → (List D → Prop) → Prop
  | [], K => K []
  | .tmp t :: r, K => resD P e S r fun ds => K (e t :: ds)
  | .cell a t :: r, K => loadD P S t (e a) fun d => resD P e S r fun ds => K (d :: ds)
def oneD (K : D → Prop) : List D → Prop
  | [d] => K d
  | ds => K (.tup ds)

/-- Where a call ends: what it answers reads as data. -/
def retC (P : Program) (rs : List ResultVar) (K : D → Prop) (e : DEnv) (S : Store) : Prop := resD P e S rs fun ds => coeDs ds S fun ds' _ => oneD K ds'

theorem resD_sound {I : CI} {S : Store} {w : World} (hR : Rel I S w) {n : Nat} {e : DEnv} {e' : Env} {a : Act} (hr : Rep n e' a) (he : EnvR I w.heap e e') : ∀ (rs : List ResultVar) (K : List D → Prop), resD P e S rs K →
    ∃ vs ds, (rs.mapM (oneRes a.tmps)).run P w = .ok vs w ∧ RdL I w.heap ds vs ∧ K ds
  | [], K, h => ⟨[], [], rfl, .nil, h⟩
  | .tmp t :: r, K, h => by
    obtain ⟨vs, ds, h1, h2, h3⟩ := resD_sound hR hr he r _ h
    refine ⟨e' t :: vs, e t :: ds, ?_, .cons (he t) h2, h3⟩
    have : (oneRes a.tmps (.tmp t)).run P w = .ok (e' t) w := by simp only [oneRes, Sem.run_pure, hr.val]
    simp only [List.mapM_cons, Sem.run_bind, Sem.run_pure, Result.andThen_ok, h1, this]
  | .cell c t :: r, K, h => by
    simp only [resD] at h
    obtain ⟨u, h1, d, h2, h⟩ := loadD_sound (P := P) hR (he c) h
    obtain ⟨vs, ds, h3, h4, h5⟩ := resD_sound hR hr he r _ h
    have hv := h1 w (Below.refl _ _)
    refine ⟨u :: vs, d :: ds, ?_, .cons h2 h4, h5⟩
    have hca : ∃ ad, e' c = .pointer (some ad) := by
      have hrd := he c
      generalize e' c = x at hrd hv ⊢
      unfold Ld Does Instr.loadAt Instr.sureAddr at hv
      cases x <;> simp at hv
      rename_i o
      cases o with
      | some ad => exact ⟨ad, rfl⟩
      | none => simp at hv
    obtain ⟨ad, had⟩ := hca
    rw [had] at hv
    unfold Ld Does Instr.loadAt Instr.sureAddr at hv
    simp only [Sem.run_bind, Sem.run_pure, Result.andThen_ok] at hv
    have : (oneRes a.tmps (.cell c t)).run P w = .ok u w := by
      unfold oneRes
      simp only [hr.val, had, asAddr, Sem.run_bind, Sem.run_pure, Result.andThen_ok, hv]
    simp only [List.mapM_cons, Sem.run_bind, Sem.run_pure, Result.andThen_ok, h3, this]

theorem results_rd {I : CI} {S : Store} {w : World} (hR : Rel I S w) {n : Nat} {fn : Func} {K : List D → Prop} {e : DEnv} {e' : Env} {a : Act} (hr : Rep n e' a) (he : EnvR I w.heap e e') (h : resD P e S fn.results.toList K) :
    ∃ v vs ds, (results fn a.tmps).run P w = .ok v w ∧ v = (if h : vs.length = 1 then vs[0] else .tuple vs.toArray) ∧ RdL I w.heap ds vs ∧ K ds := by
  obtain ⟨vs, ds, h1, h2, h3⟩ := resD_sound (P := P) hR hr he _ _ h
  refine ⟨_, vs, ds, ?_, rfl, h2, h3⟩
  rw [results_eq, Array.mapM_eq_mapM_toList]
  simp only [Sem.run_bind, Sem.run_map, h1, Result.andThen_ok, Sem.run_pure]
  congr 1

theorem oneD_rd {I : CI} {H : Array Obj} {ds : List D} {vs : List Value} (h : RdL I H ds vs) {K : D → Prop} (hk : oneD K ds) : ∃ d, RdD I H d (if h : vs.length = 1 then vs[0] else .tuple vs.toArray) ∧ K d := by
  match ds, vs, h, hk with
  | [], [], h, hk => exact ⟨_, RdD.ofT h, hk⟩
  | [d], [v], h, hk => exact ⟨d, h.at_ 0 d v rfl rfl, hk⟩
  | d :: d' :: ds, v :: v' :: vs, h, hk => exact ⟨_, by rw [dif_neg (by simp)]; exact RdD.ofT h, hk⟩
  | [], v :: vs, h, _ => have := h.len; simp at this
  | [d], [], h, _ => have := h.len; simp at this
  | [d], v :: v' :: vs, h, _ => have := h.len; simp at this
  | d :: d' :: ds, [], h, _ => have := h.len; simp at this
  | d :: d' :: ds, [v], h, _ => have := h.len; simp at this

def argD (l : List D) : DEnv := fun i => l.getD i (.tup [])
theorem argD_apply (l : List D) (i : Nat) : argD l i = l.getD i (.tup []) := rfl
def noS : Store := fun _ => none
theorem noS_apply (k : Nm) : noS k = none := rfl

theorem body_wp (hm : P.follows .mixedOrders = true) {f : FuncId} {fn : Func} {c : Code} {vs : List Value} {w : World} {Q : Value → World → Prop} {N : DEnv → Store → Prop} {I : CI} {S : Store} (hf : P.funcs[f]? = some fn) (hb : fn.body = some c)
    (hn : (fn.name == "runtime.NumGoroutine") = false) (hfit : fits fn.ntmps c = true) (hargs : vs.length ≤ fn.ntmps) {ds : List D} (hrd : RdL I w.heap ds vs) (hR : Rel I S w) (h : pvc P c N (fun _ _ _ => False) N (argD ds) S)
    (hN : ∀ e' a w', Rep fn.ntmps e' a → At I S w N e' w' → ∃ v, (results fn a.tmps).run P w' = .ok v w' ∧ Q v w') : FC P f vs.toArray w Q := by
  unfold FC
  have : (callFunc f vs.toArray).run P w = .ok (.enter f vs.toArray) w := by
    unfold callFunc
    have hn' : ¬ fn.name = "runtime.NumGoroutine" := fun h => by rw [h] at hn; simp at hn
    simp [hf, hn', hb]
  rw [this]
  refine calls_of_wp hf hb (wp_mono (pvc_sound hm c N (fun _ _ _ => False) N (argE vs) _ _ hfit (?_ : Rep fn.ntmps (argE vs) _) ⟨I, S, argD ds, Stp.refl _ _ _, hR, ?_, h⟩) ?_)
  · refine ⟨rfl, by simp; omega, fun i => ?_⟩
    simp only [argE, Array.getD_eq_getD_getElem?, Array.getElem?_append, List.getD_eq_getElem?_getD]
    by_cases hi : i < vs.length
    · simp [hi]
    · simp only [hi, Array.getElem?_replicate, if_false, List.getElem?_eq_none (Nat.le_of_not_lt hi), Option.getD_none, List.size_toArray]
      split <;> rfl
  · intro i
    simp only [argE, argD, List.getD_eq_getElem?_getD]
    rcases Nat.lt_or_ge i vs.length with hi | hi
    · have hi' : i < ds.length := by rw [← hrd.len]; exact hi
      rw [List.getElem?_eq_getElem hi, List.getElem?_eq_getElem hi']
      exact hrd.at_ i _ _ (List.getElem?_eq_getElem hi') (List.getElem?_eq_getElem hi)
    · rw [List.getElem?_eq_none hi, List.getElem?_eq_none (by rw [← hrd.len]; exact hi)]
      exact undef_rd _ _
  · intro ex a' w' hq
    have fin : ∀ (e' : Env), Rep fn.ntmps e' a' → At I S w N e' w' → a'.defers = [] ∧ ∃ v, (results fn a'.tmps).run P w' = .ok v w' ∧ ∃ v', Ending.returned v = .returned v' ∧ Q v' w' := by
      intro e' hr ha
      obtain ⟨v, h1, h2⟩ := hN e' a' w' hr ha
      exact ⟨hr.defers, v, h1, v, rfl, h2⟩
    cases ex with
    | normal => obtain ⟨e', hr', h'⟩ := hq; exact fin e' hr' h'
    | ret => obtain ⟨e', hr', h'⟩ := hq; exact fin e' hr' h'
    | exit id => obtain ⟨_, _, h⟩ := hq; obtain ⟨_, _, _, _, _, _, h⟩ := h.ex; exact h.elim
    | _ => exact hq.elim

theorem rel_no {I : CI} {w : World} (h : GI I w) : Rel I noS w := ⟨h, fun k B hk => (by cases hk), fun k k' B B' hk => (by cases hk)⟩

/-- The contract of a function that answers data, out of its body. -/
theorem PC.body (hm : P.follows .mixedOrders = true) {f : FuncId} {fn : Func} {c : Code} {args : List D} {rs : List ResultVar} {K : D → Prop} (hf : P.funcs[f]? = some fn) (hb : fn.body = some c)
    (hn : (fn.name == "runtime.NumGoroutine") = false) (hfit : fits fn.ntmps c = true) (hargs : args.length ≤ fn.ntmps) (hrs : fn.results.toList = rs)
    (h : pvc P c (retC P rs K) (fun _ _ _ => False) (retC P rs K) (argD args) noS) : PC P f args K := by
  subst hrs
  intro w I vs hI hv
  refine body_wp hm hf hb hn hfit (by rw [hv.len]; exact hargs) hv (rel_no hI) h ?_
  rintro e' a w' hr ⟨I1, S1, e, s1, r1, he, hret⟩
  obtain ⟨v, us, ds, h1, h2, h3, h4⟩ := results_rd r1 hr he hret
  obtain ⟨I2, S2, ds2, s2, r2, q2, h5⟩ := coeDs_sound ds r1 h3 h4
  obtain ⟨d, h6, h7⟩ := oneD_rd q2 h5
  have s := s1.trans s2
  refine ⟨v, h1, I2, d, ⟨s.os, s.tape, s.output, s.size, fun b hb => s.frame b hb fun k B hk => by cases hk⟩, s.sub, fun b j hb => ?_, r2.old, ?_, h7⟩
  · rcases s.new b j hb with h8 | h8 | ⟨k, B, h8, _⟩
    · exact .inl h8
    · exact .inr h8
    · cases h8
  · rw [h2]; exact h6

end
end Go.V

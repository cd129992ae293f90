/- Regions and code over values as data. No program in sight. Calls that read and write what the caller owns: the callee's walk over the caller's blocks, under names of its own. No program in sight. Steps of a walk over values as data; slices of one kind of thing. No program in sight. The same state read in another way: rows that are frozen where they lie, blocks under other names. No program in sight. Each kind of operation, and what simp may look into. No program in sight. Operations in one step, continuations as constants (so that simp does not run ahead). No program in sight. Functions as answers: what they hold is frozen, so that it reads as data. No program in sight. Ranges over functions: an iterator's contract, the statement, what an iterator owns beside the loop. No program in sight. Rows of which nothing is frozen; calls that work on one block of their caller's. No program in sight. The program's types: sizes, places, zero values. The walk in one step, and whole walks. Rows of words as data, and what the concrete contracts give. -/
import Derived.Test.YtilnmcabjkpohaaDoorPB
import Derived.Test.YtilnmcabjkpohaaDoorRows
import Derived.Test.YtilnmcabjkpohaaDoorPM
set_option linter.unusedSimpArgs false
set_option linter.unusedVariables false
set_option maxRecDepth 100000
namespace Go.V
open Go Go.RowKit

section
variable {P : Program}

/-- A state that came of another one. -/
structure At (I0 : CI) (S0 : Store) (w0 : World) (N : DEnv → Store → Prop) (e' : Env) (w : World) : Prop where
  mk ::
  ex : ∃ I S e, Stp I0 S0 w0 I S w ∧ Rel I S w ∧ EnvR I w.heap e e' ∧ N e S

/-- The blocks for the deferred calls of loops over functions that are over. -/
def Marks : List Deferred → World → World → Prop
  | [], _, _ => True
  | d :: r, w0, w => (∃ D, d = { target := .collected D, args := #[] } ∧ w0.heap.size ≤ D ∧ w.heap[D]? = some (.deferred (some [])) ∧ ∀ d' ∈ r, ∀ D', d'.target = .collected D' → D' ≠ D) ∧ Marks r w0 w
theorem Marks.of_heap {w0 w w' : World} (hk : ∀ D : Nat, w.heap[D]? = some (Obj.deferred (some [])) → w'.heap[D]? = some (Obj.deferred (some []))) : ∀ {ms : List Deferred}, Marks ms w0 w → Marks ms w0 w'
  | [], _ => trivial
  | _ :: _, ⟨⟨D, h1, h2, h3, h4⟩, hr⟩ => ⟨⟨D, h1, h2, hk D h3, h4⟩, Marks.of_heap hk hr⟩
theorem Marks.step {I I' : CI} {S S' : Store} {w0 w w' : World} {ms : List Deferred} (hR : Rel I S w) (h : Stp I S w I' S' w') (hm : Marks ms w0 w) : Marks ms w0 w' :=
  hm.of_heap fun D hD => by
    rw [h.frame D (Array.getElem?_eq_some_iff.1 hD).1 (fun k B hk e => ?_) (fun G hG e => ?_)]
    · exact hD
    · obtain ⟨cur, el, hb⟩ := hR.cell_at hk
      rw [e, hD] at hb; cases hb
    · have := (hR.gho G hG).rec_
      rw [e, hD] at this
      injection this with this
      have k := (hR.gho G hG).kind
      rw [← this] at k; cases k

structure StpM (ms : List Deferred) (I0 : CI) (S0 : Store) (w0 : World) (I : CI) (S : Store) (w : World) : Prop where
  s : Stp I0 S0 w0 I S w
  m : Marks ms w0 w
theorem StpM.trans {ms : List Deferred} {I0 I I' : CI} {S0 S S' : Store} {w0 w w' : World} (h : StpM ms I0 S0 w0 I S w) (hR : Rel I S w) (k : Stp I S w I' S' w') : StpM ms I0 S0 w0 I' S' w' := ⟨h.s.trans k, h.m.step hR k⟩
theorem StpM.drew {ms : List Deferred} {I0 I : CI} {S0 S : Store} {w0 w : World} (h : StpM ms I0 S0 w0 I S w) : StpM ms I0 S0 w0 I S w.drew := ⟨h.s.drew, Marks.of_heap (w := w) (w' := w.drew) (fun _ h => h) h.m⟩

structure AtM (ms : List Deferred) (I0 : CI) (S0 : Store) (w0 : World) (N : DEnv → Store → Prop) (e' : Env) (w : World) : Prop where
  mk ::
  ex : ∃ I S e, StpM ms I0 S0 w0 I S w ∧ Rel I S w ∧ EnvR I w.heap e e' ∧ N e S

def pgv (d : D) (want : Bool) (run skip : Prop) : Prop := match d with
  | .g (.lit (.bool b)) => if b = want then run else skip
  | .tup [] => skip
  | _ => False
theorem pgv_bool {b want : Bool} {run skip : Prop} : pgv (.g (.lit (.bool b))) want run skip = if b = want then run else skip := rfl
theorem pgv_tup {want : Bool} {run skip : Prop} : pgv (.tup []) want run skip = skip := rfl
def pguardV (ops : List Oper) (o : Oper) (e : DEnv) (run skip : Prop) : Prop :=
  match o.guard with
  | none => run
  | some (j, want) => (match (ops[j]?).bind (·.dst) with
    | some d => pgv (e d) want run skip
    | none => skip)

theorem pguard_sound {I : CI} {H : Array Obj} {e : DEnv} {e' : Env} (he : EnvR I H e e') {ops : List Oper} {o : Oper} {run skip : Prop} (h : pguardV ops o e run skip) {run' skip' : Prop} (hr : run → run') (hs : skip → skip') : guardV ops o e' run' skip' := by
  unfold pguardV at h
  unfold guardV
  split at h
  · rename_i hg; rw [hg]; exact hr h
  · rename_i j want hg
    rw [hg]
    simp only
    split at h
    · rename_i d hd
      rw [hd]
      simp only
      have hrd := he d
      unfold pgv at h
      split at h
      · rename_i b hb
        rw [hb] at hrd
        rw [hrd.lit_inv]
        simp only [gv]
        split at h
        · rename_i hbw; rw [if_pos hbw]; exact hr h
        · rename_i hbw; rw [if_neg hbw]; exact hs h
      · rename_i hb
        rw [hb] at hrd
        obtain ⟨vs, hv, hl⟩ := hrd.tup_inv
        rw [hv]
        exact hs h
      · exact h.elim
    · rename_i hd
      rw [hd]
      exact hs h

def popsV (P : Program) (ops : List Oper) (N : DEnv → Store → Prop) : List Oper → DEnv → Store → Prop
  | [], e, S => N e S
  | o :: r, e, S => pguardV ops o e (popV P o e S fun d S' => popsV P ops N r (putD e o.dst d) S') (popsV P ops N r (putD e o.dst (.tup [])) S)

theorem undef_rd (I : CI) (H : Array Obj) : RdD I H (.tup []) undef := RdD.ofT .nil

theorem popsV_sound {n : Nat} {ops : List Oper} {N : DEnv → Store → Prop} {ms : List Deferred} {I0 : CI} {S0 : Store} {w0 : World} {Q : Exit → Act → World → Prop} (hQ : ∀ e' a w, Rep n e' a ms → AtM ms I0 S0 w0 N e' w → Q .normal a w) :
    ∀ (l : List Oper) (I : CI) (S : Store) (e : DEnv) (e' : Env) (a : Act) (w : World), fitsOps n l = true → Rep n e' a ms → EnvR I w.heap e e' → Rel I S w → StpM ms I0 S0 w0 I S w → popsV P ops N l e S → wpListW P ops.toArray Q l a w
  | [], I, S, e, e', a, w, _, hr, he, hR, hS, h => hQ e' a w hr ⟨I, S, e, hS, hR, he, h⟩
  | o :: r, I, S, e, e', a, w, hf, hr, he, hR, hS, h => by
    have hd := fits_dst hf (List.mem_cons_self ..)
    have hf' : fitsOps n r = true := by simp only [fitsOps, List.all_cons, Bool.and_eq_true] at hf; exact hf.2
    unfold wpListW
    have h' : guardV ops o e' (popV P o e S fun d S' => popsV P ops N r (putD e o.dst d) S') (popsV P ops N r (putD e o.dst (.tup [])) S) := pguard_sound he h id id
    rcases guardV_cases hr h' with ⟨hw, h⟩ | ⟨hw, h⟩
    · rw [if_pos hw]
      unfold opW
      rw [hr.eval]
      refine (popV_sound he hR h).upon fun v w' ⟨I', S', d, s1, r1, hd', hk⟩ => ?_
      exact popsV_sound hQ r I' S' _ _ _ _ hf' (hr.put hd v) ((he.mono s1.sub s1.ev).put hd' _) r1 (hS.trans hR s1) hk
    · rw [if_neg (by simp [hw])]
      exact popsV_sound hQ r I S _ _ _ _ hf' (hr.put hd undef) (he.put (undef_rd _ _) _) hR hS h

def pmodeV (P : Program) (o : Oper) (m : Nat) (e : DEnv) (S : Store) (K : D → Store → Prop) : Prop :=
  match m with
  | 0 => ppureV P o e (fun d => K d S)
  | 1 => (match o.op with | .load t a => loadD P S t (pev e a) (fun d => K d S) | _ => False)
  | 2 => (match o.op with | .load t a => loadD P S t (pev e a) (fun d => K d S) | _ => False)
  | 3 => popV P o e S K
  | _ => pextV P o e S K

def pdV (P : Program) (ops : List Oper) (N : DEnv → Store → Prop) : List (Nat × Nat) → DEnv → Store → Prop
  | [], e, S => N e S
  | (i, m) :: r, e, S => (match ops[i]? with
    | none => False
    | some o => pguardV ops o e (pmodeV P o m e S (fun d S' => pdV P ops N r (putD e o.dst d) S')) (pdV P ops N r (putD e o.dst (.tup [])) S))

theorem pdV_sound {n : Nat} {ops : List Oper} {mode : Nat → Nat} {N : DEnv → Store → Prop} {ms : List Deferred} {I0 : CI} {S0 : Store} {w0 : World} {Q : Exit → Act → World → Prop} (hs : Region.noSelect ops.toArray = true) (hQ : ∀ c a w, ¬ Q (.panic c) a w)
    (hN : ∀ e' a w, Rep n e' a ms → AtM ms I0 S0 w0 N e' w → Q .normal a w) (hf : fitsOps n ops = true) :
    ∀ (pl : List (Nat × Nat)) (listed : Array Bool) (I : CI) (S : Store) (e : DEnv) (e' : Env) (a : Act) (w : World), planFrom ops.toArray mode pl listed = true → Rep n e' a ms → EnvR I w.heap e e' → Rel I S w → StpM ms I0 S0 w0 I S w →
      pdV P ops N pl e S → wpAnyC P ops.toArray mode Q pl.length listed a w
  | [], listed, I, S, e, e', a, w, hp, hr, he, hR, hS, h => ⟨by simpa [planFrom] using hp, hN e' a w hr ⟨I, S, e, hS, hR, he, h⟩⟩
  | (i, m) :: r, listed, I, S, e, e', a, w, hp, hr, he, hR, hS, h => by
    simp only [planFrom, Bool.and_eq_true] at hp
    obtain ⟨hp, hp'⟩ := hp
    unfold pdV at h
    cases ho : ops[i]? with
    | none => rw [ho] at h; exact h.elim
    | some o =>
      rw [ho] at h
      simp only at h
      have hi : ops.toArray[i]? = some o := by simpa using ho
      have hd := fits_dst hf (List.mem_of_getElem? ho)
      have ih := fun (I : CI) (S : Store) (e : DEnv) (e' : Env) (a : Act) (w : World) (hr : Rep n e' a ms) (he : EnvR I w.heap e e') (hR : Rel I S w) (hS : StpM ms I0 S0 w0 I S w) (h : pdV P ops N r e S) =>
        pdV_sound hs hQ hN hf r _ I S e e' a w hp' hr he hR hS h
      have h' : guardV ops o e' (pmodeV P o m e S (fun d S' => pdV P ops N r (putD e o.dst d) S')) (pdV P ops N r (putD e o.dst (.tup [])) S) := pguard_sound he h id id
      by_cases hm : m ≤ 2
      · rw [if_pos hm] at hp
        rcases guardV_cases hr h' with ⟨hw, h⟩ | ⟨hw, h⟩
        · have fin : ∀ (C : World → Prop) (v : Value) (d : D), RdD I w.heap d v → (∀ m' w1 w2, beside m m' = true → C w1 → Cl m' w1 w2 → C w2) → C w → (∀ w', C w' → (execOp (V.ev e') o).run P w' = .ok (.value v) w') →
              pdV P ops N r (putD e o.dst d) S → wpAnyC P ops.toArray mode Q (r.length + 1) listed a w := by
            intro C v d hdv hpres hC hv hk
            refine quiet_step hi hs hQ hp hpres r.length a w hC (.inl ⟨hw, fun w' hw' => ?_⟩) (ih I S _ _ _ w (hr.put hd v) (he.put hdv _) hR hS hk)
            rw [hr.eval]; exact hv w' hw'
          have load_ : ∀ (h : match o.op with | .load t a => loadD P S t (pev e a) (fun d => pdV P ops N r (putD e o.dst d) S) | _ => False),
              ∃ u d, (∀ w', Ext w w' → (execOp (V.ev e') o).run P w' = .ok (.value u) w') ∧ RdD I w.heap d u ∧ pdV P ops N r (putD e o.dst d) S := by
            intro h
            split at h
            · rename_i t x hop
              obtain ⟨u, h1, d, h2, h3⟩ := loadD_sound (P := P) hR (he.ev x) h
              refine ⟨u, d, fun w' hE => ?_, h2, h3⟩
              have h1 := h1 w' hE
              simp only [execOp, hop]
              unfold Ld Does at h1
              simp only [Sem.run_bind, h1, Result.andThen_ok, Sem.run_pure]
            · exact h.elim
          match m, hm with
          | 0, _ =>
            simp only [pmodeV] at h
            obtain ⟨v, h1, d, h2, h3⟩ := pureV_sound (ppure_sound (P := P) he h)
            exact fin (fun _ => True) v d h2 (fun _ _ _ _ _ _ => trivial) trivial (fun w' _ => h1 w') h3
          | 1, _ =>
            simp only [pmodeV] at h
            obtain ⟨u, d, h1, h2, h3⟩ := load_ h
            refine fin (fun w' => w' = w) u d h2 (fun m' w1 w2 hb h1 h2 => ?_) rfl (fun w' hw' => ?_) h3
            · simp only [beside, decide_eq_true_eq] at hb
              exact (Cl.of_quiet hb h2).trans h1
            · subst hw'; exact h1 _ (Ext.refl _)
          | 2, _ =>
            simp only [pmodeV] at h
            obtain ⟨u, d, h1, h2, h3⟩ := load_ h
            refine fin (fun w' => Ext w w') u d h2 (fun m' w1 w2 hb h1 h2 => ?_) (Ext.refl _) h1 h3
            simp only [beside, Bool.or_eq_true, decide_eq_true_eq, beq_iff_eq] at hb
            rcases hb with hb | hb
            · rw [Cl.of_quiet hb h2]; exact h1
            · subst hb
              have h2' : Ext w1 w2 := by unfold Cl at h2; simpa using h2
              exact h1.trans' h2'
        · refine quiet_step (C := fun w' => w' = w ∨ True) hi hs hQ hp (fun _ _ _ _ _ _ => .inr trivial) r.length a w (.inl rfl) (.inr ⟨hw, rfl⟩) (ih I S _ _ _ w (hr.put hd undef) (he.put (undef_rd _ _) _) hR hS h)
      · rw [if_neg hm] at hp
        simp only [Bool.and_eq_true, beq_iff_eq] at hp
        obtain ⟨hmi, hready⟩ := hp
        refine ⟨fun h0 => (by rw [h0] at hready; cases hready), fun j hj => ?_⟩
        rw [hready] at hj
        obtain rfl := List.mem_singleton.1 hj
        unfold wpOpW
        simp only [hi]
        rcases guardV_cases hr h' with ⟨hw, h⟩ | ⟨hw, h⟩
        · rw [if_pos hw]
          unfold opW
          rw [hr.eval]
          match m, hm, hmi with
          | 3, _, hmi =>
            simp only [pmodeV] at h
            exact (popV_sound he hR h).upon fun v w' ⟨I', S', d, s1, r1, hd', hk⟩ => ⟨by rw [hmi]; simp [Cl], ih I' S' _ _ _ _ (hr.put hd v) ((he.mono s1.sub s1.ev).put hd' _) r1 (hS.trans hR s1) hk⟩
          | k + 4, _, hmi =>
            simp only [pmodeV] at h
            refine (pextV_sound he hR h).upon fun v w' ⟨hE, I', S', d, s1, r1, hd', hk⟩ => ⟨?_, ih I' S' _ _ _ _ (hr.put hd v) ((he.mono s1.sub s1.ev).put hd' _) r1 (hS.trans hR s1) hk⟩
            rw [hmi]
            unfold Cl
            rw [if_neg (by omega)]
            split
            · exact hE
            · trivial
        · rw [if_neg (by simp [hw])]
          exact ⟨Cl.refl _ _, ih I S _ _ _ w (hr.put hd undef) (he.put (undef_rd _ _) _) hR hS h⟩

/-! ### Allocations beside calls -/
section
variable {P : Program} {ops : List Oper} {N : DEnv → Store → Prop}

theorem updD_comm {e : DEnv} {i j : Nat} {x y : D} (h : i ≠ j) : updD (updD e i x) j y = updD (updD e j y) i x := by
  funext k
  simp only [updD_apply]
  by_cases h1 : k = j
  · subst h1
    have h2 : (k == i) = false := beq_eq_false_iff_ne.2 (fun h2 => h h2.symm)
    rw [h2, beq_self_eq_true]; rfl
  · have h2 : (k == j) = false := beq_eq_false_iff_ne.2 h1
    rw [h2]; rfl
theorem updS_comm {S : Store} {i j : Nm} {x y : Option Blk} (h : i ≠ j) : updS (updS S i x) j y = updS (updS S j y) i x := by
  refine Store.ext2 (fun k => ?_) rfl
  simp only [updS_apply]
  by_cases h1 : k = j
  · subst h1; rw [if_pos rfl, if_neg (fun h2 => h h2.symm), if_pos rfl]
  · rw [if_neg h1, if_neg h1]
def avoids (d : Nat) : Operand → Bool
  | .tmp n => n != d
  | _ => true
theorem pev_avoid {e : DEnv} {d : Nat} {v : D} {x : Operand} (h : avoids d x = true) : pev (updD e d v) x = pev e x := by
  cases x with
  | tmp n =>
    have : n ≠ d := by simpa [avoids] using h
    rw [pev_tmp, pev_tmp, updD_apply, beq_eq_false_iff_ne.2 this]; rfl
  | _ => rfl
theorem pevs_avoid {e : DEnv} {d : Nat} {v : D} : ∀ {xs : List Operand}, xs.all (avoids d) = true → xs.map (pev (updD e d v)) = xs.map (pev e)
  | [], _ => rfl
  | x :: r, h => by
    simp only [List.all_cons, Bool.and_eq_true] at h
    rw [List.map_cons, List.map_cons, pev_avoid h.1, pevs_avoid h.2]
theorem callD_mono {x : D} {args : List D} {K K' : Cal → List D → Prop} (hk : ∀ f a, K f a → K' f a) (h : callD P x args K) : callD P x args K' := by
  unfold callD at *
  split at h
  · exact hk _ _ h
  · exact hk _ _ h
  · exact h.elim
theorem coeC_put {k : Nm} {blk : Option Blk} {d : D} {S : Store} {K K' : D → Store → Prop} (hk : ∀ d' T, K d' T → T k = none → K' d' (updS T k blk)) (hS : S k = none) (h : coeC d S K) : coeC d (updS S k blk) K' := by
  cases d with
  | own k' b o n c s =>
    rw [coeC_own] at h ⊢
    have hne : k' ≠ k := by
      rintro rfl
      rw [hS] at h; exact h
    rw [updS_apply, if_neg hne]
    obtain ⟨B, hB, h1, h2, h3, h4⟩ := optB_cases h
    rw [hB]
    refine ⟨h1, h2, h3, ?_⟩
    unfold optLL at *
    split at h4
    · rename_i x hx
      rw [updS_comm (fun h => hne h.symm)]
      exact hk _ _ h4 (by rw [updS_apply, if_neg (fun h => hne h.symm)]; exact hS)
    · exact h4.elim
  | nil => exact hk _ _ h hS
  | g x => exact hk _ _ h hS
  | agg cs => exact hk _ _ h hS
  | tup cs => exact hk _ _ h hS
  | ptr k b i o s => exact hk _ _ h hS
  | ip cs => exact hk _ _ h hS
  | fn f a c => exact hk _ _ h hS
  | yl l => exact hk _ _ h hS
  | arr _ _ _ => exact hk _ _ h hS
  | junk => exact hk _ _ h hS
theorem coeCs_put {k : Nm} {blk : Option Blk} : ∀ {ds : List D} {S : Store} {K K' : List D → Store → Prop}, (∀ ds' T, K ds' T → T k = none → K' ds' (updS T k blk)) → S k = none → coeCs ds S K → coeCs ds (updS S k blk) K'
  | [], S, K, K', hk, hS, h => hk _ _ h hS
  | d :: r, S, K, K', hk, hS, h => by
    rw [coeCs_cons] at h ⊢
    exact coeC_put (fun d' T h1 hT => coeCs_put (fun r' T' h2 hT' => hk _ _ h2 hT') hT h1) hS h
theorem coeD_put {k : Nm} {blk : Option Blk} {d : D} {S : Store} {K K' : D → Store → Prop} (hk : ∀ d' T, K d' T → T k = none → K' d' (updS T k blk)) (hS : S k = none) (h : coeD d S K) : coeD d (updS S k blk) K' := by
  unfold coeD at *
  split at h
  · exact coeCs_put (fun cs' T h1 hT => hk _ _ h1 hT) hS h
  · exact coeC_put hk hS h
theorem coeDs_put {k : Nm} {blk : Option Blk} : ∀ {ds : List D} {S : Store} {K K' : List D → Store → Prop}, (∀ ds' T, K ds' T → T k = none → K' ds' (updS T k blk)) → S k = none → coeDs ds S K → coeDs ds (updS S k blk) K'
  | [], S, K, K', hk, hS, h => hk _ _ h hS
  | d :: r, S, K, K', hk, hS, h => by
    rw [coeDs_cons] at h ⊢
    exact coeD_put (fun d' T h1 hT => coeDs_put (fun r' T' h2 hT' => hk _ _ h2 hT') hT h1) hS h

/-- A call that reads nothing of slot d and does not write it. -/
def okCall (ops : List Oper) (d : Nat) (c : Nat) : Bool := match ops[c]? with
  | some ⟨some d', .call ⟨.value x, args, _⟩, _, _, _, none⟩ => d' != d && avoids d x && args.toList.all (avoids d)
  | _ => false
def okNew (ops : List Oper) (d : Nat) (c : Nat) : Bool := match ops[c]? with
  | some ⟨some d', .alloc _, _, _, _, none⟩ => d' != d
  | _ => false
def isNew (P : Program) (ops : List Oper) (a d : Nat) (z : List D) : Prop := ∃ t ty pos aft, ops[a]? = some ⟨some d, .alloc t, ty, pos, aft, none⟩ ∧ zeroD P t = some z

theorem pull {a d : Nat} {z : List D} (ha : isNew P ops a d z) (as2 : List Nat) : ∀ (cs as1 : List Nat) (e : DEnv) (S : Store), (cs.all (okCall ops d)) = true → (as1.all (okNew ops d)) = true → S (.l d) = none →
    pdV P ops N ((cs ++ (as1 ++ a :: as2)).map fun i => (i, 4)) e S → ∀ b, pdV P ops N ((cs ++ (as1 ++ as2)).map fun i => (i, 4)) (updD e d (.ptr (.l d) b 0 0 z.length)) (updS S (.l d) (some ⟨b, z.length, 0, [z]⟩))
  | [], [], e, S, _, _, hS, h, b => by
    obtain ⟨t, ty, pos, aft, ha, hz⟩ := ha
    simp only [List.nil_append, List.map_cons, pdV, ha, pguardV, pmodeV, pextV, newV, hz, dnm, Option.getD_some] at h
    exact h b
  | [], x :: as1, e, S, hc, hn, hS, h, b => by
    simp only [List.all_cons, Bool.and_eq_true] at hn
    have hx := hn.1
    unfold okNew at hx
    split at hx
    · rename_i d' t' ty' pos' aft' hx'
      have hne : d' ≠ d := by simpa using hx
      simp only [List.nil_append, List.cons_append, List.map_cons, pdV, hx', pguardV, pmodeV, pextV, newV, dnm, Option.getD_some] at h ⊢
      split at h
      · rename_i z' hz'
        intro b'
        have := pull ha as2 [] as1 _ _ hc hn.2 (by rw [updS_apply, if_neg (by intro h; injection h with h; exact hne h.symm)]; exact hS) (h b') b
        simp only [List.nil_append, putD_some] at this ⊢
        rw [updD_comm (fun h => hne h.symm), updS_comm (by intro h; injection h with h; exact hne h.symm)]
        exact this
      · exact h.elim
    · cases hx
  | c :: cs, as1, e, S, hc, hn, hS, h, b => by
    simp only [List.all_cons, Bool.and_eq_true] at hc
    have hx := hc.1
    unfold okCall at hx
    split at hx
    · rename_i d' x args ats ty' pos' aft' hx'
      simp only [Bool.and_eq_true, bne_iff_ne, ne_eq] at hx
      obtain ⟨⟨hne, hx1⟩, hx2⟩ := hx
      simp only [List.cons_append, List.map_cons, pdV, hx', pguardV, pmodeV, pextV] at h ⊢
      rw [pev_avoid hx1, pevs_avoid hx2]
      refine callD_mono (fun c as' h1 => ?_) h
      cases c with | y l => exact h1.elim | f f => ?_
      refine coeDs_put (fun ds' T h2 hT => ?_) hS h1
      refine h2.mono fun v h3 => ?_
      have := pull ha as2 cs as1 _ _ hc.2 hn hT h3 b
      simp only [putD_some] at this ⊢
      rw [updD_comm (fun h => hne h.symm)]
      exact this
    · cases hx
theorem coeC_keep {k : Nm} {d : D} {S : Store} {K K' : D → Store → Prop} (hk : ∀ d' T, K d' T → (∀ k, S k = none → T k = none) → K' d' T) (h : coeC d S K) : coeC d S K' := by
  cases d with
  | own k' b o n c s =>
    rw [coeC_own] at h ⊢
    obtain ⟨B, hB, h1, h2, h3, h4⟩ := optB_cases h
    rw [hB]
    refine ⟨h1, h2, h3, ?_⟩
    unfold optLL at *
    split at h4
    · rename_i x hx
      refine hk _ _ h4 fun j hj => ?_
      rw [updS_apply]
      split
      · rename_i e; rw [e, hB] at hj; cases hj
      · exact hj
    · exact h4.elim
  | _ => exact hk _ _ h fun _ h => h
theorem coeCs_keep : ∀ {ds : List D} {S : Store} {K K' : List D → Store → Prop}, (∀ ds' T, K ds' T → (∀ k, S k = none → T k = none) → K' ds' T) → coeCs ds S K → coeCs ds S K'
  | [], S, K, K', hk, h => hk _ _ h fun _ h => h
  | d :: r, S, K, K', hk, h => by
    rw [coeCs_cons] at h ⊢
    exact coeC_keep (k := .l 0) (fun d' T h1 hT => coeCs_keep (fun r' T' h2 hT' => hk _ _ h2 fun j hj => hT' j (hT j hj)) h1) h
theorem coeD_keep {d : D} {S : Store} {K K' : D → Store → Prop} (hk : ∀ d' T, K d' T → (∀ k, S k = none → T k = none) → K' d' T) (h : coeD d S K) : coeD d S K' := by
  unfold coeD at *
  split at h
  · exact coeCs_keep (fun cs' T h1 hT => hk _ _ h1 hT) h
  · exact coeC_keep (k := .l 0) hk h
theorem coeDs_keep : ∀ {ds : List D} {S : Store} {K K' : List D → Store → Prop}, (∀ ds' T, K ds' T → (∀ k, S k = none → T k = none) → K' ds' T) → coeDs ds S K → coeDs ds S K'
  | [], S, K, K', hk, h => hk _ _ h fun _ h => h
  | d :: r, S, K, K', hk, h => by
    rw [coeDs_cons] at h ⊢
    exact coeD_keep (fun d' T h1 hT => coeDs_keep (fun r' T' h2 hT' => hk _ _ h2 fun j hj => hT' j (hT j hj)) h1) h

/-! ### Which operations are ready -/
def dOf (ops : List Oper) (a : Nat) : Nat := match ops[a]? with | some o => o.dst.getD 0 | none => 0
def setAll (l : Array Bool) (xs : List Nat) : Array Bool := xs.foldl (fun l i => l.setIfInBounds i true) l
def hasPred (ops : List Oper) (q x : Nat) : Bool := match ops[q]? with | some o => o.after.toList.any fun ed => Region.binds .any ed && ed.on == x | none => false
def predsIn (ops : List Oper) (l : Array Bool) (q : Nat) : Bool := match ops[q]? with | some o => o.after.all fun ed => !Region.binds .any ed || l.getD ed.on false | none => false
def chainB (ops : List Oper) : List Nat → Bool
  | c :: r => (match r with | [] => true | c' :: _ => hasPred ops c' c) && chainB ops r
  | [] => true
def cavB (ops : List Oper) : Array Bool → List Nat → Bool
  | l, c :: r => predsIn ops l c && cavB ops (l.setIfInBounds c true) r
  | _, [] => true
def newB (ops : List Oper) (a : Nat) : Bool := match ops[a]? with | some ⟨some _, .alloc _, _, _, _, none⟩ => true | _ => false
def callB (ops : List Oper) (c : Nat) : Bool := match ops[c]? with | some ⟨some _, .call ⟨.value _, _, _⟩, _, _, _, none⟩ => true | _ => false
def nodupB : List Nat → Bool
  | [] => true
  | x :: r => !r.contains x && nodupB r
def lastL : List Nat → List Nat
  | [] => []
  | c :: r => match r with | [] => [c] | _ :: _ => lastL r
theorem lastL_sub : ∀ {cs : List Nat} {x : Nat}, x ∈ lastL cs → x ∈ cs
  | [c], x, h => h
  | c :: c' :: r, x, h => List.mem_cons_of_mem _ (lastL_sub (cs := c' :: r) h)
theorem lastL_cons {c : Nat} : ∀ {cs : List Nat} {x : Nat}, x ∈ lastL cs → x ∈ lastL (c :: cs)
  | c' :: r, x, h => h
theorem lastL_ne : ∀ {cs : List Nat}, cs ≠ [] → lastL cs ≠ []
  | [c], _ => by simp [lastL]
  | c :: c' :: r, _ => lastL_ne (cs := c' :: r) (by simp)
def mixB (ops : List Oper) (mode : Nat → Nat) (l : Array Bool) (cs ars : List Nat) : Bool :=
  (cs ++ ars).all (fun x => !l.getD x true) && nodupB (cs ++ ars) && (List.range ops.length).all (fun q => l.getD q true || (cs ++ ars).contains q || (lastL cs ++ ars).all (hasPred ops q) || (List.range ops.length).any (fun p => hasPred ops q p && !l.getD p true && !(cs ++ ars).contains p)) &&
  chainB ops cs && cavB ops l cs && ars.all (predsIn ops l) && cs.all (fun c => mode c == 4 && callB ops c && ars.all fun a => okCall ops (dOf ops a) c) && ars.all (fun a => mode a == 4 && newB ops a && ars.all fun y => y == a || okNew ops (dOf ops a) y)

theorem set_comm (l : Array Bool) (i j : Nat) : (l.setIfInBounds i true).setIfInBounds j true = (l.setIfInBounds j true).setIfInBounds i true := by
  by_cases h : i = j
  · subst h; rfl
  · exact Array.setIfInBounds_comm _ _ h
theorem setAll_set : ∀ (xs : List Nat) (l : Array Bool) (a : Nat), setAll (l.setIfInBounds a true) xs = (setAll l xs).setIfInBounds a true
  | [], l, a => rfl
  | x :: r, l, a => by
    show setAll ((l.setIfInBounds a true).setIfInBounds x true) r = (setAll (l.setIfInBounds x true) r).setIfInBounds a true
    rw [set_comm, setAll_set r]
theorem setAll_app (l : Array Bool) (xs ys : List Nat) : setAll l (xs ++ ys) = setAll (setAll l xs) ys := List.foldl_append
theorem setAll_mid (l : Array Bool) (cs as1 as2 : List Nat) (a : Nat) : setAll (l.setIfInBounds a true) (cs ++ (as1 ++ as2)) = setAll l (cs ++ (as1 ++ a :: as2)) := by
  rw [setAll_set, setAll_app, setAll_app, setAll_app, setAll_app]
  show _ = setAll ((setAll (setAll l cs) as1).setIfInBounds a true) as2
  rw [setAll_set]
theorem listed_ne {l : Array Bool} {x : Nat} (h : l.getD x true = false) : ¬ l.getD x false = true := by
  intro h2
  rcases Nat.lt_or_ge x l.size with h3 | h3
  · simp [h3] at h h2; rw [h] at h2; cases h2
  · simp [Array.getElem?_eq_none h3] at h
structure MixOk (ops : List Oper) (mode : Nat → Nat) (l : Array Bool) (cs ars : List Nat) : Prop where
  un : ∀ x ∈ cs ++ ars, l.getD x true = false
  nd : (cs ++ ars).Nodup
  oth : ∀ q, q < ops.length → l.getD q true = false → q ∈ cs ++ ars ∨ (∀ x ∈ lastL cs ++ ars, hasPred ops q x = true) ∨ ∃ p, hasPred ops q p = true ∧ l.getD p true = false ∧ p ∉ cs ++ ars
  chain : chainB ops cs = true
  cav : cavB ops l cs = true
  aav : ∀ a ∈ ars, predsIn ops l a = true
  kc : ∀ c ∈ cs, (mode c = 4 ∧ callB ops c = true) ∧ ∀ a ∈ ars, okCall ops (dOf ops a) c = true
  ka : ∀ a ∈ ars, mode a = 4 ∧ newB ops a = true ∧ ∀ y ∈ ars, y ≠ a → okNew ops (dOf ops a) y = true
theorem nodup_of : ∀ {xs : List Nat}, nodupB xs = true → xs.Nodup
  | [], _ => List.nodup_nil
  | x :: r, h => by
    simp only [nodupB, Bool.and_eq_true, Bool.not_eq_true'] at h
    exact List.nodup_cons.2 ⟨by simpa using h.1, nodup_of h.2⟩
theorem MixOk.of {mode : Nat → Nat} {l : Array Bool} {cs ars : List Nat} (h : mixB ops mode l cs ars = true) : MixOk ops mode l cs ars := by
  simp only [mixB, Bool.and_eq_true, List.all_eq_true, List.any_eq_true, Bool.not_eq_true', Bool.or_eq_true, List.contains_iff_mem, beq_iff_eq, List.mem_range] at h
  obtain ⟨⟨⟨⟨⟨⟨⟨h1, h2⟩, h3⟩, h4⟩, h5⟩, h6⟩, h7⟩, h8⟩ := h
  refine ⟨h1, nodup_of h2, fun q hq hl => ?_, h4, h5, h6, h7, fun a ha => ⟨(h8 a ha).1.1, (h8 a ha).1.2, fun y hy hne => ((h8 a ha).2 y hy).resolve_left hne⟩⟩
  rcases h3 q hq with ((h | h) | h) | ⟨p, _, ⟨h, h'⟩, h''⟩
  · rw [hl] at h; cases h
  · exact .inl h
  · exact .inr (.inl h)
  · exact .inr (.inr ⟨p, h, h', fun hm => by rw [List.contains_iff_mem.2 hm] at h''; cases h''⟩)
theorem predsIn_mono {l : Array Bool} {i q : Nat} (h : predsIn ops l q = true) : predsIn ops (l.setIfInBounds i true) q = true := by
  unfold predsIn at *
  split at h
  · simp only [Array.all_eq_true_iff_forall_mem, Bool.or_eq_true] at h ⊢
    exact fun ed he => (h ed he).imp id getD_set_true
  · cases h
theorem cavB_mono : ∀ {cs : List Nat} {l : Array Bool} {i : Nat}, cavB ops l cs = true → cavB ops (l.setIfInBounds i true) cs = true
  | [], _, _, _ => rfl
  | c :: r, l, i, h => by
    simp only [cavB, Bool.and_eq_true] at h ⊢
    refine ⟨predsIn_mono h.1, ?_⟩
    rw [set_comm]
    exact cavB_mono h.2
theorem ready_of {l : Array Bool} {q : Nat} (hl : l.getD q true = false) (h : predsIn ops l q = true) : q ∈ Region.ready .any ops.toArray l := by
  rw [mem_ready]
  refine ⟨hl, ?_⟩
  unfold predsIn at h
  split at h
  · rename_i o ho
    simp only [Array.all_eq_true_iff_forall_mem, Bool.or_eq_true, Bool.not_eq_true'] at h
    refine ⟨o, by simpa using ho, fun ed he hb => (h ed he).resolve_left (by simp [hb])⟩
  · cases h
theorem not_ready {l : Array Bool} {q x : Nat} (hx : l.getD x true = false) (h : hasPred ops q x = true) : q ∉ Region.ready .any ops.toArray l := by
  intro hq
  rw [mem_ready] at hq
  obtain ⟨_, o, ho, h2⟩ := hq
  unfold hasPred at h
  rw [show ops[q]? = some o by simpa using ho] at h
  simp only [List.any_eq_true, Bool.and_eq_true, beq_iff_eq] at h
  obtain ⟨ed, he, hb, rfl⟩ := h
  exact listed_ne hx (h2 ed (by simpa using he) hb)
theorem chain_tail : ∀ {cs : List Nat}, chainB ops cs = true → ∀ q ∈ cs.tail, ∃ p ∈ cs, hasPred ops q p = true
  | [], _, q, hq => by cases hq
  | [c], _, q, hq => by cases hq
  | c :: c' :: r, h, q, hq => by
    simp only [chainB, Bool.and_eq_true] at h
    rcases List.mem_cons.1 hq with rfl | hq
    · exact ⟨c, by simp, h.1⟩
    · obtain ⟨p, hp, h2⟩ := chain_tail (cs := c' :: r) (by simp only [chainB, Bool.and_eq_true]; exact h.2) q hq
      exact ⟨p, List.mem_cons_of_mem _ hp, h2⟩
theorem MixOk.ready {mode : Nat → Nat} {l : Array Bool} {cs ars : List Nat} (h : MixOk ops mode l cs ars) (hne : cs ++ ars ≠ []) {q : Nat} (hq : q ∈ Region.ready .any ops.toArray l) : cs.head? = some q ∨ q ∈ ars := by
  have hq2 := mem_ready.1 hq
  obtain ⟨hl, o, ho, _⟩ := hq2
  have hlt : q < ops.length := by
    have : ops[q]? = some o := by simpa using ho
    exact (List.getElem?_eq_some_iff.1 this).1
  rcases h.oth q hlt hl with hm | hm | ⟨p, hp, hpl, _⟩
  · rcases List.mem_append.1 hm with hm | hm
    · cases cs with
      | nil => cases hm
      | cons c r =>
        rcases List.mem_cons.1 hm with rfl | hm
        · exact .inl rfl
        · obtain ⟨p, hp, h2⟩ := chain_tail h.chain q hm
          exact absurd hq (not_ready (h.un p (List.mem_append_left _ hp)) h2)
    · exact .inr hm
  · have hne2 : lastL cs ++ ars ≠ [] := by
      intro h0
      obtain ⟨h1, h2⟩ := List.append_eq_nil_iff.1 h0
      cases cs with
      | nil => subst h2; exact hne rfl
      | cons c r => exact lastL_ne (by simp) h1
    obtain ⟨x, hx⟩ := List.exists_mem_of_ne_nil _ hne2
    have hx2 : x ∈ cs ++ ars := by
      rcases List.mem_append.1 hx with hx | hx
      · exact List.mem_append_left _ (lastL_sub hx)
      · exact List.mem_append_right _ hx
    exact absurd hq (not_ready (h.un x hx2) (hm x hx))
  · exact absurd hq (not_ready hpl hp)
theorem MixOk.some {mode : Nat → Nat} {l : Array Bool} {cs ars : List Nat} (h : MixOk ops mode l cs ars) (hne : cs ++ ars ≠ []) : Region.ready .any ops.toArray l ≠ [] := by
  cases cs with
  | cons c r =>
    have := h.cav
    simp only [cavB, Bool.and_eq_true] at this
    exact List.ne_nil_of_mem (ready_of (h.un c (by simp)) this.1)
  | nil =>
    cases ars with
    | nil => exact absurd rfl hne
    | cons a r => exact List.ne_nil_of_mem (ready_of (h.un a (by simp)) (h.aav a (by simp)))
theorem set_un {l : Array Bool} {q c : Nat} (h : (l.setIfInBounds c true).getD q true = false) : q ≠ c ∧ l.getD q true = false := by
  by_cases hq : q = c
  · subst hq
    rcases Nat.lt_or_ge q l.size with h3 | h3
    · simp [h3] at h
    · simp [h3] at h
  · exact ⟨hq, by rwa [getD_set_ne true (fun h2 => hq h2.symm)] at h⟩
theorem MixOk.call {mode : Nat → Nat} {l : Array Bool} {c : Nat} {cs ars : List Nat} (h : MixOk ops mode l (c :: cs) ars) : MixOk ops mode (l.setIfInBounds c true) cs ars := by
  have hnd := List.nodup_cons.1 (show (c :: (cs ++ ars)).Nodup from h.nd)
  have hcav := h.cav
  simp only [cavB, Bool.and_eq_true] at hcav
  have hch := h.chain
  simp only [chainB, Bool.and_eq_true] at hch
  refine ⟨fun x hx => ?_, hnd.2, fun q hq hl => ?_, hch.2, hcav.2, fun a ha => predsIn_mono (h.aav a ha), fun c' hc' => h.kc c' (List.mem_cons_of_mem _ hc'), h.ka⟩
  · rw [getD_set_ne true (fun e => hnd.1 (by rw [e]; exact hx))]; exact h.un x (List.mem_cons_of_mem _ hx)
  · obtain ⟨h1, h2⟩ := set_un hl
    rcases h.oth q hq h2 with h3 | h3 | ⟨p, h3, h4, h5⟩
    · exact .inl ((List.mem_cons.1 h3).resolve_left h1)
    · exact .inr (.inl fun x hx => h3 x (by
        rcases List.mem_append.1 hx with hx | hx
        · exact List.mem_append_left _ (lastL_cons hx)
        · exact List.mem_append_right _ hx))
    · exact .inr (.inr ⟨p, h3, by rw [getD_set_ne true (fun e => h5 (by rw [← e]; simp))]; exact h4, fun hm => h5 (List.mem_cons_of_mem _ hm)⟩)
theorem MixOk.new {mode : Nat → Nat} {l : Array Bool} {a : Nat} {cs as1 as2 : List Nat} (h : MixOk ops mode l cs (as1 ++ a :: as2)) : MixOk ops mode (l.setIfInBounds a true) cs (as1 ++ as2) := by
  have hp : (cs ++ (as1 ++ a :: as2)).Perm (a :: (cs ++ (as1 ++ as2))) := by
    rw [← List.append_assoc, ← List.append_assoc]; exact List.perm_middle
  have hnd := List.nodup_cons.1 (hp.nodup_iff.1 h.nd)
  have sub : ∀ x, x ∈ as1 ++ as2 → x ∈ as1 ++ a :: as2 := fun x hx => by
    rcases List.mem_append.1 hx with hx | hx
    · exact List.mem_append_left _ hx
    · exact List.mem_append_right _ (List.mem_cons_of_mem _ hx)
  refine ⟨fun x hx => ?_, hnd.2, fun q hq hl => ?_, h.chain, cavB_mono h.cav, fun x hx => predsIn_mono (h.aav x (sub x hx)), fun c hc => ⟨(h.kc c hc).1, fun x hx => (h.kc c hc).2 x (sub x hx)⟩,
    fun x hx => ⟨(h.ka x (sub x hx)).1, (h.ka x (sub x hx)).2.1, fun y hy => (h.ka x (sub x hx)).2.2 y (sub y hy)⟩⟩
  · rw [getD_set_ne true (fun e => hnd.1 (by rw [e]; exact hx))]; exact h.un x (hp.mem_iff.2 (List.mem_cons_of_mem _ hx))
  · obtain ⟨h1, h2⟩ := set_un hl
    rcases h.oth q hq h2 with h3 | h3 | ⟨p, h3, h4, h5⟩
    · exact .inl ((List.mem_cons.1 (hp.mem_iff.1 h3)).resolve_left h1)
    · exact .inr (.inl fun x hx => h3 x (by
        rcases List.mem_append.1 hx with hx | hx
        · exact List.mem_append_left _ hx
        · exact List.mem_append_right _ (sub x hx)))
    · exact .inr (.inr ⟨p, h3, by rw [getD_set_ne true (fun e => h5 (by rw [← e]; exact hp.mem_iff.2 (by simp)))]; exact h4, fun hm => h5 (hp.mem_iff.2 (List.mem_cons_of_mem _ hm))⟩)
/-- What the allocations want: their zero values, their names unused. -/
def freshA (P : Program) (ops : List Oper) (S : Store) : List Nat → Prop
  | [] => True
  | a :: r => (match ops[a]? with
    | some ⟨some d, .alloc t, _, _, _, none⟩ => (match zeroD P t with | some _ => S (.l d) = none | none => False)
    | _ => False) ∧ freshA P ops S r
theorem freshA.keep {S T : Store} (hk : ∀ k, S k = none → T k = none) : ∀ {ars : List Nat}, freshA P ops S ars → freshA P ops T ars
  | [], h => h
  | a :: r, h => by
    refine ⟨?_, freshA.keep hk h.2⟩
    have h1 := h.1
    split at h1
    · split at h1
      · exact hk _ h1
      · exact h1.elim
    · exact h1.elim
theorem freshA.drop {S T : Store} {d : Nat} (hk : ∀ d', d' ≠ d → S (.l d') = none → T (.l d') = none) : ∀ {ars : List Nat}, ars.all (okNew ops d) = true → freshA P ops S ars → freshA P ops T ars
  | [], _, h => h
  | a :: r, ho, h => by
    simp only [List.all_cons, Bool.and_eq_true] at ho
    refine ⟨?_, freshA.drop hk ho.2 h.2⟩
    have h1 := h.1
    have h2 := ho.1
    unfold okNew at h2
    split at h1
    · rename_i d' t ty pos aft hx
      rw [hx] at h2
      split at h1
      · exact hk _ (by simpa using h2) h1
      · exact h1.elim
    · exact h1.elim
theorem freshA.at {S : Store} : ∀ {as1 : List Nat} {a : Nat} {as2 : List Nat}, freshA P ops S (as1 ++ a :: as2) → freshA P ops S (as1 ++ as2) ∧ ∃ z, isNew P ops a (dOf ops a) z ∧ S (.l (dOf ops a)) = none
  | [], a, as2, h => by
    refine ⟨h.2, ?_⟩
    have h1 := h.1
    split at h1
    · rename_i d t ty pos aft hx
      split at h1
      · rename_i z hz
        have hd : dOf ops a = d := by unfold dOf; rw [hx]; rfl
        rw [hd]
        exact ⟨z, ⟨t, ty, pos, aft, hx, hz⟩, h1⟩
      · exact h1.elim
    · exact h1.elim
  | x :: as1, a, as2, h => by
    obtain ⟨h1, h2⟩ := freshA.at (as1 := as1) h.2
    exact ⟨⟨h.1, h1⟩, h2⟩

def fresh1 (P : Program) (o : Option Oper) (S : Store) : Prop := match o with
  | some ⟨some d, .alloc t, _, _, _, none⟩ => (match zeroD P t with | some _ => S (.l d) = none | none => False)
  | _ => False
def freshZ (z : Option (List D)) (x : Option Blk) : Prop := match z with | some _ => x = none | none => False
theorem freshZ_some {z : List D} {x : Option Blk} : freshZ (some z) x = (x = none) := rfl
theorem fresh1_new {S : Store} {d : Nat} {t ty : TypeId} {pos : String} {aft : Array Edge} : fresh1 P (some { dst := some d, op := .alloc t, type := ty, pos := pos, after := aft, guard := none }) S = freshZ (zeroD P t) (S (.l d)) := by
  unfold fresh1 freshZ; rfl
theorem freshA_nil {S : Store} : freshA P ops S [] = True := rfl
theorem freshA_cons {S : Store} {a : Nat} {r : List Nat} : freshA P ops S (a :: r) = (fresh1 P ops[a]? S ∧ freshA P ops S r) := rfl
end

/-! ### Plans with two orders -/

/-- A plan: operations in a row; two that act, in either order; the end. -/
inductive PT where
  | nil
  | lin (pl : List (Nat × Nat)) (r : PT)
  | fork (i m : Nat) (a : PT) (j k : Nat) (b : PT)
  | fork3 (i m : Nat) (a : PT) (j k : Nat) (b : PT) (p q : Nat) (c : PT)
  | fork4 (i m : Nat) (a : PT) (j k : Nat) (b : PT) (p q : Nat) (c : PT) (s u : Nat) (d : PT)
  | mix (cs ars : List Nat) (r : PT)
def lenF : List (Nat × Nat) → Nat → Nat
  | [], f => f
  | _ :: r, f => lenF r f + 1
def PT.size : PT → Nat
  | .nil => 0
  | .lin pl r => lenF pl r.size
  | .fork _ _ a _ _ _ => a.size + 1
  | .fork3 _ _ a _ _ _ _ _ _ => a.size + 1
  | .fork4 _ _ a _ _ _ _ _ _ _ _ _ => a.size + 1
  | .mix cs ars r => (cs ++ ars).length + r.size
def PT.pairs : PT → List (Nat × Nat)
  | .nil => []
  | .lin pl r => pl ++ r.pairs
  | .fork i m a j k b => (i, m) :: (j, k) :: (a.pairs ++ b.pairs)
  | .fork3 i m a j k b p q c => (i, m) :: (j, k) :: (p, q) :: (a.pairs ++ (b.pairs ++ c.pairs))
  | .fork4 i m a j k b p q c s u d => (i, m) :: (j, k) :: (p, q) :: (s, u) :: (a.pairs ++ (b.pairs ++ (c.pairs ++ d.pairs)))
  | .mix cs ars r => (cs ++ ars).map (fun i => (i, 4)) ++ r.pairs
def stepOk (ops : Array Oper) (mode : Nat → Nat) (l : Array Bool) (i m : Nat) : Bool := if m ≤ 2 then quietOk ops mode l i m else mode i == m && Region.ready .any ops l == [i]
def planL (ops : Array Oper) (mode : Nat → Nat) : List (Nat × Nat) → Array Bool → Option (Array Bool)
  | [], l => some l
  | (i, m) :: r, l => if stepOk ops mode l i m = true then planL ops mode r (l.setIfInBounds i true) else none
def planT (ops : Array Oper) (mode : Nat → Nat) : PT → Array Bool → Bool
  | .nil, l => (Region.ready .any ops l).isEmpty
  | .lin pl r, l => (match planL ops mode pl l with | some l' => planT ops mode r l' | none => false)
  | .fork i m a j k b, l => (decide (3 ≤ m) && decide (3 ≤ k) && mode i == m && mode j == k && Region.ready .any ops l == [i, j] && a.size == b.size) && (planT ops mode a (l.setIfInBounds i true) && planT ops mode b (l.setIfInBounds j true))
  | .fork3 i m a j k b p q c, l => (decide (3 ≤ m) && decide (3 ≤ k) && decide (3 ≤ q) && mode i == m && mode j == k && mode p == q && Region.ready .any ops l == [i, j, p] && a.size == b.size && a.size == c.size) && (planT ops mode a (l.setIfInBounds i true) && planT ops mode b (l.setIfInBounds j true) && planT ops mode c (l.setIfInBounds p true))
  | .fork4 i m a j k b p q c s u d, l => (decide (3 ≤ m) && decide (3 ≤ k) && decide (3 ≤ q) && decide (3 ≤ u) && mode i == m && mode j == k && mode p == q && mode s == u && Region.ready .any ops l == [i, j, p, s] && a.size == b.size && a.size == c.size && a.size == d.size) && (planT ops mode a (l.setIfInBounds i true) && planT ops mode b (l.setIfInBounds j true) && planT ops mode c (l.setIfInBounds p true) && planT ops mode d (l.setIfInBounds s true))
  | .mix cs ars r, l => mixB ops.toList mode l cs ars && planT ops mode r (setAll l (cs ++ ars))
def pdT (P : Program) (ops : List Oper) (N : DEnv → Store → Prop) : PT → DEnv → Store → Prop
  | .nil, e, S => N e S
  | .lin pl r, e, S => pdV P ops (pdT P ops N r) pl e S
  | .fork i m a j k b, e, S => pdV P ops (pdT P ops N a) [(i, m)] e S ∧ pdV P ops (pdT P ops N b) [(j, k)] e S
  | .fork3 i m a j k b p q c, e, S => pdV P ops (pdT P ops N a) [(i, m)] e S ∧ pdV P ops (pdT P ops N b) [(j, k)] e S ∧ pdV P ops (pdT P ops N c) [(p, q)] e S
  | .fork4 i m a j k b p q c s u d, e, S => pdV P ops (pdT P ops N a) [(i, m)] e S ∧ pdV P ops (pdT P ops N b) [(j, k)] e S ∧ pdV P ops (pdT P ops N c) [(p, q)] e S ∧ pdV P ops (pdT P ops N d) [(s, u)] e S
  | .mix cs ars r, e, S => freshA P ops S ars ∧ pdV P ops (pdT P ops N r) ((cs ++ ars).map fun i => (i, 4)) e S

section
variable {n : Nat} {ops : List Oper} {mode : Nat → Nat} {ms : List Deferred} {I0 : CI} {S0 : Store} {w0 : World} {Q : Exit → Act → World → Prop}

/-- One operation that acts. -/
theorem act_sound {N : DEnv → Store → Prop} {i m : Nat} {o : Oper} {I : CI} {S : Store} {e : DEnv} {e' : Env} {a : Act} {w : World} {W : Act → World → Prop} (hf : fitsOps n ops = true) (hi : ops.toArray[i]? = some o) (ho : ops[i]? = some o) (hm : ¬ m ≤ 2) (hmi : mode i = m)
    (hr : Rep n e' a ms) (he : EnvR I w.heap e e') (hR : Rel I S w) (hS : StpM ms I0 S0 w0 I S w) (ih : ∀ (I : CI) (S : Store) (e : DEnv) (e' : Env) (a : Act) (w : World), Rep n e' a ms → EnvR I w.heap e e' → Rel I S w → StpM ms I0 S0 w0 I S w → N e S → W a w)
    (h : pdV P ops N [(i, m)] e S) : wpOpW P ops.toArray Q i (fun a' w' => Cl (mode i) w w' ∧ W a' w') a w := by
  unfold pdV at h
  rw [ho] at h
  simp only [pdV] at h
  have hd := fits_dst hf (List.mem_of_getElem? ho)
  have h' : guardV ops o e' (pmodeV P o m e S (fun d S' => N (putD e o.dst d) S')) (N (putD e o.dst (.tup [])) S) := pguard_sound he h id id
  unfold wpOpW
  simp only [hi]
  rcases guardV_cases hr h' with ⟨hw, h⟩ | ⟨hw, h⟩
  · rw [if_pos hw]
    unfold opW
    rw [hr.eval]
    match m, hm, hmi with
    | 3, _, hmi =>
      simp only [pmodeV] at h
      exact (popV_sound he hR h).upon fun v w' ⟨I', S', d, s1, r1, hd', hk⟩ => ⟨by rw [hmi]; simp [Cl], ih I' S' _ _ _ _ (hr.put hd v) ((he.mono s1.sub s1.ev).put hd' _) r1 (hS.trans hR s1) hk⟩
    | k + 4, _, hmi =>
      simp only [pmodeV] at h
      refine (pextV_sound he hR h).upon fun v w' ⟨hE, I', S', d, s1, r1, hd', hk⟩ => ⟨?_, ih I' S' _ _ _ _ (hr.put hd v) ((he.mono s1.sub s1.ev).put hd' _) r1 (hS.trans hR s1) hk⟩
      rw [hmi]
      unfold Cl
      rw [if_neg (by omega)]
      split
      · exact hE
      · trivial
  · rw [if_neg (by simp [hw])]
    exact ⟨Cl.refl _ _, ih I S _ _ _ w (hr.put hd undef) (he.put (undef_rd _ _) _) hR hS h⟩

/-- Calls in their row, allocations at any time: one order is enough. -/
theorem mix_sound {N : DEnv → Store → Prop} (hs : Region.noSelect ops.toArray = true) (hQ : ∀ c a w, ¬ Q (.panic c) a w) (hf : fitsOps n ops = true) {fuel : Nat} {L : Array Bool}
    (hN : ∀ (I : CI) (S : Store) (e : DEnv) (e' : Env) (a : Act) (w : World), Rep n e' a ms → EnvR I w.heap e e' → Rel I S w → StpM ms I0 S0 w0 I S w → N e S → wpAnyC P ops.toArray mode Q fuel L a w) :
    ∀ (k : Nat) (cs ars : List Nat) (l : Array Bool) (I : CI) (S : Store) (e : DEnv) (e' : Env) (a : Act) (w : World), (cs ++ ars).length = k → MixOk ops mode l cs ars → setAll l (cs ++ ars) = L → freshA P ops S ars → Rep n e' a ms → EnvR I w.heap e e' → Rel I S w → StpM ms I0 S0 w0 I S w →
      pdV P ops N ((cs ++ ars).map fun i => (i, 4)) e S → wpAnyC P ops.toArray mode Q (k + fuel) l a w
  | 0, cs, ars, l, I, S, e, e', a, w, hk, hm, hL, hfr, hr, he, hR, hS, h => by
    have h0 : cs ++ ars = [] := List.eq_nil_of_length_eq_zero hk
    rw [h0] at h hL
    rw [Nat.zero_add]
    subst hL
    exact hN I S e e' a w hr he hR hS h
  | k + 1, cs, ars, l, I, S, e, e', a, w, hk, hm, hL, hfr, hr, he, hR, hS, h => by
    have hne : cs ++ ars ≠ [] := by intro h0; rw [h0] at hk; cases hk
    rw [show k + 1 + fuel = (k + fuel) + 1 by omega]
    refine ⟨fun h0 => absurd h0 (hm.some hne), fun q hq => ?_⟩
    rcases hm.ready hne hq with hc | ha
    · cases cs with
      | nil => cases hc
      | cons c cs =>
        obtain rfl : c = q := by simpa using hc
        obtain ⟨hmode, hcall⟩ := (hm.kc c (by simp)).1
        cases ho : ops[c]? with
        | none => simp only [List.cons_append, List.map_cons, pdV, ho] at h
        | some o =>
          refine act_sound (N := fun e S => freshA P ops S ars ∧ pdV P ops N ((cs ++ ars).map fun i => (i, 4)) e S) (m := 4) hf (by simpa using ho) ho (by omega) hmode hr he hR hS
            (fun I S e e' a w hr he hR hS h => mix_sound hs hQ hf hN k cs ars _ I S e e' a w (by simpa using hk) hm.call hL h.1 hr he hR hS h.2) ?_
          unfold callB at hcall
          split at hcall
          · rename_i d' x args ats ty' pos' aft' hx'
            simp only [List.cons_append, List.map_cons, pdV, hx', pguardV, pmodeV, pextV] at h ⊢
            refine callD_mono (fun c as' h1 => ?_) h
            cases c with | y l => exact h1.elim | f f => ?_
            refine coeDs_keep (fun ds' T h2 hT => ?_) h1
            exact h2.mono fun v h3 => ⟨hfr.keep hT, h3⟩
          · cases hcall
    · obtain ⟨as1, as2, rfl⟩ := List.append_of_mem ha
      obtain ⟨hfr2, z, hz, hSn⟩ := hfr.at
      have hka := hm.ka q (List.mem_append_right _ (by simp))
      have hnd : ∀ y, y ∈ as1 ++ as2 → y ≠ q := fun y hy hyq => by
        subst hyq
        have := hm.nd
        have hp : (cs ++ (as1 ++ y :: as2)).Perm (y :: (cs ++ (as1 ++ as2))) := by
          rw [← List.append_assoc, ← List.append_assoc]; exact List.perm_middle
        exact (List.nodup_cons.1 (hp.nodup_iff.1 this)).1 (List.mem_append_right _ hy)
      have hall : (as1 ++ as2).all (okNew ops (dOf ops q)) = true := List.all_eq_true.2 fun y hy => by
        refine hka.2.2 y ?_ (hnd y hy)
        rcases List.mem_append.1 hy with hy | hy
        · exact List.mem_append_left _ hy
        · exact List.mem_append_right _ (List.mem_cons_of_mem _ hy)
      have hall1 : as1.all (okNew ops (dOf ops q)) = true := by rw [List.all_append, Bool.and_eq_true] at hall; exact hall.1
      have hcs : cs.all (okCall ops (dOf ops q)) = true := List.all_eq_true.2 fun c hc => (hm.kc c hc).2 q (List.mem_append_right _ (by simp))
      have hp := pull hz as2 cs as1 e S hcs hall1 hSn h
      obtain ⟨t, ty, pos, aft, ho, hzz⟩ := hz
      refine act_sound (N := fun e S => freshA P ops S (as1 ++ as2) ∧ pdV P ops N ((cs ++ (as1 ++ as2)).map fun i => (i, 4)) e S) (m := 4) hf (by simpa using ho) ho (by omega) hka.1 hr he hR hS
        (fun I S e e' a w hr he hR hS h => mix_sound hs hQ hf hN k cs (as1 ++ as2) _ I S e e' a w (by simp at hk ⊢; omega) hm.new (by rw [setAll_mid]; exact hL) h.1 hr he hR hS h.2) ?_
      simp only [pdV, ho, pguardV, pmodeV, pextV, newV, hzz, dnm, Option.getD_some, putD_some]
      refine fun b => ⟨freshA.drop (d := dOf ops q) (fun d' hd hn => ?_) hall hfr2, hp b⟩
      rw [updS_apply, if_neg (by intro h; injection h with h; exact hd h)]; exact hn

theorem pdL_sound {N : DEnv → Store → Prop} (hs : Region.noSelect ops.toArray = true) (hQ : ∀ c a w, ¬ Q (.panic c) a w) (hf : fitsOps n ops = true) {fuel : Nat} {l' : Array Bool}
    (hN : ∀ (I : CI) (S : Store) (e : DEnv) (e' : Env) (a : Act) (w : World), Rep n e' a ms → EnvR I w.heap e e' → Rel I S w → StpM ms I0 S0 w0 I S w → N e S → wpAnyC P ops.toArray mode Q fuel l' a w) :
    ∀ (pl : List (Nat × Nat)) (listed : Array Bool) (I : CI) (S : Store) (e : DEnv) (e' : Env) (a : Act) (w : World), planL ops.toArray mode pl listed = some l' → Rep n e' a ms → EnvR I w.heap e e' → Rel I S w → StpM ms I0 S0 w0 I S w →
      pdV P ops N pl e S → wpAnyC P ops.toArray mode Q (lenF pl fuel) listed a w
  | [], listed, I, S, e, e', a, w, hp, hr, he, hR, hS, h => by
    simp only [planL, Option.some.injEq] at hp
    subst hp
    exact hN I S e e' a w hr he hR hS h
  | (i, m) :: r, listed, I, S, e, e', a, w, hp, hr, he, hR, hS, h => by
    simp only [planL] at hp
    split at hp
    rotate_left
    · cases hp
    rename_i hc
    have hp' := hp
    have hp := hc
    unfold stepOk at hp
    have h0 := h
    unfold pdV at h
    cases ho : ops[i]? with
    | none => rw [ho] at h; exact h.elim
    | some o =>
      rw [ho] at h
      simp only at h
      have hi : ops.toArray[i]? = some o := by simpa using ho
      have hd := fits_dst hf (List.mem_of_getElem? ho)
      have ih := fun (I : CI) (S : Store) (e : DEnv) (e' : Env) (a : Act) (w : World) (hr : Rep n e' a ms) (he : EnvR I w.heap e e') (hR : Rel I S w) (hS : StpM ms I0 S0 w0 I S w) (h : pdV P ops N r e S) =>
        pdL_sound hs hQ hf hN r _ I S e e' a w hp' hr he hR hS h
      have h' : guardV ops o e' (pmodeV P o m e S (fun d S' => pdV P ops N r (putD e o.dst d) S')) (pdV P ops N r (putD e o.dst (.tup [])) S) := pguard_sound he h id id
      by_cases hm : m ≤ 2
      · rw [if_pos hm] at hp
        rcases guardV_cases hr h' with ⟨hw, h⟩ | ⟨hw, h⟩
        · have fin : ∀ (C : World → Prop) (v : Value) (d : D), RdD I w.heap d v → (∀ m' w1 w2, beside m m' = true → C w1 → Cl m' w1 w2 → C w2) → C w → (∀ w', C w' → (execOp (V.ev e') o).run P w' = .ok (.value v) w') →
              pdV P ops N r (putD e o.dst d) S → wpAnyC P ops.toArray mode Q (lenF r fuel + 1) listed a w := by
            intro C v d hdv hpres hC hv hk
            refine quiet_step hi hs hQ hp hpres (lenF r fuel) a w hC (.inl ⟨hw, fun w' hw' => ?_⟩) (ih I S _ _ _ w (hr.put hd v) (he.put hdv _) hR hS hk)
            rw [hr.eval]; exact hv w' hw'
          have load_ : ∀ (h : match o.op with | .load t a => loadD P S t (pev e a) (fun d => pdV P ops N r (putD e o.dst d) S) | _ => False),
              ∃ u d, (∀ w', Ext w w' → (execOp (V.ev e') o).run P w' = .ok (.value u) w') ∧ RdD I w.heap d u ∧ pdV P ops N r (putD e o.dst d) S := by
            intro h
            split at h
            · rename_i t x hop
              obtain ⟨u, h1, d, h2, h3⟩ := loadD_sound (P := P) hR (he.ev x) h
              refine ⟨u, d, fun w' hE => ?_, h2, h3⟩
              have h1 := h1 w' hE
              simp only [execOp, hop]
              unfold Ld Does at h1
              simp only [Sem.run_bind, h1, Result.andThen_ok, Sem.run_pure]
            · exact h.elim
          match m, hm with
          | 0, _ =>
            simp only [pmodeV] at h
            obtain ⟨v, h1, d, h2, h3⟩ := pureV_sound (ppure_sound (P := P) he h)
            exact fin (fun _ => True) v d h2 (fun _ _ _ _ _ _ => trivial) trivial (fun w' _ => h1 w') h3
          | 1, _ =>
            simp only [pmodeV] at h
            obtain ⟨u, d, h1, h2, h3⟩ := load_ h
            refine fin (fun w' => w' = w) u d h2 (fun m' w1 w2 hb h1 h2 => ?_) rfl (fun w' hw' => ?_) h3
            · simp only [beside, decide_eq_true_eq] at hb
              exact (Cl.of_quiet hb h2).trans h1
            · subst hw'; exact h1 _ (Ext.refl _)
          | 2, _ =>
            simp only [pmodeV] at h
            obtain ⟨u, d, h1, h2, h3⟩ := load_ h
            refine fin (fun w' => Ext w w') u d h2 (fun m' w1 w2 hb h1 h2 => ?_) (Ext.refl _) h1 h3
            simp only [beside, Bool.or_eq_true, decide_eq_true_eq, beq_iff_eq] at hb
            rcases hb with hb | hb
            · rw [Cl.of_quiet hb h2]; exact h1
            · subst hb
              have h2' : Ext w1 w2 := by unfold Cl at h2; simpa using h2
              exact h1.trans' h2'
        · refine quiet_step (C := fun w' => w' = w ∨ True) hi hs hQ hp (fun _ _ _ _ _ _ => .inr trivial) (lenF r fuel) a w (.inl rfl) (.inr ⟨hw, rfl⟩) (ih I S _ _ _ w (hr.put hd undef) (he.put (undef_rd _ _) _) hR hS h)
      · rw [if_neg hm] at hp
        simp only [Bool.and_eq_true, beq_iff_eq] at hp
        obtain ⟨hmi, hready⟩ := hp
        refine ⟨fun h0 => (by rw [h0] at hready; cases hready), fun j hj => ?_⟩
        rw [hready] at hj
        obtain rfl := List.mem_singleton.1 hj
        refine act_sound (N := pdV P ops N r) hf hi ho hm hmi hr he hR hS ih ?_
        unfold pdV
        rw [ho]
        exact h

theorem pdT_sound {N : DEnv → Store → Prop} (hs : Region.noSelect ops.toArray = true) (hQ : ∀ c a w, ¬ Q (.panic c) a w) (hN : ∀ e' a w, Rep n e' a ms → AtM ms I0 S0 w0 N e' w → Q .normal a w) (hf : fitsOps n ops = true) :
    ∀ (t : PT) (listed : Array Bool) (I : CI) (S : Store) (e : DEnv) (e' : Env) (a : Act) (w : World), planT ops.toArray mode t listed = true → Rep n e' a ms → EnvR I w.heap e e' → Rel I S w → StpM ms I0 S0 w0 I S w →
      pdT P ops N t e S → wpAnyC P ops.toArray mode Q t.size listed a w
  | .nil, listed, I, S, e, e', a, w, hp, hr, he, hR, hS, h => ⟨by simpa [planT] using hp, hN e' a w hr ⟨I, S, e, hS, hR, he, h⟩⟩
  | .lin pl r, listed, I, S, e, e', a, w, hp, hr, he, hR, hS, h => by
    simp only [planT] at hp
    split at hp
    · rename_i l' hl
      exact pdL_sound hs hQ hf (fun I S e e' a w hr he hR hS h => pdT_sound hs hQ hN hf r l' I S e e' a w hp hr he hR hS h) pl listed I S e e' a w hl hr he hR hS h
    · cases hp
  | .fork i m x j k y, listed, I, S, e, e', a, w, hp, hr, he, hR, hS, h => by
    simp only [planT, Bool.and_eq_true, decide_eq_true_eq, beq_iff_eq] at hp
    obtain ⟨⟨⟨⟨⟨⟨hm, hk⟩, hmi⟩, hmj⟩, hready⟩, hsz⟩, hx, hy⟩ := hp
    have get : ∀ {q c : Nat} {N' : DEnv → Store → Prop}, pdV P ops N' [(q, c)] e S → ∃ o, ops[q]? = some o := by
      intro q c N' h
      unfold pdV at h
      cases ho : ops[q]? with
      | none => rw [ho] at h; exact h.elim
      | some o => exact ⟨o, rfl⟩
    refine ⟨fun h0 => (by rw [h0] at hready; cases hready), fun q hq => ?_⟩
    rw [hready] at hq
    have hq' : q = i ∨ q = j := by simpa using hq
    rcases hq' with rfl | rfl
    · obtain ⟨o, ho⟩ := get h.1
      exact act_sound hf (by simpa using ho) ho (by omega) hmi hr he hR hS (fun I S e e' a w hr he hR hS h => pdT_sound hs hQ hN hf x _ I S e e' a w hx hr he hR hS h) h.1
    · obtain ⟨o, ho⟩ := get h.2
      show wpOpW P ops.toArray Q q (fun a' w' => Cl (mode q) w w' ∧ wpAnyC P ops.toArray mode Q x.size (listed.setIfInBounds q true) a' w') a w
      rw [hsz]
      exact act_sound hf (by simpa using ho) ho (by omega) hmj hr he hR hS (fun I S e e' a w hr he hR hS h => pdT_sound hs hQ hN hf y _ I S e e' a w hy hr he hR hS h) h.2
  | .fork3 i m x j k y p q z, listed, I, S, e, e', a, w, hp, hr, he, hR, hS, h => by
    simp only [planT, Bool.and_eq_true, decide_eq_true_eq, beq_iff_eq] at hp
    obtain ⟨⟨⟨⟨⟨⟨⟨⟨⟨hm, hk⟩, hq⟩, hmi⟩, hmj⟩, hmp⟩, hready⟩, hsz⟩, hsz2⟩, ⟨hx, hy⟩, hz⟩ := hp
    have get : ∀ {q c : Nat} {N' : DEnv → Store → Prop}, pdV P ops N' [(q, c)] e S → ∃ o, ops[q]? = some o := by
      intro q c N' h
      unfold pdV at h
      cases ho : ops[q]? with
      | none => rw [ho] at h; exact h.elim
      | some o => exact ⟨o, rfl⟩
    refine ⟨fun h0 => (by rw [h0] at hready; cases hready), fun s hs' => ?_⟩
    rw [hready] at hs'
    have hq' : s = i ∨ s = j ∨ s = p := by simpa using hs'
    rcases hq' with rfl | rfl | rfl
    · obtain ⟨o, ho⟩ := get h.1
      exact act_sound hf (by simpa using ho) ho (by omega) hmi hr he hR hS (fun I S e e' a w hr he hR hS h => pdT_sound hs hQ hN hf x _ I S e e' a w hx hr he hR hS h) h.1
    · obtain ⟨o, ho⟩ := get h.2.1
      show wpOpW P ops.toArray Q s (fun a' w' => Cl (mode s) w w' ∧ wpAnyC P ops.toArray mode Q x.size (listed.setIfInBounds s true) a' w') a w
      rw [hsz]
      exact act_sound hf (by simpa using ho) ho (by omega) hmj hr he hR hS (fun I S e e' a w hr he hR hS h => pdT_sound hs hQ hN hf y _ I S e e' a w hy hr he hR hS h) h.2.1
    · obtain ⟨o, ho⟩ := get h.2.2
      show wpOpW P ops.toArray Q s (fun a' w' => Cl (mode s) w w' ∧ wpAnyC P ops.toArray mode Q x.size (listed.setIfInBounds s true) a' w') a w
      rw [hsz2]
      exact act_sound hf (by simpa using ho) ho (by omega) hmp hr he hR hS (fun I S e e' a w hr he hR hS h => pdT_sound hs hQ hN hf z _ I S e e' a w hz hr he hR hS h) h.2.2
  | .fork4 i m x j k y p q z s' u v, listed, I, S, e, e', a, w, hp, hr, he, hR, hS, h => by
    simp only [planT, Bool.and_eq_true, decide_eq_true_eq, beq_iff_eq] at hp
    obtain ⟨⟨⟨⟨⟨⟨⟨⟨⟨⟨⟨⟨hm, hk⟩, hq⟩, hu⟩, hmi⟩, hmj⟩, hmp⟩, hms⟩, hready⟩, hsz⟩, hsz2⟩, hsz3⟩, ⟨⟨hx, hy⟩, hz⟩, hv⟩ := hp
    have get : ∀ {q c : Nat} {N' : DEnv → Store → Prop}, pdV P ops N' [(q, c)] e S → ∃ o, ops[q]? = some o := by
      intro q c N' h
      unfold pdV at h
      cases ho : ops[q]? with
      | none => rw [ho] at h; exact h.elim
      | some o => exact ⟨o, rfl⟩
    refine ⟨fun h0 => (by rw [h0] at hready; cases hready), fun s hs' => ?_⟩
    rw [hready] at hs'
    have hq' : s = i ∨ s = j ∨ s = p ∨ s = s' := by simpa using hs'
    rcases hq' with rfl | rfl | rfl | rfl
    · obtain ⟨o, ho⟩ := get h.1
      exact act_sound hf (by simpa using ho) ho (by omega) hmi hr he hR hS (fun I S e e' a w hr he hR hS h => pdT_sound hs hQ hN hf x _ I S e e' a w hx hr he hR hS h) h.1
    · obtain ⟨o, ho⟩ := get h.2.1
      show wpOpW P ops.toArray Q s (fun a' w' => Cl (mode s) w w' ∧ wpAnyC P ops.toArray mode Q x.size (listed.setIfInBounds s true) a' w') a w
      rw [hsz]
      exact act_sound hf (by simpa using ho) ho (by omega) hmj hr he hR hS (fun I S e e' a w hr he hR hS h => pdT_sound hs hQ hN hf y _ I S e e' a w hy hr he hR hS h) h.2.1
    · obtain ⟨o, ho⟩ := get h.2.2.1
      show wpOpW P ops.toArray Q s (fun a' w' => Cl (mode s) w w' ∧ wpAnyC P ops.toArray mode Q x.size (listed.setIfInBounds s true) a' w') a w
      rw [hsz2]
      exact act_sound hf (by simpa using ho) ho (by omega) hmp hr he hR hS (fun I S e e' a w hr he hR hS h => pdT_sound hs hQ hN hf z _ I S e e' a w hz hr he hR hS h) h.2.2.1
    · obtain ⟨o, ho⟩ := get h.2.2.2
      show wpOpW P ops.toArray Q s (fun a' w' => Cl (mode s) w w' ∧ wpAnyC P ops.toArray mode Q x.size (listed.setIfInBounds s true) a' w') a w
      rw [hsz3]
      exact act_sound hf (by simpa using ho) ho (by omega) hms hr he hR hS (fun I S e e' a w hr he hR hS h => pdT_sound hs hQ hN hf v _ I S e e' a w hv hr he hR hS h) h.2.2.2
  | .mix cs ars r, listed, I, S, e, e', a, w, hp, hr, he, hR, hS, h => by
    simp only [planT, Bool.and_eq_true] at hp
    exact mix_sound hs hQ hf (fun I S e e' a w hr he hR hS h => pdT_sound hs hQ hN hf r _ I S e e' a w hp.2 hr he hR hS h) _ cs ars listed I S e e' a w rfl (MixOk.of hp.1) rfl h.1 hr he hR hS h.2
end
def planTok (ops : Array Oper) (t : PT) : Bool := (Region.noSelect ops && t.size == ops.size) && planT ops (modeIn t.pairs) t (Array.replicate ops.size false)

/-! ### The same, shortly: an operation without its edges, its guard by the slot -/

structure Ci where
  dst : Option Nat
  g : Option (Option Nat × Bool)
  op : Op
  ty : TypeId
def Ci.o (c : Ci) : Oper := { dst := c.dst, op := c.op, type := c.ty, pos := "", after := #[], guard := none }
def gsl (ops : List Oper) : Option (Nat × Bool) → Option (Option Nat × Bool)
  | none => none
  | some (j, w) => some ((ops[j]?).bind (·.dst), w)
def comp (ops : List Oper) : List Oper → List Ci
  | [] => []
  | o :: r => ⟨o.dst, gsl ops o.guard, o.op, o.type⟩ :: comp ops r
theorem comp_nil {ops : List Oper} : comp ops [] = [] := rfl
theorem comp_cons {ops r : List Oper} {d : Option Nat} {op : Op} {t : TypeId} {pos : String} {aft : Array Edge} {gd : Option (Nat × Bool)} : comp ops ({ dst := d, op := op, type := t, pos := pos, after := aft, guard := gd } :: r) = ⟨d, gsl ops gd, op, t⟩ :: comp ops r := rfl
theorem gsl_none {ops : List Oper} : gsl ops none = none := rfl
theorem gsl_some {ops : List Oper} {j : Nat} {w : Bool} : gsl ops (some (j, w)) = some ((ops[j]?).bind (·.dst), w) := rfl
def cguard (c : Ci) (e : DEnv) (run skip : Prop) : Prop := match c.g with
  | none => run
  | some (some d, w) => pgv (e d) w run skip
  | some (none, _) => skip
theorem cguard_none {d : Option Nat} {op : Op} {t : TypeId} {e : DEnv} {run skip : Prop} : cguard ⟨d, none, op, t⟩ e run skip = run := rfl
theorem cguard_some {d : Option Nat} {op : Op} {t : TypeId} {e : DEnv} {j : Nat} {w : Bool} {run skip : Prop} : cguard ⟨d, some (some j, w), op, t⟩ e run skip = pgv (e j) w run skip := rfl
def runV (P : Program) (N : DEnv → Store → Prop) : List Ci → DEnv → Store → Prop
  | [], e, S => N e S
  | c :: r, e, S => cguard c e (popV P c.o e S fun d S' => runV P N r (putD e c.dst d) S') (runV P N r (putD e c.dst (.tup [])) S)
theorem runV_nil {N : DEnv → Store → Prop} {e : DEnv} {S : Store} : runV P N [] e S = N e S := rfl
theorem runV_cons {N : DEnv → Store → Prop} {e : DEnv} {S : Store} {d : Option Nat} {g : Option (Option Nat × Bool)} {op : Op} {t : TypeId} {r : List Ci} :
    runV P N (⟨d, g, op, t⟩ :: r) e S = cguard ⟨d, g, op, t⟩ e (popV P { dst := d, op := op, type := t, pos := "", after := #[], guard := none } e S fun x S' => runV P N r (putD e d x) S') (runV P N r (putD e d (.tup [])) S) := rfl

theorem cguard_eq {ops : List Oper} {o : Oper} {e : DEnv} {run skip : Prop} : cguard ⟨o.dst, gsl ops o.guard, o.op, o.type⟩ e run skip = pguardV ops o e run skip := by
  unfold cguard gsl pguardV
  cases o.guard with
  | none => rfl
  | some p =>
    obtain ⟨j, w⟩ := p
    simp only
    cases (ops[j]?).bind (·.dst) <;> rfl

theorem popV_lite {o : Oper} {e : DEnv} {S : Store} {K : D → Store → Prop} : popV P { dst := o.dst, op := o.op, type := o.type, pos := "", after := #[], guard := none } e S K = popV P o e S K := rfl
theorem pextV_lite {o : Oper} {e : DEnv} {S : Store} {K : D → Store → Prop} : pextV P { dst := o.dst, op := o.op, type := o.type, pos := "", after := #[], guard := none } e S K = pextV P o e S K := rfl
theorem pmodeV_lite {o : Oper} {m : Nat} {e : DEnv} {S : Store} {K : D → Store → Prop} : pmodeV P { dst := o.dst, op := o.op, type := o.type, pos := "", after := #[], guard := none } m e S K = pmodeV P o m e S K := rfl

theorem runV_pops {ops : List Oper} {N : DEnv → Store → Prop} : ∀ (l : List Oper) (e : DEnv) (S : Store), runV P N (comp ops l) e S = popsV P ops N l e S
  | [], e, S => rfl
  | o :: r, e, S => by
    simp only [comp, runV, popsV, Ci.o, cguard_eq, popV_lite, runV_pops r]

def compD (ops : List Oper) : List (Nat × Nat) → List (Option Ci × Nat)
  | [] => []
  | (i, m) :: r => ((ops[i]?).map fun o => ⟨o.dst, gsl ops o.guard, o.op, o.type⟩, m) :: compD ops r
theorem compD_nil {ops : List Oper} : compD ops [] = [] := rfl
theorem compD_cons {ops : List Oper} {i m : Nat} {r : List (Nat × Nat)} : compD ops ((i, m) :: r) = ((ops[i]?).map fun o => ⟨o.dst, gsl ops o.guard, o.op, o.type⟩, m) :: compD ops r := rfl
def runD (P : Program) (N : DEnv → Store → Prop) : List (Option Ci × Nat) → DEnv → Store → Prop
  | [], e, S => N e S
  | (none, _) :: _, _, _ => False
  | (some c, m) :: r, e, S => cguard c e (pmodeV P c.o m e S fun d S' => runD P N r (putD e c.dst d) S') (runD P N r (putD e c.dst (.tup [])) S)
theorem runD_nil {N : DEnv → Store → Prop} {e : DEnv} {S : Store} : runD P N [] e S = N e S := rfl
theorem runD_cons {N : DEnv → Store → Prop} {e : DEnv} {S : Store} {d : Option Nat} {g : Option (Option Nat × Bool)} {op : Op} {t : TypeId} {m : Nat} {r : List (Option Ci × Nat)} :
    runD P N ((some ⟨d, g, op, t⟩, m) :: r) e S = cguard ⟨d, g, op, t⟩ e (pmodeV P { dst := d, op := op, type := t, pos := "", after := #[], guard := none } m e S fun x S' => runD P N r (putD e d x) S') (runD P N r (putD e d (.tup [])) S) := rfl
theorem runD_pd {ops : List Oper} {N : DEnv → Store → Prop} : ∀ (pl : List (Nat × Nat)) (e : DEnv) (S : Store), runD P N (compD ops pl) e S = pdV P ops N pl e S
  | [], e, S => rfl
  | (i, m) :: r, e, S => by
    simp only [compD, pdV]
    cases ops[i]? with
    | none => rfl
    | some o => simp only [Option.map_some, runD, Ci.o, cguard_eq, pmodeV_lite, runD_pd r]

/-! ### Code -/

def condD (d : D) (T F : Prop) : Prop := match d with | .g (.lit (.bool b)) => if b then T else F | _ => False

def pregV (P : Program) (ops : List Oper) (draw : Bool) (N : DEnv → Store → Prop) (e : DEnv) (S : Store) : Prop :=
  if draw then (∃ pl, planOk ops.toArray pl = true ∧ pdV P ops N pl e S) ∨ (∃ t, planTok ops.toArray t = true ∧ pdT P ops N t e S) else popsV P ops N ops e S

/-- What holds of the same state, read in another way (more of it frozen, other names). -/
def Recast (N : DEnv → Store → Prop) (e : DEnv) (S : Store) : Prop := ∀ (I : CI) (w : World) (e' : Env), Rel I S w → EnvR I w.heap e e' → ∃ I' S' e2, Stp I S w I' S' w ∧ Rel I' S' w ∧ EnvR I' w.heap e2 e' ∧ N e2 S'
theorem Recast.of {N : DEnv → Store → Prop} {e : DEnv} {S : Store} (h : N e S) : Recast N e S := fun I w e' hR he => ⟨I, S, e, Stp.refl _ _ _, hR, he, h⟩
theorem Recast.join {N : DEnv → Store → Prop} {e : DEnv} {S : Store} (h : Recast (Recast N) e S) : Recast N e S := fun I w e' hR he => by
  obtain ⟨I1, S1, e1, s1, r1, h1, h⟩ := h I w e' hR he
  obtain ⟨I2, S2, e2, s2, r2, h2, h⟩ := h I1 w e' r1 h1
  exact ⟨I2, S2, e2, s1.trans s2, r2, h2, h⟩
theorem AtM.recast {ms : List Deferred} {I0 : CI} {S0 : Store} {w0 : World} {N : DEnv → Store → Prop} {e' : Env} {w : World} (h : AtM ms I0 S0 w0 (Recast N) e' w) : AtM ms I0 S0 w0 N e' w := by
  obtain ⟨I, S, e, s, r, he, h⟩ := h.ex
  obtain ⟨I1, S1, e1, s1, r1, h1, h⟩ := h I w e' r he
  exact ⟨I1, S1, e1, s.trans r s1, r1, h1, h⟩

/-! ### Ranges over functions -/

def callR (d : D) (K : FuncId → List D → Prop) : Prop := match d with | .fn f [] caps => K f caps | _ => False
theorem callR_fn {f : FuncId} {caps : List D} {K : FuncId → List D → Prop} : callR (.fn f [] caps) K = K f caps := rfl
def bodied (P : Program) (f : FuncId) : Bool := match P.funcs[f]? with | some fn => fn.body.isSome && !(fn.name == "runtime.NumGoroutine") | none => false
def bindD : List Nat → List D → DEnv → DEnv
  | p :: ps, d :: ds, e => bindD ps ds (updD e p d)
  | _, _, e => e
def endR (G : LoopState → Option Code → Gh) (N : Store → Prop) (X : Nat → Store → Prop) (R : Store → Prop) (S : Store) : Prop :=
  ∃ st p, S.g = some (G st p) ∧ st ≠ .busy ∧ (match p with | none => N (updG S none) | some (.exit id) => X id (updG S none) | some .ret => R (updG S none) | some _ => False)
/-- How a round is left. -/
def stopR (G : LoopState → Option Code → Gh) (p : Option Code) (K : D → Store → Prop) (S : Store) : Prop :=
  S.g = some (G .busy none) ∧ K (.g (.lit (.bool p.isNone))) (updG S (some (G (if p.isNone then .ready else .done) p)))

def pvc (P : Program) : Code → (DEnv → Store → Prop) → (Nat → DEnv → Store → Prop) → (DEnv → Store → Prop) → DEnv → Store → Prop
  | .skip, N, _, _, e, S => N e S
  | .region _ ops draw, N, _, _, e, S => pregV P ops.toList draw N e S
  | .seq a b, N, X, R, e, S => pvc P a (Recast (pvc P b N X R)) X R e S
  | .cond c a b, N, X, R, e, S => condD (pev e c) (pvc P a N X R e S) (pvc P b N X R e S)
  | .block id c, N, X, R, e, S => pvc P c N (fun j e S => if j = id then N e S else X j e S) R e S
  | .loop c, _, X, R, e, S => ∃ (J : DEnv → Store → Prop) (m : DEnv → Store → Nat), J e S ∧ ∀ e1 S1, J e1 S1 → pvc P c (fun e2 S2 => J e2 S2 ∧ m e2 S2 < m e1 S1) X R e1 S1
  | .exit id, _, X, _, e, S => X id e S
  | .ret, _, _, R, e, S => R e S
  | .label _, N, _, _, e, S => N e S
  | .scope c, N, X, R, e, S => pvc P c N X R e S
  | .rangeFunc g ps assign body, N, X, R, e, S => flat assign = true ∧ flat body = true ∧ callR (pev e g) fun f caps => bodied P f = true ∧
      ∀ (l : Nat) (G : LoopState → Option Code → Gh),
        (∀ (args : List D) (S1 : Store) (K1 : D → Store → Prop), S1.g = some (G .ready none) → args.length = ps.size →
          pvc P assign (fun e2 S2 => S2.g = some (G .ready none) ∧ pvc P body (fun _ S3 => stopR G none K1 S3) (fun id _ S3 => stopR G (some (.exit id)) K1 S3) (fun _ S3 => stopR G (some .ret) K1 S3) e2 (updG S2 (some (G .busy none))))
            (fun _ _ _ => False) (fun _ _ => False) (bindD ps.toList args e) S1 → PYC P l args S1 K1) →
        PFC P f (.yl l :: caps) (updG S (some (G .ready none))) fun _ S' => endR G (N e) (fun id => X id e) (R e) S'
  | _, _, _, _, _, _ => False

/-- The exits of a piece of code, over values as data. -/
def pexits (n : Nat) (I0 : CI) (S0 : Store) (w0 : World) (N : DEnv → Store → Prop) (X : Nat → DEnv → Store → Prop) (R : DEnv → Store → Prop) : Exit → Act → World → Prop
  | .normal, a, w => ∃ ms e', Rep n e' a ms ∧ AtM ms I0 S0 w0 N e' w
  | .exit id, a, w => ∃ ms e', Rep n e' a ms ∧ AtM ms I0 S0 w0 (X id) e' w
  | .ret, a, w => ∃ ms e', Rep n e' a ms ∧ AtM ms I0 S0 w0 R e' w
  | _, _, _ => False

theorem least_of {Q : Nat → Prop} (h : ∃ n, Q n) : ∃ n, Q n ∧ ∀ m, Q m → n ≤ m := by
  obtain ⟨n, hn⟩ := h
  induction n using Nat.strongRecOn with
  | ind n ih =>
    by_cases hm : ∃ m, Q m ∧ m < n
    · obtain ⟨m, h1, h2⟩ := hm; exact ih m h2 h1
    · exact ⟨n, hn, fun m hq => Nat.le_of_not_lt fun hlt => hm ⟨m, hq, hlt⟩⟩

def bindT : List Nat → List Value → Array Value → Array Value
  | p :: ps, v :: vs, t => bindT ps vs (t.setIfInBounds p v)
  | _, _, t => t
theorem bindT_zip : ∀ (ps : List Nat) (vs : List Value) (t : Array Value), (ps.zip vs).foldl (fun tmps (p : Nat × Value) => tmps.setIfInBounds p.1 p.2) t = bindT ps vs t
  | [], vs, t => by simp [bindT]
  | p :: ps, [], t => by simp [bindT]
  | p :: ps, v :: vs, t => by rw [List.zip_cons_cons, List.foldl_cons, bindT, bindT_zip]
theorem bind_env {I : CI} {H : Array Obj} : ∀ (ps : List Nat) (ds : List D) (vs : List Value) (t : Array Value) (e : DEnv), (∀ p ∈ ps, p < t.size) → RdL I H ds vs → (∀ i, RdD I H (e i) (t.getD i undef)) →
    (∀ i, RdD I H (bindD ps ds e i) ((bindT ps vs t).getD i undef)) ∧ (bindT ps vs t).size = t.size
  | [], ds, vs, t, e, _, _, he => ⟨by simpa [bindD, bindT] using he, by simp [bindT]⟩
  | p :: ps, [], vs, t, e, _, hv, he => by rw [hv.unnil]; exact ⟨by simpa [bindD, bindT] using he, by simp [bindT]⟩
  | p :: ps, d :: ds, vs, t, e, hp, hv, he => by
    obtain ⟨v, r, rfl, h1, h2⟩ := hv.uncons
    have hpt := hp p (List.mem_cons_self ..)
    have := bind_env ps ds r (t.setIfInBounds p v) (updD e p d) (fun q hq => by rw [Array.size_setIfInBounds]; exact hp q (List.mem_cons_of_mem _ hq)) h2 (fun i => by
      rw [updD_apply, Array.getD_eq_getD_getElem?, Array.getElem?_setIfInBounds]
      by_cases hi : i = p
      · subst hi; rw [beq_self_eq_true, if_pos rfl, if_pos hpt]; exact h1
      · rw [beq_eq_false_iff_ne.2 hi, if_neg (fun h => hi h.symm), ← Array.getD_eq_getD_getElem?]; exact he i)
    rw [Array.size_setIfInBounds] at this
    exact this
theorem undef_any {I I' : CI} {H H' : Array Obj} {d : D} {v : Value} (h : RdD I H d v) (hv : v = .tuple #[]) : RdD I' H' d v := by
  cases h with
  | g h => cases h with
    | lit _ h => exact .g (.lit _ h)
    | nil => cases hv
    | nilA => cases hv
    | sl => cases hv
  | tup cs vs hl h =>
    injection hv with hv
    have : vs = [] := by simpa using hv
    subst this
    exact .tup cs [] hl (fun j d u _ h2 => by simp at h2)
  | junk v => exact .junk _
  | _ => cases hv
theorem Marks.old {w0 w : World} : ∀ {ms : List Deferred}, Marks ms w0 w → ∀ d ∈ ms, ∀ D, d.target = .collected D → D < w.heap.size
  | _ :: _, ⟨⟨D, h1, h2, h3, h4⟩, hr⟩, d, hd, D', ht => by
    rcases List.mem_cons.1 hd with rfl | hd
    · rw [h1] at ht
      injection ht with ht
      subst ht
      exact (Array.getElem?_eq_some_iff.1 h3).1
    · exact Marks.old hr d hd D' ht
theorem bodied_run {f : FuncId} {args : Array Value} {w : World} (h : bodied P f = true) : (callFunc f args).run P w = .ok (.enter f args) w := by
  unfold bodied at h
  unfold callFunc
  cases hf : P.funcs[f]? with
  | none => rw [hf] at h; cases h
  | some fn =>
    rw [hf] at h
    simp only [Bool.and_eq_true, Bool.not_eq_true', beq_eq_false_iff_ne] at h
    cases hb : fn.body with
    | none => rw [hb] at h; simp at h
    | some c => simp [hf, h.2, hb]

theorem pvc_soundIn (hm : P.follows .mixedOrders = true) {n : Nat} : ∀ (c : Code) (ro : Option Nat) (I0 : CI) (S0 : Store) (w0 : World) (N : DEnv → Store → Prop) (X : Nat → DEnv → Store → Prop) (R : DEnv → Store → Prop) (ms : List Deferred) (e' : Env) (a : Act) (w : World),
    fits n c = true → (ro = none ∨ flat c = true) → Rep n e' a ms → AtM ms I0 S0 w0 (pvc P c N X R) e' w → c.wpIn (wf ro) 0 P (pexits n I0 S0 w0 N X R) a w
  | .skip, ro, I0, S0, w0, N, X, R, ms, e', a, w, _, _, hr, h => wpIn_skip ⟨ms, e', hr, h⟩
  | .ret, ro, I0, S0, w0, N, X, R, ms, e', a, w, _, _, hr, h => wpIn_ret ⟨ms, e', hr, h⟩
  | .exit id, ro, I0, S0, w0, N, X, R, ms, e', a, w, _, _, hr, h => wpIn_exit ⟨ms, e', hr, h⟩
  | .label l, ro, I0, S0, w0, N, X, R, ms, e', a, w, _, _, hr, h => wpIn_label ⟨ms, e', hr, h⟩
  | .scope c, ro, I0, S0, w0, N, X, R, ms, e', a, w, hf, hl, hr, h => by
    refine wpIn_scope (wpIn_mono (pvc_soundIn hm c ro I0 S0 w0 N X R ms e' a w hf hl hr h) ?_)
    intro ex a' w' hq
    cases ex <;> first | exact hq | exact hq.elim
  | .seq x y, ro, I0, S0, w0, N, X, R, ms, e', a, w, hf, hl, hr, h => by
    simp only [fits, Bool.and_eq_true] at hf
    simp only [flat, Bool.and_eq_true] at hl
    refine wpIn_seq (wpIn_mono (pvc_soundIn hm x ro I0 S0 w0 (Recast (pvc P y N X R)) X R ms e' a w hf.1 (hl.imp id (·.1)) hr h) ?_)
    intro ex a' w' hq
    cases ex with
    | normal => obtain ⟨ms2, e2, hr', h'⟩ := hq; exact pvc_soundIn hm y ro I0 S0 w0 N X R ms2 e2 a' w' hf.2 (hl.imp id (·.2)) hr' h'.recast
    | _ => exact hq
  | .cond c x y, ro, I0, S0, w0, N, X, R, ms, e', a, w, hf, hl, hr, h => by
    simp only [fits, Bool.and_eq_true] at hf
    simp only [flat, Bool.and_eq_true] at hl
    obtain ⟨I, S, e, hS, hR, he, h⟩ := h.ex
    simp only [pvc, condD] at h
    split at h
    · rename_i b hb
      have hv := he.ev c
      rw [hb] at hv
      have hv' : a.eval c = .bool b := by rw [hr.eval]; exact hv.lit_inv
      refine wpIn_cond hv' ?_
      cases b
      · exact pvc_soundIn hm y ro I0 S0 w0 N X R ms e' a w hf.2 (hl.imp id (·.2)) hr ⟨I, S, e, hS, hR, he, by simpa using h⟩
      · exact pvc_soundIn hm x ro I0 S0 w0 N X R ms e' a w hf.1 (hl.imp id (·.1)) hr ⟨I, S, e, hS, hR, he, by simpa using h⟩
    · exact h.elim
  | .block id c, ro, I0, S0, w0, N, X, R, ms, e', a, w, hf, hl, hr, h => by
    refine wpIn_block (wpIn_mono (pvc_soundIn hm c ro I0 S0 w0 N (fun j e S => if j = id then N e S else X j e S) R ms e' a w hf hl hr h) ?_)
    intro ex a' w' hq
    cases ex with
    | exit j =>
      obtain ⟨ms2, e2, hr', h'⟩ := hq
      by_cases hj : j = id
      · subst hj
        simp only [Exit.inBlock, if_true] at h' ⊢; exact ⟨ms2, e2, hr', h'⟩
      · simp only [Exit.inBlock, hj, if_false] at h' ⊢; exact ⟨ms2, e2, hr', h'⟩
    | _ => exact hq
  | .loop c, ro, I0, S0, w0, N, X, R, ms, e', a, w, hf, hl, hr, h => by
    obtain ⟨I, S, e, hS, hR, he, J, m, h0, hround⟩ := h.ex
    let Q : List Deferred → Env → World → Nat → Prop := fun ms e' w k => AtM ms I0 S0 w0 (fun e S => J e S ∧ m e S = k) e' w
    let Inv : Act → World → Prop := fun a w => ∃ ms e', Rep n e' a ms ∧ ∃ k, Q ms e' w k
    let mu : Act → World → Nat := fun a w => Classical.epsilon fun k => Q a.defers (fun i => a.tmps.getD i undef) w k ∧ ∀ m, Q a.defers (fun i => a.tmps.getD i undef) w m → k ≤ m
    have hmu : ∀ ms e' a w, Rep n e' a ms → (∃ k, Q ms e' w k) → Q ms e' w (mu a w) ∧ ∀ m, Q ms e' w m → mu a w ≤ m := by
      intro ms e' a w hr hk
      have he : (fun i => a.tmps.getD i undef) = e' := by funext i; exact hr.val i
      have hd := hr.defers
      subst he
      subst hd
      exact Classical.epsilon_spec (p := fun k => Q a.defers (fun i => a.tmps.getD i undef) w k ∧ ∀ m, Q a.defers (fun i => a.tmps.getD i undef) w m → k ≤ m) (least_of hk)
    refine wpIn_loop Inv mu ⟨ms, e', hr, m e S, ⟨I, S, e, hS, hR, he, h0, rfl⟩⟩ ?_
    rintro a1 w1 ⟨ms1, e1, hr1, hk⟩
    obtain ⟨⟨I1, S1, d1, s1, r1, v1, j1, k1⟩, hmin⟩ := hmu ms1 e1 a1 w1 hr1 hk
    refine wpIn_mono (pvc_soundIn hm c ro I0 S0 w0 (fun e2 S2 => J e2 S2 ∧ m e2 S2 < m d1 S1) X R ms1 e1 a1 w1 hf hl hr1 ⟨I1, S1, d1, s1, r1, v1, hround d1 S1 j1⟩) ?_
    intro ex a' w' hq
    cases ex with
    | normal =>
      obtain ⟨ms2, e2, hr2, ⟨I2, S2, d2, s2, r2, v2, j2, k2⟩⟩ := hq
      have hQ : Q ms2 e2 w' (m d2 S2) := ⟨I2, S2, d2, s2, r2, v2, j2, rfl⟩
      refine ⟨⟨ms2, e2, hr2, _, hQ⟩, ?_⟩
      have := (hmu ms2 e2 a' w' hr2 ⟨_, hQ⟩).2 _ hQ
      omega
    | _ => exact hq
  | .region id ops draw, ro, I0, S0, w0, N, X, R, ms, e', a, w, hf, hl, hr, h => by
    obtain ⟨I, S, e, hS, hR, he, h⟩ := h.ex
    simp only [pvc, pregV] at h
    simp only [fits] at hf
    simp only [flat] at hl
    let Q : Exit → Act → World → Prop := fun | .normal, a, w => ∃ e', Rep n e' a ms ∧ AtM ms I0 S0 w0 N e' w | _, _, _ => False
    have hQ : ∀ ex a w, Q ex a w → pexits n I0 S0 w0 N X R ex a w := fun ex a w hq => by cases ex <;> first | exact ⟨ms, hq⟩ | exact hq.elim
    refine wpIn_mono (Q := Q) ?_ hQ
    cases draw with
    | false =>
      have := popsV_sound (n := n) (N := N) (Q := Q) (fun e' a w hr hn => ⟨e', hr, hn⟩) ops.toList I S e e' a w hf hr he hR hS (by simpa using h)
      exact wpIn_region_list (wpListW_in hl (by simpa using this))
    | true =>
      rw [if_pos rfl] at h
      rcases h with ⟨pl, hp, h⟩ | ⟨pl, hp, h⟩
      · simp only [planOk, Bool.and_eq_true, beq_iff_eq] at hp
        obtain ⟨⟨hp1, hp2⟩, hp3⟩ := hp
        have := pdV_sound (n := n) (ops := ops.toList) (N := N) (Q := Q) (mode := modeIn pl) (by simpa using hp1) (fun _ _ _ hq => hq) (fun e' a w hr hn => ⟨e', hr, hn⟩) hf pl _ I S e e' a w.drew (by simpa using hp3) hr he hR.drew hS.drew h
        refine wpIn_region_drawn hm ?_
        have h2 := wpAny_of_C (ro := ro) (ops := ops.toList.toArray) (by simpa using hl) _ _ _ _ this
        simp only [Array.toArray_toList] at h2
        rw [hp2] at h2
        simpa using h2
      · simp only [planTok, Bool.and_eq_true, beq_iff_eq] at hp
        obtain ⟨⟨hp1, hp2⟩, hp3⟩ := hp
        have := pdT_sound (n := n) (ops := ops.toList) (N := N) (Q := Q) (mode := modeIn pl.pairs) (by simpa using hp1) (fun _ _ _ hq => hq) (fun e' a w hr hn => ⟨e', hr, hn⟩) hf pl _ I S e e' a w.drew (by simpa using hp3) hr he hR.drew hS.drew h
        refine wpIn_region_drawn hm ?_
        have h2 := wpAny_of_C (ro := ro) (ops := ops.toList.toArray) (by simpa using hl) _ _ _ _ this
        simp only [Array.toArray_toList] at h2
        rw [hp2] at h2
        simpa using h2
  | .rangeFunc _ _ _ _, some _, _, _, _, _, _, _, _, _, _, _, _, hl, _, _ => by
    rcases hl with hl | hl <;> cases hl
  | .rangeFunc g ps assign body, none, I0, S0, w0, N, X, R, ms, e', a, w, hf, _, hr, h => by
    obtain ⟨I, S, e, hS, hR, he, hfa, hfb, h⟩ := h.ex
    simp only [fits, Bool.and_eq_true] at hf
    obtain ⟨⟨hfp, hff⟩, hfc⟩ := hf
    unfold callR at h
    have hgv := he.ev g
    split at h
    rotate_left
    · exact h.elim
    rename_i f caps hpg
    rw [hpg] at hgv
    obtain ⟨us, hus, hul⟩ : ∃ us : List Value, V.ev e' g = .func (.func f) #[] us.toArray ∧ RdL I w.heap caps us := by
      cases g with
      | func k => simp only [pev] at hpg; injection hpg with h1 h2 h3; subst h1; subst h3; exact ⟨[], rfl, .nil⟩
      | tmp t =>
        generalize V.ev e' (.tmp t) = u at hgv ⊢
        cases hgv with | fn _ _ _ vs us h1 h2 h3 h4 =>
          have : vs = [] := List.eq_nil_of_length_eq_zero h1
          subst this
          exact ⟨us, rfl, h2, h4⟩
      | const t =>
        generalize V.ev e' (.const t) = u at hgv ⊢
        cases hgv with | fn _ _ _ vs us h1 h2 h3 h4 =>
          have : vs = [] := List.eq_nil_of_length_eq_zero h1
          subst this
          exact ⟨us, rfl, h2, h4⟩
      | global t => simp [pev] at hpg
    obtain ⟨hbod, h⟩ := h
    refine wpIn_rangeFunc ?_
    intro fn _
    obtain ⟨rec, hrec⟩ : ∃ rec : LoopState → Option Code → Loop, rec = fun st pe => { state := st, pending := pe, fn, tmps := a.tmps, params := ps, assign, body, defers := w.heap.size } := ⟨_, rfl⟩
    obtain ⟨G, hGd⟩ : ∃ G : LoopState → Option Code → Gh, G = fun st pe => ⟨w.heap.size + 1, .loop (rec st pe), (List.range a.tmps.size).map e⟩ := ⟨_, rfl⟩
    have hGl : ∀ st pe, (G st pe).l = w.heap.size + 1 := fun st pe => by rw [hGd]
    have hGr : ∀ st pe, (G st pe).r = .loop (rec st pe) := fun st pe => by rw [hGd]
    have hGt : ∀ st pe, (rec st pe).tmps = a.tmps := fun st pe => by rw [hrec]
    have hGs : ∀ st pe, (G st pe).ds = (List.range a.tmps.size).map e := fun st pe => by rw [hGd]
    have hturn : ∀ st pe st' pe', (G st' pe').l = (G st pe).l ∧ (G st' pe').r = .loop (rec st' pe') ∧ (G st' pe').ds = (G st pe).ds ∧ ghT (.loop (rec st' pe')) = ghT (G st pe).r ∧ ghB (.loop (rec st' pe')) = true := fun st pe st' pe' => by
      rw [hGl, hGl, hGr, hGs, hGs, hGr]
      exact ⟨rfl, rfl, rfl, by show (rec st' pe').tmps.toList = (rec st pe).tmps.toList; rw [hGt, hGt], rfl⟩
    obtain ⟨W1, hW1⟩ : ∃ W1, (w.alloc (.deferred (some []))).alloc (.loop (rec .ready none)) = W1 := ⟨_, rfl⟩
    have hL1 : W1.heap[w.heap.size + 1]? = some (.loop (rec .ready none)) := by
      rw [← hW1]; have := World.alloc_heap_new (w.alloc (.deferred (some []))) (.loop (rec .ready none)); rwa [World.size_alloc] at this
    have hK1 : W1.heap[w.heap.size]? = some (.deferred (some [])) := by
      rw [← hW1]; exact (Below.heap_alloc _ _ _ (by simp)).trans (World.alloc_heap_new w _)
    have hE1 : Ext w W1 := by rw [← hW1]; exact ((Ext.refl w).alloc' _).alloc' _
    have hIs : ∀ b j, I b j → I b j := fun _ _ h => h
    have hH1 := hev_ext (I := I) hE1
    have hR1 := hR.ext hE1 hIs (fun _ _ h => .inl h) (fun b j hj => Nat.lt_of_lt_of_le (hR.old b j hj) hE1.size)
    have hds : RdL I w.heap ((List.range a.tmps.size).map e) a.tmps.toList := by
      refine ⟨by simp, fun j d u h1 h2 => ?_⟩
      have hj : j < a.tmps.size := by have := (List.getElem?_eq_some_iff.1 h2).1; simpa using this
      rw [List.getElem?_map, List.getElem?_range hj] at h1
      injection h1 with h1
      subst h1
      have h3 := hr.val j
      rw [Array.getD_eq_getD_getElem?] at h3
      have h4 : a.tmps[j]? = some u := by simpa using h2
      rw [h4] at h3
      have h5 : u = e' j := h3
      rw [h5]
      exact he j
    have hRG : Rel I (updG S (some (G .ready none))) W1 := ⟨hR1.gi, hR1.has, hR1.inj, fun G' hG' => by
      rw [updG_g] at hG'
      injection hG' with hG'
      subst hG'
      refine ⟨by rw [hGl, hGr]; exact hL1, by rw [hGr]; rfl, ?_⟩
      rw [hGs, hGr]
      show RdL _ _ _ (rec .ready none).tmps.toList
      rw [hGt]
      exact hds.mono hIs hH1⟩
    have hSG : Stp I S w I (updG S (some (G .ready none))) W1 := ⟨hE1.os, hE1.tape, hE1.output, hE1.size, hE1.dr, hIs, fun _ _ h => .inl h, hH1, fun b hb _ _ => hE1.block b hb, fun k B hk => .inr ⟨k, B, hk, rfl⟩, fun G' hG' => by
      rw [updG_g] at hG'
      injection hG' with hG'
      subst hG'
      rw [hGl]
      exact .inl (Nat.le_succ _)⟩
    have hund : ∀ (I1 : CI) (w1 : World), RdL I1 w1.heap ((List.range a.tmps.size).map e) a.tmps.toList → ∀ i, RdD I1 w1.heap (e i) (a.tmps.getD i undef) := fun I1 w1 hl i => by
      rcases Nat.lt_or_ge i a.tmps.size with hi | hi
      · have h1 : ((List.range a.tmps.size).map e)[i]? = some (e i) := by rw [List.getElem?_map, List.getElem?_range hi]; rfl
        have h2 : a.tmps.toList[i]? = some (a.tmps[i]) := by simp [hi]
        have := hl.at_ i _ _ h1 h2
        simpa [hi] using this
      · have h1 := he i
        have h2 := hr.val i
        have h3 : a.tmps.getD i undef = undef := by rw [Array.getD_eq_getD_getElem?, Array.getElem?_eq_none hi]; rfl
        rw [h3] at h2 ⊢
        rw [← h2] at h1
        exact undef_any h1 rfl
    have hps : ∀ p ∈ ps.toList, p < a.tmps.size := fun p hp => by
      rw [hr.size]
      have := Array.all_eq_true'.1 hfp p (by simpa using hp)
      simpa using this
    have hy : ∀ (args : List D) (S1 : Store) (K1 : D → Store → Prop), S1.g = some (G .ready none) → args.length = ps.size →
          pvc P assign (fun e2 S2 => S2.g = some (G .ready none) ∧ pvc P body (fun _ S3 => stopR G none K1 S3) (fun id _ S3 => stopR G (some (.exit id)) K1 S3) (fun _ S3 => stopR G (some .ret) K1 S3) e2 (updG S2 (some (G .busy none))))
            (fun _ _ _ => False) (fun _ _ => False) (bindD ps.toList args e) S1 → PYC P (w.heap.size + 1) args S1 K1 := by
      intro args S1 K1 hg1 hlen hp w1 I1 vs hR1 hv
      have hG1 := hR1.gho _ hg1
      have hl1 : w1.heap[w.heap.size + 1]? = some (.loop (rec .ready none)) := by have := hG1.rec_; rwa [hGl, hGr] at this
      have hd1 : RdL I1 w1.heap ((List.range a.tmps.size).map e) a.tmps.toList := by
        have := hG1.rd
        rw [hGs, hGr] at this
        have this : RdL _ _ _ (rec .ready none).tmps.toList := this
        rwa [hGt] at this
      have hyr := run_yield (P := P) (args := vs.toArray) hl1 (by rw [hrec]; simpa [hv.len] using hlen)
      rw [hyr]
      have hzip : ((rec .ready none).params.zip vs.toArray).foldl (fun tmps (x : Tmp × Value) => match x with | (t, a) => tmps.setIfInBounds t a) (rec .ready none).tmps = bindT ps.toList vs a.tmps := by
        rw [← bindT_zip, hrec, ← Array.foldl_toList, Array.toList_zip]
      rw [hzip]
      obtain ⟨hb1, hb2⟩ := bind_env ps.toList args vs a.tmps e hps hv (hund I1 w1 hd1)
      have hf1 : (rec .ready none).fn = fn ∧ (rec .ready none).assign = assign ∧ (rec .ready none).body = body := by rw [hrec]; exact ⟨rfl, rfl, rfl⟩
      rw [hf1.1, hf1.2.1, hf1.2.2]
      refine roundIn_of_wpIn trivial ?_
      rw [wf_inRound]
      have key := pvc_soundIn hm assign (some (w.heap.size + 1)) I1 S1 w1 _ _ _ [] (fun i => (bindT ps.toList vs a.tmps).getD i undef) { tmps := bindT ps.toList vs a.tmps, defers := [] } w1 hff (.inr hfa) ⟨rfl, by rw [hb2]; exact hr.size, fun _ => rfl⟩
        ⟨I1, S1, bindD ps.toList args e, ⟨Stp.refl _ _ _, trivial⟩, hR1, hb1, hp⟩
      refine wpIn_mono key ?_
      intro ex a2 w2 hq
      cases ex with
      | normal =>
        obtain ⟨ms2, e2, hr2, hat2⟩ := hq
        obtain ⟨I2, S2, d2, s2, r2, v2, hg2, hb⟩ := hat2.ex
        have hl2 : w2.heap[w.heap.size + 1]? = some (.loop (rec .ready none)) := by have := (r2.gho _ hg2).rec_; rwa [hGl, hGr] at this
        obtain ⟨t1, t2⟩ := r2.turn hg2 (.loop (rec .busy none)) (some (G .busy none)) (fun G' hG' => by injection hG' with hG'; subst hG'; exact hturn _ _ _ _)
        have hbeg := run_beginRound (P := P) hl2 (by rw [hrec])
        refine ⟨_, hbeg, ?_⟩
        have hbusy : ({ rec .ready none with state := .busy } : Loop) = rec .busy none := by rw [hrec]
        rw [hbusy]
        rw [hGl] at t1 t2
        have key2 := pvc_soundIn hm body (some (w.heap.size + 1)) I1 S1 w1 _ _ _ ms2 e2 a2 _ hfc (.inr hfb) hr2 ⟨I2, _, d2, s2.trans r2 t2, t1, v2.mono t2.sub t2.ev, hb⟩
        refine wpIn_mono key2 ?_
        have fin : ∀ (p : Option Code) (w3 : World) (I3 : CI) (S3 : Store), StpM ms2 I1 S1 w1 I3 S3 w3 ∨ Stp I1 S1 w1 I3 S3 w3 → Rel I3 S3 w3 → stopR G p K1 S3 →
            ∃ v w', (Instr.endRound (w.heap.size + 1) p).run P w3 = .ok v w' ∧ Ret (fun r w' => ∃ I' S' d, Stp I1 S1 w1 I' S' w' ∧ Rel I' S' w' ∧ RdD I' w'.heap d r ∧ K1 d S') (.returned v) w' := by
          intro p w3 I3 S3 hs3 r3 hk
          have hs3 : Stp I1 S1 w1 I3 S3 w3 := by rcases hs3 with h | h; exact h.s; exact h
          obtain ⟨hg3, hk⟩ := hk
          have hl3 : w3.heap[w.heap.size + 1]? = some (.loop (rec .busy none)) := by have := (r3.gho _ hg3).rec_; rwa [hGl, hGr] at this
          obtain ⟨u1, u2⟩ := r3.turn hg3 (.loop (rec (if p.isNone then .ready else .done) p)) (some (G (if p.isNone then .ready else .done) p)) (fun G' hG' => by injection hG' with hG'; subst hG'; exact hturn _ _ _ _)
          rw [hGl] at u1 u2
          have hend := run_endRound (P := P) p hl3
          have hst : ({ rec .busy none with state := if p.isNone then .ready else .done, pending := p } : Loop) = rec (if p.isNone then .ready else .done) p := by rw [hrec]
          rw [hst] at hend
          exact ⟨_, _, hend, _, rfl, I3, _, _, hs3.trans u2, u1, .g (.lit _ rfl), hk⟩
        intro ex a3 w3 hq
        cases ex with
        | normal => obtain ⟨ms3, e3, _, hat⟩ := hq; obtain ⟨I3, S3, d3, s3, r3, _, hk⟩ := hat.ex; exact fin _ w3 I3 S3 (.inr s3.s) r3 hk
        | exit id => obtain ⟨ms3, e3, _, hat⟩ := hq; obtain ⟨I3, S3, d3, s3, r3, _, hk⟩ := hat.ex; exact fin _ w3 I3 S3 (.inr s3.s) r3 hk
        | ret => obtain ⟨ms3, e3, _, hat⟩ := hq; obtain ⟨I3, S3, d3, s3, r3, _, hk⟩ := hat.ex; exact fin _ w3 I3 S3 (.inr s3.s) r3 hk
        | _ => exact hq.elim
      | exit id => obtain ⟨_, _, _, hat⟩ := hq; obtain ⟨_, _, _, _, _, _, hk⟩ := hat.ex; exact hk.elim
      | ret => obtain ⟨_, _, _, hat⟩ := hq; obtain ⟨_, _, _, _, _, _, hk⟩ := hat.ex; exact hk.elim
      | _ => exact hq.elim
    have hP := h (w.heap.size + 1) G hy W1 I (.func (.yield (w.heap.size + 1)) #[] #[] :: us) hRG (.cons (.yl _) (hul.mono hIs hH1))
    unfold FC at hP
    rw [bodied_run hbod] at hP
    have hargs : (Value.func (.yield (w.heap.size + 1)) #[] #[] :: us).toArray = #[.func (.yield (w.heap.size + 1)) #[] #[]] ++ us.toArray := by apply Array.ext'; simp
    rw [hargs] at hP
    have hgv' : a.eval g = .func (.func f) #[] us.toArray := by rw [hr.eval]; exact hus
    refine ⟨w.heap.size + 1, [{ target := .collected w.heap.size, args := #[] }], W1, { target := .fn (.func f) us.toArray, args := #[.func (.yield (w.heap.size + 1)) #[] #[]] }, W1, f,
      #[.func (.yield (w.heap.size + 1)) #[] #[]] ++ us.toArray, W1, ?_, ?_, fun _ _ => trivial, ?_, (fun h0 => by cases h0), ?_⟩
    · rw [← hW1, hrec]; exact run_enterLoop_outer _ _ _ _ _
    · simp only [resolve, hgv']
      simp [go_sem]
    · simp [invoke, bodied_run hbod]
    · refine callsIn_wide.2 (Calls.mono hP ?_)
      rintro ex W2 ⟨v, rfl, I', S', d, sP, rP, hd, st, p, hg', hst, hm'⟩
      have hl' : W2.heap[w.heap.size + 1]? = some (.loop (rec st p)) := by have := (rP.gho _ hg').rec_; rwa [hGl, hGr] at this
      have hend := run_endLoop (P := P) hl' (by rw [hrec]; exact hst)
      have hpe : (rec st p).pending = p := by rw [hrec]
      obtain ⟨t1, t2⟩ := rP.turn hg' (.loop { rec st p with state := .exhausted }) none (fun G' hG' => by cases hG')
      rw [hGl] at t1 t2
      generalize hW4 : W2.putObj (w.heap.size + 1) (.loop { rec st p with state := .exhausted }) = W4 at hend t1 t2
      rw [hpe] at hend
      have hfin := (hSG.trans sP).trans t2
      have hmk : Marks ({ target := .collected w.heap.size, args := #[] } :: ms) w0 W1 := by
        refine ⟨⟨w.heap.size, rfl, hS.s.size, hK1, fun d' hd' D' ht e0 => ?_⟩, hS.m.step hR hSG⟩
        have := Marks.old hS.m d' hd' D' ht
        omega
      have hmk2 := (hmk.step hRG sP).step rP t2
      have hat : ∀ (M : DEnv → Store → Prop), M e (updG S' none) → AtM ({ target := .collected w.heap.size, args := #[] } :: ms) I0 S0 w0 M e' W4 := fun M hM =>
        ⟨I', updG S' none, e, ⟨hS.s.trans hfin, hmk2⟩, t1, he.mono hfin.sub hfin.ev, hM⟩
      have hrep : Rep n e' { a with defers := [{ target := .collected w.heap.size, args := #[] }] ++ a.defers } ({ target := .collected w.heap.size, args := #[] } :: ms) := ⟨by rw [hr.defers]; rfl, hr.size, hr.val⟩
      refine ⟨p, _, hend, ?_⟩
      cases p with
      | none => exact ⟨_, e', hrep, hat N hm'⟩
      | some c =>
        cases c with
        | exit id => exact wpIn_exit (F := wf none) ⟨_, e', hrep, hat (X id) hm'⟩
        | ret => exact wpIn_ret (F := wf none) ⟨_, e', hrep, hat R hm'⟩
        | _ => exact hm'.elim
  | .goto _, _, _, _, _, _, _, _, _, _, _, _, _, _, _, h => by obtain ⟨I, S, e, hS, hR, he, h⟩ := h.ex; exact h.elim
  | .refuse _, _, _, _, _, _, _, _, _, _, _, _, _, _, _, h => by obtain ⟨I, S, e, hS, hR, he, h⟩ := h.ex; exact h.elim

/-! ### Results, bodies -/

def resD (P : Program) (e : DEnv) (S : Store) : List ResultVar → (List D → Prop) → Prop
  | [], K => K []
  | .tmp t :: r, K => resD P e S r fun ds => K (e t :: ds)
  | .cell a t :: r, K => loadD P S t (e a) fun d => resD P e S r fun ds => K (d :: ds)
def oneD (K : D → Prop) : List D → Prop
  | [d] => K d
  | ds => K (.tup ds)

/-- Where a call ends: what it answers reads as data. -/
def retC (P : Program) (rs : List ResultVar) (K : D → Prop) (e : DEnv) (S : Store) : Prop := resD P e S rs fun ds => coeDs ds S fun ds' _ => oneD K ds'

theorem resD_sound {I : CI} {S : Store} {w : World} (hR : Rel I S w) {n : Nat} {e : DEnv} {e' : Env} {a : Act} (hr : Rep n e' a) (he : EnvR I w.heap e e') : ∀ (rs : List ResultVar) (K : List D → Prop), resD P e S rs K →
    ∃ vs ds, (rs.mapM (oneRes a.tmps)).run P w = .ok vs w ∧ RdL I w.heap ds vs ∧ K ds
  | [], K, h => ⟨[], [], rfl, .nil, h⟩
  | .tmp t :: r, K, h => by
    obtain ⟨vs, ds, h1, h2, h3⟩ := resD_sound hR hr he r _ h
    refine ⟨e' t :: vs, e t :: ds, ?_, .cons (he t) h2, h3⟩
    have : (oneRes a.tmps (.tmp t)).run P w = .ok (e' t) w := by simp only [oneRes, Sem.run_pure, hr.val]
    simp only [List.mapM_cons, Sem.run_bind, Sem.run_pure, Result.andThen_ok, h1, this]
  | .cell c t :: r, K, h => by
    simp only [resD] at h
    obtain ⟨u, h1, d, h2, h⟩ := loadD_sound (P := P) hR (he c) h
    obtain ⟨vs, ds, h3, h4, h5⟩ := resD_sound hR hr he r _ h
    have hv := h1 w (Ext.refl _)
    refine ⟨u :: vs, d :: ds, ?_, .cons h2 h4, h5⟩
    have hca : ∃ ad, e' c = .pointer (some ad) := by
      have hrd := he c
      generalize e' c = x at hrd hv ⊢
      unfold Ld Does Instr.loadAt Instr.sureAddr at hv
      cases x <;> simp at hv
      rename_i o
      cases o with
      | some ad => exact ⟨ad, rfl⟩
      | none => simp at hv
    obtain ⟨ad, had⟩ := hca
    rw [had] at hv
    unfold Ld Does Instr.loadAt Instr.sureAddr at hv
    simp only [Sem.run_bind, Sem.run_pure, Result.andThen_ok] at hv
    have : (oneRes a.tmps (.cell c t)).run P w = .ok u w := by
      unfold oneRes
      simp only [hr.val, had, asAddr, Sem.run_bind, Sem.run_pure, Result.andThen_ok, hv]
    simp only [List.mapM_cons, Sem.run_bind, Sem.run_pure, Result.andThen_ok, h3, this]

theorem results_rd {I : CI} {S : Store} {w : World} (hR : Rel I S w) {n : Nat} {fn : Func} {K : List D → Prop} {e : DEnv} {e' : Env} {a : Act} (hr : Rep n e' a) (he : EnvR I w.heap e e') (h : resD P e S fn.results.toList K) :
    ∃ v vs ds, (results fn a.tmps).run P w = .ok v w ∧ v = (if h : vs.length = 1 then vs[0] else .tuple vs.toArray) ∧ RdL I w.heap ds vs ∧ K ds := by
  obtain ⟨vs, ds, h1, h2, h3⟩ := resD_sound (P := P) hR hr he _ _ h
  refine ⟨_, vs, ds, ?_, rfl, h2, h3⟩
  rw [results_eq, Array.mapM_eq_mapM_toList]
  simp only [Sem.run_bind, Sem.run_map, h1, Result.andThen_ok, Sem.run_pure]
  congr 1

theorem oneD_rd {I : CI} {H : Array Obj} {ds : List D} {vs : List Value} (h : RdL I H ds vs) {K : D → Prop} (hk : oneD K ds) : ∃ d, RdD I H d (if h : vs.length = 1 then vs[0] else .tuple vs.toArray) ∧ K d := by
  match ds, vs, h, hk with
  | [], [], h, hk => exact ⟨_, RdD.ofT h, hk⟩
  | [d], [v], h, hk => exact ⟨d, h.at_ 0 d v rfl rfl, hk⟩
  | d :: d' :: ds, v :: v' :: vs, h, hk => exact ⟨_, by rw [dif_neg (by simp)]; exact RdD.ofT h, hk⟩
  | [], v :: vs, h, _ => have := h.len; simp at this
  | [d], [], h, _ => have := h.len; simp at this
  | [d], v :: v' :: vs, h, _ => have := h.len; simp at this
  | d :: d' :: ds, [], h, _ => have := h.len; simp at this
  | d :: d' :: ds, [v], h, _ => have := h.len; simp at this

def argD (l : List D) : DEnv := fun i => l.getD i (.tup [])
theorem argD_apply (l : List D) (i : Nat) : argD l i = l.getD i (.tup []) := rfl
def noS : Store := ⟨fun _ => none, none⟩
theorem noS_apply (k : Nm) : noS k = none := rfl

/-- A block for deferred calls is shut. -/
theorem shut_step {I0 I : CI} {S0 S : Store} {w0 w : World} {D : Nat} (hS : Stp I0 S0 w0 I S w) (hR : Rel I S w) (hD : w0.heap.size ≤ D) (hd : w.heap[D]? = some (.deferred (some []))) (o : Obj) :
    Stp I0 S0 w0 I S (w.putObj D o) ∧ Rel I S (w.putObj D o) ∧ HEv I w.heap (w.putObj D o).heap := by
  have hE : HEv I w.heap (w.putObj D o).heap := fun b cur el fr hb => by
    have hne : b ≠ D := fun e => by rw [e, hd] at hb; cases hb
    exact ⟨cur, (World.putObj_heap_other hne).trans hb, rfl, fun _ _ => rfl⟩
  have hI : ∀ b j, I b j → I b j := fun _ _ h => h
  refine ⟨⟨hS.os, hS.tape, hS.output, by rw [World.putObj_size]; exact hS.size, hS.dr, hS.sub, hS.new, hS.ev.trans hS.sub hE, fun b hb h1 h2 => (World.putObj_heap_other (by omega)).trans (hS.frame b hb h1 h2), hS.live, hS.liveG⟩,
    ⟨hR.gi.mono hI hE (fun b j hj => by rw [World.putObj_size]; exact hR.old b j hj), fun k B hk => (hR.has k B hk).mono hI (fun j hj => hj) hE (World.putObj_heap_other (fun e => ?_)), hR.inj, fun G hG => (hR.gho G hG).mono hI hE (World.putObj_heap_other (fun e => ?_))⟩, hE⟩
  · obtain ⟨cur, el, hb⟩ := hR.cell_at hk
    rw [e, hd] at hb; cases hb
  · have := (hR.gho G hG).rec_
    rw [e, hd] at this
    injection this with this
    have k := (hR.gho G hG).kind
    rw [← this] at k; cases k
theorem Marks.shut {w0 w : World} {D : Nat} {o : Obj} : ∀ {ms : List Deferred}, Marks ms w0 w → (∀ d' ∈ ms, ∀ D', d'.target = .collected D' → D' ≠ D) → Marks ms w0 (w.putObj D o)
  | [], _, _ => trivial
  | d :: r, ⟨⟨D1, h1, h2, h3, h4⟩, hr⟩, hne => ⟨⟨D1, h1, h2, (World.putObj_heap_other (hne d (List.mem_cons_self ..) D1 (by rw [h1]))).trans h3, h4⟩, Marks.shut hr fun d' hd' => hne d' (List.mem_cons_of_mem _ hd')⟩
theorem leave_marks {fn : Func} {tmps : Array Value} {Rr : Ending → World → Prop} {I0 : CI} {S0 : Store} {w0 : World} {N : DEnv → Store → Prop} {e' : Env} (fin : ∀ w, At I0 S0 w0 N e' w → LeavesIn Fence.wide 0 P fn tmps Rr [] .returning w) :
    ∀ (ms : List Deferred) (I : CI) (S : Store) (e : DEnv) (w : World), Stp I0 S0 w0 I S w → Marks ms w0 w → Rel I S w → EnvR I w.heap e e' → N e S → LeavesInM Fence.wide 0 P fn tmps Rr ms .returning w
  | [], I, S, e, w, hS, _, hR, he, hn => fin w ⟨I, S, e, hS, hR, he, hn⟩
  | d :: r, I, S, e, w, hS, ⟨⟨D, h1, h2, h3, h4⟩, hr⟩, hR, he, hn => by
    obtain ⟨s1, r1, h5⟩ := shut_step hS hR h2 h3 (.deferred none)
    exact ⟨by simp, .inl ⟨D, _, by rw [h1], run_takeDeferred h3, leave_marks fin r I S e _ s1 (hr.shut h4) r1 (he.mono (fun _ _ h => h) h5) hn⟩⟩

theorem body_wp (hm : P.follows .mixedOrders = true) {f : FuncId} {fn : Func} {c : Code} {vs : List Value} {w : World} {Q : Value → World → Prop} {N : DEnv → Store → Prop} {I : CI} {S : Store} (hf : P.funcs[f]? = some fn) (hb : fn.body = some c)
    (hn : (fn.name == "runtime.NumGoroutine") = false) (hfit : fits fn.ntmps c = true) (hargs : vs.length ≤ fn.ntmps) {ds : List D} (hrd : RdL I w.heap ds vs) (hR : Rel I S w) (h : pvc P c N (fun _ _ _ => False) N (argD ds) S)
    (hN : ∀ e' a w', Rep fn.ntmps e' a → At I S w N e' w' → ∃ v, (results fn a.tmps).run P w' = .ok v w' ∧ Q v w') : FC P f vs.toArray w Q := by
  unfold FC
  have : (callFunc f vs.toArray).run P w = .ok (.enter f vs.toArray) w := by
    unfold callFunc
    have hn' : ¬ fn.name = "runtime.NumGoroutine" := fun h => by rw [h] at hn; simp at hn
    simp [hf, hn', hb]
  rw [this]
  refine callsIn_wide.1 (callsIn_of_wp_marks (F := Fence.wide) (n := 0) hf hb trivial (wpIn_mono (pvc_soundIn hm c none I S w N (fun _ _ _ => False) N [] (argE vs) _ _ hfit (.inl rfl) (?_ : Rep fn.ntmps (argE vs) _) ⟨I, S, argD ds, ⟨Stp.refl _ _ _, trivial⟩, hR, ?_, h⟩) ?_))
  · refine ⟨rfl, by simp; omega, fun i => ?_⟩
    simp only [argE, Array.getD_eq_getD_getElem?, Array.getElem?_append, List.getD_eq_getElem?_getD]
    by_cases hi : i < vs.length
    · simp [hi]
    · simp only [hi, Array.getElem?_replicate, if_false, List.getElem?_eq_none (Nat.le_of_not_lt hi), Option.getD_none, List.size_toArray]
      split <;> rfl
  · intro i
    simp only [argE, argD, List.getD_eq_getElem?_getD]
    rcases Nat.lt_or_ge i vs.length with hi | hi
    · have hi' : i < ds.length := by rw [← hrd.len]; exact hi
      rw [List.getElem?_eq_getElem hi, List.getElem?_eq_getElem hi']
      exact hrd.at_ i _ _ (List.getElem?_eq_getElem hi') (List.getElem?_eq_getElem hi)
    · rw [List.getElem?_eq_none hi, List.getElem?_eq_none (by rw [← hrd.len]; exact hi)]
      exact undef_rd _ _
  · intro ex a' w' hq
    have fin : ∀ (ms : List Deferred) (e' : Env), Rep fn.ntmps e' a' ms → AtM ms I S w N e' w' → LeavesInM Fence.wide 0 P fn a'.tmps (Ret Q) a'.defers .returning w' := by
      intro ms e' hr ha
      obtain ⟨I1, S1, e1, s1, r1, v1, hn1⟩ := ha.ex
      rw [hr.defers]
      refine leave_marks (N := N) (e' := e') (fun w2 h2 => ?_) ms I1 S1 e1 w' s1.s s1.m r1 v1 hn1
      obtain ⟨v, h3, h4⟩ := hN e' { a' with defers := [] } w2 ⟨rfl, hr.size, hr.val⟩ h2
      exact ⟨v, h3, v, rfl, h4⟩
    cases ex with
    | normal => obtain ⟨ms, e', hr', h'⟩ := hq; exact fin ms e' hr' h'
    | ret => obtain ⟨ms, e', hr', h'⟩ := hq; exact fin ms e' hr' h'
    | exit id => obtain ⟨_, _, _, h⟩ := hq; obtain ⟨_, _, _, _, _, _, h⟩ := h.ex; exact h.elim
    | _ => exact hq.elim

theorem rel_no {I : CI} {w : World} (h : GI I w) : Rel I noS w := ⟨h, fun k B hk => (by rw [noS_apply] at hk; cases hk), fun k k' B B' hk hk' => (by rw [noS_apply] at hk; cases hk), fun G hG => (by cases hG)⟩

/-- The contract of a function that answers data, out of its body. -/
theorem PC.body (hm : P.follows .mixedOrders = true) {f : FuncId} {fn : Func} {c : Code} {args : List D} {rs : List ResultVar} {K : D → Prop} (hf : P.funcs[f]? = some fn) (hb : fn.body = some c)
    (hn : (fn.name == "runtime.NumGoroutine") = false) (hfit : fits fn.ntmps c = true) (hargs : args.length ≤ fn.ntmps) (hrs : fn.results.toList = rs)
    (h : pvc P c (retC P rs K) (fun _ _ _ => False) (retC P rs K) (argD args) noS) : PC P f args K := by
  subst hrs
  intro w I vs hI hv
  refine body_wp hm hf hb hn hfit (by rw [hv.len]; exact hargs) hv (rel_no hI) h ?_
  rintro e' a w' hr ⟨I1, S1, e, s1, r1, he, hret⟩
  obtain ⟨v, us, ds, h1, h2, h3, h4⟩ := results_rd r1 hr he hret
  obtain ⟨I2, S2, ds2, s2, r2, q2, h5⟩ := coeDs_sound ds r1 h3 h4
  obtain ⟨d, h6, h7⟩ := oneD_rd q2 h5
  have s := s1.trans s2
  refine ⟨v, h1, I2, d, ⟨⟨s.os, s.tape, s.output, s.size, fun b hb => s.frame b hb (fun k B hk => by rw [noS_apply] at hk; cases hk) (fun G hG => by cases hG)⟩, s.dr⟩, s.sub, fun b j hb => ?_, r2.old, ?_, h7⟩
  · rcases s.new b j hb with h8 | h8 | ⟨k, B, h8, _⟩
    · exact .inl h8
    · exact .inr h8
    · rw [noS_apply] at h8; cases h8
  · rw [h2]; exact h6

end
end Go.V
namespace Go.V
open Go Go.RowKit

section
variable {P : Program} {I : CI} {H : Array Obj} {S : Store}

/-- The caller's blocks, as the callee names them; and back. -/
def upF (S : Store) : Nm → Option Blk := fun | .up k => S k | _ => none
def upS (S : Store) : Store := ⟨upF S, S.g⟩
def dnS (S : Store) : Store := ⟨fun k => S (.up k), S.g⟩
theorem upS_g : (upS S).g = S.g := rfl
theorem dnS_g : (dnS S).g = S.g := rfl
theorem dnS_updG {g : Option Gh} : dnS (updG S g) = updG (dnS S) g := rfl
theorem upS_up {k : Nm} : upS S (.up k) = S k := rfl
theorem upS_l {d : Nat} : upS S (.l d) = none := rfl
theorem dnS_upS : dnS (upS S) = S := rfl
theorem dnS_apply {k : Nm} : dnS S k = S (.up k) := rfl
theorem dnS_upd_up {k : Nm} {x : Option Blk} : dnS (updS S (.up k) x) = updS (dnS S) k x := by
  refine Store.ext2 (fun i => ?_) rfl; simp only [dnS, updS, Nm.up.injEq]
theorem dnS_upd_l {d : Nat} {x : Option Blk} : dnS (updS S (.l d) x) = dnS S := by
  refine Store.ext2 (fun i => ?_) rfl; simp only [dnS, updS, reduceCtorEq, if_false]
theorem updS_same {k : Nm} {x : Option Blk} (h : S k = x) : updS S k x = S := by
  refine Store.ext2 (fun i => ?_) rfl; rw [updS_apply]; split
  · rename_i hi; subst hi; exact h.symm
  · rfl
theorem updS_at {k : Nm} {x : Option Blk} : updS S k x k = x := if_pos rfl
theorem updS_ne {k i : Nm} {x : Option Blk} (h : i ≠ k) : updS S k x i = S i := if_neg h
theorem updS_updS {k : Nm} {x y : Option Blk} : updS (updS S k x) k y = updS S k y := by
  refine Store.ext2 (fun i => ?_) rfl; simp only [updS]; split <;> rfl

/-- Other names; what a value reads as does not turn on them. -/
def rnC (σ : Nm → Nm) : D → D
  | .own k b o n c s => .own (σ k) b o n c s
  | .ptr k b i off s => .ptr (σ k) b i off s
  | d => d
def rnD (σ : Nm → Nm) : D → D
  | .agg cs => .agg (cs.map (rnC σ))
  | .tup cs => .tup (cs.map (rnC σ))
  | .fn f a c => .fn f (a.map (rnC σ)) (c.map (rnC σ))
  | d => rnC σ d
theorem rnD_g {σ : Nm → Nm} {x : G} : rnD σ (.g x) = .g x := rfl
theorem rnD_nil {σ : Nm → Nm} : rnD σ .nil = .nil := rfl
theorem rnD_own {σ : Nm → Nm} {k : Nm} {b o n c s : Nat} : rnD σ (.own k b o n c s) = .own (σ k) b o n c s := rfl
theorem rnD_ptr {σ : Nm → Nm} {k : Nm} {b i off s : Nat} : rnD σ (.ptr k b i off s) = .ptr (σ k) b i off s := rfl
theorem rnD_ip {σ : Nm → Nm} {cs : List G} : rnD σ (.ip cs) = .ip cs := rfl
theorem rnD_agg {σ : Nm → Nm} {cs : List D} : rnD σ (.agg cs) = .agg (cs.map (rnC σ)) := rfl
theorem rnD_tup {σ : Nm → Nm} {cs : List D} : rnD σ (.tup cs) = .tup (cs.map (rnC σ)) := rfl
theorem rnD_fn {σ : Nm → Nm} {f : FuncId} {a c : List D} : rnD σ (.fn f a c) = .fn f (a.map (rnC σ)) (c.map (rnC σ)) := rfl
theorem rnC_g {σ : Nm → Nm} {x : G} : rnC σ (.g x) = .g x := rfl
theorem rnC_nil {σ : Nm → Nm} : rnC σ .nil = .nil := rfl
theorem rnC_own {σ : Nm → Nm} {k : Nm} {b o n c s : Nat} : rnC σ (.own k b o n c s) = .own (σ k) b o n c s := rfl
theorem rnC_ptr {σ : Nm → Nm} {k : Nm} {b i off s : Nat} : rnC σ (.ptr k b i off s) = .ptr (σ k) b i off s := rfl
theorem rnC_ip {σ : Nm → Nm} {cs : List G} : rnC σ (.ip cs) = .ip cs := rfl
theorem rnC_agg {σ : Nm → Nm} {cs : List D} : rnC σ (.agg cs) = .agg cs := rfl

theorem rnC_yl {σ : Nm → Nm} {l : Nat} : rnC σ (.yl l) = .yl l := rfl
theorem rnD_yl {σ : Nm → Nm} {l : Nat} : rnD σ (.yl l) = .yl l := rfl

theorem rnC_rd {σ : Nm → Nm} {d : D} {v : Value} (h : RdD I H d v) : RdD I H (rnC σ d) v := by
  cases h with
  | own k b o n cap s cur el fr h1 h2 h3 hb hs => exact .own _ b o n cap s cur el fr h1 h2 h3 hb hs
  | ptr k b i off s => exact .ptr _ b i off s
  | g h => exact .g h
  | nil => exact .nil
  | agg cs vs hl h => exact .agg cs vs hl h
  | tup cs vs hl h => exact .tup cs vs hl h
  | ip cs b o cur el fr f hb hc hr => exact .ip cs b o cur el fr f hb hc hr
  | fn f first caps vs us h1 h2 h3 h4 => exact .fn f first caps vs us h1 h2 h3 h4
  | yl l => exact .yl l
  | arr k b n cur el fr h1 hb hs => exact .arr k b n cur el fr h1 hb hs
  | junk v => exact .junk v
theorem rnC_rds {σ : Nm → Nm} {ds : List D} {vs : List Value} (h : RdL I H ds vs) : RdL I H (ds.map (rnC σ)) vs :=
  ⟨by simpa using h.len, fun j d u h1 h2 => by
    rw [List.getElem?_map] at h1
    cases hd : ds[j]? with
    | none => rw [hd] at h1; cases h1
    | some d' => rw [hd] at h1; injection h1 with h1; subst h1; exact rnC_rd (h.at_ j d' u hd h2)⟩
theorem rnD_rd {σ : Nm → Nm} {d : D} {v : Value} (h : RdD I H d v) : RdD I H (rnD σ d) v := by
  cases h with
  | agg cs vs hl h => exact RdD.ofL (rnC_rds ⟨hl, h⟩)
  | tup cs vs hl h => exact RdD.ofT (rnC_rds ⟨hl, h⟩)
  | fn f first caps vs us h1 h2 h3 h4 =>
    have a := rnC_rds (σ := σ) ⟨h1, h3⟩
    have b := rnC_rds (σ := σ) ⟨h2, h4⟩
    exact .fn f _ _ vs us a.len b.len a.at_ b.at_
  | own k b o n cap s cur el fr h1 h2 h3 hb hs => exact .own _ b o n cap s cur el fr h1 h2 h3 hb hs
  | ptr k b i off s => exact .ptr _ b i off s
  | g h => exact .g h
  | nil => exact .nil
  | ip cs b o cur el fr f hb hc hr => exact .ip cs b o cur el fr f hb hc hr
  | yl l => exact .yl l
  | arr k b n cur el fr h1 hb hs => exact .arr k b n cur el fr h1 hb hs
  | junk v => exact .junk v
theorem rnD_rds {σ : Nm → Nm} {ds : List D} {vs : List Value} (h : RdL I H ds vs) : RdL I H (ds.map (rnD σ)) vs :=
  ⟨by simpa using h.len, fun j d u h1 h2 => by
    rw [List.getElem?_map] at h1
    cases hd : ds[j]? with
    | none => rw [hd] at h1; cases h1
    | some d' => rw [hd] at h1; injection h1 with h1; subst h1; exact rnD_rd (h.at_ j d' u hd h2)⟩

theorem Rel.ren {w : World} (h : Rel I S w) (ρ : Nm → Nm) (hρ : ∀ k k', ρ k = ρ k' → k = k') : Rel I (⟨fun k => S (ρ k), S.g⟩ : Store) w :=
  ⟨h.gi, fun k B hk => h.has _ B hk, fun k k' B B' hk hk' hb => hρ _ _ (h.inj _ _ B B' hk hk' hb), h.gho⟩
theorem Rel.up {w : World} (h : Rel I S w) : Rel I (upS S) w := by
  refine ⟨h.gi, fun k B hk => ?_, fun k k' B B' hk hk' hb => ?_, h.gho⟩
  · cases k with | up k => exact h.has k B hk | _ => cases hk
  · cases k with
    | up k => cases k' with | up k' => exact congrArg Nm.up (h.inj k k' B B' hk hk' hb) | _ => cases hk'
    | _ => cases hk
theorem Stp.dn {I' : CI} {S' : Store} {w w' : World} (h : Stp I (upS S) w I' S' w') (ρ : Nm → Nm) : Stp I S w I' (⟨fun k => S' (ρ k), S'.g⟩ : Store) w' where
  os := h.os
  tape := h.tape
  output := h.output
  size := h.size
  dr := h.dr
  sub := h.sub
  new := fun b j hb => by
    rcases h.new b j hb with h1 | h1 | ⟨k, B, h1, h2⟩
    · exact .inl h1
    · exact .inr (.inl h1)
    · cases k with | up k => exact .inr (.inr ⟨k, B, h1, h2⟩) | _ => cases h1
  ev := h.ev
  frame := fun b hb hn hg => h.frame b hb (fun k B hk => by
    cases k with | up k => exact hn k B hk | _ => cases hk) hg
  liveG := h.liveG
  live := fun k' B' hk => by
    rcases h.live _ B' hk with h1 | ⟨k, B, h1, h2⟩
    · exact .inl h1
    · cases k with | up k => exact .inr ⟨k, B, h1, h2⟩ | _ => cases h1

/-- Where a call ends that worked on the caller's blocks: what it answers reads as data. -/
def retS (P : Program) (rs : List ResultVar) (K : D → Store → Prop) (e : DEnv) (S : Store) : Prop := resD P e S rs fun ds => coeDs ds S fun ds' S' => oneD (fun d => K d (dnS S')) ds'
/-- The same, what it answers in blocks that the caller may still change: ρ tells which of the callee's blocks the caller keeps, σ how it names them. -/
def retR (P : Program) (rs : List ResultVar) (ρ σ : Nm → Nm) (K : D → Store → Prop) (e : DEnv) (S : Store) : Prop := resD P e S rs fun ds => oneD (fun d => K (rnD σ d) ⟨fun k => S (ρ k), S.g⟩) ds

theorem PFC.body (hm : P.follows .mixedOrders = true) {f : FuncId} {fn : Func} {c : Code} {args : List D} {rs : List ResultVar} {K : D → Store → Prop} (hf : P.funcs[f]? = some fn) (hb : fn.body = some c)
    (hn : (fn.name == "runtime.NumGoroutine") = false) (hfit : fits fn.ntmps c = true) (hargs : args.length ≤ fn.ntmps) (hrs : fn.results.toList = rs)
    (h : pvc P c (retS P rs K) (fun _ _ _ => False) (retS P rs K) (argD (args.map (rnD .up))) (upS S)) : PFC P f args S K := by
  subst hrs
  intro w I vs hR hv
  refine body_wp hm hf hb hn hfit (by rw [hv.len]; exact hargs) (rnD_rds hv) hR.up h ?_
  rintro e' a w' hr ⟨I1, S1, e, s1, r1, he, hret⟩
  obtain ⟨v, us, ds, h1, h2, h3, h4⟩ := results_rd r1 hr he hret
  obtain ⟨I2, S2, ds2, s2, r2, q2, h5⟩ := coeDs_sound ds r1 h3 h4
  obtain ⟨d, h6, h7⟩ := oneD_rd q2 h5
  exact ⟨v, h1, I2, dnS S2, d, (s1.trans s2).dn .up, r2.ren .up fun _ _ h => by injection h, h2 ▸ h6, h7⟩

theorem PFC.bodyR (ρ σ : Nm → Nm) (hρ : ∀ k k', ρ k = ρ k' → k = k') (hm : P.follows .mixedOrders = true) {f : FuncId} {fn : Func} {c : Code} {args : List D} {rs : List ResultVar} {K : D → Store → Prop} (hf : P.funcs[f]? = some fn) (hb : fn.body = some c)
    (hn : (fn.name == "runtime.NumGoroutine") = false) (hfit : fits fn.ntmps c = true) (hargs : args.length ≤ fn.ntmps) (hrs : fn.results.toList = rs)
    (h : pvc P c (retR P rs ρ σ K) (fun _ _ _ => False) (retR P rs ρ σ K) (argD (args.map (rnD .up))) (upS S)) : PFC P f args S K := by
  subst hrs
  intro w I vs hR hv
  refine body_wp hm hf hb hn hfit (by rw [hv.len]; exact hargs) (rnD_rds hv) hR.up h ?_
  rintro e' a w' hr ⟨I1, S1, e, s1, r1, he, hret⟩
  obtain ⟨v, us, ds, h1, h2, h3, h4⟩ := results_rd r1 hr he hret
  obtain ⟨d, h6, h7⟩ := oneD_rd h3 h4
  exact ⟨v, h1, I1, _, rnD σ d, s1.dn ρ, r1.ren ρ hρ, rnD_rd (h2 ▸ h6), h7⟩

/-- A new block's name for the caller: the callee's block `.l j`. -/
def keepN (nm : Nm) (j : Nat) : Nm → Nm := fun k => if k = nm then .l j else .up k
def tellN (nm : Nm) (j : Nat) : Nm → Nm := fun | .up k => k | .l i => if i = j then nm else .l i | k => k
theorem keepN_inj (nm : Nm) (j : Nat) : ∀ k k', keepN nm j k = keepN nm j k' → k = k' := by
  intro k k' h
  unfold keepN at h
  split at h <;> split at h
  · rename_i a b; rw [a, b]
  · cases h
  · cases h
  · injection h
theorem keepN_self {nm : Nm} {j : Nat} : keepN nm j nm = .l j := if_pos rfl
theorem keepN_ne {nm k : Nm} {j : Nat} (h : k ≠ nm) : keepN nm j k = .up k := if_neg h
theorem tellN_l {nm : Nm} {j : Nat} : tellN nm j (.l j) = nm := if_pos rfl

theorem slD_own {k : Nm} {b o n cap s' s : Nat} {x : D} {hi mx : Option D} {K : D → Prop} : slD s (.own k b o n cap s') (some x) hi mx K = (idxD x fun l => bndD hi n fun h => 0 ≤ l ∧ l ≤ h ∧ (h ≤ n ∨ h ≤ cap ∧ h ≤ 140737488355328) ∧ mx = none ∧ s' = s ∧ (0 < l ∧ h ≤ l → K (.own k b o 0 0 s)) ∧ K (.own k b (o + l.toNat) (h.toNat - l.toNat) (cap - l.toNat) s)) := rfl
theorem slD_own0 {k : Nm} {b o n cap s' s : Nat} {hi mx : Option D} {K : D → Prop} : slD s (.own k b o n cap s') none hi mx K = (bndD hi n fun h => 0 ≤ h ∧ (h ≤ n ∨ h ≤ cap ∧ h ≤ 140737488355328) ∧ mx = none ∧ s' = s ∧ K (.own k b o h.toNat cap s)) := by
  have : slD s (.own k b o n cap s') none hi mx K = (bndD hi n fun h => 0 ≤ (0 : Int) ∧ 0 ≤ h ∧ (h ≤ n ∨ h ≤ cap ∧ h ≤ 140737488355328) ∧ mx = none ∧ s' = s ∧ ((0 : Int) < 0 ∧ h ≤ 0 → K (.own k b o 0 0 s)) ∧ K (.own k b (o + (0 : Int).toNat) (h.toNat - (0 : Int).toNat) (cap - (0 : Int).toNat) s)) := rfl
  rw [this]
  simp only [Int.le_refl, true_and, Int.lt_irrefl, false_and, false_implies, Int.toNat_zero, Nat.add_zero, Nat.sub_zero]

end

attribute [go_sem ↓] slD_own slD_own0
attribute [go_sem] upS_g dnS_g dnS_updG updG_g updG_apply updS_g rnC_yl rnD_yl slD_own slD_own0 upS_up upS_l dnS_upS dnS_apply dnS_upd_up dnS_upd_l rnD_g rnD_nil rnD_own rnD_ptr rnD_ip rnD_agg rnD_tup rnD_fn rnC_g rnC_nil rnC_own rnC_ptr rnC_ip rnC_agg

end Go.V
namespace Go.V
open Go Go.RowKit

section
variable {P : Program} {N : DEnv → Store → Prop} {X : Nat → DEnv → Store → Prop} {R : DEnv → Store → Prop} {e : DEnv} {S : Store}

theorem pv_seq {a b : Code} (h : ∀ K : DEnv → Store → Prop, (∀ e S, pvc P b N X R e S → K e S) → pvc P a K X R e S) : pvc P (.seq a b) N X R e S := h _ fun _ _ h => .of h
/-- The same, what stands between the two may be read in another way. -/
theorem pv_seqR {a b : Code} (h : ∀ K : DEnv → Store → Prop, (∀ e S, pvc P b N X R e S → K e S) → (∀ e S, Recast K e S → K e S) → pvc P a K X R e S) : pvc P (.seq a b) N X R e S := h _ (fun _ _ h => .of h) (fun _ _ h => h.join)
theorem pv_reg {id : Nat} {l : List Oper} (h : runV P N (comp l l) e S) : pvc P (.region id l.toArray false) N X R e S := (by rw [runV_pops] at h; exact h)
theorem pv_draw {id : Nat} {l : List Oper} (pl : List (Nat × Nat)) (hp : planOk l.toArray pl = true) (h : runD P N (compD l pl) e S) : pvc P (.region id l.toArray true) N X R e S := .inl ⟨pl, hp, (by rw [runD_pd] at h; exact h)⟩
theorem pv_drawT {id : Nat} {l : List Oper} (t : PT) (hp : planTok l.toArray t = true) (h : pdT P l N t e S) : pvc P (.region id l.toArray true) N X R e S := .inr ⟨t, hp, h⟩
theorem pdT_nil {l : List Oper} : pdT P l N .nil e S = N e S := rfl
theorem pdT_lin {l : List Oper} {pl : List (Nat × Nat)} {r : PT} : pdT P l N (.lin pl r) e S = runD P (pdT P l N r) (compD l pl) e S := by rw [runD_pd]; rfl
theorem pdT_fork {l : List Oper} {i m j k : Nat} {a b : PT} : pdT P l N (.fork i m a j k b) e S = (runD P (pdT P l N a) (compD l [(i, m)]) e S ∧ runD P (pdT P l N b) (compD l [(j, k)]) e S) := by rw [runD_pd, runD_pd]; rfl
theorem pdT_fork3 {l : List Oper} {i m j k p q : Nat} {a b c : PT} : pdT P l N (.fork3 i m a j k b p q c) e S = (runD P (pdT P l N a) (compD l [(i, m)]) e S ∧ runD P (pdT P l N b) (compD l [(j, k)]) e S ∧ runD P (pdT P l N c) (compD l [(p, q)]) e S) := by rw [runD_pd, runD_pd, runD_pd]; rfl
theorem pdT_fork4 {l : List Oper} {i m j k p q s u : Nat} {a b c d : PT} : pdT P l N (.fork4 i m a j k b p q c s u d) e S = (runD P (pdT P l N a) (compD l [(i, m)]) e S ∧ runD P (pdT P l N b) (compD l [(j, k)]) e S ∧ runD P (pdT P l N c) (compD l [(p, q)]) e S ∧ runD P (pdT P l N d) (compD l [(s, u)]) e S) := by rw [runD_pd, runD_pd, runD_pd, runD_pd]; rfl
theorem pdT_mix {l : List Oper} {cs ds : List Nat} {r : PT} : pdT P l N (.mix cs ds r) e S = (freshA P l S ds ∧ runD P (pdT P l N r) (compD l ((cs ++ ds).map fun i => (i, 4))) e S) := by rw [runD_pd]; rfl
theorem cg_pdT {l : List Oper} {t : PT} : pdT P l N t e S = pdT P l N t e S := rfl
attribute [congr] cg_pdT
theorem pv_skip (h : N e S) : pvc P .skip N X R e S := h
theorem pv_exit {id : Nat} (h : X id e S) : pvc P (.exit id) N X R e S := h
theorem pv_ret (h : R e S) : pvc P .ret N X R e S := h
theorem pv_block {id : Nat} {c : Code} (h : pvc P c N (fun j e S => if j = id then N e S else X j e S) R e S) : pvc P (.block id c) N X R e S := h
theorem pv_label {l : Nat} (h : N e S) : pvc P (.label l) N X R e S := h
theorem pv_scope {c : Code} (h : pvc P c N X R e S) : pvc P (.scope c) N X R e S := h
theorem pv_condD {c : Operand} {a b : Code} {p : Prop} {inst : Decidable p} (hc : pev e c = .g (.lit (.bool (@decide p inst)))) (hT : p → pvc P a N X R e S) (hF : ¬ p → pvc P b N X R e S) : pvc P (.cond c a b) N X R e S := by
  simp only [pvc, condD, hc]
  by_cases hp : p
  · simpa [hp] using hT hp
  · simpa [hp] using hF hp
theorem pv_condB {c : Operand} {a b : Code} {t : Bool} (hc : pev e c = .g (.lit (.bool t))) (hT : t = true → pvc P a N X R e S) (hF : t = false → pvc P b N X R e S) : pvc P (.cond c a b) N X R e S := by
  simp only [pvc, condD, hc]
  cases t
  · simpa using hF rfl
  · simpa using hT rfl
theorem pv_condT {c : Operand} {a b : Code} (hc : pev e c = .g (.lit (.bool true))) (h : pvc P a N X R e S) : pvc P (.cond c a b) N X R e S := pv_condB hc (fun _ => h) (fun h => by cases h)
theorem pv_condF {c : Operand} {a b : Code} (hc : pev e c = .g (.lit (.bool false))) (h : pvc P b N X R e S) : pvc P (.cond c a b) N X R e S := pv_condB hc (fun h => by cases h) (fun _ => h)
theorem pv_loop {c : Code} (J : DEnv → Store → Prop) (m : DEnv → Store → Nat) (h0 : J e S) (h : ∀ e1 S1, J e1 S1 → pvc P c (fun e2 S2 => J e2 S2 ∧ m e2 S2 < m e1 S1) X R e1 S1) : pvc P (.loop c) N X R e S := ⟨J, m, h0, h⟩
theorem pops_cons {ops : List Oper} {o : Oper} {l : List Oper} (h : pguardV ops o e (popV P o e S fun d S' => popsV P ops N l (putD e o.dst d) S') (popsV P ops N l (putD e o.dst (.tup [])) S)) : popsV P ops N (o :: l) e S := h

/-! ### Calls -/

/-- A call of a function that answers data: K0 tells of the answer. -/
theorem call_pc {f : FuncId} {args : List D} {K0 : D → Prop} {K : D → Store → Prop} (h : PC P f args K0) (hk : ∀ d, K0 d → K d S) : PFC P f args S K := (h.mono hk).toPFC
/-- A call whose answer is known. -/
theorem call_is {f : FuncId} {args : List D} {r : D} {K : D → Store → Prop} (h : PC P f args fun d => d = r) (hk : K r S) : PFC P f args S K := call_pc h fun d hd => by subst hd; exact hk
theorem ext_is {f : FuncId} {args : List D} {r : D} {K : D → Prop} (h : PC P f args fun d => d = r) (hk : K r) : PC P f args K := h.mono fun d hd => by subst hd; exact hk

theorem cast_add_two (a : Nat) : (a : Int) + 2 = ((a + 2 : Nat) : Int) := by omega
theorem cast_zero0 : ((0 : Nat) : Int) = 0 := rfl
theorem pconv_is {s d : TypeId} {k k' : IntKind} {n : Int} {K : Value → Prop} (h : P.underlying d = some (.int k)) (hs : (P.underlying s).isSome = true) : pconv P s d (.int k' n) K = K (.int k (k.wrap n)) := by simp only [pconv, h, hs, true_and]
theorem ofVal_int {k : IntKind} {n : Int} : ofVal (.int k n) = .g (.lit (.int k n)) := rfl
theorem ofVal_bool {b : Bool} : ofVal (.bool b) = .g (.lit (.bool b)) := rfl
theorem ofVal_str {s : ByteArray} : ofVal (.string s) = .g (.lit (.string s)) := rfl
theorem ofVal_nil : ofVal (.slice none 0 0) = .nil := rfl
theorem ofVal_agg {l : List Value} : ofVal (.agg l.toArray) = .agg (l.map cellD) := rfl
theorem cellD_int {k : IntKind} {n : Int} : cellD (.int k n) = .g (.lit (.int k n)) := rfl
theorem cellD_bool {b : Bool} : cellD (.bool b) = .g (.lit (.bool b)) := rfl
theorem cellD_str {s : ByteArray} : cellD (.string s) = .g (.lit (.string s)) := rfl
theorem cellD_nil : cellD (.slice none 0 0) = .nil := rfl

theorem newV_alloc {t : TypeId} {z : List D} (hz : zeroD P t = some z) {dst : Option Nat} {ty : TypeId} {pos : String} {aft : Array Edge} {gd : Option (Nat × Bool)} {K : D → Store → Prop} :
    newV P { dst := dst, op := .alloc t, type := ty, pos := pos, after := aft, guard := gd } e S K = ∀ b, K (.ptr (.l (dst.getD 0)) b 0 0 z.length) (updS S (.l (dst.getD 0)) (some ⟨b, z.length, 0, [z]⟩)) := by simp only [newV, hz]; rfl
theorem newV_box {t : TypeId} {x : Operand} {dst : Option Nat} {ty : TypeId} {pos : String} {aft : Array Edge} {gd : Option (Nat × Bool)} {K : D → Store → Prop} :
    newV P { dst := dst, op := .box t x, type := ty, pos := pos, after := aft, guard := gd } e S K = ((pev e x).cells.all D.one = true ∧ ∀ b, K (.ptr (.l (dst.getD 0)) b 0 0 (pev e x).cells.length) (updS S (.l (dst.getD 0)) (some ⟨b, (pev e x).cells.length, 0, [(pev e x).cells]⟩))) := rfl
theorem newV_lit {t : TypeId} {n : Nat} {ps : Array (Nat × Operand)} {q : SlZ} (hq : slZ P t = some q) {dst : Option Nat} {ty : TypeId} {pos : String} {aft : Array Edge} {gd : Option (Nat × Bool)} {K : D → Store → Prop} :
    newV P { dst := dst, op := .buildSlice t n ps, type := ty, pos := pos, after := aft, guard := gd } e S K = (ps.toList.map (·.1) = List.range n ∧ (∀ d ∈ ps.toList.map (fun p => pev e p.2), d.cells.all D.one = true ∧ d.cells.length = q.s) ∧ n * q.s ≤ 16777216 ∧
        ∀ b, K (.own (.l (dst.getD 0)) b 0 n n q.s) (updS S (.l (dst.getD 0)) (some ⟨b, q.s, 0, ps.toList.map fun p => (pev e p.2).cells⟩))) := by simp only [newV, hq]; rfl
theorem newV_make {t : TypeId} {l c : Operand} {q : SlZ} (hq : slZ P t = some q) {dst : Option Nat} {ty : TypeId} {pos : String} {aft : Array Edge} {gd : Option (Nat × Bool)} {K : D → Store → Prop} :
    newV P { dst := dst, op := .makeSlice t l c, type := ty, pos := pos, after := aft, guard := gd } e S K = (idxD (pev e l) fun n => idxD (pev e c) fun m => n = m ∧ 0 ≤ n ∧ n ≤ 140737488355328 ∧ (q.bytes : Int) * n ≤ 140737488355328 ∧
      ∀ b, K (.own (.l (dst.getD 0)) b 0 n.toNat n.toNat q.s) (updS S (.l (dst.getD 0)) (some ⟨b, q.s, 0, List.replicate n.toNat q.z⟩))) := by simp only [newV, hq]; rfl

/-! ### Slices of one kind of thing -/

def eS {α : Type} (f : α → List G) (xs : List α) : G := .sl (xs.map f)
def rS {α : Type} (f : α → List G) (xs : List α) : List (List D) := gl (xs.map f)
def optA {α : Type} (o : Option α) (K : α → Prop) : Prop := match o with | some x => K x | none => False
theorem optA_some {α : Type} {x : α} {K : α → Prop} : optA (some x) K = K x := rfl
variable {α : Type} {f : α → List G} {xs : List α}

theorem sl_nil (f : α → List G) : G.sl [] = eS f [] := rfl
theorem lenD_eS {K : D → Prop} : lenD (.g (eS f xs)) K = K (.g (.lit (.int .i64 xs.length))) := by simp [eS, lenD]
theorem ixD_eS {s : Nat} {i : Int} {K : D → Prop} : ixD s (.g (eS f xs)) i K = (0 ≤ i ∧ i < xs.length ∧ optA xs[i.toNat]? fun x => (f x).length = s ∧ K (.ip (f x))) := by
  simp only [eS, ixD, List.length_map, List.getElem?_map]
  cases xs[i.toNat]? <;> rfl
theorem slD_eS {s : Nat} {lo hi mx : Option D} {K : D → Prop} (hs : ∀ x ∈ xs, (f x).length = s) : slD s (.g (eS f xs)) lo hi mx K =
    bndD lo 0 fun l => bndD hi xs.length fun h => 0 ≤ l ∧ l ≤ h ∧ h ≤ xs.length ∧ (mx.isSome = true → mx = hi) ∧ K (.g (eS f ((xs.take h.toNat).drop l.toNat))) := by
  have : ∀ es ∈ xs.map f, es.length = s := by intro es he; obtain ⟨x, hx, rfl⟩ := List.mem_map.1 he; exact hs x hx
  simp only [eS, slD, List.length_map, List.map_drop, List.map_take]
  congr; funext l; congr; funext h
  simp only [this, implies_true, true_and, eq_iff_iff]
  constructor
  · rintro ⟨h1, h2, h3, h4, _, h5⟩; exact ⟨h1, h2, h3, h4, h5⟩
  · rintro ⟨h1, h2, h3, h4, h5⟩; exact ⟨h1, h2, h3, h4, fun _ => this, h5⟩
theorem srcD_eS {s : Nat} {K : List (List D) → Prop} (hs : ∀ x ∈ xs, (f x).length = s) : srcD S s (.g (eS f xs)) K = K (rS f xs) := by
  have : ∀ es ∈ xs.map f, es.length = s := by intro es he; obtain ⟨x, hx, rfl⟩ := List.mem_map.1 he; exact hs x hx
  simp only [eS, srcD, rS, eq_iff_iff]
  exact ⟨fun h => h.2, fun h => ⟨this, h⟩⟩

theorem rS_len : (rS f xs).length = xs.length := by simp [rS, gl]
theorem rS_get {i : Nat} : (rS f xs)[i]? = (xs[i]?).map fun x => (f x).map D.g := by simp [rS, gl, Option.map_map, Function.comp_def]
theorem rS_nil : ([] : List (List D)) = rS f [] := rfl
theorem rS_app {ys : List α} : rS f xs ++ rS f ys = rS f (xs ++ ys) := by simp [rS, gl]
theorem rS_take {n : Nat} : (rS f xs).take n = rS f (xs.take n) := by simp [rS, gl, List.map_take]
theorem rS_drop {n : Nat} : (rS f xs).drop n = rS f (xs.drop n) := by simp [rS, gl, List.map_drop]
theorem rS_set {i : Nat} {y : α} {es : List D} (h : es = (f y).map D.g) : (rS f xs).set i es = rS f (xs.set i y) := by subst h; simp [rS, gl, List.map_set]
theorem rS_one {y : α} {es : List D} (h : es = (f y).map D.g) : [es] = rS f [y] := by subst h; rfl
theorem rS_rep {n : Nat} {y : α} {es : List D} (h : es = (f y).map D.g) : List.replicate n es = rS f (List.replicate n y) := by subst h; simp [rS, gl]
theorem pureLL_rS : pureLL (rS f xs) = some (xs.map f) := pureLL_gl _
theorem optLL_rS {K : List (List G) → Prop} : optLL (pureLL (rS f xs)) K = K (xs.map f) := by rw [pureLL_rS]; rfl
theorem sl_eS : G.sl (xs.map f) = eS f xs := rfl
theorem rS_ones : ∀ es ∈ rS f xs, es.all D.one = true := by
  intro es he
  simp only [rS, gl, List.mem_map] at he
  obtain ⟨a, _, rfl⟩ := he
  simp [D.one]
theorem all_g (l : List G) : (l.map D.g).all D.one = true := by simp [D.one]

/-- All but one block is as it was. -/
structure Keep (k : Nm) (S S' : Store) : Prop where
  f : ∀ j, j ≠ k → S' j = S j
  g : S'.g = S.g
instance {k : Nm} {S S' : Store} : CoeFun (Keep k S S') fun _ => ∀ j, j ≠ k → S' j = S j := ⟨Keep.f⟩
theorem Keep.rfl {k : Nm} {S : Store} : Keep k S S := ⟨fun _ _ => .refl _, .refl _⟩
theorem Keep.upd {k : Nm} {S : Store} {x : Option Blk} : Keep k S (updS S k x) := ⟨fun j hj => by simp [updS, hj], .refl _⟩
/-- A row that is made by appending: nothing yet, or a block of the call's own. -/
def RowD (S : Store) (k : Nm) (s : Nat) (d : D) (els : List (List D)) : Prop := (d = .nil ∧ els = []) ∨ ∃ b cap p, d = .own k b 0 els.length cap s ∧ S k = some ⟨b, s, p, els⟩

theorem RowD.nil {k : Nm} {s : Nat} : RowD S k s .nil [] := .inl ⟨rfl, rfl⟩
theorem RowD.own {k : Nm} {b cap s p n : Nat} {els : List (List D)} (hn : n = els.length) (h : S k = some ⟨b, s, p, els⟩) : RowD S k s (.own k b 0 n cap s) els := .inr ⟨b, cap, p, by rw [hn], h⟩
theorem RowD.up {S' : Store} {k : Nm} {s : Nat} {d : D} {els : List (List D)} (h : RowD S k s d els) (hS : S' k = S k) : RowD S' k s d els := h.imp id fun ⟨b, cap, p, h1, h2⟩ => ⟨b, cap, p, h1, hS ▸ h2⟩

/-- append to such a row. -/
theorem RowD.app {q : SlZ} {k : Nm} {d src : D} {els : List (List D)} (h : RowD S k q.s d els) {new : List (List D)} {K : D → Store → Prop} (hs : ∀ K, K new → srcD S q.s src K) (hl : els.length + new.length ≤ 140737488355328)
    (hb : (els.length + new.length) * q.bytes ≤ 140737488355328) (hk : ∀ d' S', RowD S' k q.s d' (els ++ new) → Keep k S S' → K d' S') : appD q S k d src K := by
  rcases h with ⟨rfl, rfl⟩ | ⟨b, cap, p, rfl, hS⟩
  · rw [appD_nil]
    refine hs _ ⟨by simpa using hl, by simpa using hb, fun h0 => ?_, fun h0 b' cap' => ?_⟩
    · subst h0; exact hk _ _ .nil .rfl
    · refine hk _ _ (.inr ⟨b', cap', 0, rfl, by simp [updS]⟩) .upd
  · rw [appD_own, hS]
    refine ⟨rfl, rfl, rfl, rfl, rfl, hs _ ⟨hl, hb, fun b' cap' => ?_⟩⟩
    refine hk _ _ (.inr ⟨b', cap', p, by simp, by simp [updS]⟩) .upd

/-- Such a row is handed on. -/
theorem RowD.coe {k : Nm} {s : Nat} {d : D} (h : RowD S k s d (rS f xs)) {K : D → Store → Prop} (hk : ∀ S', RowD S' k s d (rS f xs) → Keep k S S' → K (.g (eS f xs)) S') : coeC d S K := by
  rcases h with ⟨rfl, h0⟩ | ⟨b, cap, p, rfl, hS⟩
  · have : xs = [] := by have := congrArg List.length h0; simpa [rS_len] using this
    subst this
    rw [coeC_nil]
    exact hk S .nil .rfl
  · rw [coeC_own, hS]
    refine ⟨rfl, rfl, by simp, ?_⟩
    simp only [List.drop_zero, List.take_length, pureLL_rS, optLL_some]
    exact hk _ (.inr ⟨b, cap, max p (0 + (rS f xs).length), rfl, by simp [updS]⟩) .upd

theorem RowD.len {k : Nm} {s : Nat} {d : D} {els : List (List D)} (h : RowD S k s d els) {K : D → Prop} (hk : K (.g (.lit (.int .i64 els.length)))) : lenD d K := by
  rcases h with ⟨rfl, rfl⟩ | ⟨b, cap, p, rfl, hS⟩ <;> exact hk

end

/-! ### Out of the concrete contracts -/

/-- What a call may make that is read for ever. -/
def nI (I : CI) (w w' : World) : CI := fun b j => I b j ∨ (w.heap.size ≤ b ∧ b < w'.heap.size)

theorem pc_new {P : Program} {f : FuncId} {args : List D} {K : D → Prop} (h : ∀ w I vs, GI I w → RdL I w.heap args vs → FC P f vs.toArray w fun r w' => Ext w w' ∧ ∃ d, RdD (nI I w w') w'.heap d r ∧ K d) : PC P f args K := by
  intro w I vs hG hv
  refine (h w I vs hG hv).mono ?_
  rintro r w' ⟨hE, d, hd, hk⟩
  exact ⟨nI I w w', d, hE, fun b j hb => .inl hb, fun b j hb => hb.imp id And.left, fun b j hb => hb.elim (fun h => Nat.lt_of_lt_of_le (hG.old b j h) hE.size) And.right, hd, hk⟩

theorem pc_lit {P : Program} {f : FuncId} {args : List D} {K : D → Prop} (h : ∀ w I vs, GI I w → RdL I w.heap args vs → FC P f vs.toArray w fun r w' => Ext w w' ∧ r.oneCell' = true ∧ K (.g (.lit r))) : PC P f args K :=
  pc_new fun w I vs hG hv => (h w I vs hG hv).mono fun r w' ⟨hE, h1, hk⟩ => ⟨hE, _, .g (.lit r h1), hk⟩

theorem nI_sub {I : CI} {w w' : World} (b j : Nat) (h : I b j) : nI I w w' b j := .inl h

theorem RdL.one {I : CI} {H : Array Obj} {d : D} {vs : List Value} (h : RdL I H [d] vs) : ∃ v, vs = [v] ∧ RdD I H d v := by
  obtain ⟨v, r, rfl, h1, h2⟩ := h.uncons
  exact ⟨v, by rw [h2.unnil], h1⟩
theorem RdL.two {I : CI} {H : Array Obj} {d d' : D} {vs : List Value} (h : RdL I H [d, d'] vs) : ∃ v v', vs = [v, v'] ∧ RdD I H d v ∧ RdD I H d' v' := by
  obtain ⟨v, r, rfl, h1, h2⟩ := h.uncons
  obtain ⟨v', rfl, h3⟩ := h2.one
  exact ⟨v, v', rfl, h1, h3⟩
theorem RdL.three {I : CI} {H : Array Obj} {d d' d'' : D} {vs : List Value} (h : RdL I H [d, d', d''] vs) : ∃ v v' v'', vs = [v, v', v''] ∧ RdD I H d v ∧ RdD I H d' v' ∧ RdD I H d'' v'' := by
  obtain ⟨v, r, rfl, h1, h2⟩ := h.uncons
  obtain ⟨v', v'', rfl, h3, h4⟩ := h2.two
  exact ⟨v, v', v'', rfl, h1, h3, h4⟩

end Go.V
namespace Go.V
open Go Go.RowKit

/-- A walk that stands still: ahead of a region, what comes behind it under a name (and what may be read anew). -/
structure Stop (p : Prop) : Prop where
  out : p
theorem cg_Stop {p : Prop} : Stop p = Stop p := rfl
attribute [congr] cg_Stop
theorem pv_stop {P : Program} {N : DEnv → Store → Prop} {X : Nat → DEnv → Store → Prop} {R : DEnv → Store → Prop} {e : DEnv} {S : Store} (id : Nat) {l : Array Oper} {d : Bool} {b : Code}
    (h : Stop (∀ K : DEnv → Store → Prop, (∀ e S, pvc P b N X R e S → K e S) → (∀ e S, Recast K e S → K e S) → pvc P (.region id l d) K X R e S)) : pvc P (.seq (.region id l d) b) N X R e S := pv_seqR h.out
theorem pv_stopB {P : Program} {N : DEnv → Store → Prop} {X : Nat → DEnv → Store → Prop} {R : DEnv → Store → Prop} {e : DEnv} {S : Store} (id : Nat) {c b : Code}
    (h : Stop (∀ K : DEnv → Store → Prop, (∀ e S, pvc P b N X R e S → K e S) → (∀ e S, Recast K e S → K e S) → pvc P (.block id c) K X R e S)) : pvc P (.seq (.block id c) b) N X R e S := pv_seqR h.out

/-- A walk that stands still ahead of a group that begins with a region. -/
theorem pv_stopQ {P : Program} {N : DEnv → Store → Prop} {X : Nat → DEnv → Store → Prop} {R : DEnv → Store → Prop} {e : DEnv} {S : Store} (id : Nat) {l : Array Oper} {d : Bool} {c b : Code}
    (h : Stop (∀ K : DEnv → Store → Prop, (∀ e S, pvc P b N X R e S → K e S) → (∀ e S, Recast K e S → K e S) → pvc P (.seq (.region id l d) c) K X R e S)) : pvc P (.seq (.seq (.region id l d) c) b) N X R e S := pv_seqR h.out

section
variable {N : DEnv → Store → Prop} {e : DEnv} {S : Store}

/-- What one slot holds reads as other data, too. -/
theorem Recast.slot (i : Nat) {d : D} (hs : ∀ (I : CI) (w : World) (v : Value), Rel I S w → RdD I w.heap (e i) v → RdD I w.heap d v) (h : N (updD e i d) S) : Recast N e S := fun I w e' hR he =>
  ⟨I, S, _, Stp.refl _ _ _, hR, fun j => by
    rw [updD_apply]
    cases hj : j == i with
    | false => exact he j
    | true => rw [beq_iff_eq] at hj; subst hj; exact hs I w _ hR (he j), h⟩

/-- A block under another name. -/
theorem Recast.move (k k' : Nm) (hne : k ≠ k') (h : N e (updS (updS S k none) k' (S k))) : Recast N e S := fun I w e' hR he => by
  have hf : ∀ q B, updS (updS S k none) k' (S k) q = some B → S (if q = k' then k else q) = some B := fun q B hq => by
    simp only [updS] at hq
    split at hq
    · rename_i h1; rw [if_pos h1]; exact hq
    · rename_i h1; rw [if_neg h1]
      split at hq
      · cases hq
      · exact hq
  refine ⟨I, _, e, ⟨rfl, rfl, rfl, Nat.le_refl _, Nat.le_refl _, fun _ _ h => h, fun _ _ h => .inl h, HEv.refl _ _, fun _ _ _ _ => rfl, fun q B hq => .inr ⟨_, B, hf q B hq, rfl⟩, fun G hG => .inr ⟨G, hG, rfl⟩⟩, hR.sub _ hf (fun q q' B B' hq hq' hqq => ?_) (fun G hG => hG), he, h⟩
  by_cases h1 : q = k' <;> by_cases h2 : q' = k'
  · rw [h1, h2]
  · rw [if_pos h1, if_neg h2] at hqq
    subst hqq
    simp only [updS, if_neg hne, if_true] at hq'
    cases hq'
  · rw [if_neg h1, if_pos h2] at hqq
    subst hqq
    simp only [updS, if_neg hne, if_true] at hq
    cases hq
  · rwa [if_neg h1, if_neg h2] at hqq

/-- What one cell of a block holds reads as other data, too. -/
theorem Rel.cell {I : CI} {w : World} (hR : Rel I S w) {k : Nm} {b s p : Nat} {els : List (List D)} (hk : S k = some ⟨b, s, p, els⟩) {i j : Nat} {es : List D} {d d' : D} (hi : els[i]? = some es) (hj : es[j]? = some d)
    (hs : ∀ v, RdD I w.heap d v → RdD I w.heap d' v) : Rel I (updS S k (some ⟨b, s, p, els.set i (es.set j d')⟩)) w ∧ Stp I S w I (updS S k (some ⟨b, s, p, els.set i (es.set j d')⟩)) w := by
  obtain ⟨cur, el, h1, h2, h3, h4, h5, h6⟩ := (hR.has k _ hk).ex
  simp only at h1 h2 h3 h4 h5 h6
  have hil : i < els.length := (List.getElem?_eq_some_iff.1 hi).1
  have hjl : j < es.length := (List.getElem?_eq_some_iff.1 hj).1
  refine ⟨⟨hR.gi, fun q C hq => ?_, fun q q' C C' hq hq' hbb => ?_, hR.gho⟩, ⟨rfl, rfl, rfl, Nat.le_refl _, Nat.le_refl _, fun _ _ h => h, fun _ _ h => .inl h, HEv.refl _ _, fun _ _ _ _ => rfl, fun q C hq => ?_, fun G hG => .inr ⟨G, hG, rfl⟩⟩⟩
  · rw [updS_apply] at hq
    split at hq
    · injection hq with hq; subst hq
      refine ⟨cur, el, h1, by simpa using h2, fun i' es' he => ?_, fun i' es' j' x he hx => ?_, h5, by simpa using h6⟩
      · rw [List.getElem?_set] at he
        by_cases e0 : i = i'
        · subst e0
          rw [if_pos rfl, if_pos hil] at he
          injection he with he; subst he
          simpa using h3 i es hi
        · rw [if_neg e0] at he; exact h3 i' es' he
      · rw [List.getElem?_set] at he
        by_cases e0 : i = i'
        · subst e0
          rw [if_pos rfl, if_pos hil] at he
          injection he with he; subst he
          rw [List.getElem?_set] at hx
          by_cases e1 : j = j'
          · subst e1
            rw [if_pos rfl, if_pos hjl] at hx
            injection hx with hx; subst hx
            obtain ⟨u, hu, hr⟩ := h4 i es j d hi hj
            exact ⟨u, hu, hs u hr⟩
          · rw [if_neg e1] at hx; exact h4 i es j' x hi hx
        · rw [if_neg e0] at he; exact h4 i' es' j' x he hx
    · exact hR.has q C hq
  · rw [updS_apply] at hq hq'
    split at hq <;> split at hq'
    · rename_i e1 e2; rw [e1, e2]
    · rename_i e1 _; injection hq with hq; subst hq; rw [e1]; exact hR.inj k q' _ C' hk hq' hbb
    · rename_i _ e2; injection hq' with hq'; subst hq'; rw [e2]; exact hR.inj q k C _ hq hk hbb
    · exact hR.inj q q' C C' hq hq' hbb
  · rw [updS_apply] at hq
    split at hq
    · injection hq with hq; subst hq; exact .inr ⟨k, _, hk, rfl⟩
    · exact .inr ⟨q, C, hq, rfl⟩

theorem Recast.cell {k : Nm} {b s p : Nat} {els : List (List D)} (hk : S k = some ⟨b, s, p, els⟩) {i j : Nat} {es : List D} {d d' : D} (hi : els[i]? = some es) (hj : es[j]? = some d)
    (hs : ∀ I H v, RdD I H d v → RdD I H d' v) (h : N e (updS S k (some ⟨b, s, p, els.set i (es.set j d')⟩))) : Recast N e S := fun I w e' hR he => by
  obtain ⟨r, s⟩ := hR.cell hk hi hj (hs I w.heap)
  exact ⟨I, _, e, s, r, he, h⟩

theorem own_name {I : CI} {H : Array Obj} {k : Nm} (k' : Nm) {b o n c s : Nat} {v : Value} (h : RdD I H (.own k b o n c s) v) : RdD I H (.own k' b o n c s) v := by
  cases h with | own _ _ _ _ _ _ cur el fr h1 h2 h3 hb hs => exact .own _ b o n c s cur el fr h1 h2 h3 hb hs
theorem nil_row {I : CI} {H : Array Obj} {v : Value} (h : RdD I H .nil v) : RdD I H (.g (.sl [])) v := by
  cases h; exact .g .nil

/-- A row of the call's own, in a slot, is frozen. -/
theorem Recast.frzSlot (i : Nat) {k : Nm} {b o n c s p : Nat} {els : List (List D)} {gs : List (List G)} (hi : e i = .own k b o n c s) (hk : S k = some ⟨b, s, p, els⟩) (hg : pureLL ((els.drop o).take n) = some gs) (hn : o + n ≤ els.length)
    (h : N (updD e i (.g (.sl gs))) (updS S k (some ⟨b, s, max p (o + n), els⟩))) : Recast N e S := fun I w e' hR he => by
  obtain ⟨r1, r2⟩ := hR.freeze hk (o + n) hn
  refine ⟨_, _, _, r2, r1, fun j => ?_, h⟩
  rw [updD_apply]
  cases hj : j == i with
  | false => exact (he j).mono r2.sub (HEv.refl _ _)
  | true =>
    rw [beq_iff_eq] at hj; subst hj
    have := he j
    rw [hi] at this
    exact .g (hR.thaw hk this hg hn)

/-- A row of the call's own, in a cell of another block, is frozen. -/
theorem Rel.frzCell {I : CI} {w : World} (hR : Rel I S w) {k2 : Nm} {b2 s2 p2 : Nat} {els2 : List (List D)} (hk2 : S k2 = some ⟨b2, s2, p2, els2⟩) (i j : Nat) {es : List D} {k : Nm} {b o n c s p : Nat} {els : List (List D)} {gs : List (List G)} (hi : els2[i]? = some es) (hj : es[j]? = some (.own k b o n c s))
    (hne : k2 ≠ k) (hk : S k = some ⟨b, s, p, els⟩) (hg : pureLL ((els.drop o).take n) = some gs) (hn : o + n ≤ els.length) :
    ∃ I', Stp I S w I' (updS (updS S k (some ⟨b, s, max p (o + n), els⟩)) k2 (some ⟨b2, s2, p2, els2.set i (es.set j (.g (.sl gs)))⟩)) w ∧ Rel I' (updS (updS S k (some ⟨b, s, max p (o + n), els⟩)) k2 (some ⟨b2, s2, p2, els2.set i (es.set j (.g (.sl gs)))⟩)) w := by
  obtain ⟨r1, r2⟩ := hR.freeze hk (o + n) hn
  have hk2' : updS S k (some ⟨b, s, max p (o + n), els⟩) k2 = some ⟨b2, s2, p2, els2⟩ := by rw [updS_ne hne]; exact hk2
  obtain ⟨cur, el, h1, h2, h3, h4, h5, h6⟩ := (hR.has k2 _ hk2).ex
  obtain ⟨u, hu, hr⟩ := h4 i es j _ hi hj
  have hth := hR.thaw hk hr hg hn
  obtain ⟨cur', el', g1, g2, g3, g4, g5, g6⟩ := (r1.has k2 _ hk2').ex
  have hil : i < els2.length := (List.getElem?_eq_some_iff.1 hi).1
  have hjl : j < es.length := (List.getElem?_eq_some_iff.1 hj).1
  simp only at h1 g1 g2 g3 g4 g5 g6 hu
  rw [h1] at g1
  injection g1 with g1
  injection g1 with g1a g1b _
  subst g1a
  refine ⟨_, r2.trans ⟨rfl, rfl, rfl, Nat.le_refl _, Nat.le_refl _, fun _ _ h => h, fun _ _ h => .inl h, HEv.refl _ _, fun _ _ _ _ => rfl, fun q C hq => ?_, fun G hG => .inr ⟨G, hG, rfl⟩⟩, ⟨r1.gi, fun q C hq => ?_, fun q q' C C' hq hq' hbb => ?_, r1.gho⟩⟩
  · rw [updS_apply] at hq
    split at hq
    · injection hq with hq; subst hq; exact .inr ⟨k2, _, hk2', rfl⟩
    · exact .inr ⟨q, C, hq, rfl⟩
  · rw [updS_apply] at hq
    split at hq
    · injection hq with hq; subst hq
      refine ⟨cur, el, h1, by simpa using g2, fun i' es' he => ?_, fun i' es' j' x he hx => ?_, g5, by simpa using g6⟩
      · rw [List.getElem?_set] at he
        by_cases e0 : i = i'
        · subst e0
          rw [if_pos rfl, if_pos hil] at he
          injection he with he; subst he
          simpa using g3 i es hi
        · rw [if_neg e0] at he; exact g3 i' es' he
      · rw [List.getElem?_set] at he
        by_cases e0 : i = i'
        · subst e0
          rw [if_pos rfl, if_pos hil] at he
          injection he with he; subst he
          rw [List.getElem?_set] at hx
          by_cases e1 : j = j'
          · subst e1
            rw [if_pos rfl, if_pos hjl] at hx
            injection hx with hx; subst hx
            exact ⟨u, hu, .g hth⟩
          · rw [if_neg e1] at hx; exact g4 i es j' x hi hx
        · rw [if_neg e0] at he; exact g4 i' es' j' x he hx
    · exact r1.has q C hq
  · rw [updS_apply] at hq hq'
    split at hq <;> split at hq'
    · rename_i e1 e2; rw [e1, e2]
    · rename_i e1 _; injection hq with hq; subst hq; rw [e1]; exact r1.inj k2 q' _ C' hk2' hq' hbb
    · rename_i _ e2; injection hq' with hq'; subst hq'; rw [e2]; exact r1.inj q k2 C _ hq hk2' hbb
    · exact r1.inj q q' C C' hq hq' hbb
theorem Recast.frzCell {k2 : Nm} {b2 s2 p2 : Nat} {els2 : List (List D)} (hk2 : S k2 = some ⟨b2, s2, p2, els2⟩) (i j : Nat) {es : List D} {k : Nm} {b o n c s p : Nat} {els : List (List D)} {gs : List (List G)} (hi : els2[i]? = some es) (hj : es[j]? = some (.own k b o n c s))
    (hne : k2 ≠ k) (hk : S k = some ⟨b, s, p, els⟩) (hg : pureLL ((els.drop o).take n) = some gs) (hn : o + n ≤ els.length)
    (h : N e (updS (updS S k (some ⟨b, s, max p (o + n), els⟩)) k2 (some ⟨b2, s2, p2, els2.set i (es.set j (.g (.sl gs)))⟩))) : Recast N e S := fun I w e' hR he => by
  obtain ⟨I', s, r⟩ := hR.frzCell hk2 i j hi hj hne hk hg hn
  exact ⟨I', _, e, s, r, he.mono s.sub (HEv.refl _ _), h⟩
/-- The same ahead of a call that the outer row is handed to. -/
theorem PFC.frzCell {P : Program} {f : FuncId} {args : List D} {K : D → Store → Prop} {k2 : Nm} {b2 s2 p2 : Nat} {els2 : List (List D)} (hk2 : S k2 = some ⟨b2, s2, p2, els2⟩) (i j : Nat) {es : List D} {k : Nm} {b o n c s p : Nat} {els : List (List D)} {gs : List (List G)} (hi : els2[i]? = some es) (hj : es[j]? = some (.own k b o n c s))
    (hne : k2 ≠ k) (hk : S k = some ⟨b, s, p, els⟩) (hg : pureLL ((els.drop o).take n) = some gs) (hn : o + n ≤ els.length)
    (h : PFC P f args (updS (updS S k (some ⟨b, s, max p (o + n), els⟩)) k2 (some ⟨b2, s2, p2, els2.set i (es.set j (.g (.sl gs)))⟩)) K) : PFC P f args S K := fun w I vs hR hv => by
  obtain ⟨I1, s1, r1⟩ := hR.frzCell hk2 i j hi hj hne hk hg hn
  exact (h w I1 vs r1 (hv.mono s1.sub (HEv.refl _ _))).mono fun r w' ⟨I', S', d, a, b, c, k⟩ => ⟨I', S', d, s1.trans a, b, c, k⟩

variable {α : Type} {f : α → List G}

/-- All rows of a block of rows are frozen. -/
theorem Recast.rows {k2 : Nm} {b2 p2 s : Nat} {ds : List D} {rows : List (List α)} (nm : Nat → Nm) (hk : S k2 = some ⟨b2, 1, p2, ds.map fun d => [d]⟩) (hn : ∀ i, k2 ≠ nm i) (hi : ∀ i j, nm i = nm j → i = j) (hl : ds.length = rows.length)
    (hd : ∀ i d row, ds[i]? = some d → rows[i]? = some row → RowD S (nm i) s d (rS f row)) (h : ∀ S', S' k2 = some ⟨b2, 1, p2, rS (fun r => [eS f r]) rows⟩ → (∀ j, j ≠ k2 → (∀ i, j ≠ nm i) → S' j = S j) → N e S') : Recast N e S := by
  have step : ∀ m, m ≤ rows.length → (∀ S', S' k2 = some ⟨b2, 1, p2, rS (fun r => [eS f r]) (rows.take m) ++ (ds.drop m).map fun d => [d]⟩ → (∀ i d row, m ≤ i → ds[i]? = some d → rows[i]? = some row → RowD S' (nm i) s d (rS f row)) → (∀ j, j ≠ k2 → (∀ i, j ≠ nm i) → S' j = S j) → Recast N e S') → Recast N e S := by
    intro m
    induction m with
    | zero => intro _ h0; exact h0 S (by simpa [rS, gl] using hk) (fun i d row _ => hd i d row) fun _ _ _ => rfl
    | succ m ih =>
      intro hm h0
      refine ih (by omega) fun S' h1 h2 h3 => ?_
      have hml : m < ds.length := by omega
      have hmr : m < rows.length := by omega
      have hds := List.getElem?_eq_getElem hml
      have hrs := List.getElem?_eq_getElem hmr
      have hlen : (rS (fun r => [eS f r]) (rows.take m)).length = m := by rw [rS_len]; simp; omega
      have hcell : (rS (fun r => [eS f r]) (rows.take m) ++ (ds.drop m).map fun d => [d])[m]? = some [ds[m]] := by
        rw [List.getElem?_append_right (by omega), hlen]
        simp [hds]
      have hset : (rS (fun r => [eS f r]) (rows.take m) ++ (ds.drop m).map fun d => [d]).set m ([ds[m]].set 0 (.g (eS f rows[m]))) = rS (fun r => [eS f r]) (rows.take (m + 1)) ++ (ds.drop (m + 1)).map fun d => [d] := by
        rw [List.set_append_right _ _ (by omega), hlen, Nat.sub_self, List.drop_eq_getElem_cons hml]
        simp only [List.map_cons, List.set_cons_zero]
        rw [show rows.take (m + 1) = rows.take m ++ [rows[m]] by rw [List.take_add_one, hrs]; rfl, ← rS_app]
        simp [rS, gl]
      rcases h2 m _ _ (Nat.le_refl _) hds hrs with ⟨e1, e2⟩ | ⟨b, cap, p, e1, e2⟩
      · rw [e1] at hcell
        have er : rows[m] = [] := by have := congrArg List.length e2; simpa [rS_len] using this
        refine Recast.join <| Recast.cell (d' := .g (eS f rows[m])) h1 hcell (List.getElem?_cons_zero) (fun I H v hv => by rw [er]; exact nil_row hv) ?_
        rw [e1] at hset
        rw [hset]
        refine (h0 _ updS_at (fun i d row him h4 h5 => (h2 i d row (by omega) h4 h5).up ?_) fun j hj hji => ?_)
        · rw [updS_ne (fun e => hn i e.symm)]
        · rw [updS_ne hj]; exact h3 j hj hji
      · rw [e1] at hcell
        rw [e1] at hset
        refine Recast.join (Recast.frzCell h1 m 0 hcell List.getElem?_cons_zero (hn m) e2 (gs := rows[m].map f) (by simp only [List.drop_zero, List.take_length]; exact pureLL_rS) (by simp) ?_)
        rw [sl_eS, hset]
        refine (h0 _ updS_at (fun i d row him h4 h5 => (h2 i d row (by omega) h4 h5).up ?_) fun j hj hji => ?_)
        · rw [updS_ne (fun e => hn i e.symm), updS_ne (fun e => by have := hi _ _ e; omega)]
        · rw [updS_ne hj, updS_ne (hji m)]; exact h3 j hj hji
  refine step rows.length (Nat.le_refl _) fun S' h1 _ h3 => .of (h S' ?_ h3)
  rw [List.take_length, List.drop_of_length_le (Nat.le_of_eq hl), List.map_nil, List.append_nil] at h1
  exact h1

end
/-- A row that is made by appending, in a slot, is frozen. -/
theorem Recast.rowSlot {α : Type} {f : α → List G} {xs : List α} {N : DEnv → Store → Prop} {e : DEnv} {S : Store} (i : Nat) {k : Nm} {s : Nat} (hr : RowD S k s (e i) (rS f xs)) (h : ∀ S', Keep k S S' → N (updD e i (.g (eS f xs))) S') : Recast N e S := by
  rcases hr with ⟨h1, h2⟩ | ⟨b, cap, p, h1, h2⟩
  · have : xs = [] := by have := congrArg List.length h2; simpa [rS_len] using this
    subst this
    exact Recast.slot i (fun I w v _ hv => by rw [h1] at hv; exact nil_row hv) (h S .rfl)
  · refine Recast.frzSlot i h1 h2 (gs := xs.map f) (by simp only [List.drop_zero, List.take_length]; exact pureLL_rS) (by simp) (h _ .upd)
end Go.V
namespace Go.V
open Go Go.RowKit

section
variable {P : Program} {e : DEnv} {S : Store} {d : Option Nat} {t : TypeId} {K : D → Store → Prop} {Q : D → Prop}

/-! ### Operations, plain -/
theorem po_move {x : Operand} : popV P { dst := d, op := .move x, type := t, pos := "", after := #[], guard := none } e S K = K (pev e x) S := rfl
theorem po_assign {x : Operand} : popV P { dst := d, op := .assign x, type := t, pos := "", after := #[], guard := none } e S K = K (pev e x) S := rfl
theorem po_pick {c a b : Operand} : popV P { dst := d, op := .pick c a b, type := t, pos := "", after := #[], guard := none } e S K = boolD (pev e c) fun t => K (if t then pev e a else pev e b) S := rfl
theorem po_build {u : TypeId} {ps : List (Nat × Operand)} : popV P { dst := d, op := .build u ps.toArray, type := t, pos := "", after := #[], guard := none } e S K = buildD P u (ps.map fun p => (p.1, pev e p.2)) fun d => K d S := rfl
theorem po_nilCheck {x : Operand} : popV P { dst := d, op := .nilCheck x, type := t, pos := "", after := #[], guard := none } e S K = nilChD (pev e x) fun d => K d S := rfl
theorem po_bin {op : BinOp} {u u' : TypeId} {x y : Operand} : popV P { dst := d, op := .binOp op u x y u', type := t, pos := "", after := #[], guard := none } e S K = lit2 (pev e x) (pev e y) fun a b => pbin P op u a b fun v => K (.g (.lit v)) S := rfl
theorem po_un {op : UnOp} {u : TypeId} {x : Operand} : popV P { dst := d, op := .unOp op u x, type := t, pos := "", after := #[], guard := none } e S K = litD (pev e x) fun a => unV op a fun v => K (.g (.lit v)) S := rfl
theorem po_conv {s u : TypeId} {x : Operand} : popV P { dst := d, op := .convert s u x, type := t, pos := "", after := #[], guard := none } e S K = litD (pev e x) fun a => pconv P s u a fun v => K (.g (.lit v)) S := rfl
theorem po_func {f : FuncId} {a c : List Operand} : popV P { dst := d, op := .makeFunc (.func f) a.toArray c.toArray, type := t, pos := "", after := #[], guard := none } e S K = K (.fn f (a.map (pev e)) (c.map (pev e))) S := rfl
theorem po_slice {u s : TypeId} (h : slS P u = some s) {x : Operand} {lo hi mx : Option Operand} : popV P { dst := d, op := .slice u x lo hi mx, type := t, pos := "", after := #[], guard := none } e S K = slD s (pev e x) (lo.map (pev e)) (hi.map (pev e)) (mx.map (pev e)) fun d => K d S := by
  simp only [popV, ppureV, h]
theorem po_sliceA {u : TypeId} {n : Nat} (h : slS P u = none ∧ arrN P u = some n) {x : Operand} : popV P { dst := d, op := .slice u x none none none, type := t, pos := "", after := #[], guard := none } e S K = arrD n (pev e x) fun d => K d S := by
  simp only [popV, ppureV, h.1, h.2, true_and]
theorem pp_sliceA {u : TypeId} {n : Nat} (h : slS P u = none ∧ arrN P u = some n) {x : Operand} : ppureV P { dst := d, op := .slice u x none none none, type := t, pos := "", after := #[], guard := none } e Q = arrD n (pev e x) Q := by
  simp only [ppureV, h.1, h.2, true_and]
theorem po_newMap {u : TypeId} : popV P { dst := d, op := .makeMap u none, type := t, pos := "", after := #[], guard := none } e S K = newMapV S K := rfl
theorem po_look {u : TypeId} {x ix : Operand} : popV P { dst := d, op := .lookup u x ix true, type := t, pos := "", after := #[], guard := none } e S K = lookV P u S (pev e x) (pev e ix) K := rfl
theorem po_map {u : TypeId} {m k x : Operand} : popV P { dst := d, op := .mapUpdate u m k x, type := t, pos := "", after := #[], guard := none } e S K = mapV P u S (pev e m) (pev e k) (pev e x) K := rfl
theorem po_faddr {u : TypeId} {x : Operand} {f : Nat} : popV P { dst := d, op := .fieldAddr u x f, type := t, pos := "", after := #[], guard := none } e S K = faddrD P u f (pev e x) fun d => K d S := rfl
theorem po_field {u : TypeId} {x : Operand} {f : Nat} : popV P { dst := d, op := .field u x f, type := t, pos := "", after := #[], guard := none } e S K = fieldD P u f (pev e x) fun d => K d S := rfl
theorem po_ixaddr {u s : TypeId} (h : slS P u = some s) {x i : Operand} : popV P { dst := d, op := .indexAddr u x i, type := t, pos := "", after := #[], guard := none } e S K = idxD (pev e i) fun n => ixD s (pev e x) n fun d => K d S := by simp only [popV, ppureV, h]
theorem po_extract {x : Operand} {i : Nat} : popV P { dst := d, op := .extract x i, type := t, pos := "", after := #[], guard := none } e S K = tupD (pev e x) i fun d => K d S := rfl
theorem po_alloc {u : TypeId} {z : List D} (hz : zeroD P u = some z) : popV P { dst := d, op := .alloc u, type := t, pos := "", after := #[], guard := none } e S K = ∀ b, K (.ptr (.l (d.getD 0)) b 0 0 z.length) (updS S (.l (d.getD 0)) (some ⟨b, z.length, 0, [z]⟩)) := by
  simp only [popV, newV, hz]; rfl
def boxD (k : Nm) (S : Store) (x : D) (K : D → Store → Prop) : Prop := x.cells.all D.one = true ∧ ∀ b, K (.ptr k b 0 0 x.cells.length) (updS S k (some ⟨b, x.cells.length, 0, [x.cells]⟩))
theorem po_box {u : TypeId} {x : Operand} : popV P { dst := d, op := .box u x, type := t, pos := "", after := #[], guard := none } e S K = boxD (.l (d.getD 0)) S (pev e x) K := rfl
def litsD (q : SlZ) (k : Nm) (S : Store) (n : Nat) (is : List Nat) (ds : List D) (K : D → Store → Prop) : Prop := is = List.range n ∧ (∀ d ∈ ds, d.cells.all D.one = true ∧ d.cells.length = q.s) ∧ n * q.s ≤ 16777216 ∧ ∀ b, K (.own k b 0 n n q.s) (updS S k (some ⟨b, q.s, 0, ds.map D.cells⟩))
theorem po_lit {u : TypeId} {n : Nat} {ps : List (Nat × Operand)} {q : SlZ} (hq : slZ P u = some q) : popV P { dst := d, op := .buildSlice u n ps.toArray, type := t, pos := "", after := #[], guard := none } e S K =
    litsD q (.l (d.getD 0)) S n (ps.map (·.1)) (ps.map fun p => pev e p.2) K := by
  simp only [popV, newV, hq, litsD, List.map_map]; rfl
def makeD (q : SlZ) (k : Nm) (S : Store) (l c : D) (K : D → Store → Prop) : Prop := idxD l fun n => idxD c fun m => n = m ∧ 0 ≤ n ∧ n ≤ 140737488355328 ∧ (q.bytes : Int) * n ≤ 140737488355328 ∧
      ∀ b, K (.own k b 0 n.toNat n.toNat q.s) (updS S k (some ⟨b, q.s, 0, List.replicate n.toNat q.z⟩))
theorem po_make {u : TypeId} {l c : Operand} {q : SlZ} (hq : slZ P u = some q) : popV P { dst := d, op := .makeSlice u l c, type := t, pos := "", after := #[], guard := none } e S K = makeD q (.l (d.getD 0)) S (pev e l) (pev e c) K := by
  simp only [popV, newV, hq]; rfl
theorem makeD_i {q : SlZ} {k : Nm} {k1 k2 : IntKind} {n : Nat} : makeD q k S (.g (.lit (.int k1 n))) (.g (.lit (.int k2 n))) K = (n ≤ 140737488355328 ∧ q.bytes * n ≤ 140737488355328 ∧ ∀ b, K (.own k b 0 n n q.s) (updS S k (some ⟨b, q.s, 0, List.replicate n q.z⟩))) := by
  simp only [makeD, idxD_lit, Int.toNat_natCast, true_and, eq_iff_iff]
  rw [← Int.natCast_mul]
  constructor
  · rintro ⟨_, h1, h2, h3⟩; exact ⟨by omega, by omega, h3⟩
  · rintro ⟨h1, h2, h3⟩; exact ⟨by omega, by omega, by omega, h3⟩
theorem po_load {u : TypeId} {a : Operand} : popV P { dst := d, op := .load u a, type := t, pos := "", after := #[], guard := none } e S K = loadD P S u (pev e a) fun d => K d S := rfl
theorem po_store {u : TypeId} {a x : Operand} : popV P { dst := d, op := .store u a x, type := t, pos := "", after := #[], guard := none } e S K = storeD P S u (pev e a) (pev e x) fun S' => K (.tup []) S' := rfl
theorem po_call {x : Operand} {ars : List Operand} {ats : Array TypeId} : popV P { dst := d, op := .call { callee := .value x, args := ars.toArray, argTypes := ats }, type := t, pos := "", after := #[], guard := none } e S K = callD P (pev e x) (ars.map (pev e)) fun f args => CalC P f args S K := rfl
theorem po_len {x : Operand} {u s : TypeId} (h : slS P u = some s) : popV P { dst := d, op := .call { callee := .builtin .len, args := #[x], argTypes := #[u] }, type := t, pos := "", after := #[], guard := none } e S K = lenD (pev e x) fun d => K d S := by
  simp only [popV, ppureV, List.getElem?_toArray, List.getElem?_cons_zero, h, Option.isSome_some, true_and]
theorem po_app {x y : Operand} {u : TypeId} {q : SlZ} (hq : slZ P u = some q) : popV P { dst := d, op := .call { callee := .builtin .append, args := #[x, y], argTypes := #[u, u] }, type := t, pos := "", after := #[], guard := none } e S K = appD q S (.l (d.getD 0)) (pev e x) (pev e y) K := by
  simp only [popV, hq, true_and]; rfl
theorem po_copy {x y : Operand} {u : TypeId} {q : SlZ} (hq : slZ P u = some q) : popV P { dst := d, op := .call { callee := .builtin .copy, args := #[x, y], argTypes := #[u, u] }, type := t, pos := "", after := #[], guard := none } e S K = copyD q S (pev e x) (pev e y) K := by
  simp only [popV, hq, true_and]
def minD (a b : Value) (K : Value → Prop) : Prop := match a, b with | .int k x, .int _ y => K (.int k (if y < x then y else x)) | _, _ => False
def maxD (a b : Value) (K : Value → Prop) : Prop := match a, b with | .int k x, .int _ y => K (.int k (if x < y then y else x)) | _, _ => False
theorem minD_i {k k' : IntKind} {x y : Int} {K : Value → Prop} : minD (.int k x) (.int k' y) K = K (.int k (if y < x then y else x)) := rfl
theorem maxD_i {k k' : IntKind} {x y : Int} {K : Value → Prop} : maxD (.int k x) (.int k' y) K = K (.int k (if x < y then y else x)) := rfl
theorem po_min {x y : Operand} {ats : Array TypeId} : popV P { dst := d, op := .call { callee := .builtin .min, args := #[x, y], argTypes := ats }, type := t, pos := "", after := #[], guard := none } e S K = lit2 (pev e x) (pev e y) fun a b => minD a b fun v => K (.g (.lit v)) S := by
  simp only [popV, ppureV, eq_iff_iff]
  unfold lit2 litD minD
  rfl
theorem po_max {x y : Operand} {ats : Array TypeId} : popV P { dst := d, op := .call { callee := .builtin .max, args := #[x, y], argTypes := ats }, type := t, pos := "", after := #[], guard := none } e S K = lit2 (pev e x) (pev e y) fun a b => maxD a b fun v => K (.g (.lit v)) S := by
  simp only [popV, ppureV, eq_iff_iff]
  unfold lit2 litD maxD
  rfl

/-! ### Drawn: by mode. The modes 0, 1, 2 and 3 are alike to the plain forms. -/
theorem pm_0 {o : Oper} : pmodeV P o 0 e S K = ppureV P o e fun d => K d S := rfl
theorem pm_3 {o : Oper} : pmodeV P o 3 e S K = popV P o e S K := rfl
theorem pm_4 {o : Oper} : pmodeV P o 4 e S K = pextV P o e S K := rfl
theorem pm_1 {u : TypeId} {a : Operand} : pmodeV P { dst := d, op := .load u a, type := t, pos := "", after := #[], guard := none } 1 e S K = loadD P S u (pev e a) fun d => K d S := rfl
theorem pm_2 {u : TypeId} {a : Operand} : pmodeV P { dst := d, op := .load u a, type := t, pos := "", after := #[], guard := none } 2 e S K = loadD P S u (pev e a) fun d => K d S := rfl
theorem pp_move {x : Operand} : ppureV P { dst := d, op := .move x, type := t, pos := "", after := #[], guard := none } e Q = Q (pev e x) := rfl
theorem pp_assign {x : Operand} : ppureV P { dst := d, op := .assign x, type := t, pos := "", after := #[], guard := none } e Q = Q (pev e x) := rfl
theorem pp_pick {c a b : Operand} : ppureV P { dst := d, op := .pick c a b, type := t, pos := "", after := #[], guard := none } e Q = boolD (pev e c) fun t => Q (if t then pev e a else pev e b) := rfl
theorem pp_build {u : TypeId} {ps : List (Nat × Operand)} : ppureV P { dst := d, op := .build u ps.toArray, type := t, pos := "", after := #[], guard := none } e Q = buildD P u (ps.map fun p => (p.1, pev e p.2)) Q := rfl
theorem pp_nilCheck {x : Operand} : ppureV P { dst := d, op := .nilCheck x, type := t, pos := "", after := #[], guard := none } e Q = nilChD (pev e x) Q := rfl
theorem pp_bin {op : BinOp} {u u' : TypeId} {x y : Operand} : ppureV P { dst := d, op := .binOp op u x y u', type := t, pos := "", after := #[], guard := none } e Q = lit2 (pev e x) (pev e y) fun a b => pbin P op u a b fun v => Q (.g (.lit v)) := rfl
theorem pp_un {op : UnOp} {u : TypeId} {x : Operand} : ppureV P { dst := d, op := .unOp op u x, type := t, pos := "", after := #[], guard := none } e Q = litD (pev e x) fun a => unV op a fun v => Q (.g (.lit v)) := rfl
theorem pp_conv {s u : TypeId} {x : Operand} : ppureV P { dst := d, op := .convert s u x, type := t, pos := "", after := #[], guard := none } e Q = litD (pev e x) fun a => pconv P s u a fun v => Q (.g (.lit v)) := rfl
theorem pp_func {f : FuncId} {a c : List Operand} : ppureV P { dst := d, op := .makeFunc (.func f) a.toArray c.toArray, type := t, pos := "", after := #[], guard := none } e Q = Q (.fn f (a.map (pev e)) (c.map (pev e))) := rfl
theorem pp_slice {u s : TypeId} (h : slS P u = some s) {x : Operand} {lo hi mx : Option Operand} : ppureV P { dst := d, op := .slice u x lo hi mx, type := t, pos := "", after := #[], guard := none } e Q = slD s (pev e x) (lo.map (pev e)) (hi.map (pev e)) (mx.map (pev e)) Q := by
  simp only [ppureV, h]
theorem pp_faddr {u : TypeId} {x : Operand} {f : Nat} : ppureV P { dst := d, op := .fieldAddr u x f, type := t, pos := "", after := #[], guard := none } e Q = faddrD P u f (pev e x) Q := rfl
theorem pp_field {u : TypeId} {x : Operand} {f : Nat} : ppureV P { dst := d, op := .field u x f, type := t, pos := "", after := #[], guard := none } e Q = fieldD P u f (pev e x) Q := rfl
theorem pp_ixaddr {u s : TypeId} (h : slS P u = some s) {x i : Operand} : ppureV P { dst := d, op := .indexAddr u x i, type := t, pos := "", after := #[], guard := none } e Q = idxD (pev e i) fun n => ixD s (pev e x) n Q := by simp only [ppureV, h]
theorem pp_extract {x : Operand} {i : Nat} : ppureV P { dst := d, op := .extract x i, type := t, pos := "", after := #[], guard := none } e Q = tupD (pev e x) i Q := rfl
theorem pp_len {x : Operand} {u s : TypeId} (h : slS P u = some s) : ppureV P { dst := d, op := .call { callee := .builtin .len, args := #[x], argTypes := #[u] }, type := t, pos := "", after := #[], guard := none } e Q = lenD (pev e x) Q := by
  simp only [ppureV, List.getElem?_toArray, List.getElem?_cons_zero, h, Option.isSome_some, true_and]
theorem pp_min {x y : Operand} {ats : Array TypeId} : ppureV P { dst := d, op := .call { callee := .builtin .min, args := #[x, y], argTypes := ats }, type := t, pos := "", after := #[], guard := none } e Q = lit2 (pev e x) (pev e y) fun a b => minD a b fun v => Q (.g (.lit v)) :=
  po_min (P := P) (e := e) (x := x) (y := y) (ats := ats) (K := fun d _ => Q d) (S := noS) (t := t) (d := d)
theorem pp_max {x y : Operand} {ats : Array TypeId} : ppureV P { dst := d, op := .call { callee := .builtin .max, args := #[x, y], argTypes := ats }, type := t, pos := "", after := #[], guard := none } e Q = lit2 (pev e x) (pev e y) fun a b => maxD a b fun v => Q (.g (.lit v)) :=
  po_max (P := P) (e := e) (x := x) (y := y) (ats := ats) (K := fun d _ => Q d) (S := noS) (t := t) (d := d)
theorem pe_alloc {u : TypeId} {z : List D} (hz : zeroD P u = some z) : pextV P { dst := d, op := .alloc u, type := t, pos := "", after := #[], guard := none } e S K = ∀ b, K (.ptr (.l (d.getD 0)) b 0 0 z.length) (updS S (.l (d.getD 0)) (some ⟨b, z.length, 0, [z]⟩)) := by
  simp only [pextV, newV, hz]; rfl
theorem pe_load {u : TypeId} {a : Operand} : pextV P { dst := d, op := .load u a, type := t, pos := "", after := #[], guard := none } e S K = loadD P S u (pev e a) fun d => K d S := rfl
theorem pe_box {u : TypeId} {x : Operand} : pextV P { dst := d, op := .box u x, type := t, pos := "", after := #[], guard := none } e S K = boxD (.l (d.getD 0)) S (pev e x) K := rfl
theorem pe_lit {u : TypeId} {n : Nat} {ps : List (Nat × Operand)} {q : SlZ} (hq : slZ P u = some q) : pextV P { dst := d, op := .buildSlice u n ps.toArray, type := t, pos := "", after := #[], guard := none } e S K =
    litsD q (.l (d.getD 0)) S n (ps.map (·.1)) (ps.map fun p => pev e p.2) K := by
  simp only [pextV, newV, hq, litsD, List.map_map]; rfl
theorem pe_make {u : TypeId} {l c : Operand} {q : SlZ} (hq : slZ P u = some q) : pextV P { dst := d, op := .makeSlice u l c, type := t, pos := "", after := #[], guard := none } e S K = makeD q (.l (d.getD 0)) S (pev e l) (pev e c) K := by
  simp only [pextV, newV, hq]; rfl
def ExtC (P : Program) (f : FuncId) (args : List D) (S : Store) (K : D → Store → Prop) : Prop := coeDs args S fun args' S' => PC P f args' fun d => K d S'
theorem pe_call {x : Operand} {ars : List Operand} {ats : Array TypeId} : pextV P { dst := d, op := .call { callee := .value x, args := ars.toArray, argTypes := ats }, type := t, pos := "", after := #[], guard := none } e S K = callD P (pev e x) (ars.map (pev e)) fun f args => CalE P f args S K := rfl

theorem litsD_1 {q : SlZ} {k : Nm} {x0 : D} : litsD q k S 1 [0] [x0] K = ((x0.cells.all D.one = true ∧ x0.cells.length = q.s) ∧ 1 * q.s ≤ 16777216 ∧ ∀ b, K (.own k b 0 1 1 q.s) (updS S k (some ⟨b, q.s, 0, [x0.cells]⟩))) := by
  have h : [0] = List.range 1 := rfl
  simp only [litsD, h, true_and, List.mem_cons, List.not_mem_nil, or_false, forall_eq_or_imp, forall_eq, List.map_cons, List.map_nil, and_assoc]
theorem litsD_2 {q : SlZ} {k : Nm} {x0 x1 : D} : litsD q k S 2 [0, 1] [x0, x1] K = ((x0.cells.all D.one = true ∧ x0.cells.length = q.s) ∧ (x1.cells.all D.one = true ∧ x1.cells.length = q.s) ∧ 2 * q.s ≤ 16777216 ∧ ∀ b, K (.own k b 0 2 2 q.s) (updS S k (some ⟨b, q.s, 0, [x0.cells, x1.cells]⟩))) := by
  have h : [0, 1] = List.range 2 := rfl
  simp only [litsD, h, true_and, List.mem_cons, List.not_mem_nil, or_false, forall_eq_or_imp, forall_eq, List.map_cons, List.map_nil, and_assoc]
theorem litsD_3 {q : SlZ} {k : Nm} {x0 x1 x2 : D} : litsD q k S 3 [0, 1, 2] [x0, x1, x2] K = ((x0.cells.all D.one = true ∧ x0.cells.length = q.s) ∧ (x1.cells.all D.one = true ∧ x1.cells.length = q.s) ∧ (x2.cells.all D.one = true ∧ x2.cells.length = q.s) ∧ 3 * q.s ≤ 16777216 ∧ ∀ b, K (.own k b 0 3 3 q.s) (updS S k (some ⟨b, q.s, 0, [x0.cells, x1.cells, x2.cells]⟩))) := by
  have h : [0, 1, 2] = List.range 3 := rfl
  simp only [litsD, h, true_and, List.mem_cons, List.not_mem_nil, or_false, forall_eq_or_imp, forall_eq, List.map_cons, List.map_nil, and_assoc]
theorem litsD_4 {q : SlZ} {k : Nm} {x0 x1 x2 x3 : D} : litsD q k S 4 [0, 1, 2, 3] [x0, x1, x2, x3] K = ((x0.cells.all D.one = true ∧ x0.cells.length = q.s) ∧ (x1.cells.all D.one = true ∧ x1.cells.length = q.s) ∧ (x2.cells.all D.one = true ∧ x2.cells.length = q.s) ∧ (x3.cells.all D.one = true ∧ x3.cells.length = q.s) ∧ 4 * q.s ≤ 16777216 ∧ ∀ b, K (.own k b 0 4 4 q.s) (updS S k (some ⟨b, q.s, 0, [x0.cells, x1.cells, x2.cells, x3.cells]⟩))) := by
  have h : [0, 1, 2, 3] = List.range 4 := rfl
  simp only [litsD, h, true_and, List.mem_cons, List.not_mem_nil, or_false, forall_eq_or_imp, forall_eq, List.map_cons, List.map_nil, and_assoc]
theorem litsD_i {q : SlZ} {k : Nm} {n : Nat} {is : List Nat} {ds : List D} (h1 : is = List.range n) (h2 : ∀ d ∈ ds, d.cells.all D.one = true ∧ d.cells.length = q.s) (h3 : n * q.s ≤ 16777216) (h4 : ∀ b, K (.own k b 0 n n q.s) (updS S k (some ⟨b, q.s, 0, ds.map D.cells⟩))) : litsD q k S n is ds K := ⟨h1, h2, h3, h4⟩
/-- A literal's elements are appended to a row. -/
theorem RowD.appL {q : SlZ} {k k2 : Nm} {dd : D} {els new : List (List D)} {b n cap p : Nat} (h : RowD S k q.s dd els) (hk : k ≠ k2) (hn : n = new.length) (h1 : ∀ es ∈ new, es.all D.one = true) (hl : els.length + new.length ≤ 140737488355328)
    (hb : (els.length + new.length) * q.bytes ≤ 140737488355328) (hK : ∀ d' S', RowD S' k q.s d' (els ++ new) → Keep k (updS S k2 (some ⟨b, q.s, p, new⟩)) S' → K d' S') :
    appD q (updS S k2 (some ⟨b, q.s, p, new⟩)) k dd (.own k2 b 0 n cap q.s) K := by
  subst hn
  refine RowD.app (h.up (by simp [updS, hk])) (new := new) (fun K hK => ?_) hl hb hK
  rw [srcD_own]
  refine ⟨rfl, ?_⟩
  simp only [updS, if_true]
  exact ⟨rfl, rfl, by simp, h1, by simpa using hK⟩
theorem RowD.coeD {α : Type} {f : α → List G} {xs : List α} {k : Nm} {s : Nat} {dd : D} (h : RowD S k s dd (rS f xs)) (hk : ∀ S', RowD S' k s dd (rS f xs) → Keep k S S' → K (.g (eS f xs)) S') : coeD dd S K := by
  have := h.coe hk
  rcases h with ⟨rfl, _⟩ | ⟨b, cap, p, rfl, _⟩ <;> exact this
theorem RowD.coe1 {α : Type} {f : α → List G} {xs : List α} {k : Nm} {s : Nat} {dd : D} {K : List D → Store → Prop} (h : RowD S k s dd (rS f xs)) (hk : ∀ S', RowD S' k s dd (rS f xs) → Keep k S S' → K [.g (eS f xs)] S') : coeDs [dd] S K := by
  rw [coeDs_cons]
  exact h.coeD hk
theorem cl_agg {cs : List D} : (D.agg cs).cells = cs := rfl
theorem cl_g {x : G} : (D.g x).cells = [.g x] := rfl
theorem cl_nil : D.nil.cells = [.nil] := rfl
theorem cl_own {k : Nm} {b o n c s : Nat} : (D.own k b o n c s).cells = [.own k b o n c s] := rfl
theorem cl_ptr {k : Nm} {b o n s : Nat} : (D.ptr k b o n s).cells = [.ptr k b o n s] := rfl
theorem cl_fn {f : FuncId} {a c : List D} : (D.fn f a c).cells = [.fn f a c] := rfl
theorem on_g {x : G} : (D.g x).one = true := rfl
theorem on_nil : D.nil.one = true := rfl
theorem on_own {k : Nm} {b o n c s : Nat} : (D.own k b o n c s).one = true := rfl
theorem on_ptr {k : Nm} {b o n s : Nat} : (D.ptr k b o n s).one = true := rfl
theorem on_fn {f : FuncId} {a c : List D} : (D.fn f a c).one = true := rfl
theorem tg_g {x : G} : (D.g x).toG = some x := rfl
theorem tg_nil : D.nil.toG = some (.sl []) := rfl
theorem pgv_tt {a b : Prop} : pgv (.g (.lit (.bool true))) true a b = a := by simp [pgv]
theorem pgv_tf {a b : Prop} : pgv (.g (.lit (.bool true))) false a b = b := by simp [pgv]
theorem pgv_ft {a b : Prop} : pgv (.g (.lit (.bool false))) true a b = b := by simp [pgv]
theorem pgv_ff {a b : Prop} : pgv (.g (.lit (.bool false))) false a b = a := by simp [pgv]

/-! ### What simp may look into -/
theorem cg_runV {N : DEnv → Store → Prop} {l l' : List Ci} (h : l = l') : runV P N l e S = runV P N l' e S := by rw [h]
theorem cg_runD {N : DEnv → Store → Prop} {l l' : List (Option Ci × Nat)} (h : l = l') : runD P N l e S = runD P N l' e S := by rw [h]
theorem cg_pgv {x x' : D} (h : x = x') {w : Bool} {a b : Prop} : pgv x w a b = pgv x' w a b := by rw [h]
theorem cg_loadD {u : TypeId} {x x' : D} (h : x = x') : loadD P S u x Q = loadD P S u x' Q := by rw [h]
theorem cg_storeD {u : TypeId} {x x' y y' : D} {K : Store → Prop} (h : x = x') (h' : y = y') : storeD P S u x y K = storeD P S u x' y' K := by rw [h, h']
theorem cg_litD {x x' : D} {K : Value → Prop} (h : x = x') : litD x K = litD x' K := by rw [h]
theorem cg_lit2 {x x' y y' : D} {K : Value → Value → Prop} (h : x = x') (h' : y = y') : lit2 x y K = lit2 x' y' K := by rw [h, h']
theorem cg_idxD {x x' : D} {K : Int → Prop} (h : x = x') : idxD x K = idxD x' K := by rw [h]
theorem cg_ixD {s : Nat} {x x' : D} {i i' : Int} (h : x = x') (h' : i = i') : ixD s x i Q = ixD s x' i' Q := by rw [h, h']
theorem cg_lenD {x x' : D} (h : x = x') : lenD x Q = lenD x' Q := by rw [h]
theorem cg_slD {s : Nat} {x x' : D} {lo lo' hi hi' mx mx' : Option D} (h : x = x') (h1 : lo = lo') (h2 : hi = hi') (h3 : mx = mx') : slD s x lo hi mx Q = slD s x' lo' hi' mx' Q := by rw [h, h1, h2, h3]
theorem cg_bndD {x x' : Option D} {n : Int} {K : Int → Prop} (h : x = x') : bndD x n K = bndD x' n K := by rw [h]
theorem cg_tupD {x x' : D} {i : Nat} (h : x = x') : tupD x i Q = tupD x' i Q := by rw [h]
theorem cg_fieldD {u : TypeId} {f : Nat} {x x' : D} (h : x = x') : fieldD P u f x Q = fieldD P u f x' Q := by rw [h]
theorem cg_faddrD {u : TypeId} {f : Nat} {x x' : D} (h : x = x') : faddrD P u f x Q = faddrD P u f x' Q := by rw [h]
theorem cg_nilChD {x x' : D} (h : x = x') : nilChD x Q = nilChD x' Q := by rw [h]
theorem cg_boolD {x x' : D} {K : Bool → Prop} (h : x = x') : boolD x K = boolD x' K := by rw [h]
theorem cg_buildD {u : TypeId} {ps ps' : List (Nat × D)} (h : ps = ps') : buildD P u ps Q = buildD P u ps' Q := by rw [h]
theorem cg_callD {x x' : D} {ars as' : List D} {K : Cal → List D → Prop} (h : x = x') (h' : ars = as') : callD P x ars K = callD P x' as' K := by rw [h, h']
theorem cg_boxD {k : Nm} {x x' : D} (h : x = x') : boxD k S x K = boxD k S x' K := by rw [h]
theorem cg_litsD {q : SlZ} {k : Nm} {n : Nat} {is is' : List Nat} {ds ds' : List D} (h : is = is') (h' : ds = ds') : litsD q k S n is ds K = litsD q k S n is' ds' K := by rw [h, h']
theorem cg_makeD {q : SlZ} {k : Nm} {l l' c c' : D} (h : l = l') (h' : c = c') : makeD q k S l c K = makeD q k S l' c' K := by rw [h, h']
theorem cg_appD {q : SlZ} {k : Nm} {x x' y y' : D} (h : x = x') (h' : y = y') : appD q S k x y K = appD q S k x' y' K := by rw [h, h']
theorem cg_copyD {q : SlZ} {x x' y y' : D} (h : x = x') (h' : y = y') : copyD q S x y K = copyD q S x' y' K := by rw [h, h']
theorem cg_srcD {s : Nat} {x x' : D} {K : List (List D) → Prop} (h : x = x') : srcD S s x K = srcD S s x' K := by rw [h]
theorem cg_cellsD {u : TypeId} {l l' : List D} (h : l = l') : cellsD P u l Q = cellsD P u l' Q := by rw [h]
theorem cg_stCells {u : TypeId} {o : Nat} {x x' : D} {l l' : List D} {K : List D → Prop} (h : x = x') (h' : l = l') : stCells P u o x l K = stCells P u o x' l' K := by rw [h, h']
theorem cg_optB {x x' : Option Blk} {K : Blk → Prop} (h : x = x') : optB x K = optB x' K := by rw [h]
theorem cg_optL {x x' : Option (List D)} {K : List D → Prop} (h : x = x') : optL x K = optL x' K := by rw [h]
theorem cg_optD {x x' : Option D} (h : x = x') : optD x Q = optD x' Q := by rw [h]
theorem cg_optG {x x' : Option (List G)} {K : List G → Prop} (h : x = x') : optG x K = optG x' K := by rw [h]
theorem cg_optA {α : Type} {x x' : Option α} {K : α → Prop} (h : x = x') : optA x K = optA x' K := by rw [h]
theorem cg_optLL {x x' : Option (List (List G))} {K : List (List G) → Prop} (h : x = x') : optLL x K = optLL x' K := by rw [h]
theorem cg_pbin {op : BinOp} {u : TypeId} {x x' y y' : Value} {K : Value → Prop} (h : x = x') (h' : y = y') : pbin P op u x y K = pbin P op u x' y' K := by rw [h, h']
theorem cg_intV {op : BinOp} {k k' : IntKind} {a a' b b' : Int} {K : Value → Prop} (h : a = a') (h' : b = b') : intV op k a k' b K = intV op k a' k' b' K := by rw [h, h']
theorem cg_arith {k : IntKind} {a a' : Int} {K : Value → Prop} (h : a = a') : arith k a K = arith k a' K := by rw [h]
theorem cg_unV {op : UnOp} {x x' : Value} {K : Value → Prop} (h : x = x') : unV op x K = unV op x' K := by rw [h]
theorem cg_pconv {s u : TypeId} {x x' : Value} {K : Value → Prop} (h : x = x') : pconv P s u x K = pconv P s u x' K := by rw [h]
theorem cg_minD {x x' y y' : Value} {K : Value → Prop} (h : x = x') (h' : y = y') : minD x y K = minD x' y' K := by rw [h, h']
theorem cg_maxD {x x' y y' : Value} {K : Value → Prop} (h : x = x') (h' : y = y') : maxD x y K = maxD x' y' K := by rw [h, h']
theorem cg_PFC {f : FuncId} {ars as' : List D} (h : ars = as') : PFC P f ars S K = PFC P f as' S K := by rw [h]
theorem cg_PC {f : FuncId} {ars as' : List D} (h : ars = as') : PC P f ars Q = PC P f as' Q := by rw [h]
theorem cg_PYC {l : Nat} {ars as' : List D} (h : ars = as') : PYC P l ars S K = PYC P l as' S K := by rw [h]
theorem cg_ExtC {f : FuncId} {ars as' : List D} (h : ars = as') : ExtC P f ars S K = ExtC P f as' S K := by rw [h]
theorem cg_coeDs {ars as' : List D} {K : List D → Store → Prop} (h : ars = as') : coeDs ars S K = coeDs as' S K := by rw [h]
theorem cg_coeD {x x' : D} (h : x = x') : coeD x S K = coeD x' S K := by rw [h]
theorem cg_coeC {x x' : D} (h : x = x') : coeC x S K = coeC x' S K := by rw [h]
theorem cg_coeCs {x x' : List D} {K : List D → Store → Prop} (h : x = x') : coeCs x S K = coeCs x' S K := by rw [h]
theorem cg_lookV {P : Program} {t : TypeId} {S : Store} {x x' y y' : D} {K : D → Store → Prop} (h : x = x') (h2 : y = y') : lookV P t S x y K = lookV P t S x' y' K := by rw [h, h2]
theorem cg_mapV {P : Program} {t : TypeId} {S : Store} {x x' y y' z z' : D} {K : D → Store → Prop} (h : x = x') (h2 : y = y') (h3 : z = z') : mapV P t S x y z K = mapV P t S x' y' z' K := by rw [h, h2, h3]
theorem cg_newMapV {S : Store} {K : D → Store → Prop} : newMapV S K = newMapV S K := rfl
theorem cg_arrD {n : Nat} {x x' : D} {K : D → Prop} (h : x = x') : arrD n x K = arrD n x' K := by rw [h]
attribute [congr] cg_lookV cg_mapV cg_newMapV cg_arrD
attribute [congr] cg_PYC cg_runV cg_runD cg_pgv cg_loadD cg_storeD cg_litD cg_lit2 cg_idxD cg_ixD cg_lenD cg_slD cg_bndD cg_tupD cg_fieldD cg_faddrD cg_nilChD cg_boolD cg_buildD cg_callD cg_boxD cg_litsD cg_makeD cg_appD cg_copyD cg_srcD cg_cellsD cg_stCells cg_optB cg_optL cg_optD cg_optG cg_optA cg_optLL cg_pbin cg_intV cg_arith cg_unV cg_pconv cg_minD cg_maxD cg_PFC cg_PC cg_ExtC cg_coeDs cg_coeD cg_coeC cg_coeCs
end

/-! ### Integers of 64 and fewer bits, operation by operation -/
section
variable {k : IntKind} {a b : Int} {K : Value → Prop}
theorem iv_add64 : intV .add .i64 a .i64 b K = (R64 (a + b) ∧ K (.int .i64 (a + b))) := by simp [intV, arith]
theorem iv_sub64 : intV .sub .i64 a .i64 b K = (R64 (a - b) ∧ K (.int .i64 (a - b))) := by simp [intV, arith]
theorem iv_mul64 : intV .mul .i64 a .i64 b K = (R64 (a * b) ∧ K (.int .i64 (a * b))) := by simp [intV, arith]
theorem iv_quo64 : intV .quo .i64 a .i64 b K = (b ≠ 0 ∧ R64 (a.tdiv b) ∧ K (.int .i64 (a.tdiv b))) := by simp [intV, arith]
theorem iv_rem : intV .rem k a k b K = (b ≠ 0 ∧ K (.int k (a.tmod b))) := by simp [intV]
theorem iv_eql : intV .eql k a k b K = K (.bool (decide (a = b))) := by simp [intV]
theorem iv_neq : intV .neq k a k b K = K (.bool (decide (a ≠ b))) := by simp [intV]
theorem iv_lss : intV .lss k a k b K = K (.bool (decide (a < b))) := by simp [intV]
theorem iv_leq : intV .leq k a k b K = K (.bool (decide (a ≤ b))) := by simp [intV]
theorem iv_gtr : intV .gtr k a k b K = K (.bool (decide (b < a))) := by simp [intV]
theorem iv_geq : intV .geq k a k b K = K (.bool (decide (b ≤ a))) := by simp [intV]
theorem iv_and : intV .and k a k b K = K (.int k (bitsV .and k a b)) := by simp [intV]
theorem iv_or : intV .or k a k b K = K (.int k (bitsV .or k a b)) := by simp [intV]
theorem iv_xor : intV .xor k a k b K = K (.int k (bitsV .xor k a b)) := by simp [intV]
theorem iv_shl {k' : IntKind} : intV .shl k a k' b K = (0 ≤ b ∧ K (.int k (k.wrap (a * 2 ^ (min b.toNat k.bits))))) := rfl
theorem iv_shr {k' : IntKind} : intV .shr k a k' b K = (0 ≤ b ∧ K (.int k (a.fdiv (2 ^ (min b.toNat k.bits))))) := rfl
theorem iv_addu (hk : k ≠ .i64) : intV .add k a k b K = K (.int k (k.wrap (a + b))) := by cases k <;> simp [intV, arith] at hk ⊢
theorem iv_subu (hk : k ≠ .i64) : intV .sub k a k b K = K (.int k (k.wrap (a - b))) := by cases k <;> simp [intV, arith] at hk ⊢
theorem iv_mulu (hk : k ≠ .i64) : intV .mul k a k b K = K (.int k (k.wrap (a * b))) := by cases k <;> simp [intV, arith] at hk ⊢
theorem iv_quou (hk : k ≠ .i64) : intV .quo k a k b K = (b ≠ 0 ∧ K (.int k (k.wrap (a.tdiv b)))) := by cases k <;> simp [intV, arith] at hk ⊢
end

end Go.V
namespace Go.V
open Go Go.RowKit

section
variable {P : Program} {N : DEnv → Store → Prop} {e : DEnv} {S : Store} {d : Option Nat} {t : TypeId} {r : List Ci} {r' : List (Option Ci × Nat)}

def Kr (P : Program) (N : DEnv → Store → Prop) (r : List Ci) (e : DEnv) (d : Option Nat) (x : D) (S : Store) : Prop := runV P N r (putD e d x) S
theorem Kr_eq {x : D} : Kr P N r e d x S = runV P N r (putD e d x) S := rfl
def Kd (P : Program) (N : DEnv → Store → Prop) (r : List (Option Ci × Nat)) (e : DEnv) (d : Option Nat) (x : D) (S : Store) : Prop := runD P N r (putD e d x) S
theorem Kd_eq {x : D} : Kd P N r' e d x S = runD P N r' (putD e d x) S := rfl
def Kq (K : D → Store → Prop) (S : Store) (x : D) : Prop := K x S
theorem Kq_eq {K : D → Store → Prop} {x : D} : Kq K S x = K x S := rfl
def Kl (Q : D → Prop) (v : Value) : Prop := Q (.g (.lit v))
theorem Kl_eq {Q : D → Prop} {v : Value} : Kl Q v = Q (.g (.lit v)) := rfl
def Kb (P : Program) (op : BinOp) (u : TypeId) (Q : D → Prop) (a b : Value) : Prop := pbin P op u a b (Kl Q)
theorem Kb_eq {op : BinOp} {u : TypeId} {Q : D → Prop} {a b : Value} : Kb P op u Q a b = pbin P op u a b (Kl Q) := rfl
def Ku (op : UnOp) (Q : D → Prop) (a : Value) : Prop := unV op a (Kl Q)
theorem Ku_eq {op : UnOp} {Q : D → Prop} {a : Value} : Ku op Q a = unV op a (Kl Q) := rfl
def Kc (P : Program) (s u : TypeId) (Q : D → Prop) (a : Value) : Prop := pconv P s u a (Kl Q)
theorem Kc_eq {s u : TypeId} {Q : D → Prop} {a : Value} : Kc P s u Q a = pconv P s u a (Kl Q) := rfl
def Kp (e : DEnv) (a b : Operand) (Q : D → Prop) (t : Bool) : Prop := Q (if t then pev e a else pev e b)
theorem Kp_t {a b : Operand} {Q : D → Prop} : Kp e a b Q true = Q (pev e a) := rfl
theorem Kp_f {a b : Operand} {Q : D → Prop} : Kp e a b Q false = Q (pev e b) := rfl
theorem Kp_eq {a b : Operand} {Q : D → Prop} {t : Bool} : Kp e a b Q t = Q (if t then pev e a else pev e b) := rfl
def Ki (s : Nat) (x : D) (Q : D → Prop) (n : Int) : Prop := ixD s x n Q
theorem Ki_eq {s : Nat} {x : D} {Q : D → Prop} {n : Int} : Ki s x Q n = ixD s x n Q := rfl
def Kf (P : Program) (S : Store) (K : D → Store → Prop) (c : Cal) (args : List D) : Prop := CalC P c args S K
theorem Kf_eq {K : D → Store → Prop} {f : FuncId} {args : List D} : Kf P S K (.f f) args = PFC P f args S K := rfl
theorem Kf_y {K : D → Store → Prop} {l : Nat} {args : List D} : Kf P S K (.y l) args = PYC P l args S K := rfl
def Ke (P : Program) (S : Store) (K : D → Store → Prop) (c : Cal) (args : List D) : Prop := CalE P c args S K
theorem Ke_eq {K : D → Store → Prop} {f : FuncId} {args : List D} : Ke P S K (.f f) args = ExtC P f args S K := rfl
def Kt (K : D → Store → Prop) (S : Store) : Prop := K (.tup []) S
theorem Kt_eq {K : D → Store → Prop} : Kt K S = K (.tup []) S := rfl
def Kmin (Q : D → Prop) (a b : Value) : Prop := minD a b (Kl Q)
theorem Kmin_eq {Q : D → Prop} {a b : Value} : Kmin Q a b = minD a b (Kl Q) := rfl
def Kmax (Q : D → Prop) (a b : Value) : Prop := maxD a b (Kl Q)
theorem Kmax_eq {Q : D → Prop} {a b : Value} : Kmax Q a b = maxD a b (Kl Q) := rfl
def Kx (e : DEnv) (p : Nat × Operand) : Nat × D := (p.1, pev e p.2)
theorem Kx_eq {i : Nat} {x : Operand} : Kx e (i, x) = (i, pev e x) := rfl
def Ky (e : DEnv) (p : Nat × Operand) : D := pev e p.2
theorem Ky_eq {i : Nat} {x : Operand} : Ky e (i, x) = pev e x := rfl

theorem rv_guard {j : Nat} {w : Bool} {op : Op} : runV P N (⟨d, some (some j, w), op, t⟩ :: r) e S = pgv (e j) w (runV P N (⟨d, none, op, t⟩ :: r) e S) (runV P N r (putD e d (.tup [])) S) := rfl
theorem rd_guard {j m : Nat} {w : Bool} {op : Op} : runD P N ((some ⟨d, some (some j, w), op, t⟩, m) :: r') e S = pgv (e j) w (runD P N ((some ⟨d, none, op, t⟩, m) :: r') e S) (runD P N r' (putD e d (.tup [])) S) := rfl

theorem rv_move {x : Operand} : runV P N (⟨d, none, .move x, t⟩ :: r) e S = runV P N r (putD e d (pev e x)) S := by
  rw [runV_cons, cguard_none, po_move]
  try rfl
theorem rv_assign {x : Operand} : runV P N (⟨d, none, .assign x, t⟩ :: r) e S = runV P N r (putD e d (pev e x)) S := by
  rw [runV_cons, cguard_none, po_assign]
  try rfl
theorem rv_pick {c a b : Operand} : runV P N (⟨d, none, .pick c a b, t⟩ :: r) e S = boolD (pev e c) (Kp e a b (Kq (Kr P N r e d) S)) := by
  rw [runV_cons, cguard_none, po_pick]
  try rfl
theorem rv_build {u : TypeId} {ps : List (Nat × Operand)} : runV P N (⟨d, none, .build u ps.toArray, t⟩ :: r) e S = buildD P u (ps.map (Kx e)) (Kq (Kr P N r e d) S) := by
  rw [runV_cons, cguard_none, po_build]
  try rfl
theorem rv_nilCheck {x : Operand} : runV P N (⟨d, none, .nilCheck x, t⟩ :: r) e S = nilChD (pev e x) (Kq (Kr P N r e d) S) := by
  rw [runV_cons, cguard_none, po_nilCheck]
  try rfl
theorem rv_bin {op : BinOp} {u u' : TypeId} {x y : Operand} : runV P N (⟨d, none, .binOp op u x y u', t⟩ :: r) e S = lit2 (pev e x) (pev e y) (Kb P op u (Kq (Kr P N r e d) S)) := by
  rw [runV_cons, cguard_none, po_bin]
  try rfl
theorem rv_un {op : UnOp} {u : TypeId} {x : Operand} : runV P N (⟨d, none, .unOp op u x, t⟩ :: r) e S = litD (pev e x) (Ku op (Kq (Kr P N r e d) S)) := by
  rw [runV_cons, cguard_none, po_un]
  try rfl
theorem rv_conv {s u : TypeId} {x : Operand} : runV P N (⟨d, none, .convert s u x, t⟩ :: r) e S = litD (pev e x) (Kc P s u (Kq (Kr P N r e d) S)) := by
  rw [runV_cons, cguard_none, po_conv]
  try rfl
theorem rv_func {f : FuncId} {a c : List Operand} : runV P N (⟨d, none, .makeFunc (.func f) a.toArray c.toArray, t⟩ :: r) e S = runV P N r (putD e d (.fn f (a.map (pev e)) (c.map (pev e)))) S := by
  rw [runV_cons, cguard_none, po_func]
  try rfl
theorem rv_slice {u s : TypeId} {x : Operand} {lo hi mx : Option Operand} (h : slS P u = some s) : runV P N (⟨d, none, .slice u x lo hi mx, t⟩ :: r) e S = slD s (pev e x) (lo.map (pev e)) (hi.map (pev e)) (mx.map (pev e)) (Kq (Kr P N r e d) S) := by
  rw [runV_cons, cguard_none, po_slice h]
  try rfl
theorem rv_faddr {u : TypeId} {x : Operand} {f : Nat} : runV P N (⟨d, none, .fieldAddr u x f, t⟩ :: r) e S = faddrD P u f (pev e x) (Kq (Kr P N r e d) S) := by
  rw [runV_cons, cguard_none, po_faddr]
  try rfl
theorem rv_field {u : TypeId} {x : Operand} {f : Nat} : runV P N (⟨d, none, .field u x f, t⟩ :: r) e S = fieldD P u f (pev e x) (Kq (Kr P N r e d) S) := by
  rw [runV_cons, cguard_none, po_field]
  try rfl
theorem rv_ixaddr {u s : TypeId} {x i : Operand} (h : slS P u = some s) : runV P N (⟨d, none, .indexAddr u x i, t⟩ :: r) e S = idxD (pev e i) (Ki s (pev e x) (Kq (Kr P N r e d) S)) := by
  rw [runV_cons, cguard_none, po_ixaddr h]
  try rfl
theorem rv_extract {x : Operand} {i : Nat} : runV P N (⟨d, none, .extract x i, t⟩ :: r) e S = tupD (pev e x) i (Kq (Kr P N r e d) S) := by
  rw [runV_cons, cguard_none, po_extract]
  try rfl
theorem rv_len {x : Operand} {u s : TypeId} (h : slS P u = some s) : runV P N (⟨d, none, .call { callee := .builtin .len, args := #[x], argTypes := #[u] }, t⟩ :: r) e S = lenD (pev e x) (Kq (Kr P N r e d) S) := by
  rw [runV_cons, cguard_none, po_len h]
  try rfl
theorem rv_min {x y : Operand} {ats : Array TypeId} : runV P N (⟨d, none, .call { callee := .builtin .min, args := #[x, y], argTypes := ats }, t⟩ :: r) e S = lit2 (pev e x) (pev e y) (Kmin (Kq (Kr P N r e d) S)) := by
  rw [runV_cons, cguard_none, po_min]
  try rfl
theorem rv_max {x y : Operand} {ats : Array TypeId} : runV P N (⟨d, none, .call { callee := .builtin .max, args := #[x, y], argTypes := ats }, t⟩ :: r) e S = lit2 (pev e x) (pev e y) (Kmax (Kq (Kr P N r e d) S)) := by
  rw [runV_cons, cguard_none, po_max]
  try rfl
theorem rv_sliceA {u : TypeId} {n : Nat} {x : Operand} (h : slS P u = none ∧ arrN P u = some n) : runV P N (⟨d, none, .slice u x none none none, t⟩ :: r) e S = arrD n (pev e x) (Kq (Kr P N r e d) S) := by
  rw [runV_cons, cguard_none, po_sliceA h]
  try rfl
theorem rv_newMap {u : TypeId} : runV P N (⟨d, none, .makeMap u none, t⟩ :: r) e S = newMapV S (Kr P N r e d) := by
  rw [runV_cons, cguard_none, po_newMap]
  try rfl
theorem rv_look {u : TypeId} {x ix : Operand} : runV P N (⟨d, none, .lookup u x ix true, t⟩ :: r) e S = lookV P u S (pev e x) (pev e ix) (Kr P N r e d) := by
  rw [runV_cons, cguard_none, po_look]
  try rfl
theorem rv_map {u : TypeId} {m k x : Operand} : runV P N (⟨d, none, .mapUpdate u m k x, t⟩ :: r) e S = mapV P u S (pev e m) (pev e k) (pev e x) (Kr P N r e d) := by
  rw [runV_cons, cguard_none, po_map]
  try rfl
theorem rv_load {u : TypeId} {a : Operand} : runV P N (⟨d, none, .load u a, t⟩ :: r) e S = loadD P S u (pev e a) (Kq (Kr P N r e d) S) := by
  rw [runV_cons, cguard_none, po_load]
  try rfl
theorem rv_alloc {u : TypeId} {z : List D} (h : zeroD P u = some z) : runV P N (⟨d, none, .alloc u, t⟩ :: r) e S = ∀ b, runV P N r (putD e d (.ptr (.l (d.getD 0)) b 0 0 z.length)) (updS S (.l (d.getD 0)) (some ⟨b, z.length, 0, [z]⟩)) := by
  rw [runV_cons, cguard_none, po_alloc h]
  try rfl
theorem rv_box {u : TypeId} {x : Operand} : runV P N (⟨d, none, .box u x, t⟩ :: r) e S = boxD (.l (d.getD 0)) S (pev e x) (Kr P N r e d) := by
  rw [runV_cons, cguard_none, po_box]
  try rfl
theorem rv_lit {u : TypeId} {n : Nat} {ps : List (Nat × Operand)} {q : SlZ} (h : slZ P u = some q) : runV P N (⟨d, none, .buildSlice u n ps.toArray, t⟩ :: r) e S = litsD q (.l (d.getD 0)) S n (ps.map (·.1)) (ps.map (Ky e)) (Kr P N r e d) := by
  rw [runV_cons, cguard_none, po_lit h]
  try rfl
theorem rv_make {u : TypeId} {l c : Operand} {q : SlZ} (h : slZ P u = some q) : runV P N (⟨d, none, .makeSlice u l c, t⟩ :: r) e S = makeD q (.l (d.getD 0)) S (pev e l) (pev e c) (Kr P N r e d) := by
  rw [runV_cons, cguard_none, po_make h]
  try rfl
theorem rv_call {x : Operand} {ars : List Operand} {ats : Array TypeId} : runV P N (⟨d, none, .call { callee := .value x, args := ars.toArray, argTypes := ats }, t⟩ :: r) e S = callD P (pev e x) (ars.map (pev e)) (Kf P S (Kr P N r e d)) := by
  rw [runV_cons, cguard_none, po_call]
  try rfl
theorem rv_store {u : TypeId} {a x : Operand} : runV P N (⟨d, none, .store u a x, t⟩ :: r) e S = storeD P S u (pev e a) (pev e x) (Kt (Kr P N r e d)) := by
  rw [runV_cons, cguard_none, po_store]
  try rfl
theorem rv_copy {x y : Operand} {u : TypeId} {q : SlZ} (h : slZ P u = some q) : runV P N (⟨d, none, .call { callee := .builtin .copy, args := #[x, y], argTypes := #[u, u] }, t⟩ :: r) e S = copyD q S (pev e x) (pev e y) (Kr P N r e d) := by
  rw [runV_cons, cguard_none, po_copy h]
  try rfl
theorem rv_app {x y : Operand} {u : TypeId} {q : SlZ} (h : slZ P u = some q) : runV P N (⟨d, none, .call { callee := .builtin .append, args := #[x, y], argTypes := #[u, u] }, t⟩ :: r) e S = appD q S (.l (d.getD 0)) (pev e x) (pev e y) (Kr P N r e d) := by
  rw [runV_cons, cguard_none, po_app h]
  try rfl
theorem rd0_move {x : Operand} : runD P N ((some ⟨d, none, .move x, t⟩, 0) :: r') e S = runD P N r' (putD e d (pev e x)) S := by
  rw [runD_cons, cguard_none, pm_0, pp_move]
  try rfl
theorem rd0_assign {x : Operand} : runD P N ((some ⟨d, none, .assign x, t⟩, 0) :: r') e S = runD P N r' (putD e d (pev e x)) S := by
  rw [runD_cons, cguard_none, pm_0, pp_assign]
  try rfl
theorem rd0_pick {c a b : Operand} : runD P N ((some ⟨d, none, .pick c a b, t⟩, 0) :: r') e S = boolD (pev e c) (Kp e a b (Kq (Kd P N r' e d) S)) := by
  rw [runD_cons, cguard_none, pm_0, pp_pick]
  try rfl
theorem rd0_build {u : TypeId} {ps : List (Nat × Operand)} : runD P N ((some ⟨d, none, .build u ps.toArray, t⟩, 0) :: r') e S = buildD P u (ps.map (Kx e)) (Kq (Kd P N r' e d) S) := by
  rw [runD_cons, cguard_none, pm_0, pp_build]
  try rfl
theorem rd0_nilCheck {x : Operand} : runD P N ((some ⟨d, none, .nilCheck x, t⟩, 0) :: r') e S = nilChD (pev e x) (Kq (Kd P N r' e d) S) := by
  rw [runD_cons, cguard_none, pm_0, pp_nilCheck]
  try rfl
theorem rd0_bin {op : BinOp} {u u' : TypeId} {x y : Operand} : runD P N ((some ⟨d, none, .binOp op u x y u', t⟩, 0) :: r') e S = lit2 (pev e x) (pev e y) (Kb P op u (Kq (Kd P N r' e d) S)) := by
  rw [runD_cons, cguard_none, pm_0, pp_bin]
  try rfl
theorem rd0_un {op : UnOp} {u : TypeId} {x : Operand} : runD P N ((some ⟨d, none, .unOp op u x, t⟩, 0) :: r') e S = litD (pev e x) (Ku op (Kq (Kd P N r' e d) S)) := by
  rw [runD_cons, cguard_none, pm_0, pp_un]
  try rfl
theorem rd0_conv {s u : TypeId} {x : Operand} : runD P N ((some ⟨d, none, .convert s u x, t⟩, 0) :: r') e S = litD (pev e x) (Kc P s u (Kq (Kd P N r' e d) S)) := by
  rw [runD_cons, cguard_none, pm_0, pp_conv]
  try rfl
theorem rd0_func {f : FuncId} {a c : List Operand} : runD P N ((some ⟨d, none, .makeFunc (.func f) a.toArray c.toArray, t⟩, 0) :: r') e S = runD P N r' (putD e d (.fn f (a.map (pev e)) (c.map (pev e)))) S := by
  rw [runD_cons, cguard_none, pm_0, pp_func]
  try rfl
theorem rd0_slice {u s : TypeId} {x : Operand} {lo hi mx : Option Operand} (h : slS P u = some s) : runD P N ((some ⟨d, none, .slice u x lo hi mx, t⟩, 0) :: r') e S = slD s (pev e x) (lo.map (pev e)) (hi.map (pev e)) (mx.map (pev e)) (Kq (Kd P N r' e d) S) := by
  rw [runD_cons, cguard_none, pm_0, pp_slice h]
  try rfl
theorem rd0_faddr {u : TypeId} {x : Operand} {f : Nat} : runD P N ((some ⟨d, none, .fieldAddr u x f, t⟩, 0) :: r') e S = faddrD P u f (pev e x) (Kq (Kd P N r' e d) S) := by
  rw [runD_cons, cguard_none, pm_0, pp_faddr]
  try rfl
theorem rd0_field {u : TypeId} {x : Operand} {f : Nat} : runD P N ((some ⟨d, none, .field u x f, t⟩, 0) :: r') e S = fieldD P u f (pev e x) (Kq (Kd P N r' e d) S) := by
  rw [runD_cons, cguard_none, pm_0, pp_field]
  try rfl
theorem rd0_ixaddr {u s : TypeId} {x i : Operand} (h : slS P u = some s) : runD P N ((some ⟨d, none, .indexAddr u x i, t⟩, 0) :: r') e S = idxD (pev e i) (Ki s (pev e x) (Kq (Kd P N r' e d) S)) := by
  rw [runD_cons, cguard_none, pm_0, pp_ixaddr h]
  try rfl
theorem rd0_extract {x : Operand} {i : Nat} : runD P N ((some ⟨d, none, .extract x i, t⟩, 0) :: r') e S = tupD (pev e x) i (Kq (Kd P N r' e d) S) := by
  rw [runD_cons, cguard_none, pm_0, pp_extract]
  try rfl
theorem rd0_len {x : Operand} {u s : TypeId} (h : slS P u = some s) : runD P N ((some ⟨d, none, .call { callee := .builtin .len, args := #[x], argTypes := #[u] }, t⟩, 0) :: r') e S = lenD (pev e x) (Kq (Kd P N r' e d) S) := by
  rw [runD_cons, cguard_none, pm_0, pp_len h]
  try rfl
theorem rd0_min {x y : Operand} {ats : Array TypeId} : runD P N ((some ⟨d, none, .call { callee := .builtin .min, args := #[x, y], argTypes := ats }, t⟩, 0) :: r') e S = lit2 (pev e x) (pev e y) (Kmin (Kq (Kd P N r' e d) S)) := by
  rw [runD_cons, cguard_none, pm_0, pp_min]
  try rfl
theorem rd0_max {x y : Operand} {ats : Array TypeId} : runD P N ((some ⟨d, none, .call { callee := .builtin .max, args := #[x, y], argTypes := ats }, t⟩, 0) :: r') e S = lit2 (pev e x) (pev e y) (Kmax (Kq (Kd P N r' e d) S)) := by
  rw [runD_cons, cguard_none, pm_0, pp_max]
  try rfl
theorem rd1_load {u : TypeId} {a : Operand} : runD P N ((some ⟨d, none, .load u a, t⟩, 1) :: r') e S = loadD P S u (pev e a) (Kq (Kd P N r' e d) S) := by
  rw [runD_cons, cguard_none, pm_1]
  try rfl
theorem rd2_load {u : TypeId} {a : Operand} : runD P N ((some ⟨d, none, .load u a, t⟩, 2) :: r') e S = loadD P S u (pev e a) (Kq (Kd P N r' e d) S) := by
  rw [runD_cons, cguard_none, pm_2]
  try rfl
theorem rd3_alloc {u : TypeId} {z : List D} (h : zeroD P u = some z) : runD P N ((some ⟨d, none, .alloc u, t⟩, 3) :: r') e S = ∀ b, runD P N r' (putD e d (.ptr (.l (d.getD 0)) b 0 0 z.length)) (updS S (.l (d.getD 0)) (some ⟨b, z.length, 0, [z]⟩)) := by
  rw [runD_cons, cguard_none, pm_3, po_alloc h]
  try rfl
theorem rd3_box {u : TypeId} {x : Operand} : runD P N ((some ⟨d, none, .box u x, t⟩, 3) :: r') e S = boxD (.l (d.getD 0)) S (pev e x) (Kd P N r' e d) := by
  rw [runD_cons, cguard_none, pm_3, po_box]
  try rfl
theorem rd3_lit {u : TypeId} {n : Nat} {ps : List (Nat × Operand)} {q : SlZ} (h : slZ P u = some q) : runD P N ((some ⟨d, none, .buildSlice u n ps.toArray, t⟩, 3) :: r') e S = litsD q (.l (d.getD 0)) S n (ps.map (·.1)) (ps.map (Ky e)) (Kd P N r' e d) := by
  rw [runD_cons, cguard_none, pm_3, po_lit h]
  try rfl
theorem rd3_make {u : TypeId} {l c : Operand} {q : SlZ} (h : slZ P u = some q) : runD P N ((some ⟨d, none, .makeSlice u l c, t⟩, 3) :: r') e S = makeD q (.l (d.getD 0)) S (pev e l) (pev e c) (Kd P N r' e d) := by
  rw [runD_cons, cguard_none, pm_3, po_make h]
  try rfl
theorem rd3_call {x : Operand} {ars : List Operand} {ats : Array TypeId} : runD P N ((some ⟨d, none, .call { callee := .value x, args := ars.toArray, argTypes := ats }, t⟩, 3) :: r') e S = callD P (pev e x) (ars.map (pev e)) (Kf P S (Kd P N r' e d)) := by
  rw [runD_cons, cguard_none, pm_3, po_call]
  try rfl
theorem rd3_store {u : TypeId} {a x : Operand} : runD P N ((some ⟨d, none, .store u a x, t⟩, 3) :: r') e S = storeD P S u (pev e a) (pev e x) (Kt (Kd P N r' e d)) := by
  rw [runD_cons, cguard_none, pm_3, po_store]
  try rfl
theorem rd3_copy {x y : Operand} {u : TypeId} {q : SlZ} (h : slZ P u = some q) : runD P N ((some ⟨d, none, .call { callee := .builtin .copy, args := #[x, y], argTypes := #[u, u] }, t⟩, 3) :: r') e S = copyD q S (pev e x) (pev e y) (Kd P N r' e d) := by
  rw [runD_cons, cguard_none, pm_3, po_copy h]
  try rfl
theorem rd3_app {x y : Operand} {u : TypeId} {q : SlZ} (h : slZ P u = some q) : runD P N ((some ⟨d, none, .call { callee := .builtin .append, args := #[x, y], argTypes := #[u, u] }, t⟩, 3) :: r') e S = appD q S (.l (d.getD 0)) (pev e x) (pev e y) (Kd P N r' e d) := by
  rw [runD_cons, cguard_none, pm_3, po_app h]
  try rfl
theorem rd0_sliceA {u : TypeId} {n : Nat} {x : Operand} (h : slS P u = none ∧ arrN P u = some n) : runD P N ((some ⟨d, none, .slice u x none none none, t⟩, 0) :: r') e S = arrD n (pev e x) (Kq (Kd P N r' e d) S) := by
  rw [runD_cons, cguard_none, pm_0, pp_sliceA h]
  try rfl
theorem rd3_newMap {u : TypeId} : runD P N ((some ⟨d, none, .makeMap u none, t⟩, 3) :: r') e S = newMapV S (Kd P N r' e d) := by
  rw [runD_cons, cguard_none, pm_3, po_newMap]
  try rfl
theorem rd3_look {u : TypeId} {x ix : Operand} : runD P N ((some ⟨d, none, .lookup u x ix true, t⟩, 3) :: r') e S = lookV P u S (pev e x) (pev e ix) (Kd P N r' e d) := by
  rw [runD_cons, cguard_none, pm_3, po_look]
  try rfl
theorem rd3_map {u : TypeId} {m k x : Operand} : runD P N ((some ⟨d, none, .mapUpdate u m k x, t⟩, 3) :: r') e S = mapV P u S (pev e m) (pev e k) (pev e x) (Kd P N r' e d) := by
  rw [runD_cons, cguard_none, pm_3, po_map]
  try rfl
theorem rd3_load {u : TypeId} {a : Operand} : runD P N ((some ⟨d, none, .load u a, t⟩, 3) :: r') e S = loadD P S u (pev e a) (Kq (Kd P N r' e d) S) := by
  rw [runD_cons, cguard_none, pm_3, po_load]
  try rfl
theorem rd4_load {u : TypeId} {a : Operand} : runD P N ((some ⟨d, none, .load u a, t⟩, 4) :: r') e S = loadD P S u (pev e a) (Kq (Kd P N r' e d) S) := by
  rw [runD_cons, cguard_none, pm_4, pe_load]
  try rfl
theorem rd4_alloc {u : TypeId} {z : List D} (h : zeroD P u = some z) : runD P N ((some ⟨d, none, .alloc u, t⟩, 4) :: r') e S = ∀ b, runD P N r' (putD e d (.ptr (.l (d.getD 0)) b 0 0 z.length)) (updS S (.l (d.getD 0)) (some ⟨b, z.length, 0, [z]⟩)) := by
  rw [runD_cons, cguard_none, pm_4, pe_alloc h]
  try rfl
theorem rd4_box {u : TypeId} {x : Operand} : runD P N ((some ⟨d, none, .box u x, t⟩, 4) :: r') e S = boxD (.l (d.getD 0)) S (pev e x) (Kd P N r' e d) := by
  rw [runD_cons, cguard_none, pm_4, pe_box]
  try rfl
theorem rd4_lit {u : TypeId} {n : Nat} {ps : List (Nat × Operand)} {q : SlZ} (h : slZ P u = some q) : runD P N ((some ⟨d, none, .buildSlice u n ps.toArray, t⟩, 4) :: r') e S = litsD q (.l (d.getD 0)) S n (ps.map (·.1)) (ps.map (Ky e)) (Kd P N r' e d) := by
  rw [runD_cons, cguard_none, pm_4, pe_lit h]
  try rfl
theorem rd4_make {u : TypeId} {l c : Operand} {q : SlZ} (h : slZ P u = some q) : runD P N ((some ⟨d, none, .makeSlice u l c, t⟩, 4) :: r') e S = makeD q (.l (d.getD 0)) S (pev e l) (pev e c) (Kd P N r' e d) := by
  rw [runD_cons, cguard_none, pm_4, pe_make h]
  try rfl
theorem rd4_call {x : Operand} {ars : List Operand} {ats : Array TypeId} : runD P N ((some ⟨d, none, .call { callee := .value x, args := ars.toArray, argTypes := ats }, t⟩, 4) :: r') e S = callD P (pev e x) (ars.map (pev e)) (Ke P S (Kd P N r' e d)) := by
  rw [runD_cons, cguard_none, pm_4, pe_call]
  try rfl

/-! ### Code in one step -/

variable {X : Nat → DEnv → Store → Prop} {R : DEnv → Store → Prop}
def Kv (P : Program) (c : Code) (N : DEnv → Store → Prop) (X : Nat → DEnv → Store → Prop) (R : DEnv → Store → Prop) (e : DEnv) (S : Store) : Prop := pvc P c N X R e S
theorem Kv_eq {c : Code} : Kv P c N X R e S = pvc P c N X R e S := rfl
theorem pvs_skip : pvc P .skip N X R e S = N e S := rfl
theorem pvs_ret : pvc P .ret N X R e S = R e S := rfl
theorem pvs_exit {id : Nat} : pvc P (.exit id) N X R e S = X id e S := rfl
theorem pvs_label {l : Nat} : pvc P (.label l) N X R e S = N e S := rfl
theorem pvs_scope {c : Code} : pvc P (.scope c) N X R e S = pvc P c N X R e S := rfl
theorem pvs_block {id : Nat} {c : Code} : pvc P (.block id c) N X R e S = pvc P c N (fun j e S => if j = id then N e S else X j e S) R e S := rfl
theorem pvs_cond {c : Operand} {a b : Code} : pvc P (.cond c a b) N X R e S = condD (pev e c) (Kv P a N X R e S) (Kv P b N X R e S) := rfl
theorem condD_t {a b : Prop} : condD (.g (.lit (.bool true))) a b = a := by simp [condD]
theorem condD_f {a b : Prop} : condD (.g (.lit (.bool false))) a b = b := by simp [condD]
theorem pv_cdD {a b p : Prop} {inst : Decidable p} (hT : p → a) (hF : ¬ p → b) : condD (.g (.lit (.bool (@decide p inst)))) a b := by
  by_cases hp : p
  · simpa [condD, hp] using hT hp
  · simpa [condD, hp] using hF hp
theorem cg_condD {x x' : D} {a b : Prop} (h : x = x') : condD x a b = condD x' a b := by rw [h]
theorem cg_pvc {c : Code} : pvc P c N X R e S = pvc P c N X R e S := rfl
set_option linter.defProp false in
/-- A region, shortly. -/
def cmpB := And.intro @comp_nil <| And.intro @comp_cons <| And.intro @compD_nil <| And.intro @compD_cons <| And.intro @gsl_none <| And.intro @gsl_some <| And.intro @List.getElem?_cons_zero.{0} <| And.intro @List.getElem?_cons_succ.{0} <| And.intro @Option.map_some.{0, 0} <| And.intro @Option.bind_some.{0, 0} <| And.intro @lapp_cons @lapp_nil

theorem ExtC_is {f : FuncId} {args : List D} {K : D → Store → Prop} (h : coeDs args S fun args' S' => PC P f args' (Kq K S')) : ExtC P f args S K := h
end
attribute [congr] cg_condD cg_pvc
attribute [go_sem ↓] pdT_nil pdT_lin pdT_fork pdT_fork3 pdT_fork4 pdT_mix Kv_eq pvs_skip pvs_ret pvs_exit pvs_label pvs_scope pvs_block pvs_cond condD_t condD_f
attribute [go_sem] condD_t condD_f retC retS retR resD oneD coeDs_nil coeDs_cons coeD_agg coeD_g coeD_nil coeD_own coeCs_nil coeCs_cons coeC_g coeC_nil coeC_own
attribute [go_sem ↓] arrD_arr rv_newMap rv_look rv_map rd3_newMap rd3_look rd3_map
attribute [go_sem ↓] rv_guard rd_guard rv_move rv_assign rv_pick rv_build rv_nilCheck rv_bin rv_un rv_conv rv_func rv_faddr rv_field rv_extract rv_min rv_max rv_load rv_box rv_call rv_store rd0_move rd0_assign rd0_pick rd0_build
attribute [go_sem ↓] rd0_nilCheck rd0_bin rd0_un rd0_conv rd0_func rd0_faddr rd0_field rd0_extract rd0_min rd0_max rd1_load rd2_load rd3_box rd3_call rd3_store rd3_load rd4_load rd4_box rd4_call Kr_eq Kd_eq Kq_eq Kl_eq Kb_eq Ku_eq
attribute [go_sem ↓] Kc_eq Kp_t Kp_f Ki_eq Kf_eq Kf_y Ke_eq Kt_eq Kmin_eq Kmax_eq runV_nil runD_nil pgv_tt pgv_tf pgv_ft pgv_ff pgv_tup lit2_g litD_g boolD_lit idxD_lit pbin_int pbin_eqB pbin_neB unV_not
attribute [go_sem ↓] unV_neg loadD_ptr loadD_ip optB_some optL_some optD_some optG_some optA_some optLL_some storeD_ptr lenD_own lenD_sl lenD_nil lenD_eS ixD_own ixD_sl ixD_eS srcD_own srcD_nil bndD_some bndD_none nilChD_ptr nilChD_ip tupD_tup
attribute [go_sem ↓] callD_yl callD_fn copyD_own appD_own appD_nil litsD_1 litsD_2 litsD_3 litsD_4 minD_i maxD_i makeD_i iv_add64 iv_sub64 iv_mul64 iv_quo64 iv_rem iv_eql iv_neq iv_lss iv_leq iv_gtr iv_geq iv_and iv_or iv_xor
attribute [go_sem ↓] iv_shl iv_shr iv_addu iv_subu iv_mulu iv_quou
attribute [go_sem] comp_nil comp_cons gsl_none gsl_some compD_nil compD_cons Kp_eq Kx_eq Ky_eq pgv_tt pgv_tf pgv_ft pgv_ff pgv_tup lit2_g litD_g boolD_lit idxD_lit pbin_int pbin_eqB pbin_neB unV_not unV_neg loadD_ptr
attribute [go_sem] loadD_ip optB_some optL_some optD_some optG_some optA_some optLL_some storeD_ptr lenD_own lenD_sl lenD_nil lenD_eS ixD_own ixD_sl ixD_eS srcD_own srcD_nil bndD_some bndD_none nilChD_ptr nilChD_ip tupD_tup callD_yl callD_fn copyD_own appD_own
attribute [go_sem] appD_nil litsD_1 litsD_2 litsD_3 litsD_4 minD_i maxD_i makeD_i iv_add64 iv_sub64 iv_mul64 iv_quo64 iv_rem iv_eql iv_neq iv_lss iv_leq iv_gtr iv_geq iv_and iv_or iv_xor iv_shl iv_shr
attribute [go_sem] iv_addu iv_subu iv_mulu iv_quou cast_zero0 cast_add_two Nat.add_one_pos Nat.lt_irrefl imp_self implies_true pev_tmp pev_const pev_func putD_some putD_none updD_apply updS_apply ofVal_int ofVal_bool ofVal_str ofVal_nil ofVal_agg cellD_int cellD_bool
attribute [go_sem] cellD_str cellD_nil boxD buildD fillD argD_apply List.getElem?_toArray List.map_toArray List.map_cons List.map_nil List.getElem?_cons_zero List.getElem?_cons_succ List.getElem?_nil List.getD_cons_zero List.getD_cons_succ List.getD_nil List.nil_append List.cons_append List.append_nil List.append_assoc List.set_cons_zero List.set_cons_succ List.drop_zero List.drop_succ_cons
attribute [go_sem] List.take_succ_cons List.take_zero List.length_cons List.length_nil Option.map_some Option.map_none Option.bind_some Option.getD_some Option.isSome_some Option.isSome_none cond_true cond_false true_and and_true Nm.l.injEq Nm.up.injEq Bool.false_eq_true Bool.not_true Bool.not_false cl_agg cl_g cl_nil cl_own cl_ptr
attribute [go_sem] cl_fn on_g on_nil on_own on_ptr on_fn List.all_cons List.all_nil Bool.and_true Bool.and_self cast_add cast_add_one cast_succ_sub cast_zero_lt cast_zero_le cast_eq_zero Int.ofNat_lt Int.ofNat_le Int.natCast_inj Int.toNat_natCast ne_eq not_false_eq_true not_true_eq_false decide_true
attribute [go_sem] decide_false Nat.min_def bits_u64 bits_u32 bits_u8 bits_i64 cast_mul wrap64_nat wrap32_nat wrap8_nat tdiv_nat tmod_nat shl_pow shr_pow shr1 shr8 shr16 shr32 lapp_cons lapp_nil

attribute [go_sem] comp_nil comp_cons compD_nil compD_cons gsl_none gsl_some lapp_cons lapp_nil List.getElem?_cons_zero List.getElem?_cons_succ Option.map_some Option.bind_some
attribute [go_sem] freshA_nil freshA_cons fresh1_new freshZ_some noS_apply
end Go.V
namespace Go.V
open Go Go.RowKit

section
variable {P : Program} {I : CI} {S : Store} {w : World} {e : DEnv} {e' : Env}

def optLG (o : Option (List G)) (K : List G → Prop) : Prop := match o with | some x => K x | none => False
theorem optLG_some {x : List G} {K : List G → Prop} : optLG (some x) K = K x := rfl
/-- A pointer at a block's first row is frozen. -/
def coeP (d : D) (S : Store) (K : D → Store → Prop) : Prop := match d with
  | .ptr k b 0 0 s => optB (S k) fun B => B.b = b ∧ B.s = s ∧ optLG (B.els[0]?.bind pureL) fun gs => K (.ip gs) (updS S k (some ⟨B.b, B.s, max B.p 1, B.els⟩))
  | d => coeC d S K
theorem coeP_ptr {k : Nm} {b s : Nat} {K : D → Store → Prop} : coeP (.ptr k b 0 0 s) S K = optB (S k) fun B => B.b = b ∧ B.s = s ∧ optLG (B.els[0]?.bind pureL) fun gs => K (.ip gs) (updS S k (some ⟨B.b, B.s, max B.p 1, B.els⟩)) := rfl
theorem coeP_g {x : G} {K : D → Store → Prop} : coeP (.g x) S K = K (.g x) S := rfl
theorem coeP_ip {x : List G} {K : D → Store → Prop} : coeP (.ip x) S K = K (.ip x) S := rfl
theorem coeP_own {k : Nm} {b o n c s : Nat} {K : D → Store → Prop} : coeP (.own k b o n c s) S K = coeC (.own k b o n c s) S K := rfl
def coePs : List D → Store → (List D → Store → Prop) → Prop
  | [], S, K => K [] S
  | d :: r, S, K => coeP d S fun d' S' => coePs r S' fun r' S'' => K (d' :: r') S''
theorem coePs_nil {K : List D → Store → Prop} : coePs [] S K = K [] S := rfl
theorem coePs_cons {d : D} {r : List D} {K : List D → Store → Prop} : coePs (d :: r) S K = coeP d S fun d' S' => coePs r S' fun r' S'' => K (d' :: r') S'' := rfl
def coeF (d : D) (S : Store) (K : D → Store → Prop) : Prop := match d with
  | .fn f a c => coePs a S fun a' S' => coePs c S' fun c' S'' => K (.fn f a' c') S''
  | d => coeD d S K
theorem coeF_fn {f : FuncId} {a c : List D} {K : D → Store → Prop} : coeF (.fn f a c) S K = coePs a S fun a' S' => coePs c S' fun c' S'' => K (.fn f a' c') S'' := rfl
def coeFs : List D → Store → (List D → Store → Prop) → Prop
  | [], S, K => K [] S
  | d :: r, S, K => coeF d S fun d' S' => coeFs r S' fun r' S'' => K (d' :: r') S''
theorem coeFs_nil {K : List D → Store → Prop} : coeFs [] S K = K [] S := rfl
theorem coeFs_cons {d : D} {r : List D} {K : List D → Store → Prop} : coeFs (d :: r) S K = coeF d S fun d' S' => coeFs r S' fun r' S'' => K (d' :: r') S'' := rfl

theorem optLG_cases {o : Option (List G)} {K : List G → Prop} (h : optLG o K) : ∃ x, o = some x ∧ K x := by
  cases o with
  | none => exact h.elim
  | some x => exact ⟨x, rfl, h⟩
theorem coeP_sound (hR : Rel I S w) {d : D} {v : Value} (hd : RdD I w.heap d v) {K : D → Store → Prop} (h : coeP d S K) : ∃ I' S' d', Stp I S w I' S' w ∧ Rel I' S' w ∧ RdD I' w.heap d' v ∧ K d' S' := by
  unfold coeP at h
  split at h
  · rename_i k b s
    obtain ⟨B, hk, rfl, rfl, h2⟩ := optB_cases h
    obtain ⟨gs, hg, h3⟩ := optLG_cases h2
    obtain ⟨ds, h0, hp⟩ : ∃ ds, B.els[0]? = some ds ∧ pureL ds = some gs := by
      cases h1 : B.els[0]? with
      | none => rw [h1] at hg; cases hg
      | some x => rw [h1] at hg; exact ⟨x, rfl, hg⟩
    have hn : 1 ≤ B.els.length := (List.getElem?_eq_some_iff.1 h0).1
    obtain ⟨r1, r2⟩ := hR.freeze hk 1 hn
    refine ⟨_, _, _, r2, r1, ?_, h3⟩
    cases hd with
    | ptr _ _ _ _ _ =>
      obtain ⟨cur, el, hb, hz, hl, hc, _⟩ := (hR.has k _ hk).ex
      have hcell : ∀ (j : Nat) (g : G), gs[j]? = some g → ∃ u, cur[j]? = some u ∧ RdG I w.heap g u ∧ j < 1 * B.s := by
        intro j g hj
        obtain ⟨d, h5, h6⟩ := pureL_at hp hj
        obtain ⟨u, hu, hr⟩ := hc 0 ds j d h0 h5
        rw [Nat.zero_mul, Nat.zero_add] at hu
        refine ⟨u, hu, hr.toG h6, ?_⟩
        rw [Nat.one_mul, ← hl _ _ h0]; exact (List.getElem?_eq_some_iff.1 h5).1
      rw [show 0 * B.s + 0 = 0 by omega]
      refine .ip gs B.b 0 cur el (0, 0) (fun j => (cur[j]?).getD undef) hb (fun j g hj => ?_) (fun j g hj => ?_)
      · obtain ⟨u, hu, _, hlt⟩ := hcell j g hj
        rw [Nat.zero_add]
        exact ⟨.inr ⟨rfl, hlt⟩, by rw [hu]; rfl⟩
      · obtain ⟨u, hu, hr, _⟩ := hcell j g hj
        rw [hu]
        exact hr.mono (fun _ _ h => .inl h) (HEv.refl _ _)
  · exact coeC_sound hR hd h
theorem coePs_sound : ∀ (ds : List D) {I : CI} {S : Store} (hR : Rel I S w) {vs : List Value} (hd : RdL I w.heap ds vs) {K : List D → Store → Prop} (h : coePs ds S K), ∃ I' S' ds', Stp I S w I' S' w ∧ Rel I' S' w ∧ RdL I' w.heap ds' vs ∧ K ds' S'
  | [], I, S, hR, vs, hd, K, h => ⟨I, S, [], Stp.refl _ _ _, hR, hd, h⟩
  | d :: r, I, S, hR, vs, hd, K, h => by
    obtain ⟨v, us, rfl, h1, h2⟩ := hd.uncons
    obtain ⟨I1, S1, d1, s1, r1, q1, h⟩ := coeP_sound hR h1 h
    obtain ⟨I2, S2, d2, s2, r2, q2, h⟩ := coePs_sound r r1 (h2.mono s1.sub (HEv.refl _ _)) h
    exact ⟨I2, S2, _, s1.trans s2, r2, .cons (q1.mono s2.sub (HEv.refl _ _)) q2, h⟩
theorem coeF_sound (hR : Rel I S w) {d : D} {v : Value} (hd : RdD I w.heap d v) {K : D → Store → Prop} (h : coeF d S K) : ∃ I' S' d', Stp I S w I' S' w ∧ Rel I' S' w ∧ RdD I' w.heap d' v ∧ K d' S' := by
  unfold coeF at h
  split at h
  · rename_i f a c
    cases hd with
    | fn _ _ _ vs us h1 h2 h3 h4 =>
      obtain ⟨I1, S1, d1, s1, r1, q1, h⟩ := coePs_sound _ hR ⟨h1, h3⟩ h
      obtain ⟨I2, S2, d2, s2, r2, q2, h⟩ := coePs_sound _ r1 ((show RdL I w.heap c us from ⟨h2, h4⟩).mono s1.sub (HEv.refl _ _)) h
      have q1 := q1.mono s2.sub (HEv.refl _ _)
      exact ⟨I2, S2, _, s1.trans s2, r2, .fn f _ _ vs us q1.len q2.len q1.at_ q2.at_, h⟩
  · exact coeD_sound hR hd h
theorem coeFs_sound : ∀ (ds : List D) {I : CI} {S : Store} (hR : Rel I S w) {vs : List Value} (hd : RdL I w.heap ds vs) {K : List D → Store → Prop} (h : coeFs ds S K), ∃ I' S' ds', Stp I S w I' S' w ∧ Rel I' S' w ∧ RdL I' w.heap ds' vs ∧ K ds' S'
  | [], I, S, hR, vs, hd, K, h => ⟨I, S, [], Stp.refl _ _ _, hR, hd, h⟩
  | d :: r, I, S, hR, vs, hd, K, h => by
    obtain ⟨v, us, rfl, h1, h2⟩ := hd.uncons
    obtain ⟨I1, S1, d1, s1, r1, q1, h⟩ := coeF_sound hR h1 h
    obtain ⟨I2, S2, d2, s2, r2, q2, h⟩ := coeFs_sound r r1 (h2.mono s1.sub (HEv.refl _ _)) h
    exact ⟨I2, S2, _, s1.trans s2, r2, .cons (q1.mono s2.sub (HEv.refl _ _)) q2, h⟩

/-- Where a call ends that answers a function. -/
def retF (P : Program) (rs : List ResultVar) (K : D → Prop) (e : DEnv) (S : Store) : Prop := resD P e S rs fun ds => coeFs ds S fun ds' _ => oneD K ds'
theorem PC.bodyF (hm : P.follows .mixedOrders = true) {f : FuncId} {fn : Func} {c : Code} {args : List D} {rs : List ResultVar} {K : D → Prop} (hf : P.funcs[f]? = some fn) (hb : fn.body = some c)
    (hn : (fn.name == "runtime.NumGoroutine") = false) (hfit : fits fn.ntmps c = true) (hargs : args.length ≤ fn.ntmps) (hrs : fn.results.toList = rs)
    (h : pvc P c (retF P rs K) (fun _ _ _ => False) (retF P rs K) (argD args) noS) : PC P f args K := by
  subst hrs
  intro w I vs hI hv
  refine body_wp hm hf hb hn hfit (by rw [hv.len]; exact hargs) hv (rel_no hI) h ?_
  rintro e' a w' hr ⟨I1, S1, e, s1, r1, he, hret⟩
  obtain ⟨v, us, ds, h1, h2, h3, h4⟩ := results_rd r1 hr he hret
  obtain ⟨I2, S2, ds2, s2, r2, q2, h5⟩ := coeFs_sound ds r1 h3 h4
  obtain ⟨d, h6, h7⟩ := oneD_rd q2 h5
  have s := s1.trans s2
  refine ⟨v, h1, I2, d, ⟨⟨s.os, s.tape, s.output, s.size, fun b hb => s.frame b hb (fun k B hk => by rw [noS_apply] at hk; cases hk) (fun G hG => by cases hG)⟩, s.dr⟩, s.sub, fun b j hb => ?_, r2.old, ?_, h7⟩
  · rcases s.new b j hb with h8 | h8 | ⟨k, B, h8, _⟩
    · exact .inl h8
    · exact .inr h8
    · rw [noS_apply] at h8; cases h8
  · rw [h2]; exact h6
end
theorem pureL_g0 : pureL [] = some [] := rfl
theorem pureL_g1 {x : G} : pureL [.g x] = some [x] := rfl
attribute [go_sem] optLG_some coeP_ptr coeP_g coeP_ip coeP_own coePs_nil coePs_cons coeF_fn coeFs_nil coeFs_cons retF pureL_g1
theorem bn_ff : (false != false) = false := rfl
theorem bn_ft : (false != true) = true := rfl
theorem bn_tf : (true != false) = true := rfl
theorem bn_tt : (true != true) = false := rfl
theorem bn_nt : (!true) = false := rfl
theorem bn_nf : (!false) = true := rfl
attribute [go_sem] bn_ff bn_ft bn_tf bn_tt bn_nt bn_nf
end Go.V
namespace Go.V
open Go Go.RowKit

section
variable {P : Program} {S : Store} {e : DEnv} {N : DEnv → Store → Prop} {X : Nat → DEnv → Store → Prop} {R : DEnv → Store → Prop}

/-- An iterator that hands on the data of a list, one by one, till all are handed on or no more are wanted. -/
def Iter (P : Program) (f : FuncId) (caps : List D) (xs : List (List D)) : Prop := ∀ (l : Nat) (J : Nat → Store → Prop) (Jx : Store → Prop) (S : Store), J 0 S →
  (∀ i x S1, xs[i]? = some x → J i S1 → PYC P l x S1 fun d S' => (d = .g (.lit (.bool true)) ∧ J (i + 1) S') ∨ (d = .g (.lit (.bool false)) ∧ Jx S')) →
  PFC P f (.yl l :: caps) S fun _ S' => J xs.length S' ∨ Jx S'

theorem pv_range {g : Operand} {ps : Array Tmp} {assign body : Code} {f : FuncId} {caps : List D} (xs : List (List D)) (hpg : pev e g = .fn f [] caps) (hb : bodied P f = true) (hfa : flat assign = true) (hfb : flat body = true)
    (hit : Iter P f caps xs) (hx : ∀ x ∈ xs, x.length = ps.size) (J : Nat → (Nm → Option Blk) → Prop) (Jx : Code → (Nm → Option Blk) → Prop) (h0 : J 0 S.f)
    (hr : ∀ (i : Nat) (x : List D) (S1 : Store) (ga gb : Option Gh) (Kn : Store → Prop) (Kx : Nat → Store → Prop) (Kr : Store → Prop), xs[i]? = some x → J i S1.f → S1.g = ga →
      (∀ S3 : Store, S3.g = gb → J (i + 1) S3.f → Kn S3) → (∀ (id : Nat) (S3 : Store), S3.g = gb → Jx (.exit id) S3.f → Kx id S3) → (∀ S3 : Store, S3.g = gb → Jx .ret S3.f → Kr S3) →
      pvc P assign (fun e2 S2 => S2.g = ga ∧ pvc P body (fun _ S3 => Kn S3) (fun id _ S3 => Kx id S3) (fun _ S3 => Kr S3) e2 (updG S2 gb)) (fun _ _ _ => False) (fun _ _ => False) (bindD ps.toList x e) S1)
    (hN : ∀ S' : Store, S'.g = none → J xs.length S'.f → N e S') (hX : ∀ (id : Nat) (S' : Store), S'.g = none → Jx (.exit id) S'.f → X id e S') (hR : ∀ S' : Store, S'.g = none → Jx .ret S'.f → R e S') :
    pvc P (.rangeFunc g ps assign body) N X R e S := by
  refine ⟨hfa, hfb, ?_⟩
  rw [hpg]
  refine ⟨hb, fun l G hy => ?_⟩
  refine PFC.mono (hit l (fun i T => T.g = some (G .ready none) ∧ J i T.f) (fun T => ∃ p, T.g = some (G .done (some p)) ∧ Jx p T.f ∧ ((∃ id, p = .exit id) ∨ p = .ret)) (updG S (some (G .ready none))) ⟨rfl, h0⟩ (fun i x S1 hx1 hj => ?_)) ?_
  · refine hy x S1 _ hj.1 (hx x (List.mem_of_getElem? hx1)) ?_
    exact hr i x S1 (some (G .ready none)) (some (G .busy none)) _ _ _ hx1 hj.2 hj.1
      (fun S3 h1 h2 => ⟨h1, .inl ⟨rfl, rfl, h2⟩⟩)
      (fun id S3 h1 h2 => ⟨h1, .inr ⟨rfl, _, rfl, h2, .inl ⟨id, rfl⟩⟩⟩)
      (fun S3 h1 h2 => ⟨h1, .inr ⟨rfl, _, rfl, h2, .inr rfl⟩⟩)
  · rintro d S' (⟨h1, h2⟩ | ⟨p, h1, h2, h3⟩)
    · exact ⟨_, _, h1, (by intro h; cases h), hN _ rfl h2⟩
    · rcases h3 with ⟨id, rfl⟩ | rfl
      · exact ⟨_, _, h1, (by intro h; cases h), hX id _ rfl h2⟩
      · exact ⟨_, _, h1, (by intro h; cases h), hR _ rfl h2⟩

/-- The iterator's blocks beside those of the loop that it serves. -/
def mixF (T S' : Store) : Nm → Option Blk
  | .up k => S' k
  | k => T k
def mixS (T S' : Store) : Store := ⟨mixF T S', S'.g⟩
theorem mixS_up {T S' : Store} {k : Nm} : mixS T S' (.up k) = S' k := rfl
theorem mixS_l {T S' : Store} {d : Nat} : mixS T S' (.l d) = T (.l d) := rfl
theorem mixS_g {T S' : Store} : (mixS T S').g = S'.g := rfl
theorem dnS_mixS {T S' : Store} : dnS (mixS T S') = S' := rfl

theorem PYC.up {l : Nat} {args : List D} {T : Store} {K : D → Store → Prop} (h : PYC P l args (dnS T) fun d S' => K d (mixS T S')) : PYC P l args T K := by
  intro w I vs hR hv
  have hR0 : Rel I (dnS T) w := hR.ren .up fun _ _ h => by injection h
  refine (h w I vs hR0 hv).mono ?_
  rintro r w' ⟨I', S', d, s, r', hd, hk⟩
  -- a block of the iterator's own is none of the loop's
  have own : ∀ (k : Nm) (B : Blk), (∀ q, k ≠ .up q) → T k = some B → (∀ q C, dnS T q = some C → C.b ≠ B.b) ∧ (∀ G, (dnS T).g = some G → G.l ≠ B.b) := fun k B hk hB =>
    ⟨fun q C hC e => hk q (hR.inj k (.up q) B C hB hC e.symm), fun G hG => hR.apart hB hG⟩
  refine ⟨I', mixS T S', d, ⟨s.os, s.tape, s.output, s.size, s.dr, s.sub, fun b j hb => ?_, s.ev, fun b hb h1 h2 => s.frame b hb (fun k B hk => h1 (.up k) B hk) h2, fun k B hk => ?_, s.liveG⟩, ⟨r'.gi, fun k B hk => ?_, fun k k' B B' hk hk' hb => ?_, r'.gho⟩, hd, hk⟩
  · rcases s.new b j hb with h1 | h1 | ⟨k, B, h1, h2⟩
    · exact .inl h1
    · exact .inr (.inl h1)
    · exact .inr (.inr ⟨.up k, B, h1, h2⟩)
  · have loc : ∀ (k : Nm), (∀ q, k ≠ .up q) → T k = some B → w.heap.size ≤ B.b ∨ ∃ k B', T k = some B' ∧ B'.b = B.b := fun k _ hB => .inr ⟨k, B, hB, rfl⟩
    cases k with
    | up k =>
      rcases s.live k B hk with h1 | ⟨q, C, h1, h2⟩
      · exact .inl h1
      · exact .inr ⟨.up q, C, h1, h2⟩
    | l d => exact loc _ (fun q h => by cases h) hk
    | r d j => exact loc _ (fun q h => by cases h) hk
  · have loc : ∀ (k : Nm), (∀ q, k ≠ .up q) → T k = some B → Has I' w'.heap B := fun k hne hB => by
      obtain ⟨h1, h2⟩ := own k B hne hB
      refine (hR.has k B hB).mono s.sub (fun j hj => ?_) s.ev (s.frame B.b (hR.lt hB) h1 h2)
      rcases s.new B.b j hj with h3 | h3 | ⟨q, C, h3, h4⟩
      · exact h3
      · have := hR.lt hB; omega
      · exact absurd h4 (h1 q C h3)
    cases k with
    | up k => exact r'.has k B hk
    | l d => exact loc _ (fun q h => by cases h) hk
    | r d j => exact loc _ (fun q h => by cases h) hk
  · have cross : ∀ (k q : Nm) (B C : Blk), (∀ q, k ≠ .up q) → T k = some B → S' q = some C → B.b ≠ C.b := fun k q B C hne hB hC e => by
      obtain ⟨h1, h2⟩ := own k B hne hB
      rcases s.live q C hC with h3 | ⟨q', C', h3, h4⟩
      · have := hR.lt hB; omega
      · exact h1 q' C' h3 (h4.trans e.symm)
    cases k with
    | up k => cases k' with
      | up k' => exact congrArg Nm.up (r'.inj k k' B B' hk hk' hb)
      | l d => exact absurd hb.symm (cross (.l d) k B' B (fun q h => by cases h) hk' hk)
      | r d j => exact absurd hb.symm (cross (.r d j) k B' B (fun q h => by cases h) hk' hk)
    | l d => cases k' with
      | up k' => exact absurd hb (cross (.l d) k' B B' (fun q h => by cases h) hk hk')
      | l d' => exact hR.inj _ _ B B' hk hk' hb
      | r d' j' => exact hR.inj (.l d) (.r d' j') B B' hk hk' hb
    | r d j => cases k' with
      | up k' => exact absurd hb (cross (.r d j) k' B B' (fun q h => by cases h) hk hk')
      | l d' => exact hR.inj (.r d j) (.l d') B B' hk hk' hb
      | r d' j' => exact hR.inj _ _ B B' hk hk' hb

end
attribute [go_sem] mixS_up mixS_l mixS_g dnS_mixS

end Go.V
namespace Go.V
open Go Go.RowKit

/-- A row of the call's own of which nothing is frozen. -/
def RowZ (S : Store) (k : Nm) (s : Nat) (d : D) (els : List (List D)) : Prop := (d = .nil ∧ els = []) ∨ ∃ b cap, d = .own k b 0 els.length cap s ∧ S k = some ⟨b, s, 0, els⟩
theorem RowZ.toD {S : Store} {k : Nm} {s : Nat} {d : D} {els : List (List D)} (h : RowZ S k s d els) : RowD S k s d els := h.imp id fun ⟨b, cap, h1, h2⟩ => ⟨b, cap, 0, h1, h2⟩
theorem RowZ.nil {S : Store} {k : Nm} {s : Nat} : RowZ S k s .nil [] := .inl ⟨rfl, rfl⟩
theorem RowZ.up {S S' : Store} {k : Nm} {s : Nat} {d : D} {els : List (List D)} (h : RowZ S k s d els) (hS : S' k = S k) : RowZ S' k s d els := h.imp id fun ⟨b, cap, h1, h2⟩ => ⟨b, cap, h1, hS ▸ h2⟩
theorem RowZ.appL {S : Store} {K : D → Store → Prop} {q : SlZ} {k k2 : Nm} {dd : D} {els new : List (List D)} {b n cap p : Nat} (h : RowZ S k q.s dd els) (hk : k ≠ k2) (hn : n = new.length) (h1 : ∀ es ∈ new, es.all D.one = true) (hl : els.length + new.length ≤ 140737488355328)
    (hb : (els.length + new.length) * q.bytes ≤ 140737488355328) (hK : ∀ d' S', RowZ S' k q.s d' (els ++ new) → Keep k (updS S k2 (some ⟨b, q.s, p, new⟩)) S' → K d' S') :
    appD q (updS S k2 (some ⟨b, q.s, p, new⟩)) k dd (.own k2 b 0 n cap q.s) K := by
  subst hn
  have hs : ∀ K : List (List D) → Prop, K new → srcD (updS S k2 (some ⟨b, q.s, p, new⟩)) q.s (.own k2 b 0 new.length cap q.s) K := fun K hK => by
    rw [srcD_own, updS_at]
    exact ⟨rfl, rfl, rfl, by simp, h1, by simpa using hK⟩
  rcases h with ⟨rfl, rfl⟩ | ⟨b0, cap0, rfl, hS⟩
  · rw [appD_nil]
    refine hs _ ⟨by simpa using hl, by simpa using hb, fun h0 => ?_, fun h0 b' cap' => ?_⟩
    · subst h0; exact hK _ _ .nil .rfl
    · exact hK _ _ (.inr ⟨b', cap', rfl, updS_at⟩) .upd
  · rw [appD_own, updS_ne hk, hS]
    refine ⟨rfl, rfl, rfl, rfl, rfl, hs _ ⟨hl, hb, fun b' cap' => ?_⟩⟩
    exact hK _ _ (.inr ⟨b', cap', by simp, updS_at⟩) .upd

/-- A call that works on one block of its caller's. -/
structure Dk (S0 : Store) (k : Nm) (S : Store) (x : Option Blk) : Prop where
  at_ : S (.up k) = x
  ne : ∀ q, q ≠ k → S (.up q) = S0 q
  g : S.g = S0.g
theorem Dk.dn {S0 S : Store} {k : Nm} {x : Option Blk} (h : Dk S0 k S x) : dnS S = updS S0 k x := by
  refine Store.ext2 (fun q => ?_) h.g
  rw [dnS_apply, updS_apply]
  split
  · rename_i e; rw [e]; exact h.at_
  · rename_i e; exact h.ne q e
theorem Dk.l {S0 S : Store} {k : Nm} {x y : Option Blk} {d : Nat} (h : Dk S0 k S x) : Dk S0 k (updS S (.l d) y) x := ⟨(updS_ne (by simp)).trans h.at_, fun q hq => (updS_ne (by simp)).trans (h.ne q hq), h.g⟩
theorem Dk.set {S0 S : Store} {k : Nm} {x y : Option Blk} (h : Dk S0 k S x) : Dk S0 k (updS S (.up k) y) y := ⟨updS_at, fun q hq => (updS_ne (by simpa using hq)).trans (h.ne q hq), h.g⟩
theorem Dk.of {S0 S S' : Store} {k : Nm} {x : Option Blk} (h : Dk S0 k S x) {d : Nat} (hS : Keep (.l d) S S') : Dk S0 k S' x := ⟨(hS _ (by simp)).trans h.at_, fun q hq => (hS _ (by simp)).trans (h.ne q hq), hS.g.trans h.g⟩
theorem Dk.up {S0 : Store} {k : Nm} {x : Option Blk} (h : S0 k = x) : Dk S0 k (upS S0) x := ⟨h, fun q _ => rfl, rfl⟩

end Go.V
namespace Go.V
open Go Go.RowKit Go.Proofs

variable {N : DEnv → Store → Prop} {e : DEnv} {S : Store} {d : Option Nat} {t : TypeId} {r : List Ci} {r' : List (Option Ci × Nat)}
theorem ty_b_4 : (Tryd.prog).underlying 4 = some .bool := by kernel_rfl
theorem ty_c_22 {l : List D} {K : D → Prop} : cellsD Tryd.prog 22 l K = optD l[0]? K := cellsD_one ⟨by kernel_rfl, by kernel_rfl⟩
theorem ty_c_27 {l : List D} {K : D → Prop} : cellsD Tryd.prog 27 l K = optD l[0]? K := cellsD_one ⟨by kernel_rfl, by kernel_rfl⟩
theorem ty_c_51 {l : List D} {K : D → Prop} : cellsD Tryd.prog 51 l K = optD l[0]? K := cellsD_one ⟨by kernel_rfl, by kernel_rfl⟩
theorem ty_l_22 : slS Tryd.prog 22 = some 1 := by kernel_rfl
theorem ty_l_22_rv_slice {x : Operand} {lo hi mx : Option Operand} : runV Tryd.prog N (⟨d, none, .slice 22 x lo hi mx, t⟩ :: r) e S = slD 1 (pev e x) (lo.map (pev e)) (hi.map (pev e)) (mx.map (pev e)) (Kq (Kr Tryd.prog N r e d) S) := rv_slice ty_l_22
theorem ty_l_22_rd0_slice {x : Operand} {lo hi mx : Option Operand} : runD Tryd.prog N ((some ⟨d, none, .slice 22 x lo hi mx, t⟩, 0) :: r') e S = slD 1 (pev e x) (lo.map (pev e)) (hi.map (pev e)) (mx.map (pev e)) (Kq (Kd Tryd.prog N r' e d) S) := rd0_slice ty_l_22
theorem ty_l_22_rv_ixaddr {x i : Operand} : runV Tryd.prog N (⟨d, none, .indexAddr 22 x i, t⟩ :: r) e S = idxD (pev e i) (Ki 1 (pev e x) (Kq (Kr Tryd.prog N r e d) S)) := rv_ixaddr ty_l_22
theorem ty_l_22_rd0_ixaddr {x i : Operand} : runD Tryd.prog N ((some ⟨d, none, .indexAddr 22 x i, t⟩, 0) :: r') e S = idxD (pev e i) (Ki 1 (pev e x) (Kq (Kd Tryd.prog N r' e d) S)) := rd0_ixaddr ty_l_22
theorem ty_l_22_rv_len {x : Operand} : runV Tryd.prog N (⟨d, none, .call { callee := .builtin .len, args := #[x], argTypes := #[22] }, t⟩ :: r) e S = lenD (pev e x) (Kq (Kr Tryd.prog N r e d) S) := rv_len ty_l_22
theorem ty_l_22_rd0_len {x : Operand} : runD Tryd.prog N ((some ⟨d, none, .call { callee := .builtin .len, args := #[x], argTypes := #[22] }, t⟩, 0) :: r') e S = lenD (pev e x) (Kq (Kd Tryd.prog N r' e d) S) := rd0_len ty_l_22
theorem ty_l_25 : slS Tryd.prog 25 = some 1 := by kernel_rfl
theorem ty_l_25_rv_slice {x : Operand} {lo hi mx : Option Operand} : runV Tryd.prog N (⟨d, none, .slice 25 x lo hi mx, t⟩ :: r) e S = slD 1 (pev e x) (lo.map (pev e)) (hi.map (pev e)) (mx.map (pev e)) (Kq (Kr Tryd.prog N r e d) S) := rv_slice ty_l_25
theorem ty_l_25_rd0_slice {x : Operand} {lo hi mx : Option Operand} : runD Tryd.prog N ((some ⟨d, none, .slice 25 x lo hi mx, t⟩, 0) :: r') e S = slD 1 (pev e x) (lo.map (pev e)) (hi.map (pev e)) (mx.map (pev e)) (Kq (Kd Tryd.prog N r' e d) S) := rd0_slice ty_l_25
theorem ty_l_25_rv_ixaddr {x i : Operand} : runV Tryd.prog N (⟨d, none, .indexAddr 25 x i, t⟩ :: r) e S = idxD (pev e i) (Ki 1 (pev e x) (Kq (Kr Tryd.prog N r e d) S)) := rv_ixaddr ty_l_25
theorem ty_l_25_rd0_ixaddr {x i : Operand} : runD Tryd.prog N ((some ⟨d, none, .indexAddr 25 x i, t⟩, 0) :: r') e S = idxD (pev e i) (Ki 1 (pev e x) (Kq (Kd Tryd.prog N r' e d) S)) := rd0_ixaddr ty_l_25
theorem ty_l_25_rv_len {x : Operand} : runV Tryd.prog N (⟨d, none, .call { callee := .builtin .len, args := #[x], argTypes := #[25] }, t⟩ :: r) e S = lenD (pev e x) (Kq (Kr Tryd.prog N r e d) S) := rv_len ty_l_25
theorem ty_l_25_rd0_len {x : Operand} : runD Tryd.prog N ((some ⟨d, none, .call { callee := .builtin .len, args := #[x], argTypes := #[25] }, t⟩, 0) :: r') e S = lenD (pev e x) (Kq (Kd Tryd.prog N r' e d) S) := rd0_len ty_l_25
theorem ty_l_50 : slS Tryd.prog 50 = some 1 := by kernel_rfl
theorem ty_l_50_rv_slice {x : Operand} {lo hi mx : Option Operand} : runV Tryd.prog N (⟨d, none, .slice 50 x lo hi mx, t⟩ :: r) e S = slD 1 (pev e x) (lo.map (pev e)) (hi.map (pev e)) (mx.map (pev e)) (Kq (Kr Tryd.prog N r e d) S) := rv_slice ty_l_50
theorem ty_l_50_rd0_slice {x : Operand} {lo hi mx : Option Operand} : runD Tryd.prog N ((some ⟨d, none, .slice 50 x lo hi mx, t⟩, 0) :: r') e S = slD 1 (pev e x) (lo.map (pev e)) (hi.map (pev e)) (mx.map (pev e)) (Kq (Kd Tryd.prog N r' e d) S) := rd0_slice ty_l_50
theorem ty_l_50_rv_ixaddr {x i : Operand} : runV Tryd.prog N (⟨d, none, .indexAddr 50 x i, t⟩ :: r) e S = idxD (pev e i) (Ki 1 (pev e x) (Kq (Kr Tryd.prog N r e d) S)) := rv_ixaddr ty_l_50
theorem ty_l_50_rd0_ixaddr {x i : Operand} : runD Tryd.prog N ((some ⟨d, none, .indexAddr 50 x i, t⟩, 0) :: r') e S = idxD (pev e i) (Ki 1 (pev e x) (Kq (Kd Tryd.prog N r' e d) S)) := rd0_ixaddr ty_l_50
theorem ty_l_50_rv_len {x : Operand} : runV Tryd.prog N (⟨d, none, .call { callee := .builtin .len, args := #[x], argTypes := #[50] }, t⟩ :: r) e S = lenD (pev e x) (Kq (Kr Tryd.prog N r e d) S) := rv_len ty_l_50
theorem ty_l_50_rd0_len {x : Operand} : runD Tryd.prog N ((some ⟨d, none, .call { callee := .builtin .len, args := #[x], argTypes := #[50] }, t⟩, 0) :: r') e S = lenD (pev e x) (Kq (Kd Tryd.prog N r' e d) S) := rd0_len ty_l_50
theorem ty_q_22 : slZ Tryd.prog 22 = some ⟨27, 1, 8, [.g (.lit (.int .u64 0))]⟩ := by kernel_rfl
theorem ty_q_22_rv_lit {n : Nat} {ps : List (Nat × Operand)} : runV Tryd.prog N (⟨d, none, .buildSlice 22 n ps.toArray, t⟩ :: r) e S = litsD (⟨27, 1, 8, ([.g (.lit (.int .u64 0))] : List D)⟩ : SlZ) (.l (d.getD 0)) S n (ps.map (·.1)) (ps.map (Ky e)) (Kr Tryd.prog N r e d) := rv_lit ty_q_22
theorem ty_q_22_rd3_lit {n : Nat} {ps : List (Nat × Operand)} : runD Tryd.prog N ((some ⟨d, none, .buildSlice 22 n ps.toArray, t⟩, 3) :: r') e S = litsD (⟨27, 1, 8, ([.g (.lit (.int .u64 0))] : List D)⟩ : SlZ) (.l (d.getD 0)) S n (ps.map (·.1)) (ps.map (Ky e)) (Kd Tryd.prog N r' e d) := rd3_lit ty_q_22
theorem ty_q_22_rd4_lit {n : Nat} {ps : List (Nat × Operand)} : runD Tryd.prog N ((some ⟨d, none, .buildSlice 22 n ps.toArray, t⟩, 4) :: r') e S = litsD (⟨27, 1, 8, ([.g (.lit (.int .u64 0))] : List D)⟩ : SlZ) (.l (d.getD 0)) S n (ps.map (·.1)) (ps.map (Ky e)) (Kd Tryd.prog N r' e d) := rd4_lit ty_q_22
theorem ty_q_22_rv_make {l c : Operand} : runV Tryd.prog N (⟨d, none, .makeSlice 22 l c, t⟩ :: r) e S = makeD (⟨27, 1, 8, ([.g (.lit (.int .u64 0))] : List D)⟩ : SlZ) (.l (d.getD 0)) S (pev e l) (pev e c) (Kr Tryd.prog N r e d) := rv_make ty_q_22
theorem ty_q_22_rd3_make {l c : Operand} : runD Tryd.prog N ((some ⟨d, none, .makeSlice 22 l c, t⟩, 3) :: r') e S = makeD (⟨27, 1, 8, ([.g (.lit (.int .u64 0))] : List D)⟩ : SlZ) (.l (d.getD 0)) S (pev e l) (pev e c) (Kd Tryd.prog N r' e d) := rd3_make ty_q_22
theorem ty_q_22_rd4_make {l c : Operand} : runD Tryd.prog N ((some ⟨d, none, .makeSlice 22 l c, t⟩, 4) :: r') e S = makeD (⟨27, 1, 8, ([.g (.lit (.int .u64 0))] : List D)⟩ : SlZ) (.l (d.getD 0)) S (pev e l) (pev e c) (Kd Tryd.prog N r' e d) := rd4_make ty_q_22
theorem ty_q_22_rv_app {x y : Operand} : runV Tryd.prog N (⟨d, none, .call { callee := .builtin .append, args := #[x, y], argTypes := #[22, 22] }, t⟩ :: r) e S = appD (⟨27, 1, 8, ([.g (.lit (.int .u64 0))] : List D)⟩ : SlZ) S (.l (d.getD 0)) (pev e x) (pev e y) (Kr Tryd.prog N r e d) := rv_app ty_q_22
theorem ty_q_22_rd3_app {x y : Operand} : runD Tryd.prog N ((some ⟨d, none, .call { callee := .builtin .append, args := #[x, y], argTypes := #[22, 22] }, t⟩, 3) :: r') e S = appD (⟨27, 1, 8, ([.g (.lit (.int .u64 0))] : List D)⟩ : SlZ) S (.l (d.getD 0)) (pev e x) (pev e y) (Kd Tryd.prog N r' e d) := rd3_app ty_q_22
theorem ty_q_22_rv_copy {x y : Operand} : runV Tryd.prog N (⟨d, none, .call { callee := .builtin .copy, args := #[x, y], argTypes := #[22, 22] }, t⟩ :: r) e S = copyD (⟨27, 1, 8, ([.g (.lit (.int .u64 0))] : List D)⟩ : SlZ) S (pev e x) (pev e y) (Kr Tryd.prog N r e d) := rv_copy ty_q_22
theorem ty_q_22_rd3_copy {x y : Operand} : runD Tryd.prog N ((some ⟨d, none, .call { callee := .builtin .copy, args := #[x, y], argTypes := #[22, 22] }, t⟩, 3) :: r') e S = copyD (⟨27, 1, 8, ([.g (.lit (.int .u64 0))] : List D)⟩ : SlZ) S (pev e x) (pev e y) (Kd Tryd.prog N r' e d) := rd3_copy ty_q_22
theorem ty_q_25 : slZ Tryd.prog 25 = some ⟨51, 1, 4, [.g (.lit (.int .u32 0))]⟩ := by kernel_rfl
theorem ty_q_25_rv_lit {n : Nat} {ps : List (Nat × Operand)} : runV Tryd.prog N (⟨d, none, .buildSlice 25 n ps.toArray, t⟩ :: r) e S = litsD (⟨51, 1, 4, ([.g (.lit (.int .u32 0))] : List D)⟩ : SlZ) (.l (d.getD 0)) S n (ps.map (·.1)) (ps.map (Ky e)) (Kr Tryd.prog N r e d) := rv_lit ty_q_25
theorem ty_q_25_rd3_lit {n : Nat} {ps : List (Nat × Operand)} : runD Tryd.prog N ((some ⟨d, none, .buildSlice 25 n ps.toArray, t⟩, 3) :: r') e S = litsD (⟨51, 1, 4, ([.g (.lit (.int .u32 0))] : List D)⟩ : SlZ) (.l (d.getD 0)) S n (ps.map (·.1)) (ps.map (Ky e)) (Kd Tryd.prog N r' e d) := rd3_lit ty_q_25
theorem ty_q_25_rd4_lit {n : Nat} {ps : List (Nat × Operand)} : runD Tryd.prog N ((some ⟨d, none, .buildSlice 25 n ps.toArray, t⟩, 4) :: r') e S = litsD (⟨51, 1, 4, ([.g (.lit (.int .u32 0))] : List D)⟩ : SlZ) (.l (d.getD 0)) S n (ps.map (·.1)) (ps.map (Ky e)) (Kd Tryd.prog N r' e d) := rd4_lit ty_q_25
theorem ty_q_25_rv_make {l c : Operand} : runV Tryd.prog N (⟨d, none, .makeSlice 25 l c, t⟩ :: r) e S = makeD (⟨51, 1, 4, ([.g (.lit (.int .u32 0))] : List D)⟩ : SlZ) (.l (d.getD 0)) S (pev e l) (pev e c) (Kr Tryd.prog N r e d) := rv_make ty_q_25
theorem ty_q_25_rd3_make {l c : Operand} : runD Tryd.prog N ((some ⟨d, none, .makeSlice 25 l c, t⟩, 3) :: r') e S = makeD (⟨51, 1, 4, ([.g (.lit (.int .u32 0))] : List D)⟩ : SlZ) (.l (d.getD 0)) S (pev e l) (pev e c) (Kd Tryd.prog N r' e d) := rd3_make ty_q_25
theorem ty_q_25_rd4_make {l c : Operand} : runD Tryd.prog N ((some ⟨d, none, .makeSlice 25 l c, t⟩, 4) :: r') e S = makeD (⟨51, 1, 4, ([.g (.lit (.int .u32 0))] : List D)⟩ : SlZ) (.l (d.getD 0)) S (pev e l) (pev e c) (Kd Tryd.prog N r' e d) := rd4_make ty_q_25
theorem ty_q_25_rv_app {x y : Operand} : runV Tryd.prog N (⟨d, none, .call { callee := .builtin .append, args := #[x, y], argTypes := #[25, 25] }, t⟩ :: r) e S = appD (⟨51, 1, 4, ([.g (.lit (.int .u32 0))] : List D)⟩ : SlZ) S (.l (d.getD 0)) (pev e x) (pev e y) (Kr Tryd.prog N r e d) := rv_app ty_q_25
theorem ty_q_25_rd3_app {x y : Operand} : runD Tryd.prog N ((some ⟨d, none, .call { callee := .builtin .append, args := #[x, y], argTypes := #[25, 25] }, t⟩, 3) :: r') e S = appD (⟨51, 1, 4, ([.g (.lit (.int .u32 0))] : List D)⟩ : SlZ) S (.l (d.getD 0)) (pev e x) (pev e y) (Kd Tryd.prog N r' e d) := rd3_app ty_q_25
theorem ty_q_25_rv_copy {x y : Operand} : runV Tryd.prog N (⟨d, none, .call { callee := .builtin .copy, args := #[x, y], argTypes := #[25, 25] }, t⟩ :: r) e S = copyD (⟨51, 1, 4, ([.g (.lit (.int .u32 0))] : List D)⟩ : SlZ) S (pev e x) (pev e y) (Kr Tryd.prog N r e d) := rv_copy ty_q_25
theorem ty_q_25_rd3_copy {x y : Operand} : runD Tryd.prog N ((some ⟨d, none, .call { callee := .builtin .copy, args := #[x, y], argTypes := #[25, 25] }, t⟩, 3) :: r') e S = copyD (⟨51, 1, 4, ([.g (.lit (.int .u32 0))] : List D)⟩ : SlZ) S (pev e x) (pev e y) (Kd Tryd.prog N r' e d) := rd3_copy ty_q_25
theorem ty_q_50 : slZ Tryd.prog 50 = some ⟨22, 1, 24, [.nil]⟩ := by kernel_rfl
theorem ty_q_50_rv_lit {n : Nat} {ps : List (Nat × Operand)} : runV Tryd.prog N (⟨d, none, .buildSlice 50 n ps.toArray, t⟩ :: r) e S = litsD (⟨22, 1, 24, ([.nil] : List D)⟩ : SlZ) (.l (d.getD 0)) S n (ps.map (·.1)) (ps.map (Ky e)) (Kr Tryd.prog N r e d) := rv_lit ty_q_50
theorem ty_q_50_rd3_lit {n : Nat} {ps : List (Nat × Operand)} : runD Tryd.prog N ((some ⟨d, none, .buildSlice 50 n ps.toArray, t⟩, 3) :: r') e S = litsD (⟨22, 1, 24, ([.nil] : List D)⟩ : SlZ) (.l (d.getD 0)) S n (ps.map (·.1)) (ps.map (Ky e)) (Kd Tryd.prog N r' e d) := rd3_lit ty_q_50
theorem ty_q_50_rd4_lit {n : Nat} {ps : List (Nat × Operand)} : runD Tryd.prog N ((some ⟨d, none, .buildSlice 50 n ps.toArray, t⟩, 4) :: r') e S = litsD (⟨22, 1, 24, ([.nil] : List D)⟩ : SlZ) (.l (d.getD 0)) S n (ps.map (·.1)) (ps.map (Ky e)) (Kd Tryd.prog N r' e d) := rd4_lit ty_q_50
theorem ty_q_50_rv_make {l c : Operand} : runV Tryd.prog N (⟨d, none, .makeSlice 50 l c, t⟩ :: r) e S = makeD (⟨22, 1, 24, ([.nil] : List D)⟩ : SlZ) (.l (d.getD 0)) S (pev e l) (pev e c) (Kr Tryd.prog N r e d) := rv_make ty_q_50
theorem ty_q_50_rd3_make {l c : Operand} : runD Tryd.prog N ((some ⟨d, none, .makeSlice 50 l c, t⟩, 3) :: r') e S = makeD (⟨22, 1, 24, ([.nil] : List D)⟩ : SlZ) (.l (d.getD 0)) S (pev e l) (pev e c) (Kd Tryd.prog N r' e d) := rd3_make ty_q_50
theorem ty_q_50_rd4_make {l c : Operand} : runD Tryd.prog N ((some ⟨d, none, .makeSlice 50 l c, t⟩, 4) :: r') e S = makeD (⟨22, 1, 24, ([.nil] : List D)⟩ : SlZ) (.l (d.getD 0)) S (pev e l) (pev e c) (Kd Tryd.prog N r' e d) := rd4_make ty_q_50
theorem ty_q_50_rv_app {x y : Operand} : runV Tryd.prog N (⟨d, none, .call { callee := .builtin .append, args := #[x, y], argTypes := #[50, 50] }, t⟩ :: r) e S = appD (⟨22, 1, 24, ([.nil] : List D)⟩ : SlZ) S (.l (d.getD 0)) (pev e x) (pev e y) (Kr Tryd.prog N r e d) := rv_app ty_q_50
theorem ty_q_50_rd3_app {x y : Operand} : runD Tryd.prog N ((some ⟨d, none, .call { callee := .builtin .append, args := #[x, y], argTypes := #[50, 50] }, t⟩, 3) :: r') e S = appD (⟨22, 1, 24, ([.nil] : List D)⟩ : SlZ) S (.l (d.getD 0)) (pev e x) (pev e y) (Kd Tryd.prog N r' e d) := rd3_app ty_q_50
theorem ty_q_50_rv_copy {x y : Operand} : runV Tryd.prog N (⟨d, none, .call { callee := .builtin .copy, args := #[x, y], argTypes := #[50, 50] }, t⟩ :: r) e S = copyD (⟨22, 1, 24, ([.nil] : List D)⟩ : SlZ) S (pev e x) (pev e y) (Kr Tryd.prog N r e d) := rv_copy ty_q_50
theorem ty_q_50_rd3_copy {x y : Operand} : runD Tryd.prog N ((some ⟨d, none, .call { callee := .builtin .copy, args := #[x, y], argTypes := #[50, 50] }, t⟩, 3) :: r') e S = copyD (⟨22, 1, 24, ([.nil] : List D)⟩ : SlZ) S (pev e x) (pev e y) (Kd Tryd.prog N r' e d) := rd3_copy ty_q_50
theorem ty_s_27 {off : Nat} {x : D} {es : List D} {K : List D → Prop} : stCells Tryd.prog 27 off x es K = (x.one = true ∧ off < es.length ∧ K (es.set off x)) := stCells_one ⟨by kernel_rfl, by kernel_rfl⟩
theorem ty_s_51 {off : Nat} {x : D} {es : List D} {K : List D → Prop} : stCells Tryd.prog 51 off x es K = (x.one = true ∧ off < es.length ∧ K (es.set off x)) := stCells_one ⟨by kernel_rfl, by kernel_rfl⟩
theorem ty_v_27_51 {k' : IntKind} {n : Int} {K : Value → Prop} : pconv Tryd.prog 27 51 (.int k' n) K = K (.int .u32 (IntKind.u32.wrap n)) := pconv_is (by kernel_rfl) (by kernel_rfl)
theorem ty_v_5_3 {k' : IntKind} {n : Int} {K : Value → Prop} : pconv Tryd.prog 5 3 (.int k' n) K = K (.int .i64 (IntKind.i64.wrap n)) := pconv_is (by kernel_rfl) (by kernel_rfl)
theorem ty_v_51_27 {k' : IntKind} {n : Int} {K : Value → Prop} : pconv Tryd.prog 51 27 (.int k' n) K = K (.int .u64 (IntKind.u64.wrap n)) := pconv_is (by kernel_rfl) (by kernel_rfl)
attribute [go_sem ↓] ty_c_22 ty_c_27 ty_c_51 ty_l_22_rv_slice ty_l_22_rd0_slice ty_l_22_rv_ixaddr ty_l_22_rd0_ixaddr ty_l_22_rv_len ty_l_22_rd0_len ty_l_25_rv_slice ty_l_25_rd0_slice ty_l_25_rv_ixaddr ty_l_25_rd0_ixaddr ty_l_25_rv_len ty_l_25_rd0_len ty_l_50_rv_slice ty_l_50_rd0_slice ty_l_50_rv_ixaddr ty_l_50_rd0_ixaddr ty_l_50_rv_len ty_l_50_rd0_len ty_q_22_rv_lit ty_q_22_rd3_lit ty_q_22_rd4_lit
attribute [go_sem ↓] ty_q_22_rv_make ty_q_22_rd3_make ty_q_22_rd4_make ty_q_22_rv_app ty_q_22_rd3_app ty_q_22_rv_copy ty_q_22_rd3_copy ty_q_25_rv_lit ty_q_25_rd3_lit ty_q_25_rd4_lit ty_q_25_rv_make ty_q_25_rd3_make ty_q_25_rd4_make ty_q_25_rv_app ty_q_25_rd3_app ty_q_25_rv_copy ty_q_25_rd3_copy ty_q_50_rv_lit ty_q_50_rd3_lit ty_q_50_rd4_lit ty_q_50_rv_make ty_q_50_rd3_make ty_q_50_rd4_make ty_q_50_rv_app
attribute [go_sem ↓] ty_q_50_rd3_app ty_q_50_rv_copy ty_q_50_rd3_copy ty_s_27 ty_s_51 ty_v_27_51 ty_v_5_3 ty_v_51_27
attribute [go_sem] ty_b_4 ty_c_22 ty_c_27 ty_c_51 ty_s_27 ty_s_51 ty_v_27_51 ty_v_5_3 ty_v_51_27

end Go.V
namespace Go.V
open Go Go.RowKit Go.Proofs

theorem mixedW : Tryd.prog.follows .mixedOrders = true := by kernel_rfl
/-- What a walk knows besides: here nothing. -/
theorem ft (p : Prop) : (True ∧ p) = p := true_and p
section
variable {f : FuncId} {fn : Func} {c : Code} {args : List D} {rs : List ResultVar}
theorem PB {K : D → Prop} (hf : Tryd.prog.funcs[f]? = some fn) (h : pvc Tryd.prog c (retC Tryd.prog rs K) (fun _ _ _ => False) (retC Tryd.prog rs K) (argD args) noS) (hb : fn.body = some c := by rfl)
    (hn : (fn.name == "runtime.NumGoroutine") = false := by kernel_rfl) (hfit : fits fn.ntmps c = true := by kernel_rfl) (hargs : args.length ≤ fn.ntmps := by exact Nat.le_of_ble_eq_true rfl) (hrs : fn.results.toList = rs := by rfl) : PC Tryd.prog f args K := PC.body mixedW hf hb hn hfit hargs hrs h
theorem PZB {K : D → Prop} (hf : Tryd.prog.funcs[f]? = some fn) (h : pvc Tryd.prog c (retF Tryd.prog rs K) (fun _ _ _ => False) (retF Tryd.prog rs K) (argD args) noS) (hb : fn.body = some c := by rfl)
    (hn : (fn.name == "runtime.NumGoroutine") = false := by kernel_rfl) (hfit : fits fn.ntmps c = true := by kernel_rfl) (hargs : args.length ≤ fn.ntmps := by exact Nat.le_of_ble_eq_true rfl) (hrs : fn.results.toList = rs := by rfl) : PC Tryd.prog f args K := PC.bodyF mixedW hf hb hn hfit hargs hrs h
variable {S : Store} {K : D → Store → Prop}
theorem PFB (hf : Tryd.prog.funcs[f]? = some fn) (h : pvc Tryd.prog c (retS Tryd.prog rs K) (fun _ _ _ => False) (retS Tryd.prog rs K) (argD (args.map (rnD .up))) (upS S)) (hb : fn.body = some c := by rfl)
    (hn : (fn.name == "runtime.NumGoroutine") = false := by kernel_rfl) (hfit : fits fn.ntmps c = true := by kernel_rfl) (hargs : args.length ≤ fn.ntmps := by exact Nat.le_of_ble_eq_true rfl) (hrs : fn.results.toList = rs := by rfl) : PFC Tryd.prog f args S K := PFC.body mixedW hf hb hn hfit hargs hrs h
theorem PRB (ρ σ : Nm → Nm) (hρ : ∀ k k', ρ k = ρ k' → k = k') (hf : Tryd.prog.funcs[f]? = some fn) (h : pvc Tryd.prog c (retR Tryd.prog rs ρ σ K) (fun _ _ _ => False) (retR Tryd.prog rs ρ σ K) (argD (args.map (rnD .up))) (upS S)) (hb : fn.body = some c := by rfl)
    (hn : (fn.name == "runtime.NumGoroutine") = false := by kernel_rfl) (hfit : fits fn.ntmps c = true := by kernel_rfl) (hargs : args.length ≤ fn.ntmps := by exact Nat.le_of_ble_eq_true rfl) (hrs : fn.results.toList = rs := by rfl) : PFC Tryd.prog f args S K := PFC.bodyR ρ σ hρ mixedW hf hb hn hfit hargs hrs h
end
/-! ### Plans, by the numbers of their regions -/
theorem dr (id : Nat) (t : PT) {N : DEnv → Store → Prop} {X : Nat → DEnv → Store → Prop} {R : DEnv → Store → Prop} {e : DEnv} {S : Store} {l : List Oper} (hp : planTok l.toArray t = true) (h : pdT Tryd.prog l N t e S) : pvc Tryd.prog (.region id l.toArray true) N X R e S := pv_drawT t hp h
theorem dl (id : Nat) (pl : List (Nat × Nat)) {N : DEnv → Store → Prop} {X : Nat → DEnv → Store → Prop} {R : DEnv → Store → Prop} {e : DEnv} {S : Store} {l : List Oper} (hp : planOk l.toArray pl = true) (h : runD Tryd.prog N (compD l pl) e S) : pvc Tryd.prog (.region id l.toArray true) N X R e S := pv_draw pl hp h

/-- Hidden. -/
structure Hd (Q : Prop) : Prop where
  out : Q
/-- A step that ends the walk. -/
theorem Z {P : Prop} (h : P := by simp -implicitDefEqProofs only [ft, go_sem, seval]) : P := h
theorem Zc {P : Prop} (h : P := by simp -implicitDefEqProofs only [ft, go_sem, seval] <;> rfl) : P := h
theorem Zr {P : Prop} (h : P := by first | rfl | (simp -implicitDefEqProofs only [ft, go_sem, seval] <;> rfl)) : P := h
/-- One step. -/
theorem W {P Q : Prop} (q : Q) (h : Hd Q → P := by
  intro qq
  first
  | (with_reducible first | refine pv_reg ?_ | refine d1 (by kernel_rfl) ?_ | refine d2 (by kernel_rfl) ?_ | refine d3 (by kernel_rfl) ?_ | refine d4 (by kernel_rfl) ?_ | refine d5 (by kernel_rfl) ?_ | refine d6 (by kernel_rfl) ?_)
  | simp -implicitDefEqProofs only [ft, go_sem, seval]
  | (with_reducible refine And.intro ?_ ?_; · first | assumption | omega | (unfold R64; omega))
  | refine call_is (by assumption) ?_
  | (refine ExtC_is ?_; simp -implicitDefEqProofs only [ft, go_sem, seval]; refine ext_is (by assumption) ?_)
  | (refine PFC.coe ?_; simp -implicitDefEqProofs only [ft, go_sem, seval]; refine call_is (by assumption) ?_)
  exact qq.out) : P := h ⟨q⟩
/-- One step, but no call. -/
theorem W0 {P Q : Prop} (q : Q) (h : Hd Q → P := by
  intro qq
  first
  | (with_reducible first | refine pv_reg ?_ | refine d1 (by kernel_rfl) ?_ | refine d2 (by kernel_rfl) ?_ | refine d3 (by kernel_rfl) ?_ | refine d4 (by kernel_rfl) ?_ | refine d5 (by kernel_rfl) ?_ | refine d6 (by kernel_rfl) ?_)
  | simp -implicitDefEqProofs only [ft, go_sem, seval]
  | (with_reducible refine And.intro ?_ ?_; · first | assumption | omega | (unfold R64; omega))
  exact qq.out) : P := h ⟨q⟩
/-- A whole walk. -/
theorem Wk {P : Prop} (h : P := by
  repeat' (first
  | (with_reducible first | refine pv_seq fun K hK => ?_ | refine pv_reg ?_ | refine d1 (by kernel_rfl) ?_ | refine d2 (by kernel_rfl) ?_ | refine d3 (by kernel_rfl) ?_ | refine d4 (by kernel_rfl) ?_ | refine d5 (by kernel_rfl) ?_ | refine d6 (by kernel_rfl) ?_)
  | ((with_reducible first | refine hK _ _ ?_ | (clear hK; refine hK _ _ ?_) | (clear hK; clear hK; refine hK _ _ ?_)); clear hK; try clear K)
  | simp -implicitDefEqProofs only [ft, go_sem, seval]
  | with_reducible intro b
  | (with_reducible refine And.intro ?_ ?_; · first | assumption | omega | (unfold R64; omega))
  | (with_reducible refine And.intro ?_ ?_)
  | refine call_is (by assumption) ?_
  | (refine ExtC_is ?_; simp -implicitDefEqProofs only [ft, go_sem, seval]; refine ext_is (by assumption) ?_)
  | (refine PFC.coe ?_; simp -implicitDefEqProofs only [ft, go_sem, seval]; refine call_is (by assumption) ?_)
  | rfl | assumption | omega | (unfold R64; omega))) : P := h
end Go.V
namespace Go.V
open Go Go.RowKit Go.Proofs

def eK (k : IntKind) (x : Nat) : List G := [.lit (.int k (x : Int))]
theorem eK_len {k : IntKind} {x : Nat} : (eK k x).length = 1 := rfl
theorem eK_len1 {k : IntKind} {xs : List Nat} : ∀ x ∈ xs, (eK k x).length = 1 := fun _ _ => rfl
theorem eK_map {k : IntKind} {x : Nat} : (eK k x).map D.g = [.g (.lit (.int k (x : Int)))] := rfl
/-- Words, digits of 32 bits, as data. -/
def W64 (xs : List Nat) : D := .g (eS (eK .u64) xs)
def W32 (xs : List Nat) : D := .g (eS (eK .u32) xs)
abbrev B64 (xs : List Nat) : Prop := ∀ x ∈ xs, x < 18446744073709551616
abbrev B32 (xs : List Nat) : Prop := ∀ x ∈ xs, x < 4294967296
def i64 (n : Int) : D := .g (.lit (.int .i64 n))
def bl (b : Bool) : D := .g (.lit (.bool b))

theorem getD_some {xs : List Nat} {i : Nat} (h : i < xs.length) : xs[i]? = some (xs.getD i 0) := by simp [List.getD, List.getElem?_eq_getElem h]
theorem get_lt {B : Nat} {xs : List Nat} (h : ∀ x ∈ xs, x < B) (hB : 0 < B) (i : Nat) : xs.getD i 0 < B := by
  by_cases hi : i < xs.length
  · simp only [List.getD, List.getElem?_eq_getElem hi, Option.getD_some]; exact h _ (List.getElem_mem hi)
  · simp only [List.getD, List.getElem?_eq_none (Nat.le_of_not_lt hi), Option.getD_none]; exact hB

theorem W64_l1 {i : Int} (h : 0 ≤ i) : D.g (.sl [[.lit (.int .u64 i)]]) = W64 [i.toNat] := by
  obtain ⟨n, rfl⟩ := Int.eq_ofNat_of_zero_le h; rfl
theorem W64_l2 {i j : Int} (h : 0 ≤ i) (h' : 0 ≤ j) : D.g (.sl [[.lit (.int .u64 i)], [.lit (.int .u64 j)]]) = W64 [i.toNat, j.toNat] := by
  obtain ⟨n, rfl⟩ := Int.eq_ofNat_of_zero_le h
  obtain ⟨m, rfl⟩ := Int.eq_ofNat_of_zero_le h'; rfl
theorem W32_l1 {i : Int} (h : 0 ≤ i) : D.g (.sl [[.lit (.int .u32 i)]]) = W32 [i.toNat] := by
  obtain ⟨n, rfl⟩ := Int.eq_ofNat_of_zero_le h; rfl
/-- A list of rows of words. -/
def eW (xs : List Nat) : List G := [eS (eK .u64) xs]
def WW (xss : List (List Nat)) : D := .g (eS eW xss)
theorem toG_W64 {xs : List Nat} : (W64 xs).toG = some (eS (eK .u64) xs) := rfl
theorem WW_1 {a : List Nat} : D.g (.sl [[eS (eK .u64) a]]) = WW [a] := rfl
theorem WW_2 {a b : List Nat} : D.g (.sl [[eS (eK .u64) a], [eS (eK .u64) b]]) = WW [a, b] := rfl
theorem WW_3 {a b c : List Nat} : D.g (.sl [[eS (eK .u64) a], [eS (eK .u64) b], [eS (eK .u64) c]]) = WW [a, b, c] := rfl
theorem lenD_WW {xss : List (List Nat)} {K : D → Prop} : lenD (WW xss) K = K (.g (.lit (.int .i64 xss.length))) := lenD_eS
theorem ixD_WW {xss : List (List Nat)} {i : Int} {K : D → Prop} : ixD 1 (WW xss) i K = (0 ≤ i ∧ i < xss.length ∧ K (.ip [eS (eK .u64) (xss.getD i.toNat [])])) := by
  rw [WW, ixD_eS, eq_iff_iff]
  constructor
  · rintro ⟨h0, h1, h2⟩
    refine ⟨h0, h1, ?_⟩
    have : xss[i.toNat]? = some (xss.getD i.toNat []) := by simp [List.getD, List.getElem?_eq_getElem (show i.toNat < xss.length by omega)]
    rw [this] at h2; exact h2.2
  · rintro ⟨h0, h1, h2⟩
    refine ⟨h0, h1, ?_⟩
    have : xss[i.toNat]? = some (xss.getD i.toNat []) := by simp [List.getD, List.getElem?_eq_getElem (show i.toNat < xss.length by omega)]
    rw [this]; exact ⟨rfl, h2⟩
theorem rS_w {k : IntKind} {x : Nat} : [[D.g (G.lit (Value.int k (x : Int)))]] = rS (eK k) [x] := rfl
section
variable {S : Store} {xs : List Nat}
theorem lenD_W64 {K : D → Prop} : lenD (W64 xs) K = K (.g (.lit (.int .i64 xs.length))) := lenD_eS
theorem lenD_W32 {K : D → Prop} : lenD (W32 xs) K = K (.g (.lit (.int .i64 xs.length))) := lenD_eS
theorem ixD_W64 {i : Int} {K : D → Prop} : ixD 1 (W64 xs) i K = (0 ≤ i ∧ i < xs.length ∧ K (.ip (eK .u64 (xs.getD i.toNat 0)))) := by
  rw [W64, ixD_eS, eq_iff_iff]
  constructor
  · rintro ⟨h0, h1, h2⟩
    refine ⟨h0, h1, ?_⟩
    rw [getD_some (by omega)] at h2; exact h2.2
  · rintro ⟨h0, h1, h2⟩
    refine ⟨h0, h1, ?_⟩
    rw [getD_some (by omega)]; exact ⟨rfl, h2⟩
theorem ixD_W32 {i : Int} {K : D → Prop} : ixD 1 (W32 xs) i K = (0 ≤ i ∧ i < xs.length ∧ K (.ip (eK .u32 (xs.getD i.toNat 0)))) := by
  rw [W32, ixD_eS, eq_iff_iff]
  constructor
  · rintro ⟨h0, h1, h2⟩
    refine ⟨h0, h1, ?_⟩
    rw [getD_some (by omega)] at h2; exact h2.2
  · rintro ⟨h0, h1, h2⟩
    refine ⟨h0, h1, ?_⟩
    rw [getD_some (by omega)]; exact ⟨rfl, h2⟩
theorem slD_W64 {lo hi mx : Option D} {K : D → Prop} : slD 1 (W64 xs) lo hi mx K = bndD lo 0 fun l => bndD hi xs.length fun h => 0 ≤ l ∧ l ≤ h ∧ h ≤ xs.length ∧ (mx.isSome = true → mx = hi) ∧ K (W64 ((xs.take h.toNat).drop l.toNat)) := slD_eS eK_len1
theorem slD_W32 {lo hi mx : Option D} {K : D → Prop} : slD 1 (W32 xs) lo hi mx K = bndD lo 0 fun l => bndD hi xs.length fun h => 0 ≤ l ∧ l ≤ h ∧ h ≤ xs.length ∧ (mx.isSome = true → mx = hi) ∧ K (W32 ((xs.take h.toNat).drop l.toNat)) := slD_eS eK_len1
theorem coeD_W64 {K : D → Store → Prop} : coeD (W64 xs) S K = K (W64 xs) S := rfl
theorem coeD_W32 {K : D → Store → Prop} : coeD (W32 xs) S K = K (W32 xs) S := rfl
theorem coeC_W64 {K : D → Store → Prop} : coeC (W64 xs) S K = K (W64 xs) S := rfl
theorem coeC_W32 {K : D → Store → Prop} : coeC (W32 xs) S K = K (W32 xs) S := rfl
theorem srcD_W64 {K : List (List D) → Prop} : srcD S 1 (W64 xs) K = K (rS (eK .u64) xs) := srcD_eS eK_len1
theorem srcD_W32 {K : List (List D) → Prop} : srcD S 1 (W32 xs) K = K (rS (eK .u32) xs) := srcD_eS eK_len1
theorem W64_nil : D.g (.sl []) = W64 [] := rfl
theorem W32_nil : D.g (.sl []) = W32 [] := rfl
theorem one_W64 : (W64 xs).one = true := rfl
theorem one_W32 : (W32 xs).one = true := rfl
theorem cells_W64 : (W64 xs).cells = [W64 xs] := rfl
theorem cells_W32 : (W32 xs).cells = [W32 xs] := rfl
end

attribute [go_sem ↓] lenD_W64 lenD_WW ixD_WW lenD_W32 ixD_W64 ixD_W32 slD_W64 slD_W32 srcD_W64 srcD_W32
attribute [go_sem] lenD_W64 lenD_WW ixD_WW lenD_W32 ixD_W64 ixD_W32 slD_W64 slD_W32 srcD_W64 srcD_W32 i64 bl coeD_W64 coeD_W32 coeC_W64 coeC_W32 W64_nil W32_nil one_W64 one_W32 cells_W64 cells_W32 eK_map
attribute [go_sem] pureLL pureL tg_g tg_nil Nat.zero_add Nat.le_refl W64_l1 W64_l2 W32_l1 toG_W64 WW_1 WW_2 WW_3

end Go.V

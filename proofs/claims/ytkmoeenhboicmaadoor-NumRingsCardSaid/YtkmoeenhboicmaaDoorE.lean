/- Calls that read and write what the caller owns: the callee's walk over the caller's blocks, under names of its own. No program in sight. -/
import Derived.Test.YtkmoeenhboicmaaDoorY
set_option linter.unusedSimpArgs false
set_option linter.unusedVariables false
namespace Go.V
open Go Go.RowKit

section
variable {P : Program} {I : CI} {H : Array Obj} {S : Store}

/-- The caller's blocks, as the callee names them; and back. -/
def upS (S : Store) : Store := fun | .up k => S k | _ => none
def dnS (S : Store) : Store := fun k => S (.up k)
theorem upS_up {k : Nm} : upS S (.up k) = S k := rfl
theorem upS_l {d : Nat} : upS S (.l d) = none := rfl
theorem dnS_upS : dnS (upS S) = S := rfl
theorem dnS_apply {k : Nm} : dnS S k = S (.up k) := rfl
theorem dnS_upd_up {k : Nm} {x : Option Blk} : dnS (updS S (.up k) x) = updS (dnS S) k x := by
  funext i; simp only [dnS, updS, Nm.up.injEq]
theorem dnS_upd_l {d : Nat} {x : Option Blk} : dnS (updS S (.l d) x) = dnS S := by
  funext i; simp only [dnS, updS, reduceCtorEq, if_false]
theorem updS_same {k : Nm} {x : Option Blk} (h : S k = x) : updS S k x = S := by
  funext i; simp only [updS]; split
  · rename_i hi; subst hi; exact h.symm
  · rfl
theorem updS_at {k : Nm} {x : Option Blk} : updS S k x k = x := if_pos rfl
theorem updS_ne {k i : Nm} {x : Option Blk} (h : i ≠ k) : updS S k x i = S i := if_neg h
theorem updS_updS {k : Nm} {x y : Option Blk} : updS (updS S k x) k y = updS S k y := by
  funext i; simp only [updS]; split <;> rfl

/-- Other names; what a value reads as does not turn on them. -/
def rnC (σ : Nm → Nm) : D → D
  | .own k b o n c s => .own (σ k) b o n c s
  | .ptr k b i off s => .ptr (σ k) b i off s
  | d => d
def rnD (σ : Nm → Nm) : D → D
  | .agg cs => .agg (cs.map (rnC σ))
  | .tup cs => .tup (cs.map (rnC σ))
  | .fn f a c => .fn f (a.map (rnC σ)) (c.map (rnC σ))
  | d => rnC σ d
theorem rnD_g {σ : Nm → Nm} {x : G} : rnD σ (.g x) = .g x := rfl
theorem rnD_nil {σ : Nm → Nm} : rnD σ .nil = .nil := rfl
theorem rnD_own {σ : Nm → Nm} {k : Nm} {b o n c s : Nat} : rnD σ (.own k b o n c s) = .own (σ k) b o n c s := rfl
theorem rnD_ptr {σ : Nm → Nm} {k : Nm} {b i off s : Nat} : rnD σ (.ptr k b i off s) = .ptr (σ k) b i off s := rfl
theorem rnD_ip {σ : Nm → Nm} {cs : List G} : rnD σ (.ip cs) = .ip cs := rfl
theorem rnD_agg {σ : Nm → Nm} {cs : List D} : rnD σ (.agg cs) = .agg (cs.map (rnC σ)) := rfl
theorem rnD_tup {σ : Nm → Nm} {cs : List D} : rnD σ (.tup cs) = .tup (cs.map (rnC σ)) := rfl
theorem rnD_fn {σ : Nm → Nm} {f : FuncId} {a c : List D} : rnD σ (.fn f a c) = .fn f (a.map (rnC σ)) (c.map (rnC σ)) := rfl
theorem rnC_g {σ : Nm → Nm} {x : G} : rnC σ (.g x) = .g x := rfl
theorem rnC_nil {σ : Nm → Nm} : rnC σ .nil = .nil := rfl
theorem rnC_own {σ : Nm → Nm} {k : Nm} {b o n c s : Nat} : rnC σ (.own k b o n c s) = .own (σ k) b o n c s := rfl
theorem rnC_ptr {σ : Nm → Nm} {k : Nm} {b i off s : Nat} : rnC σ (.ptr k b i off s) = .ptr (σ k) b i off s := rfl
theorem rnC_ip {σ : Nm → Nm} {cs : List G} : rnC σ (.ip cs) = .ip cs := rfl
theorem rnC_agg {σ : Nm → Nm} {cs : List D} : rnC σ (.agg cs) = .agg cs := rfl

theorem rnC_rd {σ : Nm → Nm} {d : D} {v : Value} (h : RdD I H d v) : RdD I H (rnC σ d) v := by
  cases h with
  | own k b o n cap s cur el fr h1 h2 h3 hb hs => exact .own _ b o n cap s cur el fr h1 h2 h3 hb hs
  | ptr k b i off s => exact .ptr _ b i off s
  | g h => exact .g h
  | nil => exact .nil
  | agg cs vs hl h => exact .agg cs vs hl h
  | tup cs vs hl h => exact .tup cs vs hl h
  | ip cs b o cur el fr f hb hc hr => exact .ip cs b o cur el fr f hb hc hr
  | fn f first caps vs us h1 h2 h3 h4 => exact .fn f first caps vs us h1 h2 h3 h4
  | junk v => exact .junk v
theorem rnC_rds {σ : Nm → Nm} {ds : List D} {vs : List Value} (h : RdL I H ds vs) : RdL I H (ds.map (rnC σ)) vs :=
  ⟨by simpa using h.len, fun j d u h1 h2 => by
    rw [List.getElem?_map] at h1
    cases hd : ds[j]? with
    | none => rw [hd] at h1; cases h1
    | some d' => rw [hd] at h1; injection h1 with h1; subst h1; exact rnC_rd (h.at_ j d' u hd h2)⟩
theorem rnD_rd {σ : Nm → Nm} {d : D} {v : Value} (h : RdD I H d v) : RdD I H (rnD σ d) v := by
  cases h with
  | agg cs vs hl h => exact RdD.ofL (rnC_rds ⟨hl, h⟩)
  | tup cs vs hl h => exact RdD.ofT (rnC_rds ⟨hl, h⟩)
  | fn f first caps vs us h1 h2 h3 h4 =>
    have a := rnC_rds (σ := σ) ⟨h1, h3⟩
    have b := rnC_rds (σ := σ) ⟨h2, h4⟩
    exact .fn f _ _ vs us a.len b.len a.at_ b.at_
  | own k b o n cap s cur el fr h1 h2 h3 hb hs => exact .own _ b o n cap s cur el fr h1 h2 h3 hb hs
  | ptr k b i off s => exact .ptr _ b i off s
  | g h => exact .g h
  | nil => exact .nil
  | ip cs b o cur el fr f hb hc hr => exact .ip cs b o cur el fr f hb hc hr
  | junk v => exact .junk v
theorem rnD_rds {σ : Nm → Nm} {ds : List D} {vs : List Value} (h : RdL I H ds vs) : RdL I H (ds.map (rnD σ)) vs :=
  ⟨by simpa using h.len, fun j d u h1 h2 => by
    rw [List.getElem?_map] at h1
    cases hd : ds[j]? with
    | none => rw [hd] at h1; cases h1
    | some d' => rw [hd] at h1; injection h1 with h1; subst h1; exact rnD_rd (h.at_ j d' u hd h2)⟩

theorem Rel.ren {w : World} (h : Rel I S w) (ρ : Nm → Nm) (hρ : ∀ k k', ρ k = ρ k' → k = k') : Rel I (fun k => S (ρ k)) w :=
  ⟨h.gi, fun k B hk => h.has _ B hk, fun k k' B B' hk hk' hb => hρ _ _ (h.inj _ _ B B' hk hk' hb)⟩
theorem Rel.up {w : World} (h : Rel I S w) : Rel I (upS S) w := by
  refine ⟨h.gi, fun k B hk => ?_, fun k k' B B' hk hk' hb => ?_⟩
  · cases k with | up k => exact h.has k B hk | _ => cases hk
  · cases k with
    | up k => cases k' with | up k' => exact congrArg Nm.up (h.inj k k' B B' hk hk' hb) | _ => cases hk'
    | _ => cases hk
theorem Stp.dn {I' : CI} {S' : Store} {w w' : World} (h : Stp I (upS S) w I' S' w') (ρ : Nm → Nm) : Stp I S w I' (fun k => S' (ρ k)) w' where
  os := h.os
  tape := h.tape
  output := h.output
  size := h.size
  sub := h.sub
  new := fun b j hb => by
    rcases h.new b j hb with h1 | h1 | ⟨k, B, h1, h2⟩
    · exact .inl h1
    · exact .inr (.inl h1)
    · cases k with | up k => exact .inr (.inr ⟨k, B, h1, h2⟩) | _ => cases h1
  ev := h.ev
  frame := fun b hb hn => h.frame b hb fun k B hk => by
    cases k with | up k => exact hn k B hk | _ => cases hk
  live := fun k' B' hk => by
    rcases h.live _ B' hk with h1 | ⟨k, B, h1, h2⟩
    · exact .inl h1
    · cases k with | up k => exact .inr ⟨k, B, h1, h2⟩ | _ => cases h1

/-- Where a call ends that worked on the caller's blocks: what it answers reads as data. -/
def retS (P : Program) (rs : List ResultVar) (K : D → Store → Prop) (e : DEnv) (S : Store) : Prop := resD P e S rs fun ds => coeDs ds S fun ds' S' => oneD (fun d => K d (dnS S')) ds'
/-- The same, what it answers in blocks that the caller may still change: ρ tells which of the callee's blocks the caller keeps, σ how it names them. -/
def retR (P : Program) (rs : List ResultVar) (ρ σ : Nm → Nm) (K : D → Store → Prop) (e : DEnv) (S : Store) : Prop := resD P e S rs fun ds => oneD (fun d => K (rnD σ d) (fun k => S (ρ k))) ds

theorem PFC.body (hm : P.follows .mixedOrders = true) {f : FuncId} {fn : Func} {c : Code} {args : List D} {rs : List ResultVar} {K : D → Store → Prop} (hf : P.funcs[f]? = some fn) (hb : fn.body = some c)
    (hn : (fn.name == "runtime.NumGoroutine") = false) (hfit : fits fn.ntmps c = true) (hargs : args.length ≤ fn.ntmps) (hrs : fn.results.toList = rs)
    (h : pvc P c (retS P rs K) (fun _ _ _ => False) (retS P rs K) (argD (args.map (rnD .up))) (upS S)) : PFC P f args S K := by
  subst hrs
  intro w I vs hR hv
  refine body_wp hm hf hb hn hfit (by rw [hv.len]; exact hargs) (rnD_rds hv) hR.up h ?_
  rintro e' a w' hr ⟨I1, S1, e, s1, r1, he, hret⟩
  obtain ⟨v, us, ds, h1, h2, h3, h4⟩ := results_rd r1 hr he hret
  obtain ⟨I2, S2, ds2, s2, r2, q2, h5⟩ := coeDs_sound ds r1 h3 h4
  obtain ⟨d, h6, h7⟩ := oneD_rd q2 h5
  exact ⟨v, h1, I2, dnS S2, d, (s1.trans s2).dn .up, r2.ren .up fun _ _ h => by injection h, h2 ▸ h6, h7⟩

theorem PFC.bodyR (ρ σ : Nm → Nm) (hρ : ∀ k k', ρ k = ρ k' → k = k') (hm : P.follows .mixedOrders = true) {f : FuncId} {fn : Func} {c : Code} {args : List D} {rs : List ResultVar} {K : D → Store → Prop} (hf : P.funcs[f]? = some fn) (hb : fn.body = some c)
    (hn : (fn.name == "runtime.NumGoroutine") = false) (hfit : fits fn.ntmps c = true) (hargs : args.length ≤ fn.ntmps) (hrs : fn.results.toList = rs)
    (h : pvc P c (retR P rs ρ σ K) (fun _ _ _ => False) (retR P rs ρ σ K) (argD (args.map (rnD .up))) (upS S)) : PFC P f args S K := by
  subst hrs
  intro w I vs hR hv
  refine body_wp hm hf hb hn hfit (by rw [hv.len]; exact hargs) (rnD_rds hv) hR.up h ?_
  rintro e' a w' hr ⟨I1, S1, e, s1, r1, he, hret⟩
  obtain ⟨v, us, ds, h1, h2, h3, h4⟩ := results_rd r1 hr he hret
  obtain ⟨d, h6, h7⟩ := oneD_rd h3 h4
  exact ⟨v, h1, I1, _, rnD σ d, s1.dn ρ, r1.ren ρ hρ, rnD_rd (h2 ▸ h6), h7⟩

/-- A new block's name for the caller: the callee's block `.l j`. -/
def keepN (nm : Nm) (j : Nat) : Nm → Nm := fun k => if k = nm then .l j else .up k
def tellN (nm : Nm) (j : Nat) : Nm → Nm := fun | .up k => k | .l i => if i = j then nm else .l i | k => k
theorem keepN_inj (nm : Nm) (j : Nat) : ∀ k k', keepN nm j k = keepN nm j k' → k = k' := by
  intro k k' h
  unfold keepN at h
  split at h <;> split at h
  · rename_i a b; rw [a, b]
  · cases h
  · cases h
  · injection h
theorem keepN_self {nm : Nm} {j : Nat} : keepN nm j nm = .l j := if_pos rfl
theorem keepN_ne {nm k : Nm} {j : Nat} (h : k ≠ nm) : keepN nm j k = .up k := if_neg h
theorem tellN_l {nm : Nm} {j : Nat} : tellN nm j (.l j) = nm := if_pos rfl

theorem slD_own {k : Nm} {b o n cap s' s : Nat} {lo hi mx : Option D} {K : D → Prop} : slD s (.own k b o n cap s') lo hi mx K = (bndD lo 0 fun l => bndD hi n fun h => 0 ≤ l ∧ l ≤ h ∧ h ≤ n ∧ mx = none ∧ s' = s ∧ (0 < l → l < h) ∧ K (.own k b (o + l.toNat) (h.toNat - l.toNat) (cap - l.toNat) s)) := rfl

end

attribute [go_sem ↓] slD_own
attribute [go_sem] slD_own upS_up upS_l dnS_upS dnS_apply dnS_upd_up dnS_upd_l rnD_g rnD_nil rnD_own rnD_ptr rnD_ip rnD_agg rnD_tup rnD_fn rnC_g rnC_nil rnC_own rnC_ptr rnC_ip rnC_agg

end Go.V

/- Values as data: what a Go value reads as, the memory that a call owns, under names. No program in sight. -/
import Derived.Test.YtkmoeenhboicmaaDoorW
import Derived.Lib.TrailingZeros
set_option linter.unusedSimpArgs false
set_option linter.unusedVariables false
namespace Go.V
open Go Go.RowKit

/-- Names of blocks: a local one, a result of a call, one that was handed in. -/
inductive Nm where
  | l (d : Nat)
  | r (d j : Nat)
  | up (n : Nm)
  deriving DecidableEq

/-- What one cell reads as, for ever. -/
inductive G where
  | lit (v : Value)
  | sl (els : List (List G))

/-- What a slot reads as. -/
inductive D where
  | g (x : G)
  | nil
  | agg (cs : List D)
  | tup (ds : List D)
  | own (k : Nm) (b o n cap s : Nat)
  | ptr (k : Nm) (b i off s : Nat)
  | ip (cs : List G)
  | fn (f : FuncId) (first caps : List D)
  | junk

def D.one : D → Bool
  | .agg _ | .tup _ | .junk => false
  | _ => true

abbrev CI := Nat → Nat → Prop

inductive RdG (I : CI) (H : Array Obj) : G → Value → Prop
  | lit (v : Value) (h : v.oneCell' = true) : RdG I H (.lit v) v
  | nil : RdG I H (.sl []) (.slice none 0 0)
  | sl (els : List (List G)) (b off n cap s : Nat) (cur : Array Value) (el : TypeId) (fr : Nat × Nat) (f : Nat → Nat → Value) (hn : n = els.length) (h1 : els.length ≤ cap) (h2 : els.length ≤ 140737488355328)
      (hb : H[b]? = some (.cells cur el fr)) (hl : ∀ es ∈ els, es.length = s)
      (hc : ∀ (i : Nat) (es : List G) (j : Nat) (g : G), els[i]? = some es → es[j]? = some g → I b (off + i * s + j) ∧ cur[off + i * s + j]? = some (f i j))
      (hr : ∀ (i : Nat) (es : List G) (j : Nat) (g : G), els[i]? = some es → es[j]? = some g → RdG I H g (f i j)) : RdG I H (.sl els) (.slice (some ⟨b, off, none⟩) n cap)

inductive RdD (I : CI) (H : Array Obj) : D → Value → Prop
  | g {x : G} {v : Value} (h : RdG I H x v) : RdD I H (.g x) v
  | nil : RdD I H .nil (.slice none 0 0)
  | agg (cs : List D) (vs : List Value) (hl : vs.length = cs.length) (h : ∀ (j : Nat) (d : D) (u : Value), cs[j]? = some d → vs[j]? = some u → RdD I H d u) : RdD I H (.agg cs) (.agg vs.toArray)
  | tup (cs : List D) (vs : List Value) (hl : vs.length = cs.length) (h : ∀ (j : Nat) (d : D) (u : Value), cs[j]? = some d → vs[j]? = some u → RdD I H d u) : RdD I H (.tup cs) (.tuple vs.toArray)
  | own (k : Nm) (b o n cap s : Nat) (cur : Array Value) (el : TypeId) (fr : Nat × Nat) (h1 : n ≤ cap) (h2 : cap ≤ maxLen) (h3 : n ≤ 140737488355328) (hb : H[b]? = some (.cells cur el fr)) (hs : (o + cap) * s ≤ cur.size) :
      RdD I H (.own k b o n cap s) (.slice (some ⟨b, o * s, none⟩) n cap)
  | ptr (k : Nm) (b i off s : Nat) : RdD I H (.ptr k b i off s) (.pointer (some ⟨b, i * s + off, none⟩))
  | ip (cs : List G) (b o : Nat) (cur : Array Value) (el : TypeId) (fr : Nat × Nat) (f : Nat → Value) (hb : H[b]? = some (.cells cur el fr))
      (hc : ∀ (j : Nat) (g : G), cs[j]? = some g → I b (o + j) ∧ cur[o + j]? = some (f j)) (hr : ∀ (j : Nat) (g : G), cs[j]? = some g → RdG I H g (f j)) : RdD I H (.ip cs) (.pointer (some ⟨b, o, none⟩))
  | fn (f : FuncId) (first caps : List D) (vs us : List Value) (h1 : vs.length = first.length) (h2 : us.length = caps.length) (h3 : ∀ (j : Nat) (d : D) (u : Value), first[j]? = some d → vs[j]? = some u → RdD I H d u)
      (h4 : ∀ (j : Nat) (d : D) (u : Value), caps[j]? = some d → us[j]? = some u → RdD I H d u) : RdD I H (.fn f first caps) (.func (.func f) vs.toArray us.toArray)
  | junk (v : Value) : RdD I H .junk v

/-- Lists, one by one. -/
structure RdL (I : CI) (H : Array Obj) (ds : List D) (vs : List Value) : Prop where
  len : vs.length = ds.length
  at_ : ∀ (j : Nat) (d : D) (u : Value), ds[j]? = some d → vs[j]? = some u → RdD I H d u

theorem RdL.nil {I : CI} {H : Array Obj} : RdL I H [] [] := ⟨rfl, fun j d u h => by simp at h⟩
theorem RdL.cons {I : CI} {H : Array Obj} {d : D} {v : Value} {ds : List D} {vs : List Value} (h : RdD I H d v) (hs : RdL I H ds vs) : RdL I H (d :: ds) (v :: vs) := by
  refine ⟨by simp [hs.len], fun j d' u h1 h2 => ?_⟩
  cases j with
  | zero => simp at h1 h2; subst h1; subst h2; exact h
  | succ j => exact hs.at_ j d' u (by simpa using h1) (by simpa using h2)
theorem RdL.uncons {I : CI} {H : Array Obj} {d : D} {ds : List D} {vs : List Value} (h : RdL I H (d :: ds) vs) : ∃ v r, vs = v :: r ∧ RdD I H d v ∧ RdL I H ds r := by
  cases vs with
  | nil => have := h.len; simp at this
  | cons v r => exact ⟨v, r, rfl, h.at_ 0 d v rfl rfl, by have := h.len; simpa using this, fun j d' u h1 h2 => h.at_ (j + 1) d' u (by simpa using h1) (by simpa using h2)⟩
theorem RdL.unnil {I : CI} {H : Array Obj} {vs : List Value} (h : RdL I H [] vs) : vs = [] := List.eq_nil_of_length_eq_zero h.len
theorem RdL.app {I : CI} {H : Array Obj} : ∀ {a b : List D} {x y : List Value}, RdL I H a x → RdL I H b y → RdL I H (a ++ b) (x ++ y)
  | [], b, x, y, h, k => by rw [h.unnil]; exact k
  | d :: a, b, x, y, h, k => by obtain ⟨v, r, rfl, h1, h2⟩ := h.uncons; exact .cons h1 (h2.app k)

theorem RdD.ofL {I : CI} {H : Array Obj} {cs : List D} {vs : List Value} (h : RdL I H cs vs) : RdD I H (.agg cs) (.agg vs.toArray) := .agg cs vs h.len h.at_
theorem RdD.ofT {I : CI} {H : Array Obj} {cs : List D} {vs : List Value} (h : RdL I H cs vs) : RdD I H (.tup cs) (.tuple vs.toArray) := .tup cs vs h.len h.at_
theorem RdD.agg_inv {I : CI} {H : Array Obj} {cs : List D} {v : Value} (h : RdD I H (.agg cs) v) : ∃ vs, v = .agg vs.toArray ∧ RdL I H cs vs := by
  cases h with | agg _ vs hl h => exact ⟨vs, rfl, hl, h⟩
theorem RdD.tup_inv {I : CI} {H : Array Obj} {cs : List D} {v : Value} (h : RdD I H (.tup cs) v) : ∃ vs, v = .tuple vs.toArray ∧ RdL I H cs vs := by
  cases h with | tup _ vs hl h => exact ⟨vs, rfl, hl, h⟩
theorem RdD.g_inv {I : CI} {H : Array Obj} {x : G} {v : Value} (h : RdD I H (.g x) v) : RdG I H x v := by cases h with | g h => exact h
theorem RdG.lit_inv {I : CI} {H : Array Obj} {x v : Value} (h : RdG I H (.lit x) v) : v = x := by cases h with | lit _ h => rfl
theorem RdD.lit_inv {I : CI} {H : Array Obj} {x v : Value} (h : RdD I H (.g (.lit x)) v) : v = x := h.g_inv.lit_inv
theorem RdD.nil_inv {I : CI} {H : Array Obj} {v : Value} (h : RdD I H .nil v) : v = .slice none 0 0 := by cases h; rfl
theorem RdD.ptr_inv {I : CI} {H : Array Obj} {k : Nm} {b i off s : Nat} {v : Value} (h : RdD I H (.ptr k b i off s) v) : v = .pointer (some ⟨b, i * s + off, none⟩) := by cases h; rfl
theorem RdG.one {I : CI} {H : Array Obj} {x : G} {v : Value} (h : RdG I H x v) : v.oneCell' = true := by cases h <;> first | assumption | rfl
theorem RdD.oneV {I : CI} {H : Array Obj} {d : D} {v : Value} (h : RdD I H d v) (h1 : d.one = true) : v.oneCell' = true := by
  cases h <;> first | rfl | (exact RdG.one (by assumption)) | (simp [D.one] at h1)

/-- Heaps: blocks stay blocks of their size; what is in I stays. -/
def HEv (I : CI) (H H' : Array Obj) : Prop := ∀ (b : Nat) (cur : Array Value) (el : TypeId) (fr : Nat × Nat), H[b]? = some (.cells cur el fr) →
  ∃ cur' : Array Value, H'[b]? = some (.cells cur' el fr) ∧ cur'.size = cur.size ∧ ∀ j, I b j → cur'[j]? = cur[j]?

theorem HEv.refl (I : CI) (H : Array Obj) : HEv I H H := fun b cur el fr h => ⟨cur, h, rfl, fun _ _ => rfl⟩

theorem RdG.mono {I I' : CI} {H H' : Array Obj} (hI : ∀ b j, I b j → I' b j) (hE : HEv I H H') {x : G} {v : Value} (h : RdG I H x v) : RdG I' H' x v := by
  induction h with
  | lit v h => exact .lit v h
  | nil => exact .nil
  | sl els b off n cap s cur el fr f hn h1 h2 hb hl hc hr ih =>
    obtain ⟨cur', hb', _, hk⟩ := hE b cur el fr hb
    exact .sl els b off n cap s cur' el fr f hn h1 h2 hb' hl (fun i es j g he hg => ⟨hI _ _ (hc i es j g he hg).1, by rw [hk _ (hc i es j g he hg).1]; exact (hc i es j g he hg).2⟩) ih

theorem RdD.mono {I I' : CI} {H H' : Array Obj} (hI : ∀ b j, I b j → I' b j) (hE : HEv I H H') {d : D} {v : Value} (h : RdD I H d v) : RdD I' H' d v := by
  induction h with
  | g h => exact .g (h.mono hI hE)
  | nil => exact .nil
  | agg cs vs hl h ih => exact .agg cs vs hl ih
  | tup cs vs hl h ih => exact .tup cs vs hl ih
  | own k b o n cap s cur el fr h1 h2 h3 hb hs =>
    obtain ⟨cur', hb', hz, _⟩ := hE b cur el fr hb
    exact .own k b o n cap s cur' el fr h1 h2 h3 hb' (by rw [hz]; exact hs)
  | ptr k b i off s => exact .ptr k b i off s
  | ip cs b o cur el fr f hb hc hr =>
    obtain ⟨cur', hb', _, hk⟩ := hE b cur el fr hb
    exact .ip cs b o cur' el fr f hb' (fun j g hg => ⟨hI _ _ (hc j g hg).1, by rw [hk _ (hc j g hg).1]; exact (hc j g hg).2⟩) (fun j g hg => (hr j g hg).mono hI hE)
  | fn f first caps vs us h1 h2 h3 h4 ih3 ih4 => exact .fn f first caps vs us h1 h2 ih3 ih4
  | junk v => exact .junk v

theorem RdL.mono {I I' : CI} {H H' : Array Obj} (hI : ∀ b j, I b j → I' b j) (hE : HEv I H H') {ds : List D} {vs : List Value} (h : RdL I H ds vs) : RdL I' H' ds vs :=
  ⟨h.len, fun j d u h1 h2 => (h.at_ j d u h1 h2).mono hI hE⟩

/-! ### The memory that a call owns -/

structure Blk where
  b : Nat
  s : Nat
  p : Nat
  els : List (List D)

abbrev Store := Nm → Option Blk
def updS (S : Store) (k : Nm) (x : Option Blk) : Store := fun i => if i = k then x else S i
theorem updS_apply (S : Store) (k : Nm) (x : Option Blk) (i : Nm) : updS S k x i = if i = k then x else S i := rfl

structure Has (I : CI) (H : Array Obj) (B : Blk) : Prop where
  mk ::
  ex : ∃ cur el, H[B.b]? = some (.cells cur el (0, 0)) ∧ B.els.length * B.s ≤ cur.size ∧
    (∀ (i : Nat) (es : List D), B.els[i]? = some es → es.length = B.s) ∧
    (∀ (i : Nat) (es : List D) (j : Nat) (d : D), B.els[i]? = some es → es[j]? = some d → ∃ u, cur[i * B.s + j]? = some u ∧ RdD I H d u) ∧
    (∀ j, I B.b j → j < B.p * B.s) ∧ B.p ≤ B.els.length

/-- The tables at package level that the code reads: where, what. -/
def gtabs : List (Nat × List G) := [(0, (List.range 64).map fun i => .lit (.int .u8 ((Lib.deBruijn64tab.getD i 0 : Nat) : Int)))]

structure GI (I : CI) (w : World) : Prop where
  old : ∀ b j, I b j → b < w.heap.size
  gl : ∀ p ∈ gtabs, RdD I w.heap (.ip p.2) (.pointer (some ⟨p.1, 0, none⟩))
theorem GI.mono {I I' : CI} {w w' : World} (h : GI I w) (hI : ∀ b j, I b j → I' b j) (hE : HEv I w.heap w'.heap) (ho : ∀ b j, I' b j → b < w'.heap.size) : GI I' w' := ⟨ho, fun p hp => (h.gl p hp).mono hI hE⟩

structure Rel (I : CI) (S : Store) (w : World) : Prop where
  gi : GI I w
  has : ∀ k B, S k = some B → Has I w.heap B
  inj : ∀ k k' B B', S k = some B → S k' = some B' → B.b = B'.b → k = k'

theorem Rel.old {I : CI} {S : Store} {w : World} (h : Rel I S w) : ∀ b j, I b j → b < w.heap.size := h.gi.old
theorem Rel.lt {I : CI} {S : Store} {w : World} (h : Rel I S w) {k : Nm} {B : Blk} (hk : S k = some B) : B.b < w.heap.size := by
  obtain ⟨cur, el, hb, _⟩ := (h.has k B hk).ex
  exact (Array.getElem?_eq_some_iff.1 hb).1

/-- From one state to a later one. -/
structure Stp (I : CI) (S : Store) (w : World) (I' : CI) (S' : Store) (w' : World) : Prop where
  os : w'.os = w.os
  tape : w'.tape = w.tape
  output : w'.output = w.output
  size : w.heap.size ≤ w'.heap.size
  sub : ∀ b j, I b j → I' b j
  new : ∀ b j, I' b j → I b j ∨ w.heap.size ≤ b ∨ ∃ k B, S k = some B ∧ B.b = b
  ev : HEv I w.heap w'.heap
  frame : ∀ b, b < w.heap.size → (∀ k B, S k = some B → B.b ≠ b) → w'.heap[b]? = w.heap[b]?
  live : ∀ k' B', S' k' = some B' → w.heap.size ≤ B'.b ∨ ∃ k B, S k = some B ∧ B.b = B'.b

theorem Stp.refl (I : CI) (S : Store) (w : World) : Stp I S w I S w :=
  ⟨rfl, rfl, rfl, Nat.le_refl _, fun _ _ h => h, fun _ _ h => .inl h, HEv.refl _ _, fun _ _ _ => rfl, fun k B h => .inr ⟨k, B, h, rfl⟩⟩

theorem HEv.trans {I I' : CI} {A B C : Array Obj} (hI : ∀ b j, I b j → I' b j) (h : HEv I A B) (k : HEv I' B C) : HEv I A C := by
  intro b cur el fr hb
  obtain ⟨c1, h1, h2, h3⟩ := h b cur el fr hb
  obtain ⟨c2, k1, k2, k3⟩ := k b c1 el fr h1
  exact ⟨c2, k1, k2.trans h2, fun j hj => (k3 j (hI _ _ hj)).trans (h3 j hj)⟩

theorem Stp.trans {I I' I'' : CI} {S S' S'' : Store} {w w' w'' : World} (h : Stp I S w I' S' w') (k : Stp I' S' w' I'' S'' w'') : Stp I S w I'' S'' w'' where
  os := k.os.trans h.os
  tape := k.tape.trans h.tape
  output := k.output.trans h.output
  size := Nat.le_trans h.size k.size
  sub := fun b j hb => k.sub b j (h.sub b j hb)
  new := fun b j hb => by
    rcases k.new b j hb with h1 | h1 | ⟨n, B, h1, h2⟩
    · exact h.new b j h1
    · exact .inr (.inl (Nat.le_trans h.size h1))
    · rcases h.live n B h1 with h3 | ⟨m, C, h3, h4⟩
      · exact .inr (.inl (h2 ▸ h3))
      · exact .inr (.inr ⟨m, C, h3, h4.trans h2⟩)
  ev := h.ev.trans h.sub k.ev
  frame := fun b hb hn => by
    refine (k.frame b (Nat.lt_of_lt_of_le hb h.size) (fun n B hB e => ?_)).trans (h.frame b hb hn)
    rcases h.live n B hB with h3 | ⟨m, C, h3, h4⟩
    · omega
    · exact hn m C h3 (h4.trans e)
  live := fun n B hB => by
    rcases k.live n B hB with h3 | ⟨m, C, h3, h4⟩
    · exact .inl (Nat.le_trans h.size h3)
    · rcases h.live m C h3 with h5 | ⟨q, E, h5, h6⟩
      · exact .inl (h4 ▸ h5)
      · exact .inr ⟨q, E, h5, h6.trans h4⟩

/-- A world that only drew. -/
theorem Stp.drew {I : CI} {S : Store} {w0 w : World} {I0 : CI} {S0 : Store} (h : Stp I0 S0 w0 I S w) : Stp I0 S0 w0 I S w.drew :=
  ⟨h.os, h.tape, h.output, h.size, h.sub, h.new, h.ev, h.frame, h.live⟩
theorem Rel.drew {I : CI} {S : Store} {w : World} (h : Rel I S w) : Rel I S w.drew := ⟨⟨h.gi.old, h.gi.gl⟩, h.has, h.inj⟩

/-- Old memory as it was: no block of the caller's is turned. -/
theorem Stp.of_ext {I I' : CI} {S : Store} {w w' : World} (h : Ext w w') (hI : ∀ b j, I b j → I' b j) (hn : ∀ b j, I' b j → I b j ∨ w.heap.size ≤ b) (ho : ∀ b j, I b j → b < w.heap.size) : Stp I S w I' S w' where
  os := h.os
  tape := h.tape
  output := h.output
  size := h.size
  sub := hI
  new := fun b j hb => (hn b j hb).imp id .inl
  ev := fun b cur el fr hb => ⟨cur, h.at hb, rfl, fun _ _ => rfl⟩
  frame := fun b hb _ => h.block b hb
  live := fun k B hk => .inr ⟨k, B, hk, rfl⟩

theorem hev_ext {I : CI} {w w' : World} (h : Ext w w') : HEv I w.heap w'.heap := fun b cur el fr hb => ⟨cur, h.at hb, rfl, fun _ _ => rfl⟩

theorem Has.mono {I I' : CI} {H H' : Array Obj} {B : Blk} (h : Has I H B) (hI : ∀ b j, I b j → I' b j) (hb : ∀ j, I' B.b j → I B.b j) (hE : HEv I H H') (hk : H'[B.b]? = H[B.b]?) : Has I' H' B := by
  obtain ⟨cur, el, h1, h2, h3, h4, h5, h6⟩ := h.ex
  refine ⟨cur, el, by rw [hk]; exact h1, h2, h3, fun i es j d he hd => ?_, fun j hj => h5 j (hb j hj), h6⟩
  obtain ⟨u, hu, hr⟩ := h4 i es j d he hd
  exact ⟨u, hu, hr.mono hI hE⟩

/-- The caller's memory behind a step that turned none of it. -/
theorem Rel.ext {I I' : CI} {S : Store} {w w' : World} (h : Rel I S w) (hE : Ext w w') (hI : ∀ b j, I b j → I' b j) (hn : ∀ b j, I' b j → I b j ∨ w.heap.size ≤ b) (ho : ∀ b j, I' b j → b < w'.heap.size) : Rel I' S w' where
  gi := h.gi.mono hI (hev_ext hE) ho
  has := fun k B hk => by
    refine (h.has k B hk).mono hI (fun j hj => ?_) (hev_ext hE) (hE.block _ (h.lt hk))
    rcases hn _ _ hj with h1 | h1
    · exact h1
    · have := h.lt hk; omega
  inj := h.inj

theorem Rel.sub {I : CI} {S S' : Store} {w : World} (h : Rel I S w) (f : Nm → Nm) (hf : ∀ k B, S' k = some B → S (f k) = some B) (hi : ∀ k k' B B', S' k = some B → S' k' = some B' → f k = f k' → k = k') : Rel I S' w where
  gi := h.gi
  has := fun k B hk => h.has (f k) B (hf k B hk)
  inj := fun k k' B B' hk hk' hb => hi k k' B B' hk hk' (h.inj _ _ B B' (hf k B hk) (hf k' B' hk') hb)

/-- A new block of the call's own. -/
theorem Rel.alloc {I : CI} {S : Store} {w w' : World} (h : Rel I S w) {b : Nat} {el : TypeId} {xs : List Value} (hN : New w b el xs w') {s : Nat} {els : List (List D)} (hz : els.length * s ≤ xs.length)
    (hl : ∀ (i : Nat) (es : List D), els[i]? = some es → es.length = s) (hc : ∀ (i : Nat) (es : List D) (j : Nat) (d : D), els[i]? = some es → es[j]? = some d → ∃ u, xs[i * s + j]? = some u ∧ RdD I w.heap d u) (k : Nm) (p : Nat) (hp : p ≤ els.length) :
    Rel I (updS S k (some ⟨b, s, p, els⟩)) w' ∧ Stp I S w I (updS S k (some ⟨b, s, p, els⟩)) w' := by
  have hb : b = w.heap.size := hN.num
  have ho : ∀ q B, S q = some B → B.b ≠ b := fun q B hq e => by have := h.lt hq; omega
  have hI : ∀ b' j, I b' j → b' ≠ b := fun b' j hj e => by have := h.old b' j hj; omega
  have hR := h.ext (I' := I) hN.ext (fun _ _ h => h) (fun _ _ h => .inl h) (fun b' j hj => Nat.lt_of_lt_of_le (h.old b' j hj) hN.ext.size)
  refine ⟨⟨hR.gi, fun q B hq => ?_, fun q q' B B' hq hq' hbb => ?_⟩, ⟨hN.ext.os, hN.ext.tape, hN.ext.output, hN.ext.size, fun _ _ h => h, fun _ _ h => .inl h, hev_ext hN.ext, fun b' hb' _ => hN.ext.block b' hb', fun q B hq => ?_⟩⟩
  · unfold updS at hq
    split at hq
    · injection hq with hq; subst hq
      have hrow := hN.row
      unfold Row at hrow
      refine ⟨xs.toArray, el, hrow, by simpa using hz, hl, fun i es j d he hd => ?_, fun j hj => (hI _ _ hj rfl).elim, hp⟩
      obtain ⟨u, hu, hr⟩ := hc i es j d he hd
      exact ⟨u, by simpa using hu, hr.mono (fun _ _ h => h) (hev_ext hN.ext)⟩
    · exact hR.has q B hq
  · unfold updS at hq hq'
    split at hq <;> split at hq'
    · rename_i e1 e2; rw [e1, e2]
    · injection hq with hq; subst hq; exact (ho q' B' hq' hbb.symm).elim
    · injection hq' with hq'; subst hq'; exact (ho q B hq hbb).elim
    · exact h.inj q q' B B' hq hq' hbb
  · unfold updS at hq
    split at hq
    · injection hq with hq; subst hq; exact .inl (by simp [hb])
    · exact .inr ⟨q, B, hq, rfl⟩

/-- A block of the call's own is written; what is frozen of it stays. -/
theorem Rel.write {I : CI} {S : Store} {w w' : World} (h : Rel I S w) {k : Nm} {B : Blk} (hk : S k = some B) {xs ys : List Value} {el : TypeId} (hrow : Row w B.b el xs) (hrow' : Row w' B.b el ys) (hU : Upd B.b w w') (hlen : ys.length = xs.length)
    {els : List (List D)} (hpl : B.p ≤ els.length) (hz : els.length * B.s ≤ ys.length) (hl : ∀ (i : Nat) (es : List D), els[i]? = some es → es.length = B.s) (hfr : ∀ j, j < B.p * B.s → ys[j]? = xs[j]?)
    (hc : ∀ (i : Nat) (es : List D) (j : Nat) (d : D), els[i]? = some es → es[j]? = some d → ∃ u, ys[i * B.s + j]? = some u ∧ RdD I w.heap d u) :
    Rel I (updS S k (some ⟨B.b, B.s, B.p, els⟩)) w' ∧ Stp I S w I (updS S k (some ⟨B.b, B.s, B.p, els⟩)) w' := by
  obtain ⟨cur, el0, h1, _, _, _, h5, _⟩ := (h.has k B hk).ex
  have hE : HEv I w.heap w'.heap := by
    intro b c e fr hb
    by_cases hbb : b = B.b
    · subst hbb
      unfold Row at hrow hrow'
      rw [hrow] at hb
      injection hb with hb
      injection hb with e1 e2 e3
      subst e1; subst e2; subst e3
      exact ⟨ys.toArray, hrow', by simpa using hlen, fun j hj => by simpa using hfr j (h5 j hj)⟩
    · exact ⟨c, by rw [hU.block b hbb]; exact hb, rfl, fun _ _ => rfl⟩
  have hI : ∀ b j, I b j → I b j := fun _ _ h => h
  refine ⟨⟨h.gi.mono hI hE (fun b j hj => by rw [hU.size]; exact h.old b j hj), fun q C hq => ?_, fun q q' C C' hq hq' hbb => ?_⟩,
    ⟨hU.os, hU.tape, hU.output, by rw [hU.size]; exact Nat.le_refl _, hI, fun _ _ h => .inl h, hE, fun b _ hn => hU.block b (fun e => hn k B hk e.symm), fun q C hq => ?_⟩⟩
  · unfold updS at hq
    split at hq
    · injection hq with hq; subst hq
      unfold Row at hrow'
      refine ⟨ys.toArray, el, hrow', by simpa using hz, hl, fun i es j d he hd => ?_, h5, hpl⟩
      obtain ⟨u, hu, hr⟩ := hc i es j d he hd
      exact ⟨u, by simpa using hu, hr.mono hI hE⟩
    · rename_i hne
      refine (h.has q C hq).mono hI (fun j hj => hj) hE (hU.block _ (fun e => hne (h.inj q k C B hq hk e)))
  · unfold updS at hq hq'
    split at hq <;> split at hq'
    · rename_i e1 e2; rw [e1, e2]
    · rename_i e1 _; injection hq with hq; subst hq; rw [e1]; exact h.inj k q' B C' hk hq' hbb
    · rename_i _ e2; injection hq' with hq'; subst hq'; rw [e2]; exact h.inj q k C B hq hk hbb
    · exact h.inj q q' C C' hq hq' hbb
  · unfold updS at hq
    split at hq
    · injection hq with hq; subst hq; exact .inr ⟨k, B, hk, rfl⟩
    · exact .inr ⟨q, C, hq, rfl⟩

/-! ### What is frozen -/

def D.toG : D → Option G
  | .g x => some x
  | .nil => some (.sl [])
  | _ => none
def pureL : List D → Option (List G)
  | [] => some []
  | d :: r => match d.toG, pureL r with
    | some x, some l => some (x :: l)
    | _, _ => none
def pureLL : List (List D) → Option (List (List G))
  | [] => some []
  | d :: r => match pureL d, pureLL r with
    | some x, some l => some (x :: l)
    | _, _ => none
def gl (l : List (List G)) : List (List D) := l.map (List.map D.g)
theorem pureL_map (l : List G) : pureL (l.map D.g) = some l := by
  induction l with
  | nil => rfl
  | cons a r ih => simp [pureL, D.toG, ih]
theorem pureLL_gl (l : List (List G)) : pureLL (gl l) = some l := by
  induction l with
  | nil => rfl
  | cons a r ih => simp only [gl, List.map_cons, pureLL, pureL_map]; rw [show List.map (List.map D.g) r = gl r from rfl, ih]

theorem RdD.toG {I : CI} {H : Array Obj} {d : D} {x : G} {v : Value} (h : RdD I H d v) (hx : d.toG = some x) : RdG I H x v := by
  cases h <;> simp only [D.toG] at hx <;> first | (cases hx; done) | skip
  case g h => injection hx with hx; subst hx; exact h
  case nil => injection hx with hx; subst hx; exact .nil

theorem pureL_len : ∀ {l : List D} {m : List G}, pureL l = some m → m.length = l.length
  | [], m, h => by simp [pureL] at h; subst h; rfl
  | d :: r, m, h => by
    simp only [pureL] at h
    split at h
    · rename_i x l hx hl; injection h with h; subst h; simp [pureL_len hl]
    · cases h
theorem pureL_at : ∀ {l : List D} {m : List G}, pureL l = some m → ∀ {j : Nat} {g : G}, m[j]? = some g → ∃ d, l[j]? = some d ∧ d.toG = some g
  | [], m, h, j, g, hg => by simp [pureL] at h; subst h; simp at hg
  | d :: r, m, h, j, g, hg => by
    simp only [pureL] at h
    split at h
    · rename_i x l hx hl
      injection h with h; subst h
      cases j with
      | zero => simp at hg; subst hg; exact ⟨d, rfl, hx⟩
      | succ j => obtain ⟨d', h1, h2⟩ := pureL_at hl (by simpa using hg); exact ⟨d', by simpa using h1, h2⟩
    · cases h
theorem pureLL_len : ∀ {l : List (List D)} {m : List (List G)}, pureLL l = some m → m.length = l.length
  | [], m, h => by simp [pureLL] at h; subst h; rfl
  | d :: r, m, h => by
    simp only [pureLL] at h
    split at h
    · rename_i x l hx hl; injection h with h; subst h; simp [pureLL_len hl]
    · cases h
theorem pureLL_at : ∀ {l : List (List D)} {m : List (List G)}, pureLL l = some m → ∀ {j : Nat} {g : List G}, m[j]? = some g → ∃ d, l[j]? = some d ∧ pureL d = some g
  | [], m, h, j, g, hg => by simp [pureLL] at h; subst h; simp at hg
  | d :: r, m, h, j, g, hg => by
    simp only [pureLL] at h
    split at h
    · rename_i x l hx hl
      injection h with h; subst h
      cases j with
      | zero => simp at hg; subst hg; exact ⟨d, rfl, hx⟩
      | succ j => obtain ⟨d', h1, h2⟩ := pureLL_at hl (by simpa using hg); exact ⟨d', by simpa using h1, h2⟩
    · cases h

/-- The first m elements of a block of the call's own are frozen: then they read as data for ever. -/
def frzI (I : CI) (B : Blk) (m : Nat) : CI := fun b j => I b j ∨ (b = B.b ∧ j < m * B.s)

theorem hev_I {I I' : CI} {H : Array Obj} : HEv I H H := HEv.refl I H

theorem Rel.freeze {I : CI} {S : Store} {w : World} (h : Rel I S w) {k : Nm} {B : Blk} (hk : S k = some B) (m : Nat) (hm : m ≤ B.els.length) :
    Rel (frzI I B m) (updS S k (some ⟨B.b, B.s, max B.p m, B.els⟩)) w ∧ Stp I S w (frzI I B m) (updS S k (some ⟨B.b, B.s, max B.p m, B.els⟩)) w := by
  have hI : ∀ b j, I b j → frzI I B m b j := fun b j h => .inl h
  have hb := h.lt hk
  refine ⟨⟨h.gi.mono hI (HEv.refl _ _) (fun b j hj => ?_), fun q C hq => ?_, fun q q' C C' hq hq' hbb => ?_⟩, ⟨rfl, rfl, rfl, Nat.le_refl _, hI, fun b j hj => ?_, HEv.refl _ _, fun _ _ _ => rfl, fun q C hq => ?_⟩⟩
  · rcases hj with hj | ⟨rfl, _⟩
    · exact h.old b j hj
    · exact hb
  · unfold updS at hq
    split at hq
    · injection hq with hq; subst hq
      obtain ⟨cur, el, h1, h2, h3, h4, h5, h6⟩ := (h.has k B hk).ex
      refine ⟨cur, el, h1, h2, h3, fun i es j d he hd => ?_, fun j hj => ?_, Nat.max_le.2 ⟨h6, hm⟩⟩
      · obtain ⟨u, hu, hr⟩ := h4 i es j d he hd; exact ⟨u, hu, hr.mono hI (HEv.refl _ _)⟩
      · have hle : ∀ a, a ≤ max B.p m → a * B.s ≤ max B.p m * B.s := fun a ha => Nat.mul_le_mul_right _ ha
        rcases hj with hj | ⟨_, hj⟩
        · exact Nat.lt_of_lt_of_le (h5 j hj) (hle _ (Nat.le_max_left _ _))
        · exact Nat.lt_of_lt_of_le hj (hle _ (Nat.le_max_right _ _))
    · rename_i hne
      refine (h.has q C hq).mono hI (fun j hj => ?_) (HEv.refl _ _) rfl
      rcases hj with hj | ⟨e, _⟩
      · exact hj
      · exact (hne (h.inj q k C B hq hk e)).elim
  · unfold updS at hq hq'
    split at hq <;> split at hq'
    · rename_i e1 e2; rw [e1, e2]
    · rename_i e1 _; injection hq with hq; subst hq; rw [e1]; exact h.inj k q' B C' hk hq' hbb
    · rename_i _ e2; injection hq' with hq'; subst hq'; rw [e2]; exact h.inj q k C B hq hk hbb
    · exact h.inj q q' C C' hq hq' hbb
  · rcases hj with hj | ⟨rfl, _⟩
    · exact .inl hj
    · exact .inr (.inr ⟨k, B, hk, rfl⟩)
  · unfold updS at hq
    split at hq
    · injection hq with hq; subst hq; exact .inr ⟨k, B, hk, rfl⟩
    · exact .inr ⟨q, C, hq, rfl⟩

/-- A handle of what is frozen reads as data. -/
theorem Rel.thaw {I : CI} {S : Store} {w : World} (h : Rel I S w) {k : Nm} {b o n cap s p : Nat} {els : List (List D)} (hk : S k = some ⟨b, s, p, els⟩) {v : Value} (hv : RdD I w.heap (.own k b o n cap s) v) {gs : List (List G)}
    (hg : pureLL ((els.drop o).take n) = some gs) (hn : o + n ≤ els.length) : RdG (frzI I ⟨b, s, p, els⟩ (o + n)) w.heap (.sl gs) v := by
  cases hv with
  | own _ _ _ _ _ _ cur0 el0 fr0 h1 h2 hn47 hb0 hs =>
    obtain ⟨cur, el, hb, hz, hl, hc, _⟩ := (h.has k _ hk).ex
    simp only at hb hz hl hc
    have hgl : gs.length = n := by rw [pureLL_len hg]; simp; omega
    have hat : ∀ (i : Nat) (es : List G), gs[i]? = some es → ∃ ds, els[o + i]? = some ds ∧ pureL ds = some es ∧ i < n := by
      intro i es he
      obtain ⟨ds, h3, h4⟩ := pureLL_at hg he
      have hi : i < n := by rw [← hgl]; exact (List.getElem?_eq_some_iff.1 he).1
      rw [List.getElem?_take, if_pos hi, List.getElem?_drop] at h3
      exact ⟨ds, h3, h4, hi⟩
    have hcell : ∀ (i : Nat) (es : List G) (j : Nat) (g : G), gs[i]? = some es → es[j]? = some g → ∃ u, cur[o * s + i * s + j]? = some u ∧ RdG I w.heap g u ∧ o * s + i * s + j < (o + n) * s := by
      intro i es j g he hj
      obtain ⟨ds, h3, h4, hi⟩ := hat i es he
      obtain ⟨d, h5, h6⟩ := pureL_at h4 hj
      obtain ⟨u, hu, hr⟩ := hc (o + i) ds j d h3 h5
      rw [Nat.add_mul] at hu
      refine ⟨u, hu, hr.toG h6, ?_⟩
      have hjs : j < s := by rw [← hl _ _ h3]; exact (List.getElem?_eq_some_iff.1 h5).1
      have h7 : (o + i + 1) * s ≤ (o + n) * s := Nat.mul_le_mul_right s (by omega)
      rw [Nat.add_mul, Nat.add_mul] at h7
      omega
    refine .sl gs b (o * s) n cap s cur el (0, 0) (fun i j => (cur[o * s + i * s + j]?).getD undef) hgl.symm (by omega) (by omega) hb (fun es he => ?_) (fun i es j g he hj => ?_) (fun i es j g he hj => ?_)
    · obtain ⟨i, hi⟩ := List.mem_iff_getElem?.1 he
      obtain ⟨ds, h3, h4, _⟩ := hat i es hi
      rw [pureL_len h4]; exact hl _ _ h3
    · obtain ⟨u, hu, _, hlt⟩ := hcell i es j g he hj
      exact ⟨.inr ⟨rfl, hlt⟩, by rw [hu]; rfl⟩
    · obtain ⟨u, hu, hr, _⟩ := hcell i es j g he hj
      rw [hu]
      exact hr.mono (fun _ _ h => .inl h) (HEv.refl _ _)

end Go.V

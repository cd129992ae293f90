/- Operations over values as data: those that compute. No program in sight. -/
import Derived.Test.YtkmoeenhboicmaaDoorP
set_option linter.unusedSimpArgs false
set_option linter.unusedVariables false
namespace Go.V
open Go Go.RowKit

def cellD : Value → D
  | .slice a n c => if a.isNone && n == 0 && c == 0 then .nil else .junk
  | .agg _ => .junk
  | .tuple _ => .junk
  | v => .g (.lit v)
def ofVal : Value → D
  | .agg cs => .agg (cs.toList.map cellD)
  | .tuple vs => if vs.size = 0 then .tup [] else .junk
  | v => cellD v

theorem cellD_rd (I : CI) (H : Array Obj) (v : Value) : RdD I H (cellD v) v := by
  cases v <;> simp only [cellD] <;> first | exact .junk _ | exact .g (.lit _ rfl) | skip
  rename_i a n c
  cases a with
  | none => by_cases h : n = 0 ∧ c = 0
            · obtain ⟨rfl, rfl⟩ := h; exact .nil
            · rw [if_neg (by simpa using h)]; exact .junk _
  | some a => exact .junk _

theorem cellsD_rd (I : CI) (H : Array Obj) : ∀ l : List Value, RdL I H (l.map cellD) l
  | [] => .nil
  | v :: r => .cons (cellD_rd I H v) (cellsD_rd I H r)

theorem ofVal_rd (I : CI) (H : Array Obj) (v : Value) : RdD I H (ofVal v) v := by
  cases v <;> simp only [ofVal] <;> first | exact cellD_rd I H _ | skip
  · rename_i cs
    have := RdD.ofL (cellsD_rd I H cs.toList)
    simpa using this
  · rename_i vs
    split
    · rename_i h
      have : vs = #[] := Array.eq_empty_of_size_eq_zero h
      subst this
      exact RdD.ofT .nil
    · exact .junk _

abbrev DEnv := Nat → D
def updD (e : DEnv) (d : Nat) (v : D) : DEnv := fun i => bif i == d then v else e i
theorem updD_apply (e : DEnv) (d : Nat) (v : D) (i : Nat) : updD e d v i = bif i == d then v else e i := rfl
def putD (e : DEnv) : Option Nat → D → DEnv
  | some d, v => updD e d v
  | none, _ => e
theorem putD_some (e : DEnv) (d : Nat) (v : D) : putD e (some d) v = updD e d v := rfl
theorem putD_none (e : DEnv) (v : D) : putD e none v = e := rfl
def pev (e : DEnv) : Operand → D
  | .tmp t => e t
  | .const v => ofVal v
  | .global g => .g (.lit (.pointer (some ⟨g, 0, none⟩)))
  | .func f => .fn f [] []
theorem pev_tmp (e : DEnv) (t : Nat) : pev e (.tmp t) = e t := rfl
theorem pev_const (e : DEnv) (v : Value) : pev e (.const v) = ofVal v := rfl
theorem pev_func (e : DEnv) (f : Nat) : pev e (.func f) = .fn f [] [] := rfl

def EnvR (I : CI) (H : Array Obj) (e : DEnv) (e' : Env) : Prop := ∀ i, RdD I H (e i) (e' i)

section
variable {P : Program} {I : CI} {H : Array Obj} {e : DEnv} {e' : Env} {w : World}

theorem EnvR.mono {I' : CI} {H' : Array Obj} (hI : ∀ b j, I b j → I' b j) (hE : HEv I H H') (h : EnvR I H e e') : EnvR I' H' e e' := fun i => (h i).mono hI hE
theorem EnvR.put (h : EnvR I H e e') {d : D} {v : Value} (hd : RdD I H d v) : ∀ (dst : Option Nat), EnvR I H (putD e dst d) (V.put e' dst v)
  | none => h
  | some t => fun i => by
    show RdD I H (bif i == t then d else e i) (bif i == t then v else e' i)
    cases i == t
    · exact h i
    · exact hd
theorem EnvR.ev (h : EnvR I H e e') (x : Operand) : RdD I H (pev e x) (V.ev e' x) := by
  cases x with
  | tmp t => exact h t
  | const v => exact ofVal_rd I H v
  | global g => exact .g (.lit _ rfl)
  | func f => exact .fn f [] [] [] [] rfl rfl (fun j d u h => by simp at h) (fun j d u h => by simp at h)
theorem EnvR.evs (h : EnvR I H e e') : ∀ l : List Operand, RdL I H (l.map (pev e)) (l.map (V.ev e'))
  | [] => .nil
  | x :: r => .cons (h.ev x) (EnvR.evs h r)

/-! ### Literals -/

def litD (d : D) (K : Value → Prop) : Prop := match d with | .g (.lit v) => K v | _ => False
theorem litD_g {v : Value} {K : Value → Prop} : litD (.g (.lit v)) K = K v := rfl
theorem litD_cases {d : D} {K : Value → Prop} (h : litD d K) : ∃ v, d = .g (.lit v) ∧ K v := by
  unfold litD at h; split at h
  · exact ⟨_, rfl, h⟩
  · exact h.elim

def one' (K : D → Prop) : Value → Prop := fun v => v.oneCell' = true ∧ K (.g (.lit v))

theorem arith_one {k : IntKind} {n : Int} {K : D → Prop} (h : arith k n (fun v => K (.g (.lit v)))) : arith k n (one' K) := by
  cases k <;> first | exact ⟨rfl, h⟩ | exact ⟨h.1, rfl, h.2⟩
theorem intV_one {op : BinOp} {k k' : IntKind} {a b : Int} {K : D → Prop} (h : intV op k a k' b (fun v => K (.g (.lit v)))) : intV op k a k' b (one' K) := by
  cases op <;> simp only [intV] at h ⊢ <;> first
    | exact ⟨h.1, arith_one h.2⟩ | exact ⟨h.1, h.2.1, arith_one h.2.2⟩ | exact ⟨h.1, rfl, h.2⟩ | exact ⟨h.1, h.2.1, rfl, h.2.2⟩
theorem pbin_one {op : BinOp} {t : TypeId} {x y : Value} {K : D → Prop} (h : pbin P op t x y (fun v => K (.g (.lit v)))) : pbin P op t x y (one' K) := by
  unfold pbin at h ⊢
  split at h
  · exact intV_one h
  · refine ⟨h.1, ?_⟩
    have h2 := h.2
    cases op <;> first | exact h2.elim | exact ⟨rfl, h2⟩
  · exact h.elim
theorem unV_one {op : UnOp} {x : Value} {K : D → Prop} (h : unV op x (fun v => K (.g (.lit v)))) : unV op x (one' K) := by
  unfold unV at h ⊢
  split at h
  · exact ⟨rfl, h⟩
  · exact arith_one h
  · exact h.elim
theorem pconv_one {s d : TypeId} {x : Value} {K : D → Prop} (h : pconv P s d x (fun v => K (.g (.lit v)))) : pconv P s d x (one' K) := by
  unfold pconv at h ⊢
  split at h
  · exact ⟨h.1, rfl, h.2⟩
  · exact h.elim
theorem one_rd {K : D → Prop} {v : Value} (h : one' K v) : ∃ d, RdD I H d v ∧ K d := ⟨_, .g (.lit v h.1), h.2⟩

/-! ### Slices -/

/-- The size of a slice type's elements, in cells. -/
def slS (P : Program) (t : TypeId) : Option Nat := match P.underlying t with
  | some (.slice el) => (P.info? el).map (·.size)
  | _ => none
theorem slS_run {t : TypeId} {s : Nat} (h : slS P t = some s) : ∃ el, P.underlying t = some (.slice el) ∧ ∀ w, (sizeOf el).run P w = .ok s w := by
  unfold slS at h
  split at h
  · rename_i el hu
    cases hi : P.info? el with
    | none => rw [hi] at h; cases h
    | some i => rw [hi] at h; injection h with h; exact ⟨el, hu, fun w => by simp [sizeOf, info_parts' hi, h]⟩
  · cases h

def idxD (d : D) (K : Int → Prop) : Prop := match d with | .g (.lit (.int _ i)) => K i | _ => False
theorem idxD_lit {k : IntKind} {i : Int} {K : Int → Prop} : idxD (.g (.lit (.int k i))) K = K i := rfl
theorem idxD_cases {d : D} {K : Int → Prop} (h : idxD d K) : ∃ k i, d = .g (.lit (.int k i)) ∧ K i := by
  unfold idxD at h; split at h
  · exact ⟨_, _, rfl, h⟩
  · exact h.elim

def optG (o : Option (List G)) (K : List G → Prop) : Prop := match o with | some x => K x | none => False
theorem optG_some {x : List G} {K : List G → Prop} : optG (some x) K = K x := rfl

/-- The address of an element. -/
def ixD (s : Nat) (d : D) (i : Int) (K : D → Prop) : Prop := match d with
  | .own k b o n _ s' => s' = s ∧ 0 ≤ i ∧ i < n ∧ K (.ptr k b (o + i.toNat) 0 s)
  | .g (.sl els) => 0 ≤ i ∧ i < els.length ∧ optG els[i.toNat]? (fun es => es.length = s ∧ K (.ip es))
  | _ => False
theorem ixD_own {s s' n o b cap : Nat} {k : Nm} {i : Int} {K : D → Prop} : ixD s (.own k b o n cap s') i K = (s' = s ∧ 0 ≤ i ∧ i < n ∧ K (.ptr k b (o + i.toNat) 0 s)) := rfl
theorem ixD_sl {s : Nat} {els : List (List G)} {i : Int} {K : D → Prop} : ixD s (.g (.sl els)) i K = (0 ≤ i ∧ i < els.length ∧ optG els[i.toNat]? (fun es => es.length = s ∧ K (.ip es))) := rfl

theorem ix_any {t s : Nat} (T : slS P t = some s) {b off n cap : Nat} {k : IntKind} {i : Int} (h0 : 0 ≤ i) (h1 : i < n) :
    IxA P t (.slice (some ⟨b, off, none⟩) n cap) (.int k i) ⟨b, off + i.toNat * s, none⟩ := by
  intro w
  obtain ⟨el, hu, hs⟩ := slS_run T
  unfold Does Instr.indexAt
  simp [asIntOf, run_underlying hu, hs, h0, h1, addr_add]

theorem ixD_sound {t s : Nat} (T : slS P t = some s) {d : D} {v : Value} (hd : RdD I H d v) {k : IntKind} {i : Int} {K : D → Prop} (h : ixD s d i K) :
    ∃ ad, IxA P t v (.int k i) ad ∧ ∃ d', RdD I H d' (.pointer (some ad)) ∧ K d' := by
  unfold ixD at h
  split at h
  · rename_i k' b o n cap s'
    obtain ⟨rfl, h0, h1, hk⟩ := h
    cases hd with
    | own _ _ _ _ _ _ cur el fr h2 h3 h47 hb hs =>
      refine ⟨_, ix_any T h0 h1, _, ?_, hk⟩
      have e : o * s' + i.toNat * s' = (o + i.toNat) * s' + 0 := by rw [Nat.add_mul, Nat.add_zero]
      rw [e]; exact .ptr ..
  · rename_i els
    obtain ⟨h0, h1, h⟩ := h
    unfold optG at h
    split at h
    · rename_i es he
      obtain ⟨hes, hk⟩ := h
      cases hd.g_inv with
      | nil => simp at he
      | sl _ b off n cap s' cur el fr f hn h2 h3 hb hl hc hr =>
        have hs' : s' = s := by rw [← hes]; exact (hl es (List.mem_of_getElem? he)).symm
        subst hs'
        subst hn
        refine ⟨_, ix_any T h0 h1, _, .ip es b _ cur el fr (f i.toNat) hb (fun j g hg => hc i.toNat es j g he hg) (fun j g hg => hr i.toNat es j g he hg), hk⟩
    · exact h.elim
  · exact h.elim

def lenD (d : D) (K : D → Prop) : Prop := match d with
  | .own _ _ _ n _ _ => K (.g (.lit (.int .i64 n)))
  | .g (.sl els) => K (.g (.lit (.int .i64 els.length)))
  | .nil => K (.g (.lit (.int .i64 0)))
  | _ => False
theorem lenD_own {s n o b cap : Nat} {k : Nm} {K : D → Prop} : lenD (.own k b o n cap s) K = K (.g (.lit (.int .i64 n))) := rfl
theorem lenD_sl {els : List (List G)} {K : D → Prop} : lenD (.g (.sl els)) K = K (.g (.lit (.int .i64 els.length))) := rfl
theorem lenD_nil {K : D → Prop} : lenD .nil K = K (.g (.lit (.int .i64 0))) := rfl
theorem lenD_sound {d : D} {v : Value} (hd : RdD I H d v) {K : D → Prop} (h : lenD d K) : ∃ n : Nat, LenIs v n ∧ K (.g (.lit (.int .i64 n))) := by
  unfold lenD at h
  split at h
  · cases hd; exact ⟨_, .lit, h⟩
  · rename_i els
    cases hd.g_inv with
    | nil => exact ⟨0, .lit, h⟩
    | sl _ b off n cap s' cur el fr f hn h2 h3 hb hl hc hr => subst hn; exact ⟨_, .lit, h⟩
  · cases hd; exact ⟨0, .lit, h⟩
  · exact h.elim

/-- Bounds of a slice expression. -/
def bndD (d : Option D) (dflt : Int) (K : Int → Prop) : Prop := match d with | some d => idxD d K | none => K dflt
theorem bndD_some {d : D} {x : Int} {K : Int → Prop} : bndD (some d) x K = idxD d K := rfl
theorem bndD_none {x : Int} {K : Int → Prop} : bndD none x K = K x := rfl

def slD (s : Nat) (d : D) (lo hi mx : Option D) (K : D → Prop) : Prop := match d with
  | .g (.sl els) => bndD lo 0 fun l => bndD hi els.length fun h => 0 ≤ l ∧ l ≤ h ∧ h ≤ els.length ∧ (mx.isSome = true → mx = hi) ∧ (0 < l → ∀ es ∈ els, es.length = s) ∧ K (.g (.sl ((els.take h.toNat).drop l.toNat)))
  | .own k b o n cap s' => bndD lo 0 fun l => bndD hi n fun h => 0 ≤ l ∧ l ≤ h ∧ h ≤ n ∧ mx = none ∧ s' = s ∧ (0 < l → l < h) ∧ K (.own k b (o + l.toNat) (h.toNat - l.toNat) (cap - l.toNat) s)
  | .nil => bndD lo 0 fun l => bndD hi 0 fun h => l = 0 ∧ h = 0 ∧ (mx.isSome = true → mx = hi) ∧ K .nil
  | _ => False

theorem bnd_run {k : IntKind} {l : Int} {y : Nat} {c : BoundsCode} (h0 : 0 ≤ l) (h1 : l ≤ y) (w : World) : (Instr.sliceBound (.int k l) y c).run P w = .ok l.toNat w := by
  simp [Instr.sliceBound, asIntOf, h0, h1]

theorem sl_any {t s : Nat} (T : slS P t = some s) {a : Option Addr} {n cap : Nat} {lo hi mx : Option Value} {l h m : Nat} (hlo : (lo = none ∧ l = 0) ∨ ∃ k, lo = some (.int k l)) (hhi : (hi = none ∧ h = n ∧ mx = none) ∨ ∃ k, hi = some (.int k h))
    (hmx : (mx = none ∧ m = cap) ∨ ∃ k, mx = some (.int k m)) (h1 : l ≤ h) (h2 : h ≤ m) (h3 : m ≤ cap) :
    SlA P t (.slice a n cap) lo hi mx (.slice (if m = l then a else a.map (·.add (l * s))) (h - l) (m - l)) := by
  intro w
  obtain ⟨el, hu, hs⟩ := slS_run T
  unfold Does Instr.sliceAt Instr.slice
  rcases hlo with ⟨rfl, rfl⟩ | ⟨kl, rfl⟩ <;> rcases hhi with ⟨rfl, rfl, rfl⟩ | ⟨kh, rfl⟩ <;> rcases hmx with ⟨hm, rfl⟩ | ⟨km, hm⟩ <;>
    first
    | (simp at hm; done)
    | (try subst hm
       have e1 : ∀ (k : IntKind) (x y : Nat) (c : BoundsCode) (w : World), x ≤ y → (Instr.sliceBound (.int k (x : Int)) y c).run P w = .ok x w := fun k x y c w hxy => by
         have := bnd_run (P := P) (k := k) (l := (x : Int)) (y := y) (c := c) (by omega) (by omega) w
         simpa using this
       simp [run_underlying hu, Instr.sliceBounds, hs, e1, h1, h2, h3])

theorem bndD_sound {o : Option D} {vo : Option Value} (hv : ∀ d, o = some d → ∃ v, vo = some v ∧ RdD I H d v) (hn : o = none → vo = none) {x : Int} {K : Int → Prop} (h : bndD o x K) :
    (o = none ∧ vo = none ∧ K x) ∨ ∃ k l, vo = some (.int k l) ∧ o = some (.g (.lit (.int k l))) ∧ K l := by
  cases o with
  | none => exact .inl ⟨rfl, hn rfl, h⟩
  | some d =>
    obtain ⟨k, i, rfl, hk⟩ := idxD_cases (show idxD d K from h)
    obtain ⟨v, rfl, hr⟩ := hv _ rfl
    rw [hr.lit_inv]
    exact .inr ⟨k, i, rfl, rfl, hk⟩

theorem slD_sound {t s : Nat} (T : slS P t = some s) {d : D} {v : Value} (hd : RdD I H d v) {lo hi mx : Option D} {vlo vhi vmx : Option Value}
    (hlo : ∀ d, lo = some d → ∃ v, vlo = some v ∧ RdD I H d v) (nlo : lo = none → vlo = none) (hhi : ∀ d, hi = some d → ∃ v, vhi = some v ∧ RdD I H d v) (nhi : hi = none → vhi = none)
    (hmx : ∀ d, mx = some d → ∃ v, vmx = some v ∧ RdD I H d v) (nmx : mx = none → vmx = none) {K : D → Prop} (hyp : slD s d lo hi mx K) :
    ∃ u, SlA P t v vlo vhi vmx u ∧ ∃ d', RdD I H d' u ∧ K d' := by
  -- the bounds as numbers
  have low : ∀ {x : Int} {Q : Int → Prop}, bndD lo x Q → ∃ l : Int, Q l ∧ ((vlo = none ∧ l = x) ∨ ∃ k, vlo = some (.int k l)) := by
    intro x Q hq
    rcases bndD_sound hlo nlo hq with ⟨_, h1, h2⟩ | ⟨k, l, h1, _, h2⟩
    · exact ⟨x, h2, .inl ⟨h1, rfl⟩⟩
    · exact ⟨l, h2, .inr ⟨k, h1⟩⟩
  have key : ∀ (a : Option Addr) (n cap : Nat) (l h : Int), v = .slice a n cap → n ≤ cap → 0 ≤ l → l ≤ h → h ≤ n → ((vlo = none ∧ l = 0) ∨ ∃ k, vlo = some (.int k l)) →
      ((hi = none ∧ vhi = none ∧ h = n) ∨ ∃ k, vhi = some (.int k h) ∧ hi = some (.g (.lit (.int k h)))) → (mx.isSome = true → mx = hi) →
      ∃ m : Nat, h ≤ m ∧ m ≤ cap ∧ (mx = none → m = cap) ∧ SlA P t v vlo vhi vmx (.slice (if m = l.toNat then a else a.map (·.add (l.toNat * s))) (h.toNat - l.toNat) (m - l.toNat)) := by
    intro a n cap l' h' hv hnc h0 h1 h2 hl hh hm
    obtain ⟨l, rfl⟩ := Int.eq_ofNat_of_zero_le h0
    obtain ⟨h, rfl⟩ := Int.eq_ofNat_of_zero_le (by omega : 0 ≤ h')
    subst hv
    cases mx with
    | none =>
      refine ⟨cap, by omega, Nat.le_refl _, fun _ => rfl, ?_⟩
      rw [nmx rfl]
      refine sl_any T (l := l) (h := h) (hl.imp (fun x => ⟨x.1, by omega⟩) id) ?_ (.inl ⟨rfl, rfl⟩) (by omega) (by omega) (Nat.le_refl _)
      rcases hh with ⟨_, h3, h4⟩ | ⟨k, h3, _⟩
      · exact .inl ⟨h3, by omega, rfl⟩
      · exact .inr ⟨k, h3⟩
    | some m =>
      have hmh := hm rfl
      rcases hh with ⟨h3, _⟩ | ⟨k, h3, h4⟩
      · rw [h3] at hmh; cases hmh
      · rw [h4] at hmh
        injection hmh with hmh
        obtain ⟨vm, h5, h6⟩ := hmx m rfl
        subst hmh
        rw [h6.lit_inv] at h5
        refine ⟨h, by omega, by omega, fun e => (by cases e), ?_⟩
        refine sl_any T (l := l) (h := h) (m := h) (hl.imp (fun x => ⟨x.1, by omega⟩) id) (.inr ⟨k, h3⟩) (.inr ⟨k, h5⟩) (by omega) (Nat.le_refl _) (by omega)
  have hib : ∀ {x : Int} {Q : Int → Prop}, bndD hi x Q → ∃ h : Int, Q h ∧ ((hi = none ∧ vhi = none ∧ h = x) ∨ ∃ k, vhi = some (.int k h) ∧ hi = some (.g (.lit (.int k h)))) := by
    intro x Q hq
    rcases bndD_sound hhi nhi hq with ⟨h0, h1, h2⟩ | ⟨k, l, h1, h0, h2⟩
    · exact ⟨x, h2, .inl ⟨h0, h1, rfl⟩⟩
    · exact ⟨l, h2, .inr ⟨k, h1, h0⟩⟩
  unfold slD at hyp
  split at hyp
  · rename_i els
    obtain ⟨l, hyp, hl⟩ := low hyp
    obtain ⟨hh, ⟨h0, h1, h2, hm, hs, hk⟩, hhh⟩ := hib hyp
    have hlen : ((els.take hh.toNat).drop l.toNat).length = hh.toNat - l.toNat := by simp; omega
    cases hd.g_inv with
    | nil =>
      obtain ⟨m, h3, h4, _, h5⟩ := key none 0 0 l hh rfl (Nat.le_refl _) h0 h1 (by simpa using h2) hl (by simpa using hhh) hm
      refine ⟨_, h5, _, ?_, hk⟩
      have e1 : l.toNat = 0 := by simp at h2; omega
      have e2 : hh.toNat = 0 := by simp at h2; omega
      have e3 : m = 0 := by omega
      subst e3
      rw [e1, e2]
      exact .g .nil
    | sl _ b off n cap s' cur el fr f hn h6 h7 hb hlen' hc hr =>
      subst hn
      obtain ⟨m, h3, h4, _, h5⟩ := key _ _ cap l hh rfl h6 h0 h1 h2 hl hhh hm
      refine ⟨_, h5, _, .g ?_, hk⟩
      by_cases hlm : m = l.toNat
      · rw [if_pos hlm]
        have e1 : (els.take hh.toNat).drop l.toNat = [] := List.eq_nil_of_length_eq_zero (by rw [hlen]; omega)
        rw [e1]
        exact .sl [] b off _ _ s' cur el fr f (by simp; omega) (by simp) (by simp) hb (by simp) (by simp) (by simp)
      · rw [if_neg hlm]
        have hss : l.toNat = 0 ∨ s' = s := by
          rcases Nat.eq_zero_or_pos l.toNat with h8 | h8
          · exact .inl h8
          · right
            cases els with
            | nil => simp at h2; omega
            | cons es r => rw [← hlen' es (by simp), hs (by omega) es (by simp)]
        have e2 : l.toNat * s = l.toNat * s' := by rcases hss with h8 | h8 <;> rw [h8]; omega
        rw [e2]
        simp only [Option.map_some, addr_add]
        have hg : ∀ (i : Nat) (es : List G), ((els.take hh.toNat).drop l.toNat)[i]? = some es → els[l.toNat + i]? = some es := by
          intro i es hi
          rw [List.getElem?_drop, List.getElem?_take] at hi
          split at hi
          · exact hi
          · cases hi
        refine .sl _ b _ _ _ s' cur el fr (fun i j => f (l.toNat + i) j) hlen.symm (by rw [hlen]; omega) (by rw [hlen]; omega) hb (fun es he => ?_) (fun i es j g hi hj => ?_) (fun i es j g hi hj => hr _ es j g (hg i es hi) hj)
        · exact hlen' es (List.mem_of_mem_take (List.mem_of_mem_drop he))
        · have := hc _ es j g (hg i es hi) hj
          rw [Nat.add_mul, ← Nat.add_assoc] at this
          exact this
  · rename_i k b o n cap s'
    obtain ⟨l, hyp, hl⟩ := low hyp
    obtain ⟨hh, ⟨h0, h1, h2, hm, rfl, hlt, hk⟩, hhh⟩ := hib hyp
    cases hd with
    | own _ _ _ _ _ _ cur el fr h6 h7 h47 hb hs =>
      obtain ⟨m, h3, h4, hmc, h5⟩ := key _ _ cap l hh rfl h6 h0 h1 h2 hl hhh (fun e => by rw [hm] at e; cases e)
      obtain rfl := hmc hm
      refine ⟨_, h5, _, ?_, hk⟩
      have e : (if m = l.toNat then (some (⟨b, o * s', none⟩ : Addr)) else (some (⟨b, o * s', none⟩ : Addr)).map (·.add (l.toNat * s'))) = some ⟨b, (o + l.toNat) * s', none⟩ := by
        by_cases hz : l = 0
        · subst hz; simp [addr_add]
        · have := hlt (by omega)
          rw [if_neg (by omega)]
          simp only [Option.map_some, addr_add, Nat.add_mul]
      rw [e]
      refine .own k b _ _ _ s' cur el fr (by omega) (by omega) (by omega) hb (Nat.le_trans (Nat.mul_le_mul_right _ (by omega)) hs)
  · obtain ⟨l, hyp, hl⟩ := low hyp
    obtain ⟨hh, ⟨h0, h1, hm, hk⟩, hhh⟩ := hib hyp
    cases hd
    obtain ⟨m, h3, h4, _, h5⟩ := key none 0 0 l hh rfl (Nat.le_refl _) (by omega) (by omega) (by omega) hl (by simpa using hhh) hm
    refine ⟨_, h5, _, ?_, hk⟩
    have e3 : m = 0 := by omega
    subst e3
    subst h0; subst h1
    exact .nil
  · exact hyp.elim

/-! ### Structs -/

def zeroD (P : Program) (t : TypeId) : Option (List D) := match P.info? t with
  | some i => (match i.zero with | some z => some (z.cells.toList.map cellD) | none => none)
  | none => none

def D.cells : D → List D
  | .agg cs => cs
  | d => [d]

/-- Where the fields of a struct type lie. -/
def places (P : Program) (t : TypeId) : Option (List (Nat × Nat)) := match P.underlying t with
  | some (.struct fs) => fs.toList.mapM fun f => match P.info? f.type with | some i => some (f.offset, i.size) | none => none
  | _ => none

def fillD (pl : List (Nat × Nat)) (cs : List D) : List (Nat × D) → Option (List D)
  | [] => some cs
  | (i, d) :: r => match pl[i]? with
    | none => none
    | some (off, size) => if d.cells.length = size ∧ off + size ≤ cs.length ∧ d.cells.all D.one then fillD pl (cs.take off ++ d.cells ++ cs.drop (off + size)) r else none

def buildD (P : Program) (t : TypeId) (ps : List (Nat × D)) (K : D → Prop) : Prop := match places P t, zeroD P t with
  | some pl, some z => (match fillD pl z ps with | some cs => K (.agg cs) | none => False)
  | _, _ => False

theorem RdD.cellsL {d : D} {v : Value} (hd : RdD I H d v) (h1 : d.cells.all D.one = true) : RdL I H d.cells v.cells.toList := by
  cases d with
  | agg cs => obtain ⟨vs, rfl, h⟩ := hd.agg_inv; simpa [D.cells, Value.cells] using h
  | tup ds => simp [D.cells, D.one] at h1
  | junk => simp [D.cells, D.one] at h1
  | _ =>
    have h2 : v.oneCell' = true := hd.oneV rfl
    have hc : v.cells.toList = [v] := by cases v <;> first | rfl | (simp [Value.oneCell'] at h2)
    rw [hc]
    exact .cons hd .nil

theorem RdL.take {ds : List D} {vs : List Value} (h : RdL I H ds vs) (n : Nat) : RdL I H (ds.take n) (vs.take n) := by
  refine ⟨by simp [h.len], fun j d u h1 h2 => ?_⟩
  rw [List.getElem?_take] at h1 h2
  split at h1
  · rename_i hj
    rw [if_pos hj] at h2
    exact h.at_ j d u h1 h2
  · cases h1
theorem RdL.drop {ds : List D} {vs : List Value} (h : RdL I H ds vs) (n : Nat) : RdL I H (ds.drop n) (vs.drop n) := by
  refine ⟨by simp [h.len], fun j d u h1 h2 => ?_⟩
  rw [List.getElem?_drop] at h1 h2
  exact h.at_ _ d u h1 h2

theorem fillD_sound {pl : List (Nat × Nat)} : ∀ (ps : List (Nat × D)) (qs : List (Nat × Value)) (cs : List D) (us : Array Value) (out : List D), RdL I H cs us.toList → ps.map (·.1) = qs.map (·.1) → RdL I H (ps.map (·.2)) (qs.map (·.2)) →
    fillD pl cs ps = some out → ∃ r, Instr.fill (pl.toArray[·]?) us qs = some r ∧ RdL I H out r.toList
  | [], qs, cs, us, out, hc, hk, hv, h => by
    cases qs with
    | nil => simp only [fillD] at h; injection h with h; subst h; exact ⟨us, rfl, hc⟩
    | cons q r => simp at hk
  | (i, d) :: ps, qs, cs, us, out, hc, hk, hv, h => by
    cases qs with
    | nil => simp at hk
    | cons q r =>
      obtain ⟨i', v⟩ := q
      simp only [List.map_cons] at hk hv
      injection hk with hk1 hk2
      subst hk1
      obtain ⟨v', r', hvr, h1, h2⟩ := hv.uncons
      injection hvr with hv1 hv2
      subst hv1; subst hv2
      simp only [fillD] at h
      split at h
      · cases h
      · rename_i off size hp
        split at h
        · rename_i hcond
          obtain ⟨hs, hle, hone⟩ := hcond
          have hcl := h1.cellsL hone
          have hvs : v.cells.size = size := by have := hcl.len; simp at this; rw [this, hs]
          have hus : us.size = cs.length := by have := hc.len; simpa using this
          have e : ((v.cells.zipIdx).foldl (fun cs (x : Value × Nat) => cs.setIfInBounds (off + x.2) x.1) us).toList = us.toList.take off ++ v.cells.toList ++ us.toList.drop (off + size) := by
            rw [← Array.foldl_toList, Array.toList_zipIdx, foldl_splice _ 0 off us (by simp [hvs]; omega)]
            simp [hvs]
          obtain ⟨w, h3, h4⟩ := fillD_sound (pl := pl) ps r _ ((v.cells.zipIdx).foldl (fun cs (x : Value × Nat) => cs.setIfInBounds (off + x.2) x.1) us) out
            (by rw [e]; exact ((hc.take off).app hcl).app (hc.drop (off + size))) hk2 h2 h
          refine ⟨w, ?_, h4⟩
          simp only [Instr.fill]
          rw [show pl.toArray[i]? = some (off, size) by simpa using hp]
          simp only
          rw [if_neg (by simp [hvs]; omega)]
          exact h3
        · cases h

theorem places_run {t : TypeId} {pl : List (Nat × Nat)} (h : places P t = some pl) : ∃ fs, P.underlying t = some (.struct fs) ∧
    ∀ w, (fs.mapM fun f => do pure (f.offset, ← sizeOf f.type) : Sem (Array (Nat × Nat))).run P w = .ok pl.toArray w := by
  unfold places at h
  split at h
  · rename_i fs hu
    refine ⟨fs, hu, fun w => ?_⟩
    have key : ∀ (l : List Field) (pl : List (Nat × Nat)), (l.mapM fun f => match P.info? f.type with | some i => some (f.offset, i.size) | none => none) = some pl →
        (l.mapM fun f => do pure (f.offset, ← sizeOf f.type) : Sem (List (Nat × Nat))).run P w = .ok pl w := by
      intro l
      induction l with
      | nil => intro pl h; simp at h; subst h; simp
      | cons f r ih =>
        intro pl h
        simp only [List.mapM_cons] at h
        cases hi : P.info? f.type with
        | none => simp [hi] at h
        | some i =>
          simp only [hi] at h
          cases hr : (r.mapM fun f => match P.info? f.type with | some i => some (f.offset, i.size) | none => none) with
          | none => simp [hr] at h
          | some pr =>
            simp [hr] at h
            subst h
            simp only [List.mapM_cons, Sem.run_bind, sizeOf, info_parts' hi, Result.andThen_ok, Sem.run_pure]
            have := ih pr hr
            simp only [sizeOf, Sem.run_bind] at this
            rw [this]
            simp
    have := key fs.toList pl h
    rw [Array.mapM_eq_mapM_toList]
    simp only [Sem.run_map, this]
    rfl
  · cases h

theorem buildD_sound {t : TypeId} {ps : List (Nat × D)} {qs : List (Nat × Value)} (hk : ps.map (·.1) = qs.map (·.1)) (hv : RdL I H (ps.map (·.2)) (qs.map (·.2))) {K : D → Prop} (h : buildD P t ps K) :
    ∃ v, (∀ w, Does P (Instr.build t qs.toArray) w v w) ∧ ∃ d, RdD I H d v ∧ K d := by
  unfold buildD at h
  split at h
  · rename_i pl z hp hz
    split at h
    · rename_i cs hf
      obtain ⟨fs, hu, hpl⟩ := places_run hp
      unfold zeroD at hz
      split at hz
      · rename_i i hi
        split at hz
        · rename_i zv hzv
          injection hz with hz
          have hcz : RdL I H z zv.cells.toList := hz ▸ cellsD_rd I H zv.cells.toList
          obtain ⟨r, h1, h2⟩ := fillD_sound ps qs z zv.cells cs hcz hk hv hf
          refine ⟨.agg r, fun w => ?_, _, by simpa using RdD.ofL h2, h⟩
          have hpl' := hpl w
          unfold Does Instr.build
          simp only [Sem.run_bind, zeroValue, info_parts' hi, Result.andThen_ok, hzv, Sem.run_pure, run_underlying hu]
          try simp only [Sem.run_bind] at hpl'
          rw [hpl']
          try simp only [Result.andThen_ok]
          have h1' : Instr.fill (fun x => pl.toArray[x]?) zv.cells qs.toArray.toList = some r := h1
          rw [h1']
          rfl
        · cases hz
      · cases hz
    · exact h.elim
  · exact h.elim

def fieldD (P : Program) (t : TypeId) (f : Nat) (d : D) (K : D → Prop) : Prop := match fieldVal P t f, d with
  | some (off, some n), .agg cs => K (.agg ((cs.take (off + n)).drop off))
  | some (off, none), .agg cs => (match cs[off]? with | some d => K d | none => False)
  | _, _ => False

theorem fieldD_sound {t : TypeId} {f : Nat} {d : D} {v : Value} (hd : RdD I H d v) {K : D → Prop} (h : fieldD P t f d K) : fieldV P t f v (fun u => ∃ d', RdD I H d' u ∧ K d') := by
  unfold fieldD at h
  unfold fieldV
  split at h
  · rename_i off n cs hf
    obtain ⟨vs, rfl, hl⟩ := hd.agg_inv
    rw [hf]
    refine ⟨_, ?_, h⟩
    have e : (vs.toArray.extract off (off + n)) = ((vs.take (off + n)).drop off).toArray := by simp [List.take_drop]
    rw [e]
    exact RdD.ofL ((hl.take _).drop _)
  · rename_i off cs hf
    obtain ⟨vs, rfl, hl⟩ := hd.agg_inv
    rw [hf]
    split at h
    · rename_i d' hd'
      simp only [List.getElem?_toArray]
      have hlt := (List.getElem?_eq_some_iff.1 hd').1
      have hlv : off < vs.length := by rw [hl.len]; exact hlt
      have hv : vs[off]? = some vs[off] := List.getElem?_eq_getElem hlv
      rw [hv]
      exact ⟨_, hl.at_ _ _ _ hd' hv, h⟩
    · exact h.elim
  · exact h.elim

def tupD (d : D) (i : Nat) (K : D → Prop) : Prop := match d with
  | .tup ds => (match ds[i]? with | some d => K d | none => False)
  | _ => False
def optD (o : Option D) (K : D → Prop) : Prop := match o with | some x => K x | none => False
theorem optD_some {x : D} {K : D → Prop} : optD (some x) K = K x := rfl
theorem tupD_tup {ds : List D} {i : Nat} {K : D → Prop} : tupD (.tup ds) i K = optD ds[i]? K := rfl
theorem fieldD_one {t : TypeId} {f off : Nat} {cs : List D} {K : D → Prop} (h : fieldVal P t f = some (off, none)) : fieldD P t f (.agg cs) K = optD cs[off]? K := by
  simp only [fieldD, h, optD]
theorem fieldD_many {t : TypeId} {f off n : Nat} {cs : List D} {K : D → Prop} (h : fieldVal P t f = some (off, some n)) : fieldD P t f (.agg cs) K = K (.agg ((cs.take (off + n)).drop off)) := by
  simp only [fieldD, h]

theorem tupD_sound {d : D} {v : Value} (hd : RdD I H d v) {i : Nat} {K : D → Prop} (h : tupD d i K) : tupV v i (fun u => ∃ d', RdD I H d' u ∧ K d') := by
  unfold tupD at h
  split at h
  · rename_i ds
    obtain ⟨vs, rfl, hl⟩ := hd.tup_inv
    split at h
    · rename_i d' hd'
      have hlt := (List.getElem?_eq_some_iff.1 hd').1
      have hlv : i < vs.length := by rw [hl.len]; exact hlt
      have hv : vs[i]? = some vs[i] := List.getElem?_eq_getElem hlv
      simp only [tupV, List.getElem?_toArray, hv]
      exact ⟨_, hl.at_ _ _ _ hd' hv, h⟩
    · exact h.elim
  · exact h.elim

/-- A pointer to a field. -/
def faddrD (P : Program) (t : TypeId) (f : Nat) (d : D) (K : D → Prop) : Prop := match fieldOff P t f, d with
  | some fo, .ptr k b i off s => K (.ptr k b i (off + fo) s)
  | some fo, .ip cs => K (.ip (cs.drop fo))
  | _, _ => False
theorem faddrD_ptr {t : TypeId} {f fo : Nat} {k : Nm} {b i off s : Nat} {K : D → Prop} (h : fieldOff P t f = some fo) : faddrD P t f (.ptr k b i off s) K = K (.ptr k b i (off + fo) s) := by simp only [faddrD, h]
theorem faddrD_ip {t : TypeId} {f fo : Nat} {cs : List G} {K : D → Prop} (h : fieldOff P t f = some fo) : faddrD P t f (.ip cs) K = K (.ip (cs.drop fo)) := by simp only [faddrD, h]

def nilChD (d : D) (K : D → Prop) : Prop := match d with
  | .ptr .. => K d
  | .ip .. => K d
  | _ => False
theorem nilChD_ptr {k : Nm} {b i off s : Nat} {K : D → Prop} : nilChD (.ptr k b i off s) K = K (.ptr k b i off s) := rfl
theorem nilChD_ip {cs : List G} {K : D → Prop} : nilChD (.ip cs) K = K (.ip cs) := rfl

def boolD (d : D) (K : Bool → Prop) : Prop := match d with | .g (.lit (.bool b)) => K b | _ => False
theorem boolD_lit {b : Bool} {K : Bool → Prop} : boolD (.g (.lit (.bool b))) K = K b := rfl
theorem boolD_cases {d : D} {K : Bool → Prop} (h : boolD d K) : ∃ b, d = .g (.lit (.bool b)) ∧ K b := by
  unfold boolD at h; split at h
  · exact ⟨_, rfl, h⟩
  · exact h.elim
def lit2 (a b : D) (K : Value → Value → Prop) : Prop := litD a fun x => litD b fun y => K x y
theorem lit2_g {x y : Value} {K : Value → Value → Prop} : lit2 (.g (.lit x)) (.g (.lit y)) K = K x y := rfl

def ppureV (P : Program) (o : Oper) (e : DEnv) (K : D → Prop) : Prop :=
  match o.op with
  | .move x | .assign x => K (pev e x)
  | .pick c a b => boolD (pev e c) (fun t => K (if t then pev e a else pev e b))
  | .build t ps => buildD P t (ps.toList.map fun (i, x) => (i, pev e x)) K
  | .nilCheck x => nilChD (pev e x) K
  | .binOp op t x y _ => lit2 (pev e x) (pev e y) fun a b => pbin P op t a b (fun v => K (.g (.lit v)))
  | .unOp op _ x => litD (pev e x) fun a => unV op a (fun v => K (.g (.lit v)))
  | .convert s d x => litD (pev e x) fun a => pconv P s d a (fun v => K (.g (.lit v)))
  | .makeFunc (.func f) first cap => K (.fn f (first.toList.map (pev e)) (cap.toList.map (pev e)))
  | .slice t x lo hi mx => (match slS P t with | some s => slD s (pev e x) (lo.map (pev e)) (hi.map (pev e)) (mx.map (pev e)) K | none => False)
  | .fieldAddr t x f => faddrD P t f (pev e x) K
  | .field t x f => fieldD P t f (pev e x) K
  | .indexAddr t x i => (match slS P t with | some s => idxD (pev e i) fun n => ixD s (pev e x) n K | none => False)
  | .extract t i => tupD (pev e t) i K
  | .call c => (match c.callee with
    | .builtin .len => (match c.argTypes[0]?, c.args.toList with
      | some t, [x] => (slS P t).isSome = true ∧ lenD (pev e x) K
      | _, _ => False)
    | .builtin .min => (match c.args.toList with
      | [x, y] => lit2 (pev e x) (pev e y) fun a b => (match a, b with | .int k x, .int _ y => K (.g (.lit (.int k (if y < x then y else x)))) | _, _ => False)
      | _ => False)
    | .builtin .max => (match c.args.toList with
      | [x, y] => lit2 (pev e x) (pev e y) fun a b => (match a, b with | .int k x, .int _ y => K (.g (.lit (.int k (if x < y then y else x)))) | _, _ => False)
      | _ => False)
    | _ => False)
  | _ => False

theorem mono_one {K : D → Prop} {v : Value} {Q : Value → Prop} (h : Q v) : Q v := h

theorem intV_mono {op : BinOp} {k k' : IntKind} {a b : Int} {K K' : Value → Prop} (h : intV op k a k' b K) (hk : ∀ v, K v → K' v) : intV op k a k' b K' := by
  have ha : ∀ {k : IntKind} {n : Int}, arith k n K → arith k n K' := by
    intro k n h; cases k <;> first | exact hk _ h | exact ⟨h.1, hk _ h.2⟩
  cases op <;> simp only [intV] at h ⊢ <;> first
    | exact ⟨h.1, hk _ h.2⟩ | exact ⟨h.1, ha h.2⟩ | exact ⟨h.1, h.2.1, ha h.2.2⟩ | exact ⟨h.1, h.2.1, hk _ h.2.2⟩
theorem pbin_mono {op : BinOp} {t : TypeId} {x y : Value} {K K' : Value → Prop} (h : pbin P op t x y K) (hk : ∀ v, K v → K' v) : pbin P op t x y K' := by
  unfold pbin at h ⊢
  split at h
  · exact intV_mono h hk
  · refine ⟨h.1, ?_⟩
    have h2 := h.2
    cases op <;> first | exact h2.elim | exact hk _ h2
  · exact h.elim
theorem unV_mono {op : UnOp} {x : Value} {K K' : Value → Prop} (h : unV op x K) (hk : ∀ v, K v → K' v) : unV op x K' := by
  unfold unV at h ⊢
  split at h
  · exact hk _ h
  · rename_i k n; cases k <;> first | exact hk _ h | exact ⟨h.1, hk _ h.2⟩
  · exact h.elim
theorem pconv_mono {s d : TypeId} {x : Value} {K K' : Value → Prop} (h : pconv P s d x K) (hk : ∀ v, K v → K' v) : pconv P s d x K' := by
  unfold pconv at h ⊢
  split at h
  · exact ⟨h.1, hk _ h.2⟩
  · exact h.elim

theorem ppure_sound (he : EnvR I H e e') {o : Oper} {K : D → Prop} (h : ppureV P o e K) : pureV P o e' (fun v => ∃ d, RdD I H d v ∧ K d) := by
  obtain ⟨dst, op, ty, pos, aft, gd⟩ := o
  have gv : ∀ {K : D → Prop} {v : Value}, one' K v → ∃ d, RdD I H d v ∧ K d := fun h => one_rd h
  cases op <;> simp only [ppureV] at h <;> simp only [pureV]
  case move x => exact ⟨_, he.ev x, h⟩
  case assign x => exact ⟨_, he.ev x, h⟩
  case pick c a b =>
    obtain ⟨t, ht, hk⟩ := boolD_cases h
    have := he.ev c
    rw [ht] at this
    rw [this.lit_inv]
    refine ⟨_, ?_, hk⟩
    cases t
    · exact he.ev b
    · exact he.ev a
  case build t ps =>
    have h1 := buildD_sound (P := P) (I := I) (H := H) (qs := ps.toList.map fun (i, x) => (i, V.ev e' x)) (by simp) (by
      simp only [List.map_map]
      have := he.evs (ps.toList.map (·.2))
      simpa [Function.comp_def] using this) h
    obtain ⟨v, h2, h3⟩ := h1
    refine ⟨v, fun w => ?_, h3⟩
    have h4 := h2 w
    have e : (ps.toList.map fun (i, x) => (i, V.ev e' x)).toArray = ps.map fun (i, x) => (i, V.ev e' x) := by
      apply Array.ext'; simp
    rw [e] at h4
    exact h4
  case nilCheck x =>
    unfold nilChD at h
    have hr := he.ev x
    generalize V.ev e' x = u at hr ⊢
    split at h
    · rename_i hx; rw [hx] at hr; cases hr; rw [hx] at h; exact ⟨_, .ptr .., h⟩
    · rename_i hx; rw [hx] at hr; rw [hx] at h
      cases hr with
      | ip _ b o cur el fr f hb hc hrr => exact ⟨_, .ip _ b o cur el fr f hb hc hrr, h⟩
    · exact h.elim
  case binOp op t x y yt =>
    obtain ⟨a, ha, h⟩ := litD_cases h
    obtain ⟨b, hb, h⟩ := litD_cases h
    have h1 := he.ev x
    have h2 := he.ev y
    rw [ha] at h1; rw [hb] at h2
    rw [h1.lit_inv, h2.lit_inv]
    exact pbin_mono (pbin_one h) fun v hv => gv hv
  case unOp op t x =>
    obtain ⟨a, ha, h⟩ := litD_cases h
    have h1 := he.ev x
    rw [ha] at h1
    rw [h1.lit_inv]
    exact unV_mono (unV_one h) fun v hv => gv hv
  case convert s d x =>
    obtain ⟨a, ha, h⟩ := litD_cases h
    have h1 := he.ev x
    rw [ha] at h1
    rw [h1.lit_inv]
    exact pconv_mono (pconv_one h) fun v hv => gv hv
  case makeFunc fn first cap =>
    cases fn with
    | func f =>
      have e1 : (first.map (V.ev e')) = (first.toList.map (V.ev e')).toArray := by apply Array.ext'; simp
      have e2 : (cap.map (V.ev e')) = (cap.toList.map (V.ev e')).toArray := by apply Array.ext'; simp
      rw [e1, e2]
      have h1 := he.evs first.toList
      have h2 := he.evs cap.toList
      exact ⟨_, .fn f _ _ _ _ h1.len h2.len h1.at_ h2.at_, h⟩
    | _ => exact h.elim
  case slice t x lo hi mx =>
    split at h
    · rename_i s hs
      have hm : ∀ (q : Option Operand) (d : D), q.map (pev e) = some d → ∃ v, q.map (V.ev e') = some v ∧ RdD I H d v := by
        intro q d hq
        cases q with
        | none => cases hq
        | some z => simp at hq; subst hq; exact ⟨_, rfl, he.ev z⟩
      have hn : ∀ (q : Option Operand), q.map (pev e) = none → q.map (V.ev e') = none := by
        intro q hq
        cases q with
        | none => rfl
        | some z => cases hq
      obtain ⟨u, h1, h2⟩ := slD_sound hs (he.ev x) (hm lo) (hn lo) (hm hi) (hn hi) (hm mx) (hn mx) h
      exact ⟨u, h1, h2⟩
    · exact h.elim
  case fieldAddr t x f =>
    have hr := he.ev x
    generalize V.ev e' x = u at hr ⊢
    unfold faddrD at h
    split at h
    · rename_i hf hx
      rw [hx] at hr; rw [hf]; cases hr
      simp only [ptrV, addr_add, Nat.add_assoc]
      exact ⟨_, .ptr .., h⟩
    · rename_i fo cs hf hx
      rw [hx] at hr; rw [hf]
      cases hr with
      | ip _ b o cur el fr f hb hc hrr =>
        simp only [ptrV, addr_add]
        refine ⟨_, .ip _ b (o + fo) cur el fr (fun j => f (fo + j)) hb (fun j g hg => ?_) (fun j g hg => ?_), h⟩
        · rw [List.getElem?_drop] at hg
          rw [Nat.add_assoc]; exact hc _ g hg
        · rw [List.getElem?_drop] at hg
          exact hrr _ g hg
    · exact h.elim
  case field t x f => exact fieldD_sound (he.ev x) h
  case indexAddr t x i =>
    split at h
    · rename_i s hs
      obtain ⟨k, n, hi, h⟩ := idxD_cases h
      have h1 := he.ev i
      rw [hi] at h1
      rw [h1.lit_inv]
      obtain ⟨ad, h2, h3⟩ := ixD_sound hs (he.ev x) (k := k) h
      exact ⟨ad, h2, h3⟩
    · exact h.elim
  case extract t i => exact tupD_sound (he.ev t) h
  case call c =>
    obtain ⟨callee, args, ats⟩ := c
    cases callee with
    | value o => exact h.elim
    | invoke r m => exact h.elim
    | builtin b =>
      have hargs : ∀ {l : List Operand}, args.toList = l → args.map (V.ev e') = (l.map (V.ev e')).toArray := by
        intro l hl; subst hl; apply Array.ext'; simp
      cases b with
      | len =>
        simp only at h ⊢
        split at h
        · rename_i t x ht hx
          obtain ⟨hs, h⟩ := h
          obtain ⟨s, hs⟩ := Option.isSome_iff_exists.1 hs
          obtain ⟨el, hu, _⟩ := slS_run hs
          rw [ht, hargs hx]
          simp only [List.map_cons, List.map_nil, List.getElem?_toArray, List.getElem?_cons_zero, hu]
          obtain ⟨n, h1, h2⟩ := lenD_sound (he.ev x) h
          exact ⟨n, h1, _, .g (.lit _ rfl), h2⟩
        · exact h.elim
      | min =>
        simp only at h ⊢
        split at h
        · rename_i x y hx
          obtain ⟨a, ha, h⟩ := litD_cases h
          obtain ⟨b, hb, h⟩ := litD_cases h
          have h1 := he.ev x
          have h2 := he.ev y
          rw [ha] at h1; rw [hb] at h2
          rw [hargs hx]
          simp only [List.map_cons, List.map_nil, h1.lit_inv, h2.lit_inv]
          split at h
          · exact ⟨_, .g (.lit _ rfl), h⟩
          · exact h.elim
        · exact h.elim
      | max =>
        simp only at h ⊢
        split at h
        · rename_i x y hx
          obtain ⟨a, ha, h⟩ := litD_cases h
          obtain ⟨b, hb, h⟩ := litD_cases h
          have h1 := he.ev x
          have h2 := he.ev y
          rw [ha] at h1; rw [hb] at h2
          rw [hargs hx]
          simp only [List.map_cons, List.map_nil, h1.lit_inv, h2.lit_inv]
          split at h
          · exact ⟨_, .g (.lit _ rfl), h⟩
          · exact h.elim
        · exact h.elim
      | _ => exact h.elim
  all_goals exact h.elim

end
end Go.V

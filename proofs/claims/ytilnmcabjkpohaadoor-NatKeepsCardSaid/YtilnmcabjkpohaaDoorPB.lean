/- Operations over values as data: those that compute. No program in sight. Operations over values as data: those that read and write memory; calls. No program in sight. append over values as data; freezing; contracts; regions; code. No program in sight. Maps: what a call owns of them, over values as data. No program in sight. Contracts, regions and code over values as data. No program in sight. -/
import Derived.Test.YtilnmcabjkpohaaDoorPA
import Derived.RangeFuncRecord
import Derived.DeepKeys4
set_option linter.unusedSimpArgs false
set_option linter.unusedVariables false
namespace Go.V
open Go Go.RowKit

def cellD : Value → D
  | .slice a n c => if a.isNone && n == 0 && c == 0 then .nil else .junk
  | .agg _ => .junk
  | .tuple _ => .junk
  | v => .g (.lit v)
def ofVal : Value → D
  | .agg cs => .agg (cs.toList.map cellD)
  | .tuple vs => if vs.size = 0 then .tup [] else .junk
  | v => cellD v

theorem cellD_rd (I : CI) (H : Array Obj) (v : Value) : RdD I H (cellD v) v := by
  cases v <;> simp only [cellD] <;> first | exact .junk _ | exact .g (.lit _ rfl) | skip
  rename_i a n c
  cases a with
  | none => by_cases h : n = 0 ∧ c = 0
            · obtain ⟨rfl, rfl⟩ := h; exact .nil
            · rw [if_neg (by simpa using h)]; exact .junk _
  | some a => exact .junk _

theorem cellsD_rd (I : CI) (H : Array Obj) : ∀ l : List Value, RdL I H (l.map cellD) l
  | [] => .nil
  | v :: r => .cons (cellD_rd I H v) (cellsD_rd I H r)

theorem ofVal_rd (I : CI) (H : Array Obj) (v : Value) : RdD I H (ofVal v) v := by
  cases v <;> simp only [ofVal] <;> first | exact cellD_rd I H _ | skip
  · rename_i cs
    have := RdD.ofL (cellsD_rd I H cs.toList)
    simpa using this
  · rename_i vs
    split
    · rename_i h
      have : vs = #[] := Array.eq_empty_of_size_eq_zero h
      subst this
      exact RdD.ofT .nil
    · exact .junk _

abbrev DEnv := Nat → D
def updD (e : DEnv) (d : Nat) (v : D) : DEnv := fun i => bif i == d then v else e i
theorem updD_apply (e : DEnv) (d : Nat) (v : D) (i : Nat) : updD e d v i = bif i == d then v else e i := rfl
def putD (e : DEnv) : Option Nat → D → DEnv
  | some d, v => updD e d v
  | none, _ => e
theorem putD_some (e : DEnv) (d : Nat) (v : D) : putD e (some d) v = updD e d v := rfl
theorem putD_none (e : DEnv) (v : D) : putD e none v = e := rfl
def pev (e : DEnv) : Operand → D
  | .tmp t => e t
  | .const v => ofVal v
  | .global g => .g (.lit (.pointer (some ⟨g, 0, none⟩)))
  | .func f => .fn f [] []
theorem pev_tmp (e : DEnv) (t : Nat) : pev e (.tmp t) = e t := rfl
theorem pev_const (e : DEnv) (v : Value) : pev e (.const v) = ofVal v := rfl
theorem pev_func (e : DEnv) (f : Nat) : pev e (.func f) = .fn f [] [] := rfl

def EnvR (I : CI) (H : Array Obj) (e : DEnv) (e' : Env) : Prop := ∀ i, RdD I H (e i) (e' i)

section
variable {P : Program} {I : CI} {H : Array Obj} {e : DEnv} {e' : Env} {w : World}

theorem EnvR.mono {I' : CI} {H' : Array Obj} (hI : ∀ b j, I b j → I' b j) (hE : HEv I H H') (h : EnvR I H e e') : EnvR I' H' e e' := fun i => (h i).mono hI hE
theorem EnvR.put (h : EnvR I H e e') {d : D} {v : Value} (hd : RdD I H d v) : ∀ (dst : Option Nat), EnvR I H (putD e dst d) (V.put e' dst v)
  | none => h
  | some t => fun i => by
    show RdD I H (bif i == t then d else e i) (bif i == t then v else e' i)
    cases i == t
    · exact h i
    · exact hd
theorem EnvR.ev (h : EnvR I H e e') (x : Operand) : RdD I H (pev e x) (V.ev e' x) := by
  cases x with
  | tmp t => exact h t
  | const v => exact ofVal_rd I H v
  | global g => exact .g (.lit _ rfl)
  | func f => exact .fn f [] [] [] [] rfl rfl (fun j d u h => by simp at h) (fun j d u h => by simp at h)
theorem EnvR.evs (h : EnvR I H e e') : ∀ l : List Operand, RdL I H (l.map (pev e)) (l.map (V.ev e'))
  | [] => .nil
  | x :: r => .cons (h.ev x) (EnvR.evs h r)

/-! ### Literals -/

def litD (d : D) (K : Value → Prop) : Prop := match d with | .g (.lit v) => K v | _ => False
theorem litD_g {v : Value} {K : Value → Prop} : litD (.g (.lit v)) K = K v := rfl
theorem litD_cases {d : D} {K : Value → Prop} (h : litD d K) : ∃ v, d = .g (.lit v) ∧ K v := by
  unfold litD at h; split at h
  · exact ⟨_, rfl, h⟩
  · exact h.elim

def one' (K : D → Prop) : Value → Prop := fun v => v.oneCell' = true ∧ K (.g (.lit v))

theorem arith_one {k : IntKind} {n : Int} {K : D → Prop} (h : arith k n (fun v => K (.g (.lit v)))) : arith k n (one' K) := by
  cases k <;> first | exact ⟨rfl, h⟩ | exact ⟨h.1, rfl, h.2⟩
theorem intV_one {op : BinOp} {k k' : IntKind} {a b : Int} {K : D → Prop} (h : intV op k a k' b (fun v => K (.g (.lit v)))) : intV op k a k' b (one' K) := by
  cases op <;> simp only [intV] at h ⊢ <;> first
    | exact ⟨h.1, arith_one h.2⟩ | exact ⟨h.1, h.2.1, arith_one h.2.2⟩ | exact ⟨h.1, rfl, h.2⟩ | exact ⟨h.1, h.2.1, rfl, h.2.2⟩
theorem pbin_one {op : BinOp} {t : TypeId} {x y : Value} {K : D → Prop} (h : pbin P op t x y (fun v => K (.g (.lit v)))) : pbin P op t x y (one' K) := by
  unfold pbin at h ⊢
  split at h
  · exact intV_one h
  · refine ⟨h.1, ?_⟩
    have h2 := h.2
    cases op <;> first | exact h2.elim | exact ⟨rfl, h2⟩
  · exact h.elim
theorem unV_one {op : UnOp} {x : Value} {K : D → Prop} (h : unV op x (fun v => K (.g (.lit v)))) : unV op x (one' K) := by
  unfold unV at h ⊢
  split at h
  · exact ⟨rfl, h⟩
  · exact arith_one h
  · exact h.elim
theorem pconv_one {s d : TypeId} {x : Value} {K : D → Prop} (h : pconv P s d x (fun v => K (.g (.lit v)))) : pconv P s d x (one' K) := by
  unfold pconv at h ⊢
  split at h
  · exact ⟨h.1, rfl, h.2⟩
  · exact h.elim
theorem one_rd {K : D → Prop} {v : Value} (h : one' K v) : ∃ d, RdD I H d v ∧ K d := ⟨_, .g (.lit v h.1), h.2⟩

/-! ### Slices -/

/-- The size of a slice type's elements, in cells. -/
def slS (P : Program) (t : TypeId) : Option Nat := match P.underlying t with
  | some (.slice el) => (P.info? el).map (·.size)
  | _ => none
theorem slS_run {t : TypeId} {s : Nat} (h : slS P t = some s) : ∃ el, P.underlying t = some (.slice el) ∧ ∀ w, (sizeOf el).run P w = .ok s w := by
  unfold slS at h
  split at h
  · rename_i el hu
    cases hi : P.info? el with
    | none => rw [hi] at h; cases h
    | some i => rw [hi] at h; injection h with h; exact ⟨el, hu, fun w => by simp [sizeOf, info_parts' hi, h]⟩
  · cases h

def idxD (d : D) (K : Int → Prop) : Prop := match d with | .g (.lit (.int _ i)) => K i | _ => False
theorem idxD_lit {k : IntKind} {i : Int} {K : Int → Prop} : idxD (.g (.lit (.int k i))) K = K i := rfl
theorem idxD_cases {d : D} {K : Int → Prop} (h : idxD d K) : ∃ k i, d = .g (.lit (.int k i)) ∧ K i := by
  unfold idxD at h; split at h
  · exact ⟨_, _, rfl, h⟩
  · exact h.elim

def optG (o : Option (List G)) (K : List G → Prop) : Prop := match o with | some x => K x | none => False
theorem optG_some {x : List G} {K : List G → Prop} : optG (some x) K = K x := rfl

/-- The address of an element. -/
def ixD (s : Nat) (d : D) (i : Int) (K : D → Prop) : Prop := match d with
  | .own k b o n _ s' => s' = s ∧ 0 ≤ i ∧ i < n ∧ K (.ptr k b (o + i.toNat) 0 s)
  | .g (.sl els) => 0 ≤ i ∧ i < els.length ∧ optG els[i.toNat]? (fun es => es.length = s ∧ K (.ip es))
  | _ => False
theorem ixD_own {s s' n o b cap : Nat} {k : Nm} {i : Int} {K : D → Prop} : ixD s (.own k b o n cap s') i K = (s' = s ∧ 0 ≤ i ∧ i < n ∧ K (.ptr k b (o + i.toNat) 0 s)) := rfl
theorem ixD_sl {s : Nat} {els : List (List G)} {i : Int} {K : D → Prop} : ixD s (.g (.sl els)) i K = (0 ≤ i ∧ i < els.length ∧ optG els[i.toNat]? (fun es => es.length = s ∧ K (.ip es))) := rfl

theorem ix_any {t s : Nat} (T : slS P t = some s) {b off n cap : Nat} {k : IntKind} {i : Int} (h0 : 0 ≤ i) (h1 : i < n) :
    IxA P t (.slice (some ⟨b, off, none⟩) n cap) (.int k i) ⟨b, off + i.toNat * s, none⟩ := by
  intro w
  obtain ⟨el, hu, hs⟩ := slS_run T
  unfold Does Instr.indexAt
  simp [asIntOf, run_underlying hu, hs, h0, h1, addr_add]

theorem ixD_sound {t s : Nat} (T : slS P t = some s) {d : D} {v : Value} (hd : RdD I H d v) {k : IntKind} {i : Int} {K : D → Prop} (h : ixD s d i K) :
    ∃ ad, IxA P t v (.int k i) ad ∧ ∃ d', RdD I H d' (.pointer (some ad)) ∧ K d' := by
  unfold ixD at h
  split at h
  · rename_i k' b o n cap s'
    obtain ⟨rfl, h0, h1, hk⟩ := h
    cases hd with
    | own _ _ _ _ _ _ cur el fr h2 h3 h47 hb hs =>
      refine ⟨_, ix_any T h0 h1, _, ?_, hk⟩
      have e : o * s' + i.toNat * s' = (o + i.toNat) * s' + 0 := by rw [Nat.add_mul, Nat.add_zero]
      rw [e]; exact .ptr ..
  · rename_i els
    obtain ⟨h0, h1, h⟩ := h
    unfold optG at h
    split at h
    · rename_i es he
      obtain ⟨hes, hk⟩ := h
      cases hd.g_inv with
      | nil => simp at he
      | nilA => simp at he
      | sl _ b off n cap s' cur el fr f hn h2 h3 hb hl hc hr =>
        have hs' : s' = s := by rw [← hes]; exact (hl es (List.mem_of_getElem? he)).symm
        subst hs'
        subst hn
        refine ⟨_, ix_any T h0 h1, _, .ip es b _ cur el fr (f i.toNat) hb (fun j g hg => hc i.toNat es j g he hg) (fun j g hg => hr i.toNat es j g he hg), hk⟩
    · exact h.elim
  · exact h.elim

def lenD (d : D) (K : D → Prop) : Prop := match d with
  | .own _ _ _ n _ _ => K (.g (.lit (.int .i64 n)))
  | .g (.sl els) => K (.g (.lit (.int .i64 els.length)))
  | .nil => K (.g (.lit (.int .i64 0)))
  | _ => False
theorem lenD_own {s n o b cap : Nat} {k : Nm} {K : D → Prop} : lenD (.own k b o n cap s) K = K (.g (.lit (.int .i64 n))) := rfl
theorem lenD_sl {els : List (List G)} {K : D → Prop} : lenD (.g (.sl els)) K = K (.g (.lit (.int .i64 els.length))) := rfl
theorem lenD_nil {K : D → Prop} : lenD .nil K = K (.g (.lit (.int .i64 0))) := rfl
theorem lenD_sound {d : D} {v : Value} (hd : RdD I H d v) {K : D → Prop} (h : lenD d K) : ∃ n : Nat, LenIs v n ∧ K (.g (.lit (.int .i64 n))) := by
  unfold lenD at h
  split at h
  · cases hd; exact ⟨_, .lit, h⟩
  · rename_i els
    cases hd.g_inv with
    | nil => exact ⟨0, .lit, h⟩
    | nilA => exact ⟨0, .lit, h⟩
    | sl _ b off n cap s' cur el fr f hn h2 h3 hb hl hc hr => subst hn; exact ⟨_, .lit, h⟩
  · cases hd; exact ⟨0, .lit, h⟩
  · exact h.elim

/-- Bounds of a slice expression. -/
def bndD (d : Option D) (dflt : Int) (K : Int → Prop) : Prop := match d with | some d => idxD d K | none => K dflt
theorem bndD_some {d : D} {x : Int} {K : Int → Prop} : bndD (some d) x K = idxD d K := rfl
theorem bndD_none {x : Int} {K : Int → Prop} : bndD none x K = K x := rfl

def slD (s : Nat) (d : D) (lo hi mx : Option D) (K : D → Prop) : Prop := match d with
  | .g (.sl els) => bndD lo 0 fun l => bndD hi els.length fun h => 0 ≤ l ∧ l ≤ h ∧ h ≤ els.length ∧ (mx.isSome = true → mx = hi) ∧ (0 < l → ∀ es ∈ els, es.length = s) ∧ K (.g (.sl ((els.take h.toNat).drop l.toNat)))
  | .own k b o n cap s' => bndD lo 0 fun l => bndD hi n fun h => 0 ≤ l ∧ l ≤ h ∧ (h ≤ n ∨ h ≤ cap ∧ h ≤ 140737488355328) ∧ mx = none ∧ s' = s ∧ (0 < l ∧ h ≤ l → K (.own k b o 0 0 s)) ∧ K (.own k b (o + l.toNat) (h.toNat - l.toNat) (cap - l.toNat) s)
  | .nil => bndD lo 0 fun l => bndD hi 0 fun h => l = 0 ∧ h = 0 ∧ (mx.isSome = true → mx = hi) ∧ K .nil
  | _ => False

theorem bnd_run {k : IntKind} {l : Int} {y : Nat} {c : BoundsCode} (h0 : 0 ≤ l) (h1 : l ≤ y) (w : World) : (Instr.sliceBound (.int k l) y c).run P w = .ok l.toNat w := by
  simp [Instr.sliceBound, asIntOf, h0, h1]

theorem sl_any {t s : Nat} (T : slS P t = some s) {a : Option Addr} {n cap : Nat} {lo hi mx : Option Value} {l h m : Nat} (hlo : (lo = none ∧ l = 0) ∨ ∃ k, lo = some (.int k l)) (hhi : (hi = none ∧ h = n ∧ mx = none) ∨ ∃ k, hi = some (.int k h))
    (hmx : (mx = none ∧ m = cap) ∨ ∃ k, mx = some (.int k m)) (h1 : l ≤ h) (h2 : h ≤ m) (h3 : m ≤ cap) :
    SlA P t (.slice a n cap) lo hi mx (.slice (if m = l then a else a.map (·.add (l * s))) (h - l) (m - l)) := by
  intro w
  obtain ⟨el, hu, hs⟩ := slS_run T
  unfold Does Instr.sliceAt Instr.slice
  rcases hlo with ⟨rfl, rfl⟩ | ⟨kl, rfl⟩ <;> rcases hhi with ⟨rfl, rfl, rfl⟩ | ⟨kh, rfl⟩ <;> rcases hmx with ⟨hm, rfl⟩ | ⟨km, hm⟩ <;>
    first
    | (simp at hm; done)
    | (try subst hm
       have e1 : ∀ (k : IntKind) (x y : Nat) (c : BoundsCode) (w : World), x ≤ y → (Instr.sliceBound (.int k (x : Int)) y c).run P w = .ok x w := fun k x y c w hxy => by
         have := bnd_run (P := P) (k := k) (l := (x : Int)) (y := y) (c := c) (by omega) (by omega) w
         simpa using this
       simp [run_underlying hu, Instr.sliceBounds, hs, e1, h1, h2, h3])

theorem bndD_sound {o : Option D} {vo : Option Value} (hv : ∀ d, o = some d → ∃ v, vo = some v ∧ RdD I H d v) (hn : o = none → vo = none) {x : Int} {K : Int → Prop} (h : bndD o x K) :
    (o = none ∧ vo = none ∧ K x) ∨ ∃ k l, vo = some (.int k l) ∧ o = some (.g (.lit (.int k l))) ∧ K l := by
  cases o with
  | none => exact .inl ⟨rfl, hn rfl, h⟩
  | some d =>
    obtain ⟨k, i, rfl, hk⟩ := idxD_cases (show idxD d K from h)
    obtain ⟨v, rfl, hr⟩ := hv _ rfl
    rw [hr.lit_inv]
    exact .inr ⟨k, i, rfl, rfl, hk⟩

theorem slD_sound {t s : Nat} (T : slS P t = some s) {d : D} {v : Value} (hd : RdD I H d v) {lo hi mx : Option D} {vlo vhi vmx : Option Value}
    (hlo : ∀ d, lo = some d → ∃ v, vlo = some v ∧ RdD I H d v) (nlo : lo = none → vlo = none) (hhi : ∀ d, hi = some d → ∃ v, vhi = some v ∧ RdD I H d v) (nhi : hi = none → vhi = none)
    (hmx : ∀ d, mx = some d → ∃ v, vmx = some v ∧ RdD I H d v) (nmx : mx = none → vmx = none) {K : D → Prop} (hyp : slD s d lo hi mx K) :
    ∃ u, SlA P t v vlo vhi vmx u ∧ ∃ d', RdD I H d' u ∧ K d' := by
  -- the bounds as numbers
  have low : ∀ {x : Int} {Q : Int → Prop}, bndD lo x Q → ∃ l : Int, Q l ∧ ((vlo = none ∧ l = x) ∨ ∃ k, vlo = some (.int k l)) := by
    intro x Q hq
    rcases bndD_sound hlo nlo hq with ⟨_, h1, h2⟩ | ⟨k, l, h1, _, h2⟩
    · exact ⟨x, h2, .inl ⟨h1, rfl⟩⟩
    · exact ⟨l, h2, .inr ⟨k, h1⟩⟩
  have key : ∀ (a : Option Addr) (n cap : Nat) (l h : Int), v = .slice a n cap → n ≤ cap → 0 ≤ l → l ≤ h → h ≤ cap → ((vlo = none ∧ l = 0) ∨ ∃ k, vlo = some (.int k l)) →
      ((hi = none ∧ vhi = none ∧ h = n) ∨ ∃ k, vhi = some (.int k h) ∧ hi = some (.g (.lit (.int k h)))) → (mx.isSome = true → mx = hi) →
      ∃ m : Nat, h ≤ m ∧ m ≤ cap ∧ (mx = none → m = cap) ∧ SlA P t v vlo vhi vmx (.slice (if m = l.toNat then a else a.map (·.add (l.toNat * s))) (h.toNat - l.toNat) (m - l.toNat)) := by
    intro a n cap l' h' hv hnc h0 h1 h2 hl hh hm
    obtain ⟨l, rfl⟩ := Int.eq_ofNat_of_zero_le h0
    obtain ⟨h, rfl⟩ := Int.eq_ofNat_of_zero_le (by omega : 0 ≤ h')
    subst hv
    cases mx with
    | none =>
      refine ⟨cap, by omega, Nat.le_refl _, fun _ => rfl, ?_⟩
      rw [nmx rfl]
      refine sl_any T (l := l) (h := h) (hl.imp (fun x => ⟨x.1, by omega⟩) id) ?_ (.inl ⟨rfl, rfl⟩) (by omega) (by omega) (Nat.le_refl _)
      rcases hh with ⟨_, h3, h4⟩ | ⟨k, h3, _⟩
      · exact .inl ⟨h3, by omega, rfl⟩
      · exact .inr ⟨k, h3⟩
    | some m =>
      have hmh := hm rfl
      rcases hh with ⟨h3, _⟩ | ⟨k, h3, h4⟩
      · rw [h3] at hmh; cases hmh
      · rw [h4] at hmh
        injection hmh with hmh
        obtain ⟨vm, h5, h6⟩ := hmx m rfl
        subst hmh
        rw [h6.lit_inv] at h5
        refine ⟨h, by omega, by omega, fun e => (by cases e), ?_⟩
        refine sl_any T (l := l) (h := h) (m := h) (hl.imp (fun x => ⟨x.1, by omega⟩) id) (.inr ⟨k, h3⟩) (.inr ⟨k, h5⟩) (by omega) (Nat.le_refl _) (by omega)
  have hib : ∀ {x : Int} {Q : Int → Prop}, bndD hi x Q → ∃ h : Int, Q h ∧ ((hi = none ∧ vhi = none ∧ h = x) ∨ ∃ k, vhi = some (.int k h) ∧ hi = some (.g (.lit (.int k h)))) := by
    intro x Q hq
    rcases bndD_sound hhi nhi hq with ⟨h0, h1, h2⟩ | ⟨k, l, h1, h0, h2⟩
    · exact ⟨x, h2, .inl ⟨h0, h1, rfl⟩⟩
    · exact ⟨l, h2, .inr ⟨k, h1, h0⟩⟩
  unfold slD at hyp
  split at hyp
  · rename_i els
    obtain ⟨l, hyp, hl⟩ := low hyp
    obtain ⟨hh, ⟨h0, h1, h2, hm, hs, hk⟩, hhh⟩ := hib hyp
    have hlen : ((els.take hh.toNat).drop l.toNat).length = hh.toNat - l.toNat := by simp; omega
    cases hd.g_inv with
    | nil =>
      obtain ⟨m, h3, h4, _, h5⟩ := key none 0 0 l hh rfl (Nat.le_refl _) h0 h1 (by simpa using h2) hl (by simpa using hhh) hm
      refine ⟨_, h5, _, ?_, hk⟩
      have e1 : l.toNat = 0 := by simp at h2; omega
      have e2 : hh.toNat = 0 := by simp at h2; omega
      have e3 : m = 0 := by omega
      subst e3
      rw [e1, e2]
      exact .g .nil
    | nilA a =>
      obtain ⟨m, h3, h4, _, h5⟩ := key (some a) 0 0 l hh rfl (Nat.le_refl _) h0 h1 (by simpa using h2) hl (by simpa using hhh) hm
      refine ⟨_, h5, _, ?_, hk⟩
      have e1 : l.toNat = 0 := by simp at h2; omega
      have e2 : hh.toNat = 0 := by simp at h2; omega
      have e3 : m = 0 := by omega
      subst e3
      rw [e1, e2]
      exact .g (.nilA _)
    | sl _ b off n cap s' cur el fr f hn h6 h7 hb hlen' hc hr =>
      subst hn
      obtain ⟨m, h3, h4, _, h5⟩ := key _ _ cap l hh rfl h6 h0 h1 (by omega) hl hhh hm
      refine ⟨_, h5, _, .g ?_, hk⟩
      by_cases hlm : m = l.toNat
      · rw [if_pos hlm]
        have e1 : (els.take hh.toNat).drop l.toNat = [] := List.eq_nil_of_length_eq_zero (by rw [hlen]; omega)
        rw [e1]
        exact .sl [] b off _ _ s' cur el fr f (by simp; omega) (by simp) (by simp) hb (by simp) (by simp) (by simp)
      · rw [if_neg hlm]
        have hss : l.toNat = 0 ∨ s' = s := by
          rcases Nat.eq_zero_or_pos l.toNat with h8 | h8
          · exact .inl h8
          · right
            cases els with
            | nil => simp at h2; omega
            | cons es r => rw [← hlen' es (by simp), hs (by omega) es (by simp)]
        have e2 : l.toNat * s = l.toNat * s' := by rcases hss with h8 | h8 <;> rw [h8]; omega
        rw [e2]
        simp only [Option.map_some, addr_add]
        have hg : ∀ (i : Nat) (es : List G), ((els.take hh.toNat).drop l.toNat)[i]? = some es → els[l.toNat + i]? = some es := by
          intro i es hi
          rw [List.getElem?_drop, List.getElem?_take] at hi
          split at hi
          · exact hi
          · cases hi
        refine .sl _ b _ _ _ s' cur el fr (fun i j => f (l.toNat + i) j) hlen.symm (by rw [hlen]; omega) (by rw [hlen]; omega) hb (fun es he => ?_) (fun i es j g hi hj => ?_) (fun i es j g hi hj => hr _ es j g (hg i es hi) hj)
        · exact hlen' es (List.mem_of_mem_take (List.mem_of_mem_drop he))
        · have := hc _ es j g (hg i es hi) hj
          rw [Nat.add_mul, ← Nat.add_assoc] at this
          exact this
  · rename_i k b o n cap s'
    obtain ⟨l, hyp, hl⟩ := low hyp
    obtain ⟨hh, ⟨h0, h1, h2, hm, rfl, hlt, hk⟩, hhh⟩ := hib hyp
    cases hd with
    | own _ _ _ _ _ _ cur el fr h6 h7 h47 hb hs =>
      obtain ⟨m, h3, h4, hmc, h5⟩ := key _ _ cap l hh rfl h6 h0 h1 (by omega) hl hhh (fun e => by rw [hm] at e; cases e)
      obtain rfl := hmc hm
      by_cases hml : m = l.toNat ∧ 0 < l
      · refine ⟨_, h5, _, ?_, hlt ⟨hml.2, by omega⟩⟩
        rw [if_pos hml.1, show hh.toNat - l.toNat = 0 by omega, show m - l.toNat = 0 by omega]
        exact .own k b o 0 0 s' cur el fr (Nat.le_refl _) (Nat.zero_le _) (Nat.zero_le _) hb (Nat.le_trans (Nat.mul_le_mul_right _ (by omega)) hs)
      · refine ⟨_, h5, _, ?_, hk⟩
        have e : (if m = l.toNat then (some (⟨b, o * s', none⟩ : Addr)) else (some (⟨b, o * s', none⟩ : Addr)).map (·.add (l.toNat * s'))) = some ⟨b, (o + l.toNat) * s', none⟩ := by
          by_cases hz : l = 0
          · subst hz; simp [addr_add]
          · rw [if_neg (fun h => hml ⟨h, by omega⟩)]
            simp only [Option.map_some, addr_add, Nat.add_mul]
        rw [e]
        refine .own k b _ _ _ s' cur el fr (by omega) (by omega) (by omega) hb (Nat.le_trans (Nat.mul_le_mul_right _ (by omega)) hs)
  · obtain ⟨l, hyp, hl⟩ := low hyp
    obtain ⟨hh, ⟨h0, h1, hm, hk⟩, hhh⟩ := hib hyp
    cases hd
    obtain ⟨m, h3, h4, _, h5⟩ := key none 0 0 l hh rfl (Nat.le_refl _) (by omega) (by omega) (by omega) hl (by simpa using hhh) hm
    refine ⟨_, h5, _, ?_, hk⟩
    have e3 : m = 0 := by omega
    subst e3
    subst h0; subst h1
    exact .nil
  · exact hyp.elim

/-! ### Structs -/

def zeroD (P : Program) (t : TypeId) : Option (List D) := match P.info? t with
  | some i => (match i.zero with | some z => some (z.cells.toList.map cellD) | none => none)
  | none => none

def D.cells : D → List D
  | .agg cs => cs
  | d => [d]

/-- Where the fields of a struct type lie. -/
def places (P : Program) (t : TypeId) : Option (List (Nat × Nat)) := match P.underlying t with
  | some (.struct fs) => fs.toList.mapM fun f => match P.info? f.type with | some i => some (f.offset, i.size) | none => none
  | _ => none

def fillD (pl : List (Nat × Nat)) (cs : List D) : List (Nat × D) → Option (List D)
  | [] => some cs
  | (i, d) :: r => match pl[i]? with
    | none => none
    | some (off, size) => if d.cells.length = size ∧ off + size ≤ cs.length ∧ d.cells.all D.one then fillD pl (cs.take off ++ d.cells ++ cs.drop (off + size)) r else none

def buildD (P : Program) (t : TypeId) (ps : List (Nat × D)) (K : D → Prop) : Prop := match places P t, zeroD P t with
  | some pl, some z => (match fillD pl z ps with | some cs => K (.agg cs) | none => False)
  | _, _ => False

theorem RdD.cellsL {d : D} {v : Value} (hd : RdD I H d v) (h1 : d.cells.all D.one = true) : RdL I H d.cells v.cells.toList := by
  cases d with
  | agg cs => obtain ⟨vs, rfl, h⟩ := hd.agg_inv; simpa [D.cells, Value.cells] using h
  | tup ds => simp [D.cells, D.one] at h1
  | junk => simp [D.cells, D.one] at h1
  | _ =>
    have h2 : v.oneCell' = true := hd.oneV rfl
    have hc : v.cells.toList = [v] := by cases v <;> first | rfl | (simp [Value.oneCell'] at h2)
    rw [hc]
    exact .cons hd .nil

theorem RdL.take {ds : List D} {vs : List Value} (h : RdL I H ds vs) (n : Nat) : RdL I H (ds.take n) (vs.take n) := by
  refine ⟨by simp [h.len], fun j d u h1 h2 => ?_⟩
  rw [List.getElem?_take] at h1 h2
  split at h1
  · rename_i hj
    rw [if_pos hj] at h2
    exact h.at_ j d u h1 h2
  · cases h1
theorem RdL.drop {ds : List D} {vs : List Value} (h : RdL I H ds vs) (n : Nat) : RdL I H (ds.drop n) (vs.drop n) := by
  refine ⟨by simp [h.len], fun j d u h1 h2 => ?_⟩
  rw [List.getElem?_drop] at h1 h2
  exact h.at_ _ d u h1 h2

theorem fillD_sound {pl : List (Nat × Nat)} : ∀ (ps : List (Nat × D)) (qs : List (Nat × Value)) (cs : List D) (us : Array Value) (out : List D), RdL I H cs us.toList → ps.map (·.1) = qs.map (·.1) → RdL I H (ps.map (·.2)) (qs.map (·.2)) →
    fillD pl cs ps = some out → ∃ r, Instr.fill (pl.toArray[·]?) us qs = some r ∧ RdL I H out r.toList
  | [], qs, cs, us, out, hc, hk, hv, h => by
    cases qs with
    | nil => simp only [fillD] at h; injection h with h; subst h; exact ⟨us, rfl, hc⟩
    | cons q r => simp at hk
  | (i, d) :: ps, qs, cs, us, out, hc, hk, hv, h => by
    cases qs with
    | nil => simp at hk
    | cons q r =>
      obtain ⟨i', v⟩ := q
      simp only [List.map_cons] at hk hv
      injection hk with hk1 hk2
      subst hk1
      obtain ⟨v', r', hvr, h1, h2⟩ := hv.uncons
      injection hvr with hv1 hv2
      subst hv1; subst hv2
      simp only [fillD] at h
      split at h
      · cases h
      · rename_i off size hp
        split at h
        · rename_i hcond
          obtain ⟨hs, hle, hone⟩ := hcond
          have hcl := h1.cellsL hone
          have hvs : v.cells.size = size := by have := hcl.len; simp at this; rw [this, hs]
          have hus : us.size = cs.length := by have := hc.len; simpa using this
          have e : ((v.cells.zipIdx).foldl (fun cs (x : Value × Nat) => cs.setIfInBounds (off + x.2) x.1) us).toList = us.toList.take off ++ v.cells.toList ++ us.toList.drop (off + size) := by
            rw [← Array.foldl_toList, Array.toList_zipIdx, foldl_splice _ 0 off us (by simp [hvs]; omega)]
            simp [hvs]
          obtain ⟨w, h3, h4⟩ := fillD_sound (pl := pl) ps r _ ((v.cells.zipIdx).foldl (fun cs (x : Value × Nat) => cs.setIfInBounds (off + x.2) x.1) us) out
            (by rw [e]; exact ((hc.take off).app hcl).app (hc.drop (off + size))) hk2 h2 h
          refine ⟨w, ?_, h4⟩
          simp only [Instr.fill]
          rw [show pl.toArray[i]? = some (off, size) by simpa using hp]
          simp only
          rw [if_neg (by simp [hvs]; omega)]
          exact h3
        · cases h

theorem places_run {t : TypeId} {pl : List (Nat × Nat)} (h : places P t = some pl) : ∃ fs, P.underlying t = some (.struct fs) ∧
    ∀ w, (fs.mapM fun f => do pure (f.offset, ← sizeOf f.type) : Sem (Array (Nat × Nat))).run P w = .ok pl.toArray w := by
  unfold places at h
  split at h
  · rename_i fs hu
    refine ⟨fs, hu, fun w => ?_⟩
    have key : ∀ (l : List Field) (pl : List (Nat × Nat)), (l.mapM fun f => match P.info? f.type with | some i => some (f.offset, i.size) | none => none) = some pl →
        (l.mapM fun f => do pure (f.offset, ← sizeOf f.type) : Sem (List (Nat × Nat))).run P w = .ok pl w := by
      intro l
      induction l with
      | nil => intro pl h; simp at h; subst h; simp
      | cons f r ih =>
        intro pl h
        simp only [List.mapM_cons] at h
        cases hi : P.info? f.type with
        | none => simp [hi] at h
        | some i =>
          simp only [hi] at h
          cases hr : (r.mapM fun f => match P.info? f.type with | some i => some (f.offset, i.size) | none => none) with
          | none => simp [hr] at h
          | some pr =>
            simp [hr] at h
            subst h
            simp only [List.mapM_cons, Sem.run_bind, sizeOf, info_parts' hi, Result.andThen_ok, Sem.run_pure]
            have := ih pr hr
            simp only [sizeOf, Sem.run_bind] at this
            rw [this]
            simp
    have := key fs.toList pl h
    rw [Array.mapM_eq_mapM_toList]
    simp only [Sem.run_map, this]
    rfl
  · cases h

theorem buildD_sound {t : TypeId} {ps : List (Nat × D)} {qs : List (Nat × Value)} (hk : ps.map (·.1) = qs.map (·.1)) (hv : RdL I H (ps.map (·.2)) (qs.map (·.2))) {K : D → Prop} (h : buildD P t ps K) :
    ∃ v, (∀ w, Does P (Instr.build t qs.toArray) w v w) ∧ ∃ d, RdD I H d v ∧ K d := by
  unfold buildD at h
  split at h
  · rename_i pl z hp hz
    split at h
    · rename_i cs hf
      obtain ⟨fs, hu, hpl⟩ := places_run hp
      unfold zeroD at hz
      split at hz
      · rename_i i hi
        split at hz
        · rename_i zv hzv
          injection hz with hz
          have hcz : RdL I H z zv.cells.toList := hz ▸ cellsD_rd I H zv.cells.toList
          obtain ⟨r, h1, h2⟩ := fillD_sound ps qs z zv.cells cs hcz hk hv hf
          refine ⟨.agg r, fun w => ?_, _, by simpa using RdD.ofL h2, h⟩
          have hpl' := hpl w
          unfold Does Instr.build
          simp only [Sem.run_bind, zeroValue, info_parts' hi, Result.andThen_ok, hzv, Sem.run_pure, run_underlying hu]
          try simp only [Sem.run_bind] at hpl'
          rw [hpl']
          try simp only [Result.andThen_ok]
          have h1' : Instr.fill (fun x => pl.toArray[x]?) zv.cells qs.toArray.toList = some r := h1
          rw [h1']
          rfl
        · cases hz
      · cases hz
    · exact h.elim
  · exact h.elim

def fieldD (P : Program) (t : TypeId) (f : Nat) (d : D) (K : D → Prop) : Prop := match fieldVal P t f, d with
  | some (off, some n), .agg cs => K (.agg ((cs.take (off + n)).drop off))
  | some (off, none), .agg cs => (match cs[off]? with | some d => K d | none => False)
  | _, _ => False

theorem fieldD_sound {t : TypeId} {f : Nat} {d : D} {v : Value} (hd : RdD I H d v) {K : D → Prop} (h : fieldD P t f d K) : fieldV P t f v (fun u => ∃ d', RdD I H d' u ∧ K d') := by
  unfold fieldD at h
  unfold fieldV
  split at h
  · rename_i off n cs hf
    obtain ⟨vs, rfl, hl⟩ := hd.agg_inv
    rw [hf]
    refine ⟨_, ?_, h⟩
    have e : (vs.toArray.extract off (off + n)) = ((vs.take (off + n)).drop off).toArray := by simp [List.take_drop]
    rw [e]
    exact RdD.ofL ((hl.take _).drop _)
  · rename_i off cs hf
    obtain ⟨vs, rfl, hl⟩ := hd.agg_inv
    rw [hf]
    split at h
    · rename_i d' hd'
      simp only [List.getElem?_toArray]
      have hlt := (List.getElem?_eq_some_iff.1 hd').1
      have hlv : off < vs.length := by rw [hl.len]; exact hlt
      have hv : vs[off]? = some vs[off] := List.getElem?_eq_getElem hlv
      rw [hv]
      exact ⟨_, hl.at_ _ _ _ hd' hv, h⟩
    · exact h.elim
  · exact h.elim

def tupD (d : D) (i : Nat) (K : D → Prop) : Prop := match d with
  | .tup ds => (match ds[i]? with | some d => K d | none => False)
  | _ => False
def optD (o : Option D) (K : D → Prop) : Prop := match o with | some x => K x | none => False
theorem optD_some {x : D} {K : D → Prop} : optD (some x) K = K x := rfl
theorem tupD_tup {ds : List D} {i : Nat} {K : D → Prop} : tupD (.tup ds) i K = optD ds[i]? K := rfl
theorem fieldD_one {t : TypeId} {f off : Nat} {cs : List D} {K : D → Prop} (h : fieldVal P t f = some (off, none)) : fieldD P t f (.agg cs) K = optD cs[off]? K := by
  simp only [fieldD, h, optD]
theorem fieldD_many {t : TypeId} {f off n : Nat} {cs : List D} {K : D → Prop} (h : fieldVal P t f = some (off, some n)) : fieldD P t f (.agg cs) K = K (.agg ((cs.take (off + n)).drop off)) := by
  simp only [fieldD, h]

theorem tupD_sound {d : D} {v : Value} (hd : RdD I H d v) {i : Nat} {K : D → Prop} (h : tupD d i K) : tupV v i (fun u => ∃ d', RdD I H d' u ∧ K d') := by
  unfold tupD at h
  split at h
  · rename_i ds
    obtain ⟨vs, rfl, hl⟩ := hd.tup_inv
    split at h
    · rename_i d' hd'
      have hlt := (List.getElem?_eq_some_iff.1 hd').1
      have hlv : i < vs.length := by rw [hl.len]; exact hlt
      have hv : vs[i]? = some vs[i] := List.getElem?_eq_getElem hlv
      simp only [tupV, List.getElem?_toArray, hv]
      exact ⟨_, hl.at_ _ _ _ hd' hv, h⟩
    · exact h.elim
  · exact h.elim

/-- A pointer to a field. -/
def faddrD (P : Program) (t : TypeId) (f : Nat) (d : D) (K : D → Prop) : Prop := match fieldOff P t f, d with
  | some fo, .ptr k b i off s => K (.ptr k b i (off + fo) s)
  | some fo, .ip cs => K (.ip (cs.drop fo))
  | _, _ => False
theorem faddrD_ptr {t : TypeId} {f fo : Nat} {k : Nm} {b i off s : Nat} {K : D → Prop} (h : fieldOff P t f = some fo) : faddrD P t f (.ptr k b i off s) K = K (.ptr k b i (off + fo) s) := by simp only [faddrD, h]
theorem faddrD_ip {t : TypeId} {f fo : Nat} {cs : List G} {K : D → Prop} (h : fieldOff P t f = some fo) : faddrD P t f (.ip cs) K = K (.ip (cs.drop fo)) := by simp only [faddrD, h]

def nilChD (d : D) (K : D → Prop) : Prop := match d with
  | .ptr .. => K d
  | .ip .. => K d
  | _ => False
theorem nilChD_ptr {k : Nm} {b i off s : Nat} {K : D → Prop} : nilChD (.ptr k b i off s) K = K (.ptr k b i off s) := rfl
theorem nilChD_ip {cs : List G} {K : D → Prop} : nilChD (.ip cs) K = K (.ip cs) := rfl

def boolD (d : D) (K : Bool → Prop) : Prop := match d with | .g (.lit (.bool b)) => K b | _ => False
theorem boolD_lit {b : Bool} {K : Bool → Prop} : boolD (.g (.lit (.bool b))) K = K b := rfl
theorem boolD_cases {d : D} {K : Bool → Prop} (h : boolD d K) : ∃ b, d = .g (.lit (.bool b)) ∧ K b := by
  unfold boolD at h; split at h
  · exact ⟨_, rfl, h⟩
  · exact h.elim
def lit2 (a b : D) (K : Value → Value → Prop) : Prop := litD a fun x => litD b fun y => K x y
theorem lit2_g {x y : Value} {K : Value → Value → Prop} : lit2 (.g (.lit x)) (.g (.lit y)) K = K x y := rfl

/-- Arrays of one-cell elements. -/
def arrN (P : Program) (t : TypeId) : Option Nat := match P.underlying t with
  | some (.array n e) => (match P.info? e with | some i => if i.size = 1 then some n else none | none => none)
  | _ => none
theorem arrN_run {t : TypeId} {n : Nat} (h : arrN P t = some n) : ∃ e, P.underlying t = some (.array n e) ∧ ∀ w, (sizeOf e).run P w = .ok 1 w := by
  unfold arrN at h
  split at h
  · rename_i m e hu2
    split at h
    · rename_i i hi
      split at h
      · rename_i h1
        injection h with h
        subst h
        exact ⟨e, hu2, fun w => by simp [sizeOf, info_parts' hi, h1]⟩
      · cases h
    · cases h
  · cases h
/-- All of an array as a slice. -/
def arrD (n : Nat) (x : D) (K : D → Prop) : Prop := match x with
  | .arr k b m => m = n ∧ K (.own k b 0 n n 1)
  | _ => False
theorem arrD_arr {n m b : Nat} {k : Nm} {K : D → Prop} : arrD n (.arr k b m) K = (m = n ∧ K (.own k b 0 n n 1)) := rfl
theorem arr_sound {I : CI} {H : Array Obj} {t : TypeId} {n : Nat} (T : arrN P t = some n) {x : D} {vx : Value} (hx : RdD I H x vx) {K : D → Prop} (h : arrD n x K) : ∃ v, SlA P t vx none none none v ∧ ∃ d, RdD I H d v ∧ K d := by
  obtain ⟨el, hu, hz⟩ := arrN_run T
  cases x with
  | arr k b m =>
    obtain ⟨rfl, hK⟩ := h
    cases hx with
    | arr _ _ _ cur el0 fr h1 hb hs =>
      refine ⟨.slice (some ⟨b, 0, none⟩) m m, fun w => ?_, .own k b 0 m m 1, ?_, hK⟩
      · unfold Does
        simp [Instr.sliceAt, run_underlying hu, hz, Instr.sliceBounds, Instr.sureAddr, asAddr, Addr.add]
      · have := RdD.own (I := I) (H := H) k b 0 m m 1 cur el0 fr (Nat.le_refl _) (by unfold maxLen; omega) h1 hb (by simpa using hs)
        simpa using this
  | _ => exact h.elim
def ppureV (P : Program) (o : Oper) (e : DEnv) (K : D → Prop) : Prop :=
  match o.op with
  | .move x | .assign x => K (pev e x)
  | .pick c a b => boolD (pev e c) (fun t => K (if t then pev e a else pev e b))
  | .build t ps => buildD P t (ps.toList.map fun (i, x) => (i, pev e x)) K
  | .nilCheck x => nilChD (pev e x) K
  | .binOp op t x y _ => lit2 (pev e x) (pev e y) fun a b => pbin P op t a b (fun v => K (.g (.lit v)))
  | .unOp op _ x => litD (pev e x) fun a => unV op a (fun v => K (.g (.lit v)))
  | .convert s d x => litD (pev e x) fun a => pconv P s d a (fun v => K (.g (.lit v)))
  | .makeFunc (.func f) first cap => K (.fn f (first.toList.map (pev e)) (cap.toList.map (pev e)))
  | .slice t x lo hi mx => (match slS P t with | some s => slD s (pev e x) (lo.map (pev e)) (hi.map (pev e)) (mx.map (pev e)) K | none => (match arrN P t with | some n => lo = none ∧ hi = none ∧ mx = none ∧ arrD n (pev e x) K | none => False))
  | .fieldAddr t x f => faddrD P t f (pev e x) K
  | .field t x f => fieldD P t f (pev e x) K
  | .indexAddr t x i => (match slS P t with | some s => idxD (pev e i) fun n => ixD s (pev e x) n K | none => False)
  | .extract t i => tupD (pev e t) i K
  | .call c => (match c.callee with
    | .builtin .len => (match c.argTypes[0]?, c.args.toList with
      | some t, [x] => (slS P t).isSome = true ∧ lenD (pev e x) K
      | _, _ => False)
    | .builtin .min => (match c.args.toList with
      | [x, y] => lit2 (pev e x) (pev e y) fun a b => (match a, b with | .int k x, .int _ y => K (.g (.lit (.int k (if y < x then y else x)))) | _, _ => False)
      | _ => False)
    | .builtin .max => (match c.args.toList with
      | [x, y] => lit2 (pev e x) (pev e y) fun a b => (match a, b with | .int k x, .int _ y => K (.g (.lit (.int k (if x < y then y else x)))) | _, _ => False)
      | _ => False)
    | _ => False)
  | _ => False

theorem mono_one {K : D → Prop} {v : Value} {Q : Value → Prop} (h : Q v) : Q v := h

theorem intV_mono {op : BinOp} {k k' : IntKind} {a b : Int} {K K' : Value → Prop} (h : intV op k a k' b K) (hk : ∀ v, K v → K' v) : intV op k a k' b K' := by
  have ha : ∀ {k : IntKind} {n : Int}, arith k n K → arith k n K' := by
    intro k n h; cases k <;> first | exact hk _ h | exact ⟨h.1, hk _ h.2⟩
  cases op <;> simp only [intV] at h ⊢ <;> first
    | exact ⟨h.1, hk _ h.2⟩ | exact ⟨h.1, ha h.2⟩ | exact ⟨h.1, h.2.1, ha h.2.2⟩ | exact ⟨h.1, h.2.1, hk _ h.2.2⟩
theorem pbin_mono {op : BinOp} {t : TypeId} {x y : Value} {K K' : Value → Prop} (h : pbin P op t x y K) (hk : ∀ v, K v → K' v) : pbin P op t x y K' := by
  unfold pbin at h ⊢
  split at h
  · exact intV_mono h hk
  · refine ⟨h.1, ?_⟩
    have h2 := h.2
    cases op <;> first | exact h2.elim | exact hk _ h2
  · exact h.elim
theorem unV_mono {op : UnOp} {x : Value} {K K' : Value → Prop} (h : unV op x K) (hk : ∀ v, K v → K' v) : unV op x K' := by
  unfold unV at h ⊢
  split at h
  · exact hk _ h
  · rename_i k n; cases k <;> first | exact hk _ h | exact ⟨h.1, hk _ h.2⟩
  · exact h.elim
theorem pconv_mono {s d : TypeId} {x : Value} {K K' : Value → Prop} (h : pconv P s d x K) (hk : ∀ v, K v → K' v) : pconv P s d x K' := by
  unfold pconv at h ⊢
  split at h
  · exact ⟨h.1, hk _ h.2⟩
  · exact h.elim

theorem ppure_sound (he : EnvR I H e e') {o : Oper} {K : D → Prop} (h : ppureV P o e K) : pureV P o e' (fun v => ∃ d, RdD I H d v ∧ K d) := by
  obtain ⟨dst, op, ty, pos, aft, gd⟩ := o
  have gv : ∀ {K : D → Prop} {v : Value}, one' K v → ∃ d, RdD I H d v ∧ K d := fun h => one_rd h
  cases op <;> simp only [ppureV] at h <;> simp only [pureV]
  case move x => exact ⟨_, he.ev x, h⟩
  case assign x => exact ⟨_, he.ev x, h⟩
  case pick c a b =>
    obtain ⟨t, ht, hk⟩ := boolD_cases h
    have := he.ev c
    rw [ht] at this
    rw [this.lit_inv]
    refine ⟨_, ?_, hk⟩
    cases t
    · exact he.ev b
    · exact he.ev a
  case build t ps =>
    have h1 := buildD_sound (P := P) (I := I) (H := H) (qs := ps.toList.map fun (i, x) => (i, V.ev e' x)) (by simp) (by
      simp only [List.map_map]
      have := he.evs (ps.toList.map (·.2))
      simpa [Function.comp_def] using this) h
    obtain ⟨v, h2, h3⟩ := h1
    refine ⟨v, fun w => ?_, h3⟩
    have h4 := h2 w
    have e : (ps.toList.map fun (i, x) => (i, V.ev e' x)).toArray = ps.map fun (i, x) => (i, V.ev e' x) := by
      apply Array.ext'; simp
    rw [e] at h4
    exact h4
  case nilCheck x =>
    unfold nilChD at h
    have hr := he.ev x
    generalize V.ev e' x = u at hr ⊢
    split at h
    · rename_i hx; rw [hx] at hr; cases hr; rw [hx] at h; exact ⟨_, .ptr .., h⟩
    · rename_i hx; rw [hx] at hr; rw [hx] at h
      cases hr with
      | ip _ b o cur el fr f hb hc hrr => exact ⟨_, .ip _ b o cur el fr f hb hc hrr, h⟩
    · exact h.elim
  case binOp op t x y yt =>
    obtain ⟨a, ha, h⟩ := litD_cases h
    obtain ⟨b, hb, h⟩ := litD_cases h
    have h1 := he.ev x
    have h2 := he.ev y
    rw [ha] at h1; rw [hb] at h2
    rw [h1.lit_inv, h2.lit_inv]
    exact pbin_mono (pbin_one h) fun v hv => gv hv
  case unOp op t x =>
    obtain ⟨a, ha, h⟩ := litD_cases h
    have h1 := he.ev x
    rw [ha] at h1
    rw [h1.lit_inv]
    exact unV_mono (unV_one h) fun v hv => gv hv
  case convert s d x =>
    obtain ⟨a, ha, h⟩ := litD_cases h
    have h1 := he.ev x
    rw [ha] at h1
    rw [h1.lit_inv]
    exact pconv_mono (pconv_one h) fun v hv => gv hv
  case makeFunc fn first cap =>
    cases fn with
    | func f =>
      have e1 : (first.map (V.ev e')) = (first.toList.map (V.ev e')).toArray := by apply Array.ext'; simp
      have e2 : (cap.map (V.ev e')) = (cap.toList.map (V.ev e')).toArray := by apply Array.ext'; simp
      rw [e1, e2]
      have h1 := he.evs first.toList
      have h2 := he.evs cap.toList
      exact ⟨_, .fn f _ _ _ _ h1.len h2.len h1.at_ h2.at_, h⟩
    | _ => exact h.elim
  case slice t x lo hi mx =>
    split at h
    · rename_i s hs
      have hm : ∀ (q : Option Operand) (d : D), q.map (pev e) = some d → ∃ v, q.map (V.ev e') = some v ∧ RdD I H d v := by
        intro q d hq
        cases q with
        | none => cases hq
        | some z => simp at hq; subst hq; exact ⟨_, rfl, he.ev z⟩
      have hn : ∀ (q : Option Operand), q.map (pev e) = none → q.map (V.ev e') = none := by
        intro q hq
        cases q with
        | none => rfl
        | some z => cases hq
      obtain ⟨u, h1, h2⟩ := slD_sound hs (he.ev x) (hm lo) (hn lo) (hm hi) (hn hi) (hm mx) (hn mx) h
      exact ⟨u, h1, h2⟩
    · split at h
      · rename_i n hn
        obtain ⟨rfl, rfl, rfl, h⟩ := h
        obtain ⟨u, h1, h2⟩ := arr_sound hn (he.ev x) h
        exact ⟨u, h1, h2⟩
      · exact h.elim
  case fieldAddr t x f =>
    have hr := he.ev x
    generalize V.ev e' x = u at hr ⊢
    unfold faddrD at h
    split at h
    · rename_i hf hx
      rw [hx] at hr; rw [hf]; cases hr
      simp only [ptrV, addr_add, Nat.add_assoc]
      exact ⟨_, .ptr .., h⟩
    · rename_i fo cs hf hx
      rw [hx] at hr; rw [hf]
      cases hr with
      | ip _ b o cur el fr f hb hc hrr =>
        simp only [ptrV, addr_add]
        refine ⟨_, .ip _ b (o + fo) cur el fr (fun j => f (fo + j)) hb (fun j g hg => ?_) (fun j g hg => ?_), h⟩
        · rw [List.getElem?_drop] at hg
          rw [Nat.add_assoc]; exact hc _ g hg
        · rw [List.getElem?_drop] at hg
          exact hrr _ g hg
    · exact h.elim
  case field t x f => exact fieldD_sound (he.ev x) h
  case indexAddr t x i =>
    split at h
    · rename_i s hs
      obtain ⟨k, n, hi, h⟩ := idxD_cases h
      have h1 := he.ev i
      rw [hi] at h1
      rw [h1.lit_inv]
      obtain ⟨ad, h2, h3⟩ := ixD_sound hs (he.ev x) (k := k) h
      exact ⟨ad, h2, h3⟩
    · exact h.elim
  case extract t i => exact tupD_sound (he.ev t) h
  case call c =>
    obtain ⟨callee, args, ats⟩ := c
    cases callee with
    | value o => exact h.elim
    | invoke r m => exact h.elim
    | builtin b =>
      have hargs : ∀ {l : List Operand}, args.toList = l → args.map (V.ev e') = (l.map (V.ev e')).toArray := by
        intro l hl; subst hl; apply Array.ext'; simp
      cases b with
      | len =>
        simp only at h ⊢
        split at h
        · rename_i t x ht hx
          obtain ⟨hs, h⟩ := h
          obtain ⟨s, hs⟩ := Option.isSome_iff_exists.1 hs
          obtain ⟨el, hu, _⟩ := slS_run hs
          rw [ht, hargs hx]
          simp only [List.map_cons, List.map_nil, List.getElem?_toArray, List.getElem?_cons_zero, hu]
          obtain ⟨n, h1, h2⟩ := lenD_sound (he.ev x) h
          exact ⟨n, h1, _, .g (.lit _ rfl), h2⟩
        · exact h.elim
      | min =>
        simp only at h ⊢
        split at h
        · rename_i x y hx
          obtain ⟨a, ha, h⟩ := litD_cases h
          obtain ⟨b, hb, h⟩ := litD_cases h
          have h1 := he.ev x
          have h2 := he.ev y
          rw [ha] at h1; rw [hb] at h2
          rw [hargs hx]
          simp only [List.map_cons, List.map_nil, h1.lit_inv, h2.lit_inv]
          split at h
          · exact ⟨_, .g (.lit _ rfl), h⟩
          · exact h.elim
        · exact h.elim
      | max =>
        simp only at h ⊢
        split at h
        · rename_i x y hx
          obtain ⟨a, ha, h⟩ := litD_cases h
          obtain ⟨b, hb, h⟩ := litD_cases h
          have h1 := he.ev x
          have h2 := he.ev y
          rw [ha] at h1; rw [hb] at h2
          rw [hargs hx]
          simp only [List.map_cons, List.map_nil, h1.lit_inv, h2.lit_inv]
          split at h
          · exact ⟨_, .g (.lit _ rfl), h⟩
          · exact h.elim
        · exact h.elim
      | _ => exact h.elim
  all_goals exact h.elim

end
end Go.V
namespace Go.V
open Go Go.RowKit

section
variable {P : Program} {I : CI} {S : Store} {w : World} {e : DEnv} {e' : Env}

def optL (o : Option (List D)) (K : List D → Prop) : Prop := match o with | some x => K x | none => False
theorem optL_some {x : List D} {K : List D → Prop} : optL (some x) K = K x := rfl
theorem optL_cases {o : Option (List D)} {K : List D → Prop} (h : optL o K) : ∃ x, o = some x ∧ K x := by
  cases o with | none => exact h.elim | some x => exact ⟨x, rfl, h⟩
def stV (S : Store) (k : Nm) (K : Blk → Prop) : Prop := match S k with | some B => K B | none => False
theorem stV_cases {k : Nm} {K : Blk → Prop} (h : stV S k K) : ∃ B, S k = some B ∧ K B := by
  unfold stV at h; split at h
  · rename_i B hB; exact ⟨B, hB, h⟩
  · exact h.elim
def optB (o : Option Blk) (K : Blk → Prop) : Prop := match o with | some B => K B | none => False
theorem optB_some {B : Blk} {K : Blk → Prop} : optB (some B) K = K B := rfl
theorem stV_eq {k : Nm} {K : Blk → Prop} : stV S k K = optB (S k) K := rfl

/-! ### Loads -/

def cellsD (P : Program) (t : TypeId) (l : List D) (K : D → Prop) : Prop := match aggN P t with
  | some n => n ≤ l.length ∧ K (.agg (l.take n))
  | none => scalB P t = true ∧ optD l[0]? K
theorem cellsD_agg {t n : Nat} (h : aggN P t = some n) {l : List D} {K : D → Prop} : cellsD P t l K = (n ≤ l.length ∧ K (.agg (l.take n))) := by simp only [cellsD, h]
theorem cellsD_one {t : Nat} (h : aggN P t = none ∧ scalB P t = true) {l : List D} {K : D → Prop} : cellsD P t l K = optD l[0]? K := by simp only [cellsD, h.1, h.2, true_and]

def loadD (P : Program) (S : Store) (t : TypeId) (d : D) (K : D → Prop) : Prop := match d with
  | .ptr k b i off s => optB (S k) fun B => B.b = b ∧ B.s = s ∧ optL B.els[i]? fun es => cellsD P t (es.drop off) K
  | .ip cs => cellsD P t (cs.map D.g) K
  | _ => False
theorem loadD_ptr {t : TypeId} {k : Nm} {b i off s : Nat} {K : D → Prop} : loadD P S t (.ptr k b i off s) K = optB (S k) fun B => B.b = b ∧ B.s = s ∧ optL B.els[i]? fun es => cellsD P t (es.drop off) K := rfl
theorem loadD_ip {t : TypeId} {cs : List G} {K : D → Prop} : loadD P S t (.ip cs) K = cellsD P t (cs.map D.g) K := rfl

theorem optB_cases {o : Option Blk} {K : Blk → Prop} (h : optB o K) : ∃ B, o = some B ∧ K B := by
  cases o with | none => exact h.elim | some x => exact ⟨x, rfl, h⟩

theorem cells_ld {t : TypeId} {l : List D} {K : D → Prop} {b o : Nat} {cur : Array Value} {el : TypeId} {fr : Nat × Nat} (hb : w.heap[b]? = some (.cells cur el fr))
    (hc : ∀ (j : Nat) (d : D), l[j]? = some d → ∃ u, cur[o + j]? = some u ∧ RdD I w.heap d u) (h : cellsD P t l K) :
    ∃ u, (∀ w', Ext w w' → Ld P w' t (.pointer (some ⟨b, o, none⟩)) u) ∧ ∃ d, RdD I w.heap d u ∧ K d := by
  have cell : ∀ (w' : World), Ext w w' → ∀ (j : Nat) (u : Value), cur[o + j]? = some u → w'.cell? ⟨b, o + j, none⟩ = some u := by
    intro w' hE j u hu
    have : w'.heap[b]? = some (.cells cur el fr) := Ext.at hE hb
    simp [World.cell?, this, hu]
  unfold cellsD at h
  split at h
  · rename_i n ha
    obtain ⟨hn, hk⟩ := h
    have hl : ∀ j, j < n → ∃ u, cur[o + j]? = some u := fun j hj => by
      obtain ⟨u, hu, _⟩ := hc j (l[j]'(by omega)) (List.getElem?_eq_getElem (by omega))
      exact ⟨u, hu⟩
    refine ⟨.agg ((List.range n).map fun j => (cur[o + j]?).getD undef).toArray, fun w' hE => ?_, _, RdD.ofL ⟨by simp; omega, fun j d u h1 h2 => ?_⟩, hk⟩
    · refine ld_agg ha (by simp) fun j v hv => ?_
      rw [addr_add]
      have hj : j < n := by have := (List.getElem?_eq_some_iff.1 hv).1; simpa using this
      obtain ⟨u, hu⟩ := hl j hj
      simp [hj, hu] at hv
      subst hv
      exact cell w' hE j u hu
    · rw [List.getElem?_take] at h1
      split at h1
      · rename_i hj
        obtain ⟨u', hu, hr⟩ := hc j d h1
        simp [hj, hu] at h2
        subst h2
        exact hr
      · cases h1
  · obtain ⟨hs, h⟩ := h
    unfold optD at h
    split at h
    · rename_i d hd
      obtain ⟨u, hu, hr⟩ := hc 0 d hd
      exact ⟨u, fun w' hE => ld_scal hs (by have := cell w' hE 0 u hu; simpa using this), d, hr, h⟩
    · exact h.elim

theorem loadD_sound (hR : Rel I S w) {t : TypeId} {d : D} {v : Value} (hd : RdD I w.heap d v) {K : D → Prop} (h : loadD P S t d K) :
    ∃ u, (∀ w', Ext w w' → Ld P w' t v u) ∧ ∃ d', RdD I w.heap d' u ∧ K d' := by
  unfold loadD at h
  split at h
  · rename_i k b i off s
    obtain ⟨B, hk, rfl, rfl, h2⟩ := optB_cases h
    obtain ⟨es, he, h⟩ := optL_cases h2
    obtain ⟨cur, el, hb, _, _, hc, _⟩ := (hR.has k B hk).ex
    rw [hd.ptr_inv]
    refine cells_ld hb (fun j d hj => ?_) h
    rw [List.getElem?_drop] at hj
    have := hc i es _ d he hj
    rw [Nat.add_assoc]
    exact this
  · rename_i cs
    cases hd with
    | ip _ b o cur el fr f hb hc hr =>
      refine cells_ld hb (fun j d hj => ?_) h
      rw [List.getElem?_map] at hj
      cases hg : cs[j]? with
      | none => rw [hg] at hj; cases hj
      | some g => rw [hg] at hj; injection hj with hj; subst hj; exact ⟨f j, (hc j g hg).2, .g (hr j g hg)⟩
  · exact h.elim

/-! ### Stores -/

def storeD (P : Program) (S : Store) (t : TypeId) (a x : D) (K : Store → Prop) : Prop := match a with
  | .ptr k b i off s => optB (S k) fun B => B.b = b ∧ B.s = s ∧ B.p ≤ i ∧ optL B.els[i]? fun es => (match aggN P t with
    | some n => (match x with | .agg cs => cs.length = n ∧ cs.all D.one = true ∧ off + n ≤ es.length ∧ K (updS S k (some ⟨B.b, B.s, B.p, B.els.set i (es.take off ++ cs ++ es.drop (off + n))⟩)) | _ => False)
    | none => scalB P t = true ∧ x.one = true ∧ off < es.length ∧ K (updS S k (some ⟨B.b, B.s, B.p, B.els.set i (es.set off x)⟩)))
  | _ => False
def stCells (P : Program) (t : TypeId) (off : Nat) (x : D) (es : List D) (K : List D → Prop) : Prop := match aggN P t with
  | some n => (match x with | .agg cs => cs.length = n ∧ cs.all D.one = true ∧ off + n ≤ es.length ∧ K (es.take off ++ cs ++ es.drop (off + n)) | _ => False)
  | none => scalB P t = true ∧ x.one = true ∧ off < es.length ∧ K (es.set off x)
theorem stCells_agg {t n off : Nat} (h : aggN P t = some n) {cs es : List D} {K : List D → Prop} : stCells P t off (.agg cs) es K = (cs.length = n ∧ cs.all D.one = true ∧ off + n ≤ es.length ∧ K (es.take off ++ cs ++ es.drop (off + n))) := by simp only [stCells, h]
theorem stCells_one {t off : Nat} (h : aggN P t = none ∧ scalB P t = true) {x : D} {es : List D} {K : List D → Prop} : stCells P t off x es K = (x.one = true ∧ off < es.length ∧ K (es.set off x)) := by simp only [stCells, h.1, h.2, true_and]
theorem storeD_ptr {t : TypeId} {k : Nm} {b i off s : Nat} {x : D} {K : Store → Prop} : storeD P S t (.ptr k b i off s) x K =
    optB (S k) fun B => B.b = b ∧ B.s = s ∧ B.p ≤ i ∧ optL B.els[i]? fun es => stCells P t off x es fun es' => K (updS S k (some ⟨B.b, B.s, B.p, B.els.set i es'⟩)) := by
  unfold storeD stCells; rfl

theorem cells_agg (l : List Value) : (Value.agg l.toArray).cells = l.toArray := rfl

theorem storeD_sound (hR : Rel I S w) {t : TypeId} {a x : D} {va vx : Value} (ha : RdD I w.heap a va) (hx : RdD I w.heap x vx) {K : Store → Prop} (h : storeD P S t a x K) :
    ∃ w', St P w t va vx w' ∧ ∃ I' S', Stp I S w I' S' w' ∧ Rel I' S' w' ∧ K S' := by
  cases a with
  | ptr k b i off s =>
    rw [storeD_ptr] at h
    obtain ⟨B, hk, rfl, rfl, hp, h2⟩ := optB_cases h
    obtain ⟨es, he, h3⟩ := optL_cases h2
    clear h h2
    have h := h3
    clear h3
    obtain ⟨cur, el, hb, hz, hl, hc, hfz, hpl⟩ := (hR.has k B hk).ex
    have hi : i < B.els.length := (List.getElem?_eq_some_iff.1 he).1
    have hes := hl i es he
    have hrow : Row w B.b el cur.toList := by unfold Row; simpa using hb
    rw [ha.ptr_inv]
    have hib : (i + 1) * B.s ≤ cur.size := Nat.le_trans (Nat.mul_le_mul_right _ hi) hz
    rw [Nat.add_mul] at hib
    have hpi : B.p * B.s ≤ i * B.s := Nat.mul_le_mul_right _ hp
    have apart : ∀ (i' j : Nat), i' ≠ i → j < B.s → i' * B.s + j < i * B.s ∨ i * B.s + B.s ≤ i' * B.s + j := by
      intro i' j hne hj
      rcases Nat.lt_or_gt_of_ne hne with h1 | h1
      · left
        have : (i' + 1) * B.s ≤ i * B.s := Nat.mul_le_mul_right _ h1
        rw [Nat.add_mul] at this; omega
      · right
        have : (i + 1) * B.s ≤ i' * B.s := Nat.mul_le_mul_right _ h1
        rw [Nat.add_mul] at this; omega
    -- what both ways have in common
    have fin : ∀ (w' : World) (ys : List Value) (es' : List D), Row w' B.b el ys → Upd B.b w w' → ys.length = cur.size → es'.length = B.s → (∀ j, (j < i * B.s ∨ i * B.s + B.s ≤ j) → ys[j]? = cur[j]?) →
        (∀ (j : Nat) (d : D), es'[j]? = some d → ∃ u, ys[i * B.s + j]? = some u ∧ RdD I w.heap d u) → K (updS S k (some ⟨B.b, B.s, B.p, B.els.set i es'⟩)) →
        ∃ I' S', Stp I S w I' S' w' ∧ Rel I' S' w' ∧ K S' := by
      intro w' ys es' h1 h2 h3 h4 h5 h6 h7
      obtain ⟨r1, r2⟩ := hR.write hk hrow h1 h2 (by simpa using h3) (els := B.els.set i es') (by simpa using hpl) (by simp; omega) (fun i' es0 h8 => by
          rw [List.getElem?_set] at h8
          by_cases hii : i = i'
          · subst hii
            rw [if_pos rfl, if_pos hi] at h8
            injection h8 with h8; subst h8; exact h4
          · rw [if_neg hii] at h8; exact hl i' es0 h8) (fun j hj => by
            have h8 := h5 j (Or.inl (by omega))
            simpa using h8) (fun i' es0 j d h8 h9 => by
          rw [List.getElem?_set] at h8
          by_cases hii : i = i'
          · subst hii
            rw [if_pos rfl, if_pos hi] at h8
            injection h8 with h8; subst h8; exact h6 j d h9
          · have hne := hii
            rw [if_neg hii] at h8
            obtain ⟨u, hu, hr⟩ := hc i' es0 j d h8 h9
            refine ⟨u, ?_, hr⟩
            have hj : j < B.s := by rw [← hl i' es0 h8]; exact (List.getElem?_eq_some_iff.1 h9).1
            rw [h5 _ (apart i' j (fun e => hne e.symm) hj)]
            exact hu)
      exact ⟨I, _, r2, r1, h7⟩
    unfold stCells at h
    split at h
    · rename_i n hn
      split at h
      · rename_i cs
        obtain ⟨hcs, hone, hof, hK⟩ := h
        obtain ⟨vs, rfl, hvs⟩ := hx.agg_inv
        have hvl : vs.length = n := by rw [hvs.len, hcs]
        have hu1 : ∀ v ∈ vs, v.oneCell' = true := by
          intro v hv
          obtain ⟨j, hj⟩ := List.mem_iff_getElem?.1 hv
          have hj' : j < cs.length := by rw [← hvs.len]; exact (List.getElem?_eq_some_iff.1 hj).1
          have hd := List.getElem?_eq_getElem hj'
          exact (hvs.at_ j _ v hd hj).oneV (List.all_eq_true.1 hone _ (List.getElem_mem hj'))
        obtain ⟨w', h1, h2, h3⟩ := hrow.stAgg hn (i := i * B.s + off) hvl (by simp; omega) hu1
        have hpos : i * B.s + off + n ≤ cur.size := by omega
        refine ⟨w', h1, fin w' _ _ h2 h3 ?_ ?_ ?_ ?_ hK⟩
        · simp; omega
        · simp; omega
        · intro j hj
          simp only [List.append_assoc]
          rcases hj with hj | hj
          · rw [List.getElem?_append_left (by simp; omega), List.getElem?_take, if_pos (by omega)]; simp
          · rw [List.getElem?_append_right (by simp; omega), List.getElem?_append_right (by simp; omega), List.getElem?_drop]
            simp only [List.length_take, Array.length_toList]
            rw [show i * B.s + off + n + (j - min (i * B.s + off) cur.size - vs.length) = j by omega]
            simp
        · intro j d hj
          rw [List.append_assoc] at hj ⊢
          by_cases hj1 : j < off
          · rw [List.getElem?_append_left (by simp; omega), List.getElem?_take, if_pos hj1] at hj
            obtain ⟨u, hu, hr⟩ := hc i es j d he hj
            refine ⟨u, ?_, hr⟩
            rw [List.getElem?_append_left (by simp; omega), List.getElem?_take, if_pos (by omega)]
            simpa using hu
          · rw [List.getElem?_append_right (by simp; omega)] at hj
            rw [List.getElem?_append_right (by simp; omega)]
            simp only [List.length_take, Array.length_toList] at hj ⊢
            by_cases hj2 : j < off + n
            · rw [List.getElem?_append_left (by omega)] at hj
              have hlt : j - min off es.length < vs.length := by omega
              refine ⟨vs[j - min off es.length], ?_, hvs.at_ _ d _ hj (List.getElem?_eq_getElem hlt)⟩
              rw [List.getElem?_append_left (by omega), show i * B.s + j - min (i * B.s + off) cur.size = j - min off es.length by omega, List.getElem?_eq_getElem hlt]
            · rw [List.getElem?_append_right (by omega), List.getElem?_drop, show off + n + (j - min off es.length - cs.length) = j by omega] at hj
              obtain ⟨u, hu, hr⟩ := hc i es j d he hj
              refine ⟨u, ?_, hr⟩
              rw [List.getElem?_append_right (by omega), List.getElem?_drop, show i * B.s + off + n + (i * B.s + j - min (i * B.s + off) cur.size - vs.length) = i * B.s + j by omega]
              simpa using hu
      · exact h.elim
    · obtain ⟨hs, hone, hof, hK⟩ := h
      have hpos : i * B.s + off < cur.size := by omega
      obtain ⟨w', h1, h2, h3⟩ := hrow.st hs (i := i * B.s + off) (by simpa using hpos) (hx.oneV hone)
      refine ⟨w', h1, fin w' _ _ h2 h3 ?_ ?_ ?_ ?_ hK⟩
      · simp
      · simpa using hes
      · intro j hj
        rw [List.getElem?_set_ne (by omega)]; simp
      · intro j d hj
        rw [List.getElem?_set] at hj
        by_cases e0 : off = j
        · subst e0
          rw [if_pos rfl, if_pos hof] at hj
          injection hj with hj; subst hj
          exact ⟨vx, by rw [List.getElem?_set_self (by simpa using hpos)], hx⟩
        · have hne := e0
          rw [if_neg e0] at hj
          obtain ⟨u, hu, hr⟩ := hc i es j d he hj
          exact ⟨u, by rw [List.getElem?_set_ne (by omega)]; simpa using hu, hr⟩
  | _ => exact h.elim

/-! ### New blocks -/

theorem alloc_sound (hR : Rel I S w) {t : TypeId} {z : List D} (hz : zeroD P t = some z) {k : Nm} {K : D → Store → Prop} (h : ∀ b, K (.ptr k b 0 0 z.length) (updS S k (some ⟨b, z.length, 0, [z]⟩))) :
    ∃ v w', Does P (Instr.alloc t true (.tuple #[])) w v w' ∧ Ext w w' ∧ ∃ I' S' d, Stp I S w I' S' w' ∧ Rel I' S' w' ∧ RdD I' w'.heap d v ∧ K d S' := by
  unfold zeroD at hz
  split at hz
  · rename_i i hi
    split at hz
    · rename_i zv hzv
      injection hz with hz
      have hrd : RdL I w.heap z zv.cells.toList := hz ▸ cellsD_rd I w.heap zv.cells.toList
      have hN := New.alloc w t zv.cells
      obtain ⟨r1, r2⟩ := hR.alloc hN (s := z.length) (els := [z]) (by simp [hrd.len]) (fun i es he => by
          cases i with
          | zero => simp at he; subst he; rfl
          | succ i => simp at he) (fun i es j d he hj => by
          cases i with
          | zero =>
            simp at he; subst he
            have hlt : j < zv.cells.toList.length := by rw [hrd.len]; exact (List.getElem?_eq_some_iff.1 hj).1
            exact ⟨zv.cells.toList[j], by simp, hrd.at_ j d _ hj (List.getElem?_eq_getElem hlt)⟩
          | succ i => simp at he) k 0 (Nat.zero_le _)
      refine ⟨.pointer (some ⟨w.heap.size, 0, none⟩), _, ?_, hN.ext, I, _, _, r2, r1, ?_, h w.heap.size⟩
      · simp [Does, Instr.alloc, zeroValue, info_parts' hi, hzv, newVar, newRow]
      · have := RdD.ptr (I := I) (H := (w.alloc (.cells zv.cells t)).heap) k w.heap.size 0 0 z.length
        simpa using this
    · cases hz
  · cases hz

theorem box_sound (hR : Rel I S w) {t : TypeId} {x : D} {vx : Value} (hx : RdD I w.heap x vx) (hone : x.cells.all D.one = true) {k : Nm} {K : D → Store → Prop} (h : ∀ b, K (.ptr k b 0 0 x.cells.length) (updS S k (some ⟨b, x.cells.length, 0, [x.cells]⟩))) :
    ∃ v w', Does P (Instr.box t vx) w v w' ∧ Ext w w' ∧ ∃ I' S' d, Stp I S w I' S' w' ∧ Rel I' S' w' ∧ RdD I' w'.heap d v ∧ K d S' := by
  have hrd := hx.cellsL hone
  have hN := New.alloc w t vx.cells
  obtain ⟨r1, r2⟩ := hR.alloc hN (s := x.cells.length) (els := [x.cells]) (by simp [hrd.len]) (fun i es he => by
      cases i with
      | zero => simp at he; subst he; rfl
      | succ i => simp at he) (fun i es j d he hj => by
      cases i with
      | zero =>
        simp at he; subst he
        have hlt : j < vx.cells.toList.length := by rw [hrd.len]; exact (List.getElem?_eq_some_iff.1 hj).1
        exact ⟨vx.cells.toList[j], by simp, hrd.at_ j d _ hj (List.getElem?_eq_getElem hlt)⟩
      | succ i => simp at he) k 0 (Nat.zero_le _)
  refine ⟨.pointer (some ⟨w.heap.size, 0, none⟩), _, ?_, hN.ext, I, _, _, r2, r1, ?_, h w.heap.size⟩
  · simp [Does, Instr.box, newVar, newRow]
  · have := RdD.ptr (I := I) (H := (w.alloc (.cells vx.cells t)).heap) k w.heap.size 0 0 x.cells.length
    simpa using this

/-- Slice types whose rows can be made: the element type, its size, its bytes, its zero value. -/
structure SlZ where
  el : TypeId
  s : Nat
  bytes : Nat
  z : List D
def slZ (P : Program) (t : TypeId) : Option SlZ := match P.underlying t with
  | some (.slice el) => (match P.info? el, zeroD P el with
    | some i, some z => if 0 < i.size ∧ z.length = i.size then some ⟨el, i.size, i.bytes, z⟩ else none
    | _, _ => none)
  | _ => none
theorem slZ_T {t : TypeId} {q : SlZ} (h : slZ P t = some q) : ∃ zv, SlT P t q.el q.s q.bytes zv ∧ q.z = zv.cells.toList.map cellD ∧ zv.cells.size = q.s ∧ 0 < q.s := by
  unfold slZ at h
  split at h
  · rename_i el hu
    split at h
    · rename_i i z hi hz
      split at h
      · rename_i hs
        injection h with h; subst h
        unfold zeroD at hz
        rw [hi] at hz
        simp only at hz
        split at hz
        · rename_i zv hzv
          injection hz with hz
          refine ⟨zv, ⟨hu, by simp [hi, hzv]⟩, hz.symm, ?_, hs.1⟩
          have := hs.2
          rw [← hz] at this
          simpa using this
        · cases hz
      · cases h
    · cases h
  · cases h
theorem slZ_slS {t : TypeId} {q : SlZ} (h : slZ P t = some q) : slS P t = some q.s := by
  unfold slZ at h
  unfold slS
  split at h
  · rename_i el hu
    split at h
    · rename_i i z hi hz
      split at h
      · injection h with h; subst h; simp [hu, hi]
      · cases h
    · cases h
  · cases h

theorem madeCells_get (z : Array Value) (n s : Nat) (hs : z.size = s) (hs0 : 0 < s) {i j : Nat} (hi : i < n) (hj : j < s) : (madeCells z (n * s)).toList[i * s + j]? = z[j]? := by
  have h1 : i * s + j < n * s := by
    have : (i + 1) * s ≤ n * s := Nat.mul_le_mul_right _ hi
    rw [Nat.add_mul] at this; omega
  have h2 : (i * s + j) % z.size = j := by rw [hs, Nat.mul_comm, Nat.mul_add_mod, Nat.mod_eq_of_lt hj]
  have h3 : j < z.size := by omega
  simp [madeCells, h1, h2, h3]

theorem make_sound (hR : Rel I S w) {t : TypeId} {q : SlZ} (hq : slZ P t = some q) {n : Nat} {kl kc : IntKind} (hb : q.bytes * n ≤ 140737488355328) (h47 : n ≤ 140737488355328) {k : Nm} {K : D → Store → Prop}
    (h : ∀ b, K (.own k b 0 n n q.s) (updS S k (some ⟨b, q.s, 0, List.replicate n q.z⟩))) :
    ∃ v w', Does P (Instr.makeSlice t (.int kl n) (.int kc n)) w v w' ∧ Ext w w' ∧ ∃ I' S' d, Stp I S w I' S' w' ∧ Rel I' S' w' ∧ RdD I' w'.heap d v ∧ K d S' := by
  obtain ⟨zv, T, hz, hzs, hs0⟩ := slZ_T hq
  obtain ⟨b, w', h1, hN⟩ := make_any (w := w) T (kl := kl) (kc := kc) hb (by omega)
  have hml : (madeCells zv.cells (n * q.s)).toList.length = n * q.s := by simp [madeCells]
  have hql : q.z.length = q.s := by rw [hz]; simpa using hzs
  obtain ⟨r1, r2⟩ := hR.alloc hN (s := q.s) (els := List.replicate n q.z) (by simp [madeCells]) (fun i es he => by
      rw [List.getElem?_replicate] at he
      split at he
      · injection he with he; subst he; exact hql
      · cases he) (fun i es j d he hj => by
      rw [List.getElem?_replicate] at he
      split at he
      · rename_i hi
        injection he with he; subst he
        have hjl : j < q.s := by rw [← hql]; exact (List.getElem?_eq_some_iff.1 hj).1
        rw [madeCells_get zv.cells n q.s hzs hs0 hi hjl]
        rw [hz, List.getElem?_map] at hj
        simp only [Array.getElem?_toList] at hj
        cases hv : zv.cells[j]? with
        | none => rw [hv] at hj; cases hj
        | some u => rw [hv] at hj; injection hj with hj; subst hj; exact ⟨u, rfl, cellD_rd _ _ _⟩
      · cases he) k 0 (Nat.zero_le _)
  refine ⟨_, w', h1, hN.ext, I, _, _, r2, r1, ?_, h b⟩
  have hrow := hN.row
  unfold Row at hrow
  have := RdD.own (I := I) (H := w'.heap) k b 0 n n q.s _ q.el (0, 0) (Nat.le_refl _) (by unfold maxLen; omega) h47 hrow (by simp [madeCells])
  simpa using this

theorem flat_get {s : Nat} : ∀ (vs : List Value) (i j : Nat) (v : Value), (∀ u ∈ vs, u.cells.size = s) → vs[i]? = some v → j < s → (vs.flatMap fun v => v.cells.toList)[i * s + j]? = v.cells.toList[j]?
  | [], i, j, v, _, h, _ => by simp at h
  | u :: r, 0, j, v, hs, h, hj => by
    simp at h; subst h
    have := hs u (by simp)
    simp only [List.flatMap_cons, Nat.zero_mul, Nat.zero_add]
    rw [List.getElem?_append_left (by simp [this]; exact hj)]
  | u :: r, i + 1, j, v, hs, h, hj => by
    have hu := hs u (by simp)
    simp only [List.flatMap_cons]
    rw [List.getElem?_append_right (by simp [hu, Nat.add_mul]; omega)]
    rw [show (i + 1) * s + j - u.cells.toList.length = i * s + j by simp [hu, Nat.add_mul]; omega]
    exact flat_get r i j v (fun x hx => hs x (by simp [hx])) (by simpa using h) hj

theorem flat_len {s : Nat} : ∀ (vs : List Value), (∀ u ∈ vs, u.cells.size = s) → (vs.flatMap fun v => v.cells.toList).length = vs.length * s
  | [], _ => by simp
  | u :: r, h => by
    have := h u (by simp)
    simp only [List.flatMap_cons, List.length_append, List.length_cons, flat_len r (fun x hx => h x (by simp [hx])), Array.length_toList, this, Nat.add_mul]
    omega

theorem lit_sound (hR : Rel I S w) {t : TypeId} {q : SlZ} (hq : slZ P t = some q) {ds : List D} {vs : List Value} (hd : RdL I w.heap ds vs) (hone : ∀ d ∈ ds, d.cells.all D.one = true ∧ d.cells.length = q.s) (hn : ds.length * q.s ≤ 16777216) {k : Nm} {K : D → Store → Prop}
    (h : ∀ b, K (.own k b 0 ds.length ds.length q.s) (updS S k (some ⟨b, q.s, 0, ds.map D.cells⟩))) :
    ∃ v w', Does P (Instr.buildSlice t vs.length (partsFrom 0 vs).toArray) w v w' ∧ Ext w w' ∧ ∃ I' S' d, Stp I S w I' S' w' ∧ Rel I' S' w' ∧ RdD I' w'.heap d v ∧ K d S' := by
  obtain ⟨zv, T, hz, hzs, hs0⟩ := slZ_T hq
  have cl : ∀ (i : Nat) (d : D) (v : Value), ds[i]? = some d → vs[i]? = some v → RdL I w.heap d.cells v.cells.toList := fun i d v h1 h2 => (hd.at_ i d v h1 h2).cellsL (hone d (List.mem_of_getElem? h1)).1
  have hvs : ∀ u ∈ vs, u.cells.size = q.s := by
    intro u hu
    obtain ⟨i, hi⟩ := List.mem_iff_getElem?.1 hu
    have hlt : i < ds.length := by rw [← hd.len]; exact (List.getElem?_eq_some_iff.1 hi).1
    have h1 := List.getElem?_eq_getElem hlt
    have := (cl i _ u h1 hi).len
    rw [(hone _ (List.getElem_mem hlt)).2] at this
    simpa using this
  obtain ⟨b, w', h1, hN⟩ := slice_lit (w := w) T vs hvs (by rw [hd.len]; exact hn)
  obtain ⟨r1, r2⟩ := hR.alloc hN (s := q.s) (els := ds.map D.cells) (by rw [flat_len vs hvs]; simp [hd.len]) (fun i es he => by
      rw [List.getElem?_map] at he
      cases hi : ds[i]? with
      | none => rw [hi] at he; cases he
      | some d => rw [hi] at he; injection he with he; subst he; exact (hone d (List.mem_of_getElem? hi)).2) (fun i es j d he hj => by
      rw [List.getElem?_map] at he
      cases hi : ds[i]? with
      | none => rw [hi] at he; cases he
      | some d' =>
        rw [hi] at he; injection he with he; subst he
        have hlt : i < vs.length := by rw [hd.len]; exact (List.getElem?_eq_some_iff.1 hi).1
        have hv := List.getElem?_eq_getElem hlt
        have hjl : j < q.s := by rw [← (hone d' (List.mem_of_getElem? hi)).2]; exact (List.getElem?_eq_some_iff.1 hj).1
        rw [flat_get vs i j _ hvs hv hjl]
        have hc := cl i d' _ hi hv
        have hjv : j < (vs[i]).cells.toList.length := by rw [hc.len]; exact (List.getElem?_eq_some_iff.1 hj).1
        exact ⟨_, List.getElem?_eq_getElem hjv, hc.at_ j d _ hj (List.getElem?_eq_getElem hjv)⟩) k 0 (Nat.zero_le _)
  refine ⟨_, w', h1, hN.ext, I, _, _, r2, r1, ?_, h b⟩
  have hrow := hN.row
  unfold Row at hrow
  have hlen : ds.length ≤ 16777216 := Nat.le_trans (Nat.le_mul_of_pos_right _ hs0) hn
  have := RdD.own (I := I) (H := w'.heap) k b 0 ds.length ds.length q.s _ q.el (0, 0) (Nat.le_refl _) (by unfold maxLen; omega) (by omega) hrow (by simp [flat_len vs hvs, hd.len])
  rw [hd.len]
  simpa using this

end
end Go.V
namespace Go.V
open Go Go.RowKit

section
variable {P : Program} {I : CI} {S : Store} {w : World} {e : DEnv} {e' : Env}

/-! ### append -/

/-- The elements of what is appended, each of s cells. -/
def srcD (S : Store) (s : Nat) (d : D) (K : List (List D) → Prop) : Prop := match d with
  | .g (.sl els) => (∀ es ∈ els, es.length = s) ∧ K (gl els)
  | .own k b o n _ s' => s' = s ∧ optB (S k) fun B => B.b = b ∧ B.s = s ∧ o + n ≤ B.els.length ∧ (∀ es ∈ B.els, es.all D.one = true) ∧ K ((B.els.drop o).take n)
  | .nil => K []
  | _ => False
theorem srcD_sl {s : Nat} {els : List (List G)} {K : List (List D) → Prop} : srcD S s (.g (.sl els)) K = ((∀ es ∈ els, es.length = s) ∧ K (gl els)) := rfl
theorem srcD_own {s s' b o n c : Nat} {k : Nm} {K : List (List D) → Prop} : srcD S s (.own k b o n c s') K = (s' = s ∧ optB (S k) fun B => B.b = b ∧ B.s = s ∧ o + n ≤ B.els.length ∧ (∀ es ∈ B.els, es.all D.one = true) ∧ K ((B.els.drop o).take n)) := rfl
theorem srcD_nil {s : Nat} {K : List (List D) → Prop} : srcD S s .nil K = K [] := rfl

structure Src (I : CI) (w : World) (s : Nat) (v : Value) (els : List (List D)) (news : List Value) : Prop where
  len : news.length = els.length * s
  slice : (v = .slice none 0 0 ∧ els = []) ∨ ∃ a c, v = .slice (some a) els.length c ∧ ∀ j u, news[j]? = some u → w.cell? (a.add j) = some u
  one : ∀ u ∈ news, u.oneCell' = true
  els_len : ∀ (i : Nat) (es : List D), els[i]? = some es → es.length = s
  rd : ∀ (i : Nat) (es : List D) (j : Nat) (d : D), els[i]? = some es → es[j]? = some d → ∃ u, news[i * s + j]? = some u ∧ RdD I w.heap d u

theorem cells_news {s m off : Nat} (hs : 0 < s) {cur : Array Value} {F : Nat → Nat → Value → Prop} (h : ∀ i j, i < m → j < s → ∃ u, cur[off + i * s + j]? = some u ∧ F i j u) :
    ((cur.toList.drop off).take (m * s)).length = m * s ∧ (∀ i j, i < m → j < s → ∃ u, ((cur.toList.drop off).take (m * s))[i * s + j]? = some u ∧ F i j u) ∧
    ∀ q u, ((cur.toList.drop off).take (m * s))[q]? = some u → cur[off + q]? = some u ∧ ∃ i j, i < m ∧ j < s ∧ F i j u := by
  have dm : ∀ q, q < m * s → q / s < m ∧ q % s < s ∧ q = (q / s) * s + q % s := fun q hq =>
    ⟨by rw [Nat.div_lt_iff_lt_mul hs]; exact hq, Nat.mod_lt _ hs, by have := Nat.div_add_mod q s; rw [Nat.mul_comm] at this; omega⟩
  have lt : ∀ i j, i < m → j < s → i * s + j < m * s := fun i j hi hj => by
    have : (i + 1) * s ≤ m * s := Nat.mul_le_mul_right _ hi
    rw [Nat.add_mul] at this; omega
  have hsz : off + m * s ≤ cur.size ∨ m * s = 0 := by
    rcases Nat.eq_zero_or_pos (m * s) with h0 | h0
    · exact .inr h0
    · left
      obtain ⟨h1, h2, h3⟩ := dm (m * s - 1) (by omega)
      obtain ⟨u, hu, _⟩ := h _ _ h1 h2
      have := (Array.getElem?_eq_some_iff.1 hu).1
      omega
  refine ⟨by simp; omega, fun i j hi hj => ?_, fun q u hq => ?_⟩
  · obtain ⟨u, hu, hF⟩ := h i j hi hj
    refine ⟨u, ?_, hF⟩
    rw [List.getElem?_take, if_pos (lt i j hi hj), List.getElem?_drop]
    rw [Nat.add_assoc] at hu
    simpa using hu
  · rw [List.getElem?_take] at hq
    split at hq
    · rename_i hlt
      rw [List.getElem?_drop] at hq
      have hq' : cur[off + q]? = some u := by simpa using hq
      obtain ⟨h1, h2, h3⟩ := dm q hlt
      obtain ⟨u', hu, hF⟩ := h _ _ h1 h2
      rw [Nat.add_assoc, ← h3, hq'] at hu
      injection hu with hu
      subst hu
      exact ⟨hq', _, _, h1, h2, hF⟩
    · cases hq

theorem srcD_sound (hR : Rel I S w) {s : Nat} (hs : 0 < s) {d : D} {v : Value} (hd : RdD I w.heap d v) {K : List (List D) → Prop} (h : srcD S s d K) : ∃ els news, Src I w s v els news ∧ K els := by
  unfold srcD at h
  split at h
  · rename_i els
    obtain ⟨hl, hk⟩ := h
    cases hd.g_inv with
    | nil => exact ⟨_, [], ⟨by simp [gl], .inl ⟨rfl, rfl⟩, by simp, by simp [gl], by simp [gl]⟩, hk⟩
    | nilA a => exact ⟨_, [], ⟨by simp [gl], .inr ⟨a, 0, rfl, by simp⟩, by simp, by simp [gl], by simp [gl]⟩, hk⟩
    | sl _ b off n cap s' cur el fr f hn h2 h3 hb hl' hc hr =>
      subst hn
      have hcell : ∀ i j, i < els.length → j < s → ∃ u, cur[off + i * s + j]? = some u ∧ (fun i j u => ∀ es g, els[i]? = some es → es[j]? = some g → RdG I w.heap g u) i j u := by
        intro i j hi hj
        have hes := List.getElem?_eq_getElem hi
        have hlen := hl _ (List.getElem_mem hi)
        have hss : s' = s := by rw [← hlen]; exact (hl' _ (List.getElem_mem hi)).symm
        subst hss
        have hg := List.getElem?_eq_getElem (l := els[i]) (i := j) (by omega)
        refine ⟨_, (hc i _ j _ hes hg).2, fun es g h4 h5 => ?_⟩
        rw [hes] at h4; injection h4 with h4; subst h4
        rw [hg] at h5; injection h5 with h5; subst h5
        exact hr i _ j _ hes hg
      obtain ⟨h4, h5, h6⟩ := cells_news hs hcell
      have hone : ∀ u ∈ (cur.toList.drop off).take (els.length * s), u.oneCell' = true := by
        intro u hu
        obtain ⟨q, hq⟩ := List.mem_iff_getElem?.1 hu
        obtain ⟨_, i, j, hi, hj, hF⟩ := h6 q u hq
        have hes := List.getElem?_eq_getElem hi
        have hlen := hl _ (List.getElem_mem hi)
        exact (hF _ _ hes (List.getElem?_eq_getElem (l := els[i]) (i := j) (by omega))).one
      have hgl : ∀ (i : Nat) (es : List D), (gl els)[i]? = some es → ∃ gs, els[i]? = some gs ∧ es = gs.map D.g := by
        intro i es he
        unfold gl at he
        rw [List.getElem?_map] at he
        cases hg : els[i]? with
        | none => rw [hg] at he; cases he
        | some gs => rw [hg] at he; injection he with he; exact ⟨gs, rfl, he.symm⟩
      refine ⟨_, _, ⟨by simpa [gl] using h4, .inr ⟨⟨b, off, none⟩, cap, by simp [gl], fun j u hu => ?_⟩, hone, fun i es he => ?_, fun i es j d he hj => ?_⟩, hk⟩
      · rw [addr_add]
        have := (h6 j u hu).1
        simp [World.cell?, hb, this]
      · obtain ⟨gs, h7, rfl⟩ := hgl i es he
        simpa using hl gs (List.mem_of_getElem? h7)
      · obtain ⟨gs, h7, rfl⟩ := hgl i es he
        have hi : i < els.length := (List.getElem?_eq_some_iff.1 h7).1
        rw [List.getElem?_map] at hj
        cases hg : gs[j]? with
        | none => rw [hg] at hj; cases hj
        | some g =>
          rw [hg] at hj; injection hj with hj; subst hj
          have hjs : j < s := by rw [← hl gs (List.mem_of_getElem? h7)]; exact (List.getElem?_eq_some_iff.1 hg).1
          obtain ⟨u, hu, hF⟩ := h5 i j hi hjs
          exact ⟨u, hu, .g (hF _ _ h7 hg)⟩
  · rename_i k b o n cap s'
    obtain ⟨rfl, h⟩ := h
    obtain ⟨B, hk, rfl, hBs, hon, hone, hK⟩ := optB_cases h
    obtain ⟨cur, el, hb, hz, hl, hc, _, _⟩ := (hR.has k B hk).ex
    rw [hBs] at hl hc hz
    cases hd with
    | own _ _ _ _ _ _ cur0 el0 fr0 h1 h2 h47 hb0 hs0 =>
      have hlen : ((B.els.drop o).take n).length = n := by simp; omega
      have hat : ∀ (i : Nat) (es : List D), ((B.els.drop o).take n)[i]? = some es → B.els[o + i]? = some es ∧ i < n := by
        intro i es he
        rw [List.getElem?_take] at he
        split at he
        · rename_i hi; rw [List.getElem?_drop] at he; exact ⟨he, hi⟩
        · cases he
      have hcell : ∀ i j, i < n → j < s' → ∃ u, cur[o * s' + i * s' + j]? = some u ∧ (fun i j u => ∀ es d, B.els[o + i]? = some es → es[j]? = some d → RdD I w.heap d u ∧ d.one = true) i j u := by
        intro i j hi hj
        have hlt : o + i < B.els.length := by omega
        have hes := List.getElem?_eq_getElem hlt
        have hle := hl _ _ hes
        have hd := List.getElem?_eq_getElem (l := B.els[o + i]) (i := j) (by omega)
        obtain ⟨u, hu, hr⟩ := hc _ _ _ _ hes hd
        rw [Nat.add_mul] at hu
        refine ⟨u, hu, fun es d h4 h5 => ?_⟩
        rw [hes] at h4; injection h4 with h4; subst h4
        rw [hd] at h5; injection h5 with h5; subst h5
        exact ⟨hr, List.all_eq_true.1 (hone _ (List.getElem_mem hlt)) _ (List.getElem_mem _)⟩
      obtain ⟨h4, h5, h6⟩ := cells_news hs hcell
      refine ⟨_, _, ⟨by rw [hlen]; exact h4, .inr ⟨_, cap, by rw [hlen], fun j u hu => ?_⟩, fun u hu => ?_, fun i es he => hl _ _ (hat i es he).1, fun i es j d he hj => ?_⟩, hK⟩
      · rw [addr_add]
        have := (h6 j u hu).1
        simp [World.cell?, hb, this]
      · obtain ⟨q, hq⟩ := List.mem_iff_getElem?.1 hu
        obtain ⟨_, i, j, hi, hj, hF⟩ := h6 q u hq
        have hlt : o + i < B.els.length := by omega
        have hes := List.getElem?_eq_getElem hlt
        have hle := hl _ _ hes
        have hd := List.getElem?_eq_getElem (l := B.els[o + i]) (i := j) (by omega)
        have := hF _ _ hes hd
        exact this.1.oneV this.2
      · obtain ⟨h7, hi⟩ := hat i es he
        have hjs : j < s' := by rw [← hl _ _ h7]; exact (List.getElem?_eq_some_iff.1 hj).1
        obtain ⟨u, hu, hF⟩ := h5 i j hi hjs
        exact ⟨u, hu, (hF _ _ h7 hj).1⟩
  · cases hd
    exact ⟨[], [], ⟨by simp, .inl ⟨rfl, rfl⟩, by simp, by simp, by simp⟩, h⟩
  · exact h.elim

def appD (q : SlZ) (S : Store) (kd : Nm) (d src : D) (K : D → Store → Prop) : Prop := match d with
  | .own k b o n cap s => o = 0 ∧ s = q.s ∧ optB (S k) fun B => B.b = b ∧ B.s = q.s ∧ B.els.length = n ∧ srcD S q.s src fun els =>
      n + els.length ≤ 140737488355328 ∧ (n + els.length) * q.bytes ≤ 140737488355328 ∧ ∀ b' cap', K (.own k b' 0 (n + els.length) cap' q.s) (updS S k (some ⟨b', q.s, B.p, B.els ++ els⟩))
  | .nil => srcD S q.s src fun els => els.length ≤ 140737488355328 ∧ els.length * q.bytes ≤ 140737488355328 ∧ (els = [] → K .nil S) ∧
      (0 < els.length → ∀ b' cap', K (.own kd b' 0 els.length cap' q.s) (updS S kd (some ⟨b', q.s, 0, els⟩)))
  | _ => False
theorem appD_own {q : SlZ} {kd k : Nm} {b o n cap s : Nat} {src : D} {K : D → Store → Prop} : appD q S kd (.own k b o n cap s) src K = (o = 0 ∧ s = q.s ∧ optB (S k) fun B => B.b = b ∧ B.s = q.s ∧ B.els.length = n ∧ srcD S q.s src fun els =>
      n + els.length ≤ 140737488355328 ∧ (n + els.length) * q.bytes ≤ 140737488355328 ∧ ∀ b' cap', K (.own k b' 0 (n + els.length) cap' q.s) (updS S k (some ⟨b', q.s, B.p, B.els ++ els⟩))) := rfl
theorem appD_nil {q : SlZ} {kd : Nm} {src : D} {K : D → Store → Prop} : appD q S kd .nil src K = srcD S q.s src fun els => els.length ≤ 140737488355328 ∧ els.length * q.bytes ≤ 140737488355328 ∧ (els = [] → K .nil S) ∧
      (0 < els.length → ∀ b' cap', K (.own kd b' 0 els.length cap' q.s) (updS S kd (some ⟨b', q.s, 0, els⟩))) := rfl

/-- A block in a new place, longer. -/
theorem Rel.moved (hR : Rel I S w) {w' : World} {b s p cap : Nat} {el : TypeId} {xs : List Value} (hN : New w b el xs w') {olds news : List Value} {a els : List (List D)} (hx : ∃ zs, xs = olds ++ news ++ zs) (ho : olds.length = a.length * s)
    (hn : news.length = els.length * s) (hp : p ≤ a.length) (hla : ∀ (i : Nat) (es : List D), a[i]? = some es → es.length = s) (hle : ∀ (i : Nat) (es : List D), els[i]? = some es → es.length = s)
    (hca : ∀ (i : Nat) (es : List D) (j : Nat) (d : D), a[i]? = some es → es[j]? = some d → ∃ u, olds[i * s + j]? = some u ∧ RdD I w.heap d u)
    (hce : ∀ (i : Nat) (es : List D) (j : Nat) (d : D), els[i]? = some es → es[j]? = some d → ∃ u, news[i * s + j]? = some u ∧ RdD I w.heap d u) (hxl : xs.length = cap * s) (hcap : a.length + els.length ≤ cap) (hcm : cap ≤ maxLen) (hlen : a.length + els.length ≤ 140737488355328) (k : Nm) :
    Rel I (updS S k (some ⟨b, s, p, a ++ els⟩)) w' ∧ Stp I S w I (updS S k (some ⟨b, s, p, a ++ els⟩)) w' ∧ RdD I w'.heap (.own k b 0 (a.length + els.length) cap s) (.slice (some ⟨b, 0, none⟩) (a.length + els.length) cap) := by
  obtain ⟨zs, rfl⟩ := hx
  have hrow := hN.row
  unfold Row at hrow
  obtain ⟨r1, r2⟩ := hR.alloc hN (s := s) (els := a ++ els) (by simp [ho, hn, Nat.add_mul]) (fun i es he => by
      by_cases hi : i < a.length
      · rw [List.getElem?_append_left hi] at he; exact hla i es he
      · rw [List.getElem?_append_right (by omega)] at he; exact hle _ es he) (fun i es j d he hj => by
      rw [List.append_assoc]
      by_cases hi : i < a.length
      · rw [List.getElem?_append_left hi] at he
        obtain ⟨u, hu, hr⟩ := hca i es j d he hj
        exact ⟨u, by rw [List.getElem?_append_left (List.getElem?_eq_some_iff.1 hu).1]; exact hu, hr⟩
      · rw [List.getElem?_append_right (by omega)] at he
        obtain ⟨u, hu, hr⟩ := hce _ es j d he hj
        refine ⟨u, ?_, hr⟩
        have e1 : i * s = a.length * s + (i - a.length) * s := by rw [← Nat.add_mul]; congr 1; omega
        rw [List.getElem?_append_right (by omega), show i * s + j - olds.length = (i - a.length) * s + j by omega, List.getElem?_append_left (List.getElem?_eq_some_iff.1 hu).1]
        exact hu) k p (by simp; omega)
  refine ⟨r1, r2, ?_⟩
  have := RdD.own (I := I) (H := w'.heap) k b 0 (a.length + els.length) cap s _ el (0, 0) hcap hcm hlen hrow (by simpa using Nat.le_of_eq hxl.symm)
  simpa using this

theorem zeroCells_len (z : Array Value) (n : Nat) : (Builtin.zeroCells z n).toList.length = n * z.size := by have := size_zeroCells z n; simpa using this


theorem append_room {t ty e el : TypeId} {i : TypeInfo} (ht : P.underlying t = some (.slice e)) (hi : P.info? e = some i) {g sLen sCap : Nat} {cur : Array Value} (hg : w.heap[g]? = some (.cells cur el (0, 0)))
    {a : Addr} {m c : Nat} {news : List Value} (hl : news.length = m * i.size) (hnews : ∀ j u, news[j]? = some u → w.cell? (a.add j) = some u) (h1 : ∀ u ∈ news, u.oneCell' = true)
    (hroom : sLen + m ≤ sCap) (hfit : sLen * i.size + news.length ≤ cur.size) :
    (Builtin.append_ #[t, t] ty #[.slice (some ⟨g, 0, none⟩) sLen sCap, .slice (some a) m c]).run P w =
      .ok (.slice (some ⟨g, 0, none⟩) (sLen + m) sCap) (w.setRow g (cur.toList.take (sLen * i.size) ++ news ++ cur.toList.drop (sLen * i.size + news.length)).toArray) := by
  have hf := run_firstCells_some (P := P) w i.size m a m c news hl hnews
  have hst := run_storeCells_at P g (sLen * i.size) el news 0 cur w hg (by simpa using hfit) h1
  simp only [Nat.add_zero] at hst
  simp [Builtin.append_, run_underlying ht, sizeOf, typeInfo, hi, Builtin.lenOf, hroom, hf, Addr.add_lit, hst]

theorem updS_self {k : Nm} {B : Blk} (hk : S k = some B) : updS S k (some B) = S := by
  refine Store.ext2 (fun x => ?_) rfl
  rw [updS_apply]; split
  · rename_i hx; rw [hx, hk]
  · rfl

theorem appD_sound (hR : Rel I S w) {t : TypeId} {q : SlZ} (hq : slZ P t = some q) {d src : D} {v vs : Value} (hd : RdD I w.heap d v) (hsrc : RdD I w.heap src vs) {kd : Nm} {K : D → Store → Prop} (h : appD q S kd d src K) {t' : TypeId} (ht' : t' = t) (ty : TypeId) :
    ∃ r w', Does P (Builtin.append_ #[t, t'] ty #[v, vs]) w r w' ∧ ∃ I' S' d', Stp I S w I' S' w' ∧ Rel I' S' w' ∧ RdD I' w'.heap d' r ∧ K d' S' := by
  subst ht'
  obtain ⟨zv, T, _, hzs, hs0⟩ := slZ_T hq
  obtain ⟨i, hi, hzz, hsz, hby⟩ := info_parts T.info
  have hRd : Rel I S w.drew := hR.drew
  unfold appD at h
  split at h
  · rename_i k b o n cap s
    obtain ⟨rfl, rfl, h⟩ := h
    obtain ⟨B, hk, rfl, hBs, hBn, h⟩ := optB_cases h
    obtain ⟨els, news, hS, hl1, hl2, hK⟩ := srcD_sound hR hs0 hsrc h
    obtain ⟨cur, el, hb, hz, hl, hc, hfz, hpl⟩ := (hR.has k B hk).ex
    rw [hBs] at hl hc hz hfz
    cases hd with
    | own _ _ _ _ _ _ cur0 el0 fr0 h1 h2 h47 hb0 hs1 =>
      rw [hb] at hb0
      injection hb0 with hb0
      injection hb0 with e1 e2 e3
      subst e1
      simp only [Nat.zero_add] at hs1
      have hBeq : (⟨B.b, q.s, B.p, B.els⟩ : Blk) = B := by rw [← hBs]
      have hlo : n * q.s ≤ cur.size := Nat.le_trans (Nat.mul_le_mul_right _ h1) hs1
      rcases hS.slice with ⟨rfl, rfl⟩ | ⟨a, c, rfl, hnews⟩
      · have hr : (Builtin.append_ #[t', t'] ty #[.slice (some ⟨B.b, 0, none⟩) n cap, .slice none 0 0]).run P w = .ok (.slice (some ⟨B.b, 0, none⟩) n cap) w := by
          simp [Builtin.append_, run_underlying T.und, sizeOf, typeInfo, hi, Builtin.lenOf, Builtin.firstCells, h1, storeCells, Addr.add_lit]
        refine ⟨.slice (some ⟨B.b, 0, none⟩) n cap, w, ?_, I, S, .own k B.b 0 n cap q.s, Stp.refl _ _ _, hR, ?_, ?_⟩
        · rw [Nat.zero_mul]; exact hr
        · have := RdD.own (I := I) (H := w.heap) k B.b 0 n cap q.s cur el (0, 0) h1 h2 h47 hb (by simpa using hs1)
          simpa using this
        · have := hK B.b cap
          simp only [List.length_nil, Nat.add_zero, List.append_nil] at this
          rw [hBeq, updS_self hk] at this
          exact this
      · by_cases hroom : n + els.length ≤ cap
        · -- in its place
          have hle : (n + els.length) * q.s ≤ cur.size := Nat.le_trans (Nat.mul_le_mul_right _ hroom) hs1
          rw [Nat.add_mul] at hle
          have hrow : Row w B.b el cur.toList := by unfold Row; simpa using hb
          have hr := append_room (P := P) (ty := ty) T.und hi hb (a := a) (c := c) (by rw [hsz]; exact hS.len) hnews hS.one hroom (by rw [hsz, hS.len]; exact hle)
          rw [hsz] at hr
          have hrow' : Row (w.setRow B.b (cur.toList.take (n * q.s) ++ news ++ cur.toList.drop (n * q.s + news.length)).toArray) B.b el (cur.toList.take (n * q.s) ++ news ++ cur.toList.drop (n * q.s + news.length)) := by
            unfold Row; exact setRow_heap w B.b cur _ el _ hb
          have hU : Upd B.b w (w.setRow B.b (cur.toList.take (n * q.s) ++ news ++ cur.toList.drop (n * q.s + news.length)).toArray) := ⟨rfl, rfl, rfl, by simp [World.setRow], fun x hx => setRow_other w B.b x _ hx, rfl⟩
          have hnl := hS.len
          have hpp : B.p * q.s ≤ n * q.s := Nat.mul_le_mul_right _ (by omega)
          obtain ⟨r1, r2⟩ := hR.write hk hrow hrow' hU (by simp; omega) (els := B.els ++ els) (by simp; omega) (by
              rw [hBs]; simp only [List.length_append, List.length_take, List.length_drop, Array.length_toList, Nat.add_mul, hBn]; omega) (fun i' es he => by
              rw [hBs]
              by_cases hi' : i' < B.els.length
              · rw [List.getElem?_append_left hi'] at he; exact hl i' es he
              · rw [List.getElem?_append_right (by omega)] at he; exact hS.els_len _ es he) (fun j hj => by
              rw [hBs] at hj
              rw [List.append_assoc, List.getElem?_append_left (by simp; omega), List.getElem?_take, if_pos (by omega)]) (fun i' es j d he hj => by
              rw [hBs, List.append_assoc]
              by_cases hi' : i' < B.els.length
              · rw [List.getElem?_append_left hi'] at he
                obtain ⟨u, hu, hr⟩ := hc i' es j d he hj
                have hjs : j < q.s := by rw [← hl i' es he]; exact (List.getElem?_eq_some_iff.1 hj).1
                have hlt : i' * q.s + j < n * q.s := by
                  have : (i' + 1) * q.s ≤ n * q.s := Nat.mul_le_mul_right _ (by omega)
                  rw [Nat.add_mul] at this; omega
                refine ⟨u, ?_, hr⟩
                rw [List.getElem?_append_left (by simp; omega), List.getElem?_take, if_pos hlt]
                simpa using hu
              · rw [List.getElem?_append_right (by omega)] at he
                obtain ⟨u, hu, hr⟩ := hS.rd _ es j d he hj
                have e1 : i' * q.s = n * q.s + (i' - B.els.length) * q.s := by rw [← Nat.add_mul]; congr 1; omega
                refine ⟨u, ?_, hr⟩
                rw [List.getElem?_append_right (by simp; omega)]
                simp only [List.length_take, Array.length_toList]
                rw [show i' * q.s + j - min (n * q.s) cur.size = (i' - B.els.length) * q.s + j by omega, List.getElem?_append_left (List.getElem?_eq_some_iff.1 hu).1]
                exact hu)
          rw [hBs] at r1 r2
          refine ⟨.slice (some ⟨B.b, 0, none⟩) (n + els.length) cap, _, ?_, I, _, _, r2, r1, ?_, hK B.b cap⟩
          · rw [Nat.zero_mul]; exact hr
          · unfold Row at hrow'
            have := RdD.own (I := I) (H := (w.setRow B.b (cur.toList.take (n * q.s) ++ news ++ cur.toList.drop (n * q.s + news.length)).toArray).heap) k B.b 0 (n + els.length) cap q.s _ el (0, 0) hroom h2 hl1 hrow' (by simp; omega)
            simpa using this
        · -- in a new place
          have holds : ∀ j u, (cur.toList.take (n * q.s))[j]? = some u → w.cell? ((⟨B.b, 0, none⟩ : Addr).add j) = some u := by
            intro j u hu
            rw [List.getElem?_take] at hu
            split at hu
            · rw [addr_add]
              have hu' : cur[j]? = some u := by simpa using hu
              simp [World.cell?, hb, hu']
            · cases hu
          have hr := run_append_grow (P := P) w t' ty q.el i zv T.und hi hzz ⟨B.b, 0, none⟩ n cap (cur.toList.take (n * q.s)) (by rw [hsz]; simp; omega) holds a els.length c news (by rw [hsz]; exact hS.len) hnews (by omega) (by omega) (by
            rw [hby]; exact growslice_fits (by omega) hl2)
          have hge := grownCap_ge w (n + els.length) cap q.el
          have hN := New.alloc w.drew q.el ((cur.toList.take (n * q.s)).toArray ++ news.toArray ++ Builtin.zeroCells zv.cells (grownCap w (n + els.length) cap q.el - (n + els.length)))
          obtain ⟨r1, r2, r3⟩ := hRd.moved hN (olds := cur.toList.take (n * q.s)) (news := news) (a := B.els) (els := els) (s := q.s) (p := B.p) (cap := grownCap w (n + els.length) cap q.el) ⟨(Builtin.zeroCells zv.cells (grownCap w (n + els.length) cap q.el - (n + els.length))).toList, by simp⟩ (by simp; rw [hBn]; omega) hS.len hpl hl hS.els_len
            (fun i' es j d he hj => by
              obtain ⟨u, hu, hr⟩ := hc i' es j d he hj
              have hi' : i' < B.els.length := (List.getElem?_eq_some_iff.1 he).1
              have hjs : j < q.s := by rw [← hl i' es he]; exact (List.getElem?_eq_some_iff.1 hj).1
              have hlt : i' * q.s + j < n * q.s := by
                have : (i' + 1) * q.s ≤ n * q.s := Nat.mul_le_mul_right _ (by omega)
                rw [Nat.add_mul] at this; omega
              refine ⟨u, ?_, hr⟩
              rw [List.getElem?_take, if_pos hlt]
              simpa using hu) hS.rd (by
              simp only [Array.toList_append, List.length_append, Array.length_toList, size_zeroCells, List.length_take, hS.len, hzs]
              have : grownCap w (n + els.length) cap q.el * q.s = (n + els.length) * q.s + (grownCap w (n + els.length) cap q.el - (n + els.length)) * q.s := by rw [← Nat.add_mul]; congr 1; omega
              rw [this, Nat.add_mul]; omega) (by omega) (grownCap_le_maxLen w _ _ _ (by unfold maxLen; omega)) (by omega) k
          rw [hBn] at r3
          refine ⟨.slice (some ⟨w.drew.heap.size, 0, none⟩) (n + els.length) (grownCap w (n + els.length) cap q.el), _, ?_, I, _, _, ⟨r2.os, r2.tape, r2.output, r2.size, Nat.le_of_succ_le r2.dr, r2.sub, r2.new, r2.ev, r2.frame, r2.live, r2.liveG⟩, r1, r3, hK _ _⟩
          rw [Nat.zero_mul]; exact hr
  · obtain ⟨els, news, hS, hl1, hl2, h0, hK⟩ := srcD_sound hR hs0 hsrc h
    cases hd
    rcases hS.slice with ⟨rfl, rfl⟩ | ⟨a, c, rfl, hnews⟩
    · refine ⟨.slice none 0 0, w, ?_, I, S, .nil, Stp.refl _ _ _, hR, .nil, h0 rfl⟩
      unfold Does
      simp [Builtin.append_, run_underlying T.und, sizeOf, typeInfo, hi, Builtin.lenOf, Builtin.firstCells, storeCells]
    · by_cases hm : els.length = 0
      · have he : els = [] := List.eq_nil_of_length_eq_zero hm
        subst he
        have hn0 : news = [] := List.eq_nil_of_length_eq_zero (by simpa using hS.len)
        refine ⟨.slice none 0 0, w, ?_, I, S, .nil, Stp.refl _ _ _, hR, .nil, h0 rfl⟩
        unfold Does
        simp [Builtin.append_, run_underlying T.und, sizeOf, typeInfo, hi, Builtin.lenOf, Builtin.firstCells, loadCells, loadCellsFrom, storeCells]
      · have hr := run_append_nil (P := P) w t' ty q.el i zv T.und hi hzz a els.length c news (by rw [hsz]; exact hS.len) hnews (by omega) (by omega) (by rw [hby]; omega)
        have hge := grownCap_ge w els.length 0 q.el
        have hN := New.alloc w.drew q.el (news.toArray ++ Builtin.zeroCells zv.cells (grownCap w els.length 0 q.el - els.length))
        obtain ⟨r1, r2, r3⟩ := hRd.moved hN (olds := []) (news := news) (a := []) (els := els) (s := q.s) (p := 0) (cap := grownCap w els.length 0 q.el) ⟨(Builtin.zeroCells zv.cells (grownCap w els.length 0 q.el - els.length)).toList, by simp⟩ (by simp) hS.len (by simp) (by simp) hS.els_len (by simp) hS.rd (by
              simp only [Array.toList_append, List.length_append, zeroCells_len, hS.len, hzs]
              have : grownCap w els.length 0 q.el * q.s = els.length * q.s + (grownCap w els.length 0 q.el - els.length) * q.s := by rw [← Nat.add_mul]; congr 1; omega
              omega) (by simpa using hge) (grownCap_le_maxLen w _ _ _ (by unfold maxLen; omega)) (by simpa using hl1) kd
        simp only [List.length_nil, Nat.zero_add, List.nil_append] at r1 r2 r3
        exact ⟨_, _, hr, I, _, _, ⟨r2.os, r2.tape, r2.output, r2.size, Nat.le_of_succ_le r2.dr, r2.sub, r2.new, r2.ev, r2.frame, r2.live, r2.liveG⟩, r1, r3, hK (by omega) _ _⟩
  · exact h.elim

/-! ### copy -/

theorem copy_cells {t el bytes : Nat} {z : Value} (T : SlT P t el 1 bytes z) {b off n cap : Nat} {el' : TypeId} {xs : List Value} (h : Row w b el' xs) {a : Addr} {m c : Nat} {news : List Value} (hl : news.length = m)
    (hc : ∀ j u, news[j]? = some u → w.cell? (a.add j) = some u) (h1 : ∀ u ∈ news, u.oneCell' = true) (hfit : off + min m n ≤ xs.length) {ty : TypeId} :
    ∃ w', Does P (Builtin.copy_ #[t, t] ty #[.slice (some ⟨b, off, none⟩) n cap, .slice (some a) m c]) w (.int .i64 (min m n : Nat)) w' ∧
      Row w' b el' (xs.take off ++ news.take (min m n) ++ xs.drop (off + min m n)) ∧ Upd b w w' := by
  obtain ⟨i, hi, _, hsz, _⟩ := info_parts T.info
  have hcs : ∀ v ∈ news.take (min m n), v.oneCell' = true := fun v hv => h1 v (List.mem_of_mem_take hv)
  have hlen : (news.take (min m n)).length = min m n := by simp; omega
  obtain ⟨w', h2, h3, h4⟩ := h.setCells (P := P) (news.take (min m n)) 0 off (by rw [hlen]; simpa using hfit) hcs
  refine ⟨w', ?_, by rw [hlen] at h3; simpa using h3, h4⟩
  have hf : (List.range (min m n)).map (fun j => news.getD j undef) = news.take (min m n) := by
    apply List.ext_getElem?
    intro j
    rw [List.getElem?_map, List.getElem?_take]
    by_cases hj : j < min m n
    · rw [if_pos hj, List.getElem?_range hj]
      simp [List.getD, List.getElem?_eq_getElem (show j < news.length by omega)]
    · rw [if_neg hj, List.getElem?_eq_none (by simpa using Nat.le_of_not_lt hj)]; rfl
  have hld := run_loadCells (P := P) w a (min m n) (fun j => news.getD j undef) (fun j hj => by
    have hjl : j < news.length := by omega
    have := hc j news[j] (List.getElem?_eq_getElem hjl)
    simpa [List.getD, List.getElem?_eq_getElem hjl] using this)
  rw [hf] at hld
  unfold Does Builtin.copy_
  simp [run_underlying T.und, Builtin.lenOf, Builtin.firstCells, sizeOf, info_parts' hi, hsz, goInt]
  erw [hld]
  dsimp only [Result.andThen]
  erw [h2]

def copyD (q : SlZ) (S : Store) (d src : D) (K : D → Store → Prop) : Prop := match d with
  | .own k b o n _ s => q.s = 1 ∧ s = 1 ∧ optB (S k) fun B => B.b = b ∧ B.s = 1 ∧ B.p ≤ o ∧ o + n ≤ B.els.length ∧ srcD S 1 src fun els =>
      K (.g (.lit (.int .i64 ((min els.length n : Nat) : Int)))) (updS S k (some ⟨B.b, 1, B.p, B.els.take o ++ els.take (min els.length n) ++ B.els.drop (o + min els.length n)⟩))
  | _ => False
theorem copyD_own {q : SlZ} {k : Nm} {b o n cap s : Nat} {src : D} {K : D → Store → Prop} : copyD q S (.own k b o n cap s) src K = (q.s = 1 ∧ s = 1 ∧ optB (S k) fun B => B.b = b ∧ B.s = 1 ∧ B.p ≤ o ∧ o + n ≤ B.els.length ∧ srcD S 1 src fun els =>
      K (.g (.lit (.int .i64 ((min els.length n : Nat) : Int)))) (updS S k (some ⟨B.b, 1, B.p, B.els.take o ++ els.take (min els.length n) ++ B.els.drop (o + min els.length n)⟩))) := rfl

theorem copyD_sound (hR : Rel I S w) {t : TypeId} {q : SlZ} (hq : slZ P t = some q) {d src : D} {v vs : Value} (hd : RdD I w.heap d v) (hsrc : RdD I w.heap src vs) {K : D → Store → Prop} (h : copyD q S d src K) {t' : TypeId} (ht' : t' = t) (ty : TypeId) :
    ∃ r w', Does P (Builtin.copy_ #[t, t'] ty #[v, vs]) w r w' ∧ ∃ I' S' d', Stp I S w I' S' w' ∧ Rel I' S' w' ∧ RdD I' w'.heap d' r ∧ K d' S' := by
  subst ht'
  obtain ⟨zv, T, _, hzs, hs0⟩ := slZ_T hq
  unfold copyD at h
  split at h
  · rename_i k b o n cap s
    obtain ⟨hq1, rfl, h⟩ := h
    rw [hq1] at T
    obtain ⟨i, hi, hzz, hsz, hby⟩ := info_parts T.info
    obtain ⟨B, hk, rfl, hBs, hBp, hon, h⟩ := optB_cases h
    obtain ⟨els, news, hS, hK⟩ := srcD_sound hR (by omega) hsrc h
    obtain ⟨cur, el, hb, hz, hl, hc, hfz, hpl⟩ := (hR.has k B hk).ex
    rw [hBs] at hl hc hz hfz
    have hnl := hS.len
    cases hd with
    | own _ _ _ _ _ _ cur0 el0 fr0 h1 h2 h47 hb0 hs1 =>
      have hrow : Row w B.b el cur.toList := by unfold Row; simpa using hb
      have key : ∀ (w' : World), Row w' B.b el (cur.toList.take o ++ news.take (min els.length n) ++ cur.toList.drop (o + min els.length n)) → Upd B.b w w' →
          Rel I (updS S k (some ⟨B.b, 1, B.p, B.els.take o ++ els.take (min els.length n) ++ B.els.drop (o + min els.length n)⟩)) w' ∧ Stp I S w I (updS S k (some ⟨B.b, 1, B.p, B.els.take o ++ els.take (min els.length n) ++ B.els.drop (o + min els.length n)⟩)) w' := by
        intro w' hrow' hU
        have := hR.write hk hrow hrow' hU (by simp; omega) (els := B.els.take o ++ els.take (min els.length n) ++ B.els.drop (o + min els.length n)) (by simp; omega) (by rw [hBs]; simp; omega) (fun i' es he => by
          rw [hBs]
          rw [List.append_assoc] at he
          by_cases h3 : i' < o
          · rw [List.getElem?_append_left (by simp; omega), List.getElem?_take, if_pos h3] at he; exact hl i' es he
          · rw [List.getElem?_append_right (by simp; omega)] at he
            simp only [List.length_take, Nat.min_eq_left (show o ≤ B.els.length by omega)] at he
            by_cases h4 : i' - o < min els.length n
            · rw [List.getElem?_append_left (by simp; omega), List.getElem?_take, if_pos h4] at he; exact hS.els_len _ es he
            · rw [List.getElem?_append_right (by simp; omega), List.getElem?_drop] at he; exact hl _ es he) (fun j hj => by
          rw [hBs] at hj
          rw [List.append_assoc, List.getElem?_append_left (by simp; omega), List.getElem?_take, if_pos (by omega)]) (fun i' es j d he hj => by
          rw [hBs]
          rw [List.append_assoc] at he ⊢
          by_cases h3 : i' < o
          · rw [List.getElem?_append_left (by simp; omega), List.getElem?_take, if_pos h3] at he
            obtain ⟨u, hu, hr⟩ := hc i' es j d he hj
            have hj0 : j < 1 := by rw [← hl i' es he]; exact (List.getElem?_eq_some_iff.1 hj).1
            refine ⟨u, ?_, hr⟩
            rw [List.getElem?_append_left (by simp; omega), List.getElem?_take, if_pos (by omega)]
            simpa using hu
          · rw [List.getElem?_append_right (by simp; omega)] at he
            simp only [List.length_take, Nat.min_eq_left (show o ≤ B.els.length by omega)] at he
            by_cases h4 : i' - o < min els.length n
            · rw [List.getElem?_append_left (by simp; omega), List.getElem?_take, if_pos h4] at he
              obtain ⟨u, hu, hr⟩ := hS.rd _ es j d he hj
              have hj0 : j < 1 := by rw [← hS.els_len _ es he]; exact (List.getElem?_eq_some_iff.1 hj).1
              refine ⟨u, ?_, hr⟩
              rw [List.getElem?_append_right (by simp; omega)]
              simp only [List.length_take, Array.length_toList, Nat.min_eq_left (show o ≤ cur.size by omega)]
              rw [show i' * 1 + j - o = (i' - o) * 1 + j by omega, List.getElem?_append_left (by simp; omega), List.getElem?_take, if_pos (by omega)]
              exact hu
            · rw [List.getElem?_append_right (by simp; omega), List.getElem?_drop] at he
              simp only [List.length_take, Nat.min_eq_left (show min els.length n ≤ els.length by omega)] at he
              obtain ⟨u, hu, hr⟩ := hc _ es j d he hj
              have hj0 : j < 1 := by rw [← hl _ es he]; exact (List.getElem?_eq_some_iff.1 hj).1
              refine ⟨u, ?_, hr⟩
              rw [List.getElem?_append_right (by simp; omega)]
              simp only [List.length_take, Array.length_toList, Nat.min_eq_left (show o ≤ cur.size by omega)]
              rw [List.getElem?_append_right (by simp; omega), List.getElem?_drop]
              simp only [List.length_take]
              rw [show o + min els.length n + (i' * 1 + j - o - min (min els.length n) news.length) = (o + min els.length n + (i' - o - min els.length n)) * 1 + j by omega]
              simpa using hu)
        simp only [hBs] at this
        exact this
      have hrs : RdD I w.heap (.g (.lit (.int .i64 ((min els.length n : Nat) : Int)))) (.int .i64 ((min els.length n : Nat) : Int)) := .g (.lit _ rfl)
      rcases hS.slice with ⟨rfl, rfl⟩ | ⟨a, c, rfl, hnews⟩
      · have hn0 : news = [] := List.eq_nil_of_length_eq_zero (by simpa using hS.len)
        subst hn0
        obtain ⟨r1, r2⟩ := key w (by simpa using hrow) ⟨rfl, rfl, rfl, rfl, fun _ _ => rfl, rfl⟩
        refine ⟨_, w, ?_, I, _, _, r2, r1, .g (.lit _ rfl), hK⟩
        simp [Does, Builtin.copy_, run_underlying T.und, Builtin.lenOf, Builtin.firstCells, sizeOf, info_parts' hi, storeCells, goInt]
      · obtain ⟨w', hd1, hrow', hU⟩ := copy_cells (P := P) T hrow (off := o) (n := n) (cap := cap) (a := a) (m := els.length) (c := c) (by simpa using hS.len) hnews hS.one (by simp; omega) (ty := ty)
        obtain ⟨r1, r2⟩ := key w' hrow' hU
        refine ⟨_, w', ?_, I, _, _, r2, r1, .g (.lit _ rfl), hK⟩
        rw [Nat.mul_one]; exact hd1
  · exact h.elim

end
end Go.V
namespace Go.V
open Go Go.RowKit

section
variable {P : Program}

/-- The loop's record is turned; or it is let go. -/
theorem Rel.turn {I : CI} {S : Store} {w : World} (h : Rel I S w) {G : Gh} (hg : S.g = some G) (r : Obj) (g' : Option Gh) (hg' : ∀ G', g' = some G' → G'.l = G.l ∧ G'.r = r ∧ G'.ds = G.ds ∧ ghT r = ghT G.r ∧ ghB r = true) :
    Rel I (updG S g') (w.putObj G.l r) ∧ Stp I S w I (updG S g') (w.putObj G.l r) := by
  have hG := h.gho G hg
  have hlt := h.ltg hg
  have hE : HEv I w.heap (w.putObj G.l r).heap := fun b cur el fr hb => by
    have hne : b ≠ G.l := fun e => by
      rw [e, hG.rec_] at hb
      injection hb with hb
      have k := hG.kind
      rw [hb] at k; cases k
    exact ⟨cur, (World.putObj_heap_other hne).trans hb, rfl, fun _ _ => rfl⟩
  have hI : ∀ b j, I b j → I b j := fun _ _ h => h
  refine ⟨⟨h.gi.mono hI hE (fun b j hj => by rw [World.putObj_size]; exact h.old b j hj), fun k B hk => ?_, h.inj, fun G' hG' => ?_⟩, ⟨rfl, rfl, rfl, by rw [World.putObj_size]; exact Nat.le_refl _, Nat.le_refl _, hI, fun _ _ h => .inl h, hE, fun b _ _ hn => World.putObj_heap_other (fun e => hn G hg e.symm),
    fun k B hk => .inr ⟨k, B, hk, rfl⟩, fun G' hG' => .inr ⟨G, hg, ((hg' G' hG').1).symm⟩⟩⟩
  · exact (h.has k B hk).mono hI (fun j hj => hj) hE (World.putObj_heap_other (fun e => h.apart hk hg e.symm))
  · obtain ⟨h1, h2, h3, h4, h5⟩ := hg' G' hG'
    refine ⟨?_, ?_, ?_⟩
    · rw [h1, h2]; exact World.putObj_heap_same hlt
    · rw [h2]; exact h5
    · rw [h3, h2, h4]; exact hG.rd.mono hI hE

/-- Keys of literals. -/
def litsV : List D → Option (List Value)
  | [] => some []
  | .g (.lit v) :: r => (litsV r).map (v :: ·)
  | _ => none
def keyD : D → Option Value
  | .agg cs => (litsV cs).map fun vs => .agg vs.toArray
  | .g (.lit v) => some v
  | _ => none
theorem litsV_rd {I : CI} {H : Array Obj} : ∀ {cs : List D} {vs us : List Value}, litsV cs = some vs → RdL I H cs us → us = vs
  | [], vs, us, h, hr => by
    simp only [litsV] at h
    injection h with h
    subst h
    exact hr.unnil
  | d :: r, vs, us, h, hr => by
    obtain ⟨u, q, rfl, h1, h2⟩ := hr.uncons
    cases d with
    | g x =>
      cases x with
      | lit v =>
        simp only [litsV] at h
        cases hl : litsV r with
        | none => rw [hl] at h; cases h
        | some l =>
          rw [hl] at h
          injection h with h
          subst h
          rw [h1.lit_inv, litsV_rd hl h2]
      | sl _ => simp [litsV] at h
    | _ => simp [litsV] at h
theorem keyD_rd {I : CI} {H : Array Obj} {d : D} {v u : Value} (h : keyD d = some v) (hr : RdD I H d u) : u = v := by
  cases d with
  | agg cs =>
    obtain ⟨us, rfl, hl⟩ := hr.agg_inv
    simp only [keyD] at h
    cases hv : litsV cs with
    | none => rw [hv] at h; cases h
    | some l => rw [hv] at h; injection h with h; subst h; rw [litsV_rd hv hl]
  | g x =>
    cases x with
    | lit v => simp only [keyD] at h; injection h with h; subst h; exact hr.lit_inv
    | sl _ => simp [keyD] at h
  | _ => simp [keyD] at h

/-- What a map holds: its keys and values, in the order in which they came. -/
def mpO (m : List (Value × Value)) (o : Obj) : Prop := ∃ es c, o = .map es c ∧ es.toList.map (fun e => (e.key, e.val)) = m
def mpS (S : Store) (l : Nat) (m : List (Value × Value)) : Prop := ∃ o, S.g = some ⟨l, o, []⟩ ∧ mpO m o
structure MapIs (P : Program) (t kt et : TypeId) (z : Value) : Prop where
  und : P.underlying t = some (.map kt et)
  law : WideMaps.KeyLaw P kt
  zero : ∀ w, (zeroValue et).run P w = .ok z w
  one : z.oneCell' = true
def KeyOk (P : Program) (kt : TypeId) (v : Value) : Prop := ∃ l, keyOf P kt v = some l

def newMapV (S : Store) (K : D → Store → Prop) : Prop := S.g = none ∧ ∀ l o, mpO [] o → K (.g (.lit (.map (some l)))) (updG S (some ⟨l, o, []⟩))
def lookV (P : Program) (t : TypeId) (S : Store) (x ix : D) (K : D → Store → Prop) : Prop := ∃ l m kv kt et z, x = .g (.lit (.map (some l))) ∧ mpS S l m ∧ keyD ix = some kv ∧ MapIs P t kt et z ∧ KeyOk P kt kv ∧ (∀ p ∈ m, KeyOk P kt p.1 ∧ p.2.oneCell' = true) ∧
  (∀ p ∈ m, p.1 = kv → K (.tup [.g (.lit p.2), .g (.lit (.bool true))]) S) ∧ ((∀ p ∈ m, p.1 ≠ kv) → K (.tup [.g (.lit z), .g (.lit (.bool false))]) S)
def mapV (P : Program) (t : TypeId) (S : Store) (x k v : D) (K : D → Store → Prop) : Prop := ∃ l m kv vv kt et z, x = .g (.lit (.map (some l))) ∧ mpS S l m ∧ keyD k = some kv ∧ v = .g (.lit vv) ∧ MapIs P t kt et z ∧ KeyOk P kt kv ∧ (∀ p ∈ m, KeyOk P kt p.1 ∧ p.1 ≠ kv) ∧
  ∀ o, mpO (m ++ [(kv, vv)]) o → K (.tup []) (updG S (some ⟨l, o, []⟩))

variable {I : CI} {S : Store} {w : World}
theorem newMap_sound (hR : Rel I S w) {t : TypeId} {K : D → Store → Prop} (h : newMapV S K) : ∃ v w', (Instr.makeMap t none).run P w = .ok v w' ∧ ∃ I' S' d, Stp I S w I' S' w' ∧ Rel I' S' w' ∧ RdD I' w'.heap d v ∧ K d S' := by
  obtain ⟨h0, hk⟩ := h
  have hE : Ext w (w.alloc (.map #[] 0)) := (Ext.refl w).alloc' _
  have hIs : ∀ b j, I b j → I b j := fun _ _ h => h
  have hR1 := hR.ext hE hIs (fun _ _ h => .inl h) (fun b j hj => Nat.lt_of_lt_of_le (hR.old b j hj) hE.size)
  refine ⟨.map (some w.heap.size), w.alloc (.map #[] 0), ?_, I, updG S (some ⟨w.heap.size, .map #[] 0, []⟩), .g (.lit (.map (some w.heap.size))), ?_, ?_, .g (.lit _ rfl), hk _ _ ⟨#[], 0, rfl, rfl⟩⟩
  · rfl
  · refine ⟨hE.os, hE.tape, hE.output, hE.size, hE.dr, hIs, fun _ _ h => .inl h, hev_ext hE, fun b hb _ _ => hE.block b hb, fun k B hk => .inr ⟨k, B, hk, rfl⟩, fun G' hG' => ?_⟩
    rw [updG_g] at hG'
    injection hG' with hG'
    subst hG'
    exact .inl (Nat.le_refl _)
  · refine ⟨hR1.gi, hR1.has, hR1.inj, fun G' hG' => ?_⟩
    rw [updG_g] at hG'
    injection hG' with hG'
    subst hG'
    exact ⟨World.alloc_heap_new w _, rfl, .nil⟩

theorem look_sound (hR : Rel I S w) {t : TypeId} {x ix : D} {vx vix : Value} (hx : RdD I w.heap x vx) (hix : RdD I w.heap ix vix) {K : D → Store → Prop} (h : lookV P t S x ix K) :
    ∃ v, (Instr.lookup t vx vix true).run P w = .ok v w ∧ ∃ d, RdD I w.heap d v ∧ K d S := by
  obtain ⟨l, m, kv, kt, et, z, rfl, ⟨o, hg, es, c, rfl, hm⟩, hkd, hM, ⟨kl, hkl⟩, hks, h1, h2⟩ := h
  have hb := (hR.gho _ hg).rec_
  simp only at hb
  rw [hx.lit_inv, keyD_rd hkd hix]
  have hmem : ∀ e ∈ es.toList, (e.key, e.val) ∈ m := fun e he => by rw [← hm]; exact List.mem_map.2 ⟨e, he, rfl⟩
  rcases hM.law.find w hkl es.toList (fun e he => (hks _ (hmem e he)).1) with ⟨f1, f2⟩ | ⟨j, e0, f1, f2, f3⟩
  · refine ⟨.tuple #[z, .bool false], by simp [Instr.lookup, run_underlying hM.und, MapKept.run_getObj_map hb, hM.law.check w _ hkl, f1, hM.zero, Result.andThen], _, RdD.ofT (.cons (.g (.lit _ hM.one)) (.cons (.g (.lit _ rfl)) .nil)), h2 fun p hp => ?_⟩
    rw [← hm] at hp
    obtain ⟨e, he, rfl⟩ := List.mem_map.1 hp
    exact f2 e he
  · have hm0 : (e0.key, e0.val) ∈ m := hmem e0 (List.mem_of_getElem? f2)
    exact ⟨.tuple #[e0.val, .bool true], by simp [Instr.lookup, run_underlying hM.und, MapKept.run_getObj_map hb, hM.law.check w _ hkl, f1, Result.andThen], _, RdD.ofT (.cons (.g (.lit _ (hks _ hm0).2)) (.cons (.g (.lit _ rfl)) .nil)), h1 _ hm0 f3⟩

theorem map_sound (hR : Rel I S w) {t : TypeId} {x k v : D} {vx vk vv : Value} (hx : RdD I w.heap x vx) (hk : RdD I w.heap k vk) (hv : RdD I w.heap v vv) {K : D → Store → Prop} (h : mapV P t S x k v K) :
    ∃ w', (Instr.mapUpdate t vx vk vv).run P w = .ok () w' ∧ ∃ I' S', Stp I S w I' S' w' ∧ Rel I' S' w' ∧ K (.tup []) S' := by
  obtain ⟨l, m, kv, uv, kt, et, z, rfl, ⟨o, hg, es, c, rfl, hm⟩, hkd, rfl, hM, ⟨kl, hkl⟩, hks, h1⟩ := h
  have hb := (hR.gho _ hg).rec_
  simp only at hb
  rw [hx.lit_inv, keyD_rd hkd hk, hv.lit_inv]
  have hmem : ∀ e ∈ es.toList, (e.key, e.val) ∈ m := fun e he => by rw [← hm]; exact List.mem_map.2 ⟨e, he, rfl⟩
  obtain ⟨r1, r2⟩ := hR.turn hg (.map (es.push ⟨kv, uv, c⟩) (c + 1)) (some ⟨l, .map (es.push ⟨kv, uv, c⟩) (c + 1), []⟩) (fun G' hG' => by injection hG' with hG'; subst hG'; exact ⟨rfl, rfl, rfl, rfl, rfl⟩)
  rcases hM.law.find w hkl es.toList (fun e he => (hks _ (hmem e he)).1) with ⟨f1, f2⟩ | ⟨j, e0, f1, f2, f3⟩
  · refine ⟨w.putObj l (.map (es.push ⟨kv, uv, c⟩) (c + 1)), by simp [Instr.mapUpdate, run_underlying hM.und, MapKept.run_getObj_map hb, hM.law.check w false hkl, f1, MapKept.run_setObj_map _ hb, Result.andThen, World.putObj], I, _, r2, r1, h1 _ ⟨_, _, rfl, ?_⟩⟩
    rw [Array.toList_push, List.map_append, hm]; rfl
  · exact absurd f3 (hks _ (hmem e0 (List.mem_of_getElem? f2))).2

/-- The same block, cut in another way. -/
theorem Rel.reshape (hR : Rel I S w) {k : Nm} {b s : Nat} {els : List (List D)} (hk : S k = some ⟨b, s, 0, els⟩) (s' : Nat) (els' : List (List D)) (hz : els'.length * s' ≤ els.length * s) (hl : ∀ es ∈ els', es.length = s')
    (hc : ∀ (i : Nat) (es : List D) (j : Nat) (d : D), els'[i]? = some es → es[j]? = some d → ∃ i0 es0 j0, els[i0]? = some es0 ∧ es0[j0]? = some d ∧ i0 * s + j0 = i * s' + j) :
    Rel I (updS S k (some ⟨b, s', 0, els'⟩)) w ∧ Stp I S w I (updS S k (some ⟨b, s', 0, els'⟩)) w := by
  obtain ⟨cur, el, h1, h2, h3, h4, h5, h6⟩ := (hR.has k _ hk).ex
  simp only at h1 h2 h3 h4 h5 h6
  refine ⟨⟨hR.gi, fun q C hq => ?_, fun q q' C C' hq hq' hbb => ?_, hR.gho⟩, ⟨rfl, rfl, rfl, Nat.le_refl _, Nat.le_refl _, fun _ _ h => h, fun _ _ h => .inl h, HEv.refl _ _, fun _ _ _ _ => rfl, fun q C hq => ?_, fun G hG => .inr ⟨G, hG, rfl⟩⟩⟩
  · rw [updS_apply] at hq
    split at hq
    · injection hq with hq; subst hq
      refine ⟨cur, el, h1, Nat.le_trans hz h2, fun i es he => hl es (List.mem_of_getElem? he), fun i es j d he hd => ?_, fun j hj => by have := h5 j hj; rw [Nat.zero_mul] at this; omega, Nat.zero_le _⟩
      obtain ⟨i0, es0, j0, e1, e2, e3⟩ := hc i es j d he hd
      obtain ⟨u, hu, hr⟩ := h4 i0 es0 j0 d e1 e2
      exact ⟨u, by rw [← e3]; exact hu, hr⟩
    · exact hR.has q C hq
  · rw [updS_apply] at hq hq'
    split at hq <;> split at hq'
    · rename_i e1 e2; rw [e1, e2]
    · rename_i e1 _; injection hq with hq; subst hq; rw [e1]; exact hR.inj k q' _ C' hk hq' hbb
    · rename_i _ e2; injection hq' with hq'; subst hq'; rw [e2]; exact hR.inj q k C _ hq hk hbb
    · exact hR.inj q q' C C' hq hq' hbb
  · rw [updS_apply] at hq
    split at hq
    · injection hq with hq; subst hq; exact .inr ⟨k, _, hk, rfl⟩
    · exact .inr ⟨q, C, hq, rfl⟩

/-- A block of one element, cut into its cells; and back. -/
theorem mflat_get {es : List D} {i : Nat} {xs : List D} (h : (es.map fun d => [d])[i]? = some xs) : ∃ d, es[i]? = some d ∧ xs = [d] := by
  rw [List.getElem?_map] at h
  cases he : es[i]? with
  | none => rw [he] at h; cases h
  | some d => rw [he] at h; injection h with h; exact ⟨d, rfl, h.symm⟩
theorem Rel.flat (hR : Rel I S w) {k : Nm} {b s : Nat} {es : List D} (hk : S k = some ⟨b, s, 0, [es]⟩) : Rel I (updS S k (some ⟨b, 1, 0, es.map fun d => [d]⟩)) w ∧ Stp I S w I (updS S k (some ⟨b, 1, 0, es.map fun d => [d]⟩)) w := by
  have hlen : es.length = s := (hR.has k _ hk).ex.choose_spec.choose_spec.2.2.1 0 es rfl
  refine hR.reshape hk 1 (es.map fun d => [d]) (by simp; omega) (fun xs hxs => by obtain ⟨d, _, rfl⟩ := List.mem_map.1 hxs; rfl) (fun i xs j d hi hj => ?_)
  obtain ⟨d0, hd, rfl⟩ := mflat_get hi
  match j with
  | 0 => exact ⟨0, es, i, rfl, by rw [hd]; simpa using hj, by omega⟩
  | j + 1 => simp at hj
theorem Rel.unflat (hR : Rel I S w) {k : Nm} {b : Nat} {es : List D} (hk : S k = some ⟨b, 1, 0, es.map fun d => [d]⟩) : Rel I (updS S k (some ⟨b, es.length, 0, [es]⟩)) w ∧ Stp I S w I (updS S k (some ⟨b, es.length, 0, [es]⟩)) w := by
  refine hR.reshape hk es.length [es] (by simp) (fun xs hxs => by rw [List.mem_singleton.1 hxs]) (fun i xs j d hi hj => ?_)
  match i with
  | 0 =>
    simp only [List.getElem?_cons_zero, Option.some.injEq] at hi
    subst hi
    exact ⟨j, [d], 0, by rw [List.getElem?_map, hj]; rfl, rfl, by omega⟩
  | i + 1 => simp at hi
/-- A pointer to an array of the call's own, of which a slice may be taken. -/
theorem Rel.arr (hR : Rel I S w) {k : Nm} {b s n : Nat} {es : List D} (hk : S k = some ⟨b, s, 0, [es]⟩) (hn : n ≤ s) (h47 : n ≤ 140737488355328) {v : Value} (hv : RdD I w.heap (.ptr k b 0 0 s) v) : RdD I w.heap (.arr k b n) v := by
  obtain ⟨cur, el, h1, h2, _⟩ := (hR.has k _ hk).ex
  rw [hv.ptr_inv]
  simp only [Nat.zero_mul, Nat.add_zero]
  exact .arr k b n cur el (0, 0) h47 h1 (by simp at h2; omega)
theorem RdD.unarr {I : CI} {H : Array Obj} {k : Nm} {b n s : Nat} {v : Value} (h : RdD I H (.arr k b n) v) : RdD I H (.ptr k b 0 0 s) v := by
  cases h with | arr _ _ _ cur el fr h1 hb hs => have := RdD.ptr (I := I) (H := H) k b 0 0 s; simpa using this

end
end Go.V
namespace Go.V
open Go Go.RowKit

section
variable {P : Program} {I : CI} {S : Store} {w : World} {e : DEnv} {e' : Env}

/-! ### What is handed on is frozen -/

def coeC (d : D) (S : Store) (K : D → Store → Prop) : Prop := match d with
  | .own k b o n _ s => optB (S k) fun B => B.b = b ∧ B.s = s ∧ o + n ≤ B.els.length ∧ (match pureLL ((B.els.drop o).take n) with
    | some gs => K (.g (.sl gs)) (updS S k (some ⟨B.b, B.s, max B.p (o + n), B.els⟩))
    | none => False)
  | .nil => K (.g (.sl [])) S
  | d => K d S
def optLL (o : Option (List (List G))) (K : List (List G) → Prop) : Prop := match o with | some x => K x | none => False
theorem optLL_some {x : List (List G)} {K : List (List G) → Prop} : optLL (some x) K = K x := rfl
theorem coeC_own {k : Nm} {b o n c s : Nat} {K : D → Store → Prop} : coeC (.own k b o n c s) S K = optB (S k) fun B => B.b = b ∧ B.s = s ∧ o + n ≤ B.els.length ∧ optLL (pureLL ((B.els.drop o).take n)) fun gs => K (.g (.sl gs)) (updS S k (some ⟨B.b, B.s, max B.p (o + n), B.els⟩)) := rfl
theorem coeC_nil {K : D → Store → Prop} : coeC .nil S K = K (.g (.sl [])) S := rfl
theorem coeC_g {x : G} {K : D → Store → Prop} : coeC (.g x) S K = K (.g x) S := rfl
theorem coeC_ptr {k : Nm} {b i off s : Nat} {K : D → Store → Prop} : coeC (.ptr k b i off s) S K = K (.ptr k b i off s) S := rfl
theorem coeC_fn {f : Nat} {a c : List D} {K : D → Store → Prop} : coeC (.fn f a c) S K = K (.fn f a c) S := rfl
theorem coeC_yl {l : Nat} {K : D → Store → Prop} : coeC (.yl l) S K = K (.yl l) S := rfl
def coeCs : List D → Store → (List D → Store → Prop) → Prop
  | [], S, K => K [] S
  | d :: r, S, K => coeC d S fun d' S' => coeCs r S' fun r' S'' => K (d' :: r') S''
theorem coeCs_nil {K : List D → Store → Prop} : coeCs [] S K = K [] S := rfl
theorem coeCs_cons {d : D} {r : List D} {K : List D → Store → Prop} : coeCs (d :: r) S K = coeC d S fun d' S' => coeCs r S' fun r' S'' => K (d' :: r') S'' := rfl
def coeD (d : D) (S : Store) (K : D → Store → Prop) : Prop := match d with
  | .agg cs => coeCs cs S fun cs' S' => K (.agg cs') S'
  | d => coeC d S K
theorem coeD_agg {cs : List D} {K : D → Store → Prop} : coeD (.agg cs) S K = coeCs cs S fun cs' S' => K (.agg cs') S' := rfl
theorem coeD_g {x : G} {K : D → Store → Prop} : coeD (.g x) S K = K (.g x) S := rfl
theorem coeD_nil {K : D → Store → Prop} : coeD .nil S K = K (.g (.sl [])) S := rfl
theorem coeD_own {k : Nm} {b o n c s : Nat} {K : D → Store → Prop} : coeD (.own k b o n c s) S K = coeC (.own k b o n c s) S K := rfl
theorem coeD_ptr {k : Nm} {b i off s : Nat} {K : D → Store → Prop} : coeD (.ptr k b i off s) S K = K (.ptr k b i off s) S := rfl
theorem coeD_fn {f : Nat} {a c : List D} {K : D → Store → Prop} : coeD (.fn f a c) S K = K (.fn f a c) S := rfl
theorem coeD_yl {l : Nat} {K : D → Store → Prop} : coeD (.yl l) S K = K (.yl l) S := rfl
def coeDs : List D → Store → (List D → Store → Prop) → Prop
  | [], S, K => K [] S
  | d :: r, S, K => coeD d S fun d' S' => coeDs r S' fun r' S'' => K (d' :: r') S''
theorem coeDs_nil {K : List D → Store → Prop} : coeDs [] S K = K [] S := rfl
theorem coeDs_cons {d : D} {r : List D} {K : List D → Store → Prop} : coeDs (d :: r) S K = coeD d S fun d' S' => coeDs r S' fun r' S'' => K (d' :: r') S'' := rfl
theorem coeCs_pure (l : List G) {K : List D → Store → Prop} : coeCs (l.map D.g) S K = K (l.map D.g) S := by
  induction l generalizing S K with
  | nil => rfl
  | cons a r ih => simp only [List.map_cons, coeCs_cons, coeC_g, ih]

theorem coeC_sound (hR : Rel I S w) {d : D} {v : Value} (hd : RdD I w.heap d v) {K : D → Store → Prop} (h : coeC d S K) : ∃ I' S' d', Stp I S w I' S' w ∧ Rel I' S' w ∧ RdD I' w.heap d' v ∧ K d' S' := by
  cases d with
  | own k b o n c s =>
    rw [coeC_own] at h
    obtain ⟨B, hk, rfl, rfl, hon, h⟩ := optB_cases h
    unfold optLL at h
    split at h
    · rename_i gs hg
      obtain ⟨r1, r2⟩ := hR.freeze hk (o + n) hon
      have := hR.thaw (b := B.b) (s := B.s) (p := B.p) (els := B.els) hk hd hg hon
      exact ⟨_, _, _, r2, r1, .g this, h⟩
    · exact h.elim
  | nil => cases hd; exact ⟨I, S, _, Stp.refl _ _ _, hR, .g .nil, h⟩
  | _ => exact ⟨I, S, _, Stp.refl _ _ _, hR, hd, h⟩

theorem coeCs_sound : ∀ (ds : List D) {I : CI} {S : Store} (hR : Rel I S w) {vs : List Value} (hd : RdL I w.heap ds vs) {K : List D → Store → Prop} (h : coeCs ds S K), ∃ I' S' ds', Stp I S w I' S' w ∧ Rel I' S' w ∧ RdL I' w.heap ds' vs ∧ K ds' S'
  | [], I, S, hR, vs, hd, K, h => ⟨I, S, [], Stp.refl _ _ _, hR, hd, h⟩
  | d :: r, I, S, hR, vs, hd, K, h => by
    obtain ⟨v, us, rfl, h1, h2⟩ := hd.uncons
    obtain ⟨I1, S1, d1, s1, r1, q1, h⟩ := coeC_sound hR h1 h
    obtain ⟨I2, S2, d2, s2, r2, q2, h⟩ := coeCs_sound r r1 (h2.mono s1.sub (HEv.refl _ _)) h
    exact ⟨I2, S2, _, s1.trans s2, r2, .cons (q1.mono s2.sub (HEv.refl _ _)) q2, h⟩

theorem coeD_sound (hR : Rel I S w) {d : D} {v : Value} (hd : RdD I w.heap d v) {K : D → Store → Prop} (h : coeD d S K) : ∃ I' S' d', Stp I S w I' S' w ∧ Rel I' S' w ∧ RdD I' w.heap d' v ∧ K d' S' := by
  unfold coeD at h
  split at h
  · obtain ⟨vs, rfl, hl⟩ := hd.agg_inv
    obtain ⟨I1, S1, d1, s1, r1, q1, h⟩ := coeCs_sound _ hR hl h
    exact ⟨I1, S1, _, s1, r1, RdD.ofL q1, h⟩
  · exact coeC_sound hR hd h

theorem coeDs_sound : ∀ (ds : List D) {I : CI} {S : Store} (hR : Rel I S w) {vs : List Value} (hd : RdL I w.heap ds vs) {K : List D → Store → Prop} (h : coeDs ds S K), ∃ I' S' ds', Stp I S w I' S' w ∧ Rel I' S' w ∧ RdL I' w.heap ds' vs ∧ K ds' S'
  | [], I, S, hR, vs, hd, K, h => ⟨I, S, [], Stp.refl _ _ _, hR, hd, h⟩
  | d :: r, I, S, hR, vs, hd, K, h => by
    obtain ⟨v, us, rfl, h1, h2⟩ := hd.uncons
    obtain ⟨I1, S1, d1, s1, r1, q1, h⟩ := coeD_sound hR h1 h
    obtain ⟨I2, S2, d2, s2, r2, q2, h⟩ := coeDs_sound r r1 (h2.mono s1.sub (HEv.refl _ _)) h
    exact ⟨I2, S2, _, s1.trans s2, r2, .cons (q1.mono s2.sub (HEv.refl _ _)) q2, h⟩

/-! ### Contracts -/

/-- A call, with all that the caller owns. -/
def PFC (P : Program) (f : FuncId) (args : List D) (S : Store) (K : D → Store → Prop) : Prop :=
  ∀ (w : World) (I : CI) (vs : List Value), Rel I S w → RdL I w.heap args vs → FC P f vs.toArray w fun r w' => ∃ I' S' d, Stp I S w I' S' w' ∧ Rel I' S' w' ∧ RdD I' w'.heap d r ∧ K d S'

/-- A call that turns nothing that was there. -/
def PC (P : Program) (f : FuncId) (args : List D) (K : D → Prop) : Prop :=
  ∀ (w : World) (I : CI) (vs : List Value), GI I w → RdL I w.heap args vs → FC P f vs.toArray w fun r w' => ∃ I' d, Ext w w' ∧ (∀ b j, I b j → I' b j) ∧ (∀ b j, I' b j → I b j ∨ w.heap.size ≤ b) ∧
    (∀ b j, I' b j → b < w'.heap.size) ∧ RdD I' w'.heap d r ∧ K d

/-- A call of a loop's yield, with all that the caller owns. -/
def PYC (P : Program) (l : Nat) (args : List D) (S : Store) (K : D → Store → Prop) : Prop :=
  ∀ (w : World) (I : CI) (vs : List Value), Rel I S w → RdL I w.heap args vs → After P (fun r w' => ∃ I' S' d, Stp I S w I' S' w' ∧ Rel I' S' w' ∧ RdD I' w'.heap d r ∧ K d S') ((Instr.yield l vs.toArray).run P w)
theorem PYC.mono {l : Nat} {args : List D} {K K' : D → Store → Prop} (h : PYC P l args S K) (hk : ∀ d S, K d S → K' d S) : PYC P l args S K' := fun w I vs h1 h2 =>
  (h w I vs h1 h2).mono fun _ _ ⟨I', S', d, a, b, c, d'⟩ => ⟨I', S', d, a, b, c, hk _ _ d'⟩

theorem PC.mono {f : FuncId} {args : List D} {K K' : D → Prop} (h : PC P f args K) (hk : ∀ d, K d → K' d) : PC P f args K' := fun w I vs h1 h2 =>
  (h w I vs h1 h2).mono fun _ _ ⟨I', d, a, b, c, d', e, f⟩ => ⟨I', d, a, b, c, d', e, hk _ f⟩
theorem PFC.mono {f : FuncId} {args : List D} {K K' : D → Store → Prop} (h : PFC P f args S K) (hk : ∀ d S, K d S → K' d S) : PFC P f args S K' := fun w I vs h1 h2 =>
  (h w I vs h1 h2).mono fun _ _ ⟨I', S', d, a, b, c, d'⟩ => ⟨I', S', d, a, b, c, hk _ _ d'⟩

theorem PC.toPFC {f : FuncId} {args : List D} {K : D → Store → Prop} (h : PC P f args fun d => K d S) : PFC P f args S K := fun w I vs hR hv =>
  (h w I vs hR.gi hv).mono fun r w' ⟨I', d, hE, hI, hn, ho, hd, hk⟩ => ⟨I', S, d, Stp.of_ext hE hI hn hR.old, hR.ext hE hI hn ho, hd, hk⟩

/-- What is handed over reads as data for the callee. -/
theorem PFC.coe {f : FuncId} {args : List D} {K : D → Store → Prop} (h : coeDs args S fun args' S' => PFC P f args' S' K) : PFC P f args S K := fun w I vs hR hv => by
  obtain ⟨I1, S1, ds, s1, r1, q1, h⟩ := coeDs_sound args hR hv h
  exact (h w I1 vs r1 q1).mono fun r w' ⟨I', S', d, a, b, c, k⟩ => ⟨I', S', d, s1.trans a, b, c, k⟩

/-! ### Operations -/

def dnm (o : Oper) : Nm := .l (o.dst.getD 0)

/-- What is called: a function, or a loop's yield. -/
inductive Cal where
  | f (f : FuncId)
  | y (l : Nat)
def callD (P : Program) (d : D) (args : List D) (K : Cal → List D → Prop) : Prop := match d with
  | .fn f first caps => K (.f f) (first ++ args ++ caps)
  | .yl l => K (.y l) args
  | _ => False
theorem callD_fn {f : FuncId} {first caps args : List D} {K : Cal → List D → Prop} : callD P (.fn f first caps) args K = K (.f f) (first ++ args ++ caps) := rfl
theorem callD_yl {l : Nat} {args : List D} {K : Cal → List D → Prop} : callD P (.yl l) args K = K (.y l) args := rfl
def CalC (P : Program) (c : Cal) (args : List D) (S : Store) (K : D → Store → Prop) : Prop := match c with
  | .f f => PFC P f args S K
  | .y l => PYC P l args S K
def CalE (P : Program) (c : Cal) (args : List D) (S : Store) (K : D → Store → Prop) : Prop := match c with
  | .f f => coeDs args S fun args' S' => PC P f args' fun d => K d S'
  | .y _ => False

/-- New blocks: what they are alike to be with or without calls beside them. -/
def newV (P : Program) (o : Oper) (e : DEnv) (S : Store) (K : D → Store → Prop) : Prop := match o.op with
  | .alloc t => (match zeroD P t with | some z => ∀ b, K (.ptr (dnm o) b 0 0 z.length) (updS S (dnm o) (some ⟨b, z.length, 0, [z]⟩)) | none => False)
  | .box t x => (pev e x).cells.all D.one = true ∧ ∀ b, K (.ptr (dnm o) b 0 0 (pev e x).cells.length) (updS S (dnm o) (some ⟨b, (pev e x).cells.length, 0, [(pev e x).cells]⟩))
  | .buildSlice t n ps => (match slZ P t with
    | some q => ps.toList.map (·.1) = List.range n ∧ (∀ d ∈ ps.toList.map (fun p => pev e p.2), d.cells.all D.one = true ∧ d.cells.length = q.s) ∧ n * q.s ≤ 16777216 ∧
        ∀ b, K (.own (dnm o) b 0 n n q.s) (updS S (dnm o) (some ⟨b, q.s, 0, ps.toList.map fun p => (pev e p.2).cells⟩))
    | none => False)
  | .makeSlice t l c => (match slZ P t with
    | some q => idxD (pev e l) fun n => idxD (pev e c) fun m => n = m ∧ 0 ≤ n ∧ n ≤ 140737488355328 ∧ (q.bytes : Int) * n ≤ 140737488355328 ∧ ∀ b, K (.own (dnm o) b 0 n.toNat n.toNat q.s) (updS S (dnm o) (some ⟨b, q.s, 0, List.replicate n.toNat q.z⟩))
    | none => False)
  | _ => False

def popV (P : Program) (o : Oper) (e : DEnv) (S : Store) (K : D → Store → Prop) : Prop := match o.op with
  | .alloc _ | .box _ _ | .buildSlice _ _ _ | .makeSlice _ _ _ => newV P o e S K
  | .load t a => loadD P S t (pev e a) fun d => K d S
  | .store t a x => storeD P S t (pev e a) (pev e x) fun S' => K (.tup []) S'
  | .makeMap _ none => newMapV S K
  | .lookup t x ix true => lookV P t S (pev e x) (pev e ix) K
  | .mapUpdate t m k x => mapV P t S (pev e m) (pev e k) (pev e x) K
  | .call c => (match c.callee with
    | .value x => callD P (pev e x) (c.args.toList.map (pev e)) fun f args => CalC P f args S K
    | .builtin .append => (match c.argTypes.toList, c.args.toList with
      | [t, t'], [x, y] => t' = t ∧ (match slZ P t with | some q => appD q S (dnm o) (pev e x) (pev e y) K | none => False)
      | _, _ => False)
    | .builtin .copy => (match c.argTypes.toList, c.args.toList with
      | [t, t'], [x, y] => t' = t ∧ (match slZ P t with | some q => copyD q S (pev e x) (pev e y) K | none => False)
      | _, _ => False)
    | _ => ppureV P o e fun d => K d S)
  | _ => ppureV P o e fun d => K d S

/-- Beside a load that may come later or ahead: old memory stays. -/
def pextV (P : Program) (o : Oper) (e : DEnv) (S : Store) (K : D → Store → Prop) : Prop := match o.op with
  | .alloc _ | .box _ _ | .buildSlice _ _ _ | .makeSlice _ _ _ => newV P o e S K
  | .call c => (match c.callee with
    | .value x => callD P (pev e x) (c.args.toList.map (pev e)) fun f args => CalE P f args S K
    | _ => False)
  | .load t a => loadD P S t (pev e a) fun d => K d S
  | _ => False

abbrev Post (I : CI) (S : Store) (w : World) (K : D → Store → Prop) : Value → World → Prop := fun v w' => ∃ I' S' d, Stp I S w I' S' w' ∧ Rel I' S' w' ∧ RdD I' w'.heap d v ∧ K d S'

theorem parts_range {n : Nat} {ps : List (Nat × Operand)} (h : ps.map (·.1) = List.range n) (g : Operand → Value) : ps.map (fun (i, x) => (i, g x)) = partsFrom 0 (ps.map fun p => g p.2) ∧ ps.length = n := by
  have hn : ps.length = n := by have := congrArg List.length h; simpa using this
  refine ⟨?_, hn⟩
  have key : ∀ (ps : List (Nat × Operand)) (k : Nat), ps.map (·.1) = List.range' k ps.length → ps.map (fun (i, x) => (i, g x)) = partsFrom k (ps.map fun p => g p.2) := by
    intro ps
    induction ps with
    | nil => intro k _; rfl
    | cons p r ih =>
      intro k hk
      simp only [List.map_cons, List.length_cons, List.range'_succ] at hk
      injection hk with h1 h2
      simp only [List.map_cons, partsFrom, ih (k + 1) h2, h1]
  refine key ps 0 ?_
  rw [h, List.range_eq_range', hn]

theorem newV_sound (he : EnvR I w.heap e e') (hR : Rel I S w) {o : Oper} {K : D → Store → Prop} (h : newV P o e S K) : opV P o e' w fun v w' => Ext w w' ∧ Post I S w K v w' := by
  obtain ⟨dst, op, ty, pos, aft, gd⟩ := o
  cases op <;> simp only [newV] at h <;> simp only [opV]
  case alloc t =>
    split at h
    · rename_i z hz
      obtain ⟨v, w', h1, h2, h3⟩ := alloc_sound (P := P) hR hz (k := dnm ⟨dst, .alloc t, ty, pos, aft, gd⟩) (K := K) h
      exact ⟨v, w', h1, h2, h3⟩
    · exact h.elim
  case box t x =>
    obtain ⟨v, w', h1, h2, h3⟩ := box_sound (P := P) hR (t := t) (he.ev x) h.1 (K := K) h.2
    exact ⟨v, w', h1, h2, h3⟩
  case buildSlice t n ps =>
    split at h
    · rename_i q hq
      obtain ⟨h1, h2, h3, h4⟩ := h
      obtain ⟨e1, e2⟩ := parts_range h1 (V.ev e')
      have hd : RdL I w.heap (ps.toList.map fun p => pev e p.2) (ps.toList.map fun p => V.ev e' p.2) := by
        have := he.evs (ps.toList.map (·.2))
        simpa [Function.comp_def] using this
      obtain ⟨v, w', h5, h6, h7⟩ := lit_sound (P := P) hR hq hd h2 (by simpa [e2] using h3) (k := dnm ⟨dst, .buildSlice t n ps, ty, pos, aft, gd⟩) (K := K) (by
        intro b
        have := h4 b
        simp only [List.length_map, e2, List.map_map]
        exact this)
      refine ⟨v, w', ?_, h6, h7⟩
      have e3 : (ps.map fun (i, x) => (i, V.ev e' x)) = (partsFrom 0 (ps.toList.map fun p => V.ev e' p.2)).toArray := by
        apply Array.ext'
        simpa using e1
      rw [e3]
      simp only [List.length_map, e2] at h5
      exact h5
    · exact h.elim
  case makeSlice t l c =>
    split at h
    · rename_i q hq
      obtain ⟨kl, n, hl, h⟩ := idxD_cases h
      obtain ⟨kc, m, hc, rfl, h0, h47, hb, h⟩ := idxD_cases h
      have h1 := he.ev l
      have h2 := he.ev c
      rw [hl] at h1; rw [hc] at h2
      rw [h1.lit_inv, h2.lit_inv]
      obtain ⟨n, rfl⟩ := Int.eq_ofNat_of_zero_le h0
      obtain ⟨v, w', h5, h6, h7⟩ := make_sound (P := P) hR hq (n := n) (kl := kl) (kc := kc) (by rw [← Int.natCast_mul] at hb; omega) (by omega) (K := K) h
      exact ⟨v, w', h5, h6, h7⟩
    · exact h.elim
  all_goals exact h.elim

theorem FC.arr {f : FuncId} {a : Array Value} {K : Value → World → Prop} (h : FC P f a.toList.toArray w K) : FC P f a w K := h

/-- What a call comes to in the world. -/
def CalW (P : Program) (c : Cal) (vs : Array Value) (w : World) (K : Value → World → Prop) : Prop := match c with
  | .f f => FC P f vs w K
  | .y l => After P K ((Instr.yield l vs).run P w)

theorem callV_yield {l : Nat} {args : Array Operand} {x : Operand} {ats : Array TypeId} {ty : TypeId} {e' : Env} {K : Value → World → Prop} (hx : V.ev e' x = .func (.yield l) #[] #[]) (h : After P K ((Instr.yield l (args.map (V.ev e'))).run P w)) :
    After P K ((do let d ← resolve (V.ev e') { callee := .value x, args := args, argTypes := ats } ty; invoke d.target d.args : Sem Next).run P w) := by
  have : (do let d ← resolve (V.ev e') { callee := .value x, args := args, argTypes := ats } ty; invoke d.target d.args : Sem Next) = Instr.yield l (args.map (V.ev e')) := by
    simp only [resolve, hx]
    simp [Deferred.ofValue, invoke]
  rw [this]
  exact h

theorem callD_sound (he : EnvR I w.heap e e') {x : Operand} {args : Array Operand} {Q : Cal → List D → Prop} (h : callD P (pev e x) (args.toList.map (pev e)) Q) {K : Value → World → Prop} {ats : Array TypeId} {ty : TypeId}
    (hk : ∀ c ds vs, Q c ds → RdL I w.heap ds vs → CalW P c vs.toArray w K) : After P K ((do let d ← resolve (V.ev e') { callee := .value x, args := args, argTypes := ats } ty; invoke d.target d.args : Sem Next).run P w) := by
  unfold callD at h
  have hr := he.ev x
  have hargs := he.evs args.toList
  split at h
  · rename_i f first caps hx
    refine callV_sound (ty := ty) ?_
    rw [hx] at hr
    have key : ∀ (vs us : List Value), V.ev e' x = .func (.func f) vs.toArray us.toArray → RdL I w.heap first vs → RdL I w.heap caps us → FC P f (vs.toArray ++ args.map (V.ev e') ++ us.toArray) w K := by
      intro vs us _ h1 h2
      have := hk (.f f) _ _ h ((h1.app hargs).app h2)
      have e : (vs ++ args.toList.map (V.ev e') ++ us).toArray = vs.toArray ++ args.map (V.ev e') ++ us.toArray := by apply Array.ext'; simp
      rw [e] at this
      exact this
    cases x with
    | func g =>
      simp only [pev] at hx
      injection hx with h1 h2 h3
      subst h1; subst h2; subst h3
      have := key [] [] rfl .nil .nil
      simpa [callV] using this
    | tmp t =>
      simp only [callV]
      generalize V.ev e' (.tmp t) = u at hr key ⊢
      cases hr with | fn _ _ _ vs us h1 h2 h3 h4 => exact key vs us rfl ⟨h1, h3⟩ ⟨h2, h4⟩
    | const t =>
      simp only [callV]
      generalize V.ev e' (.const t) = u at hr key ⊢
      cases hr with | fn _ _ _ vs us h1 h2 h3 h4 => exact key vs us rfl ⟨h1, h3⟩ ⟨h2, h4⟩
    | global t => simp [pev] at hx
  · rename_i l hx
    rw [hx] at hr
    refine callV_yield (l := l) hr.yl_inv ?_
    have := hk (.y l) _ _ h hargs
    have e : (args.toList.map (V.ev e')).toArray = args.map (V.ev e') := by apply Array.ext'; simp
    rw [e] at this
    exact this
  · exact h.elim

theorem pureV_opV {o : Oper} {K : Value → Prop} (h : pureV P o e' K) : After P (fun v w' => w' = w ∧ K v) ((execOp (V.ev e') o).run P w) := by
  obtain ⟨v, h1, h2⟩ := pureV_sound h
  rw [h1 w]
  exact ⟨rfl, h2⟩

theorem After.weak {K K' : Value → World → Prop} {r : Result Next} (h : After P K r) (hk : ∀ v w, K v w → K' v w) : After P K' r := h.mono hk

theorem popV_sound (he : EnvR I w.heap e e') (hR : Rel I S w) {o : Oper} {K : D → Store → Prop} (h : popV P o e S K) : After P (Post I S w K) ((execOp (V.ev e') o).run P w) := by
  have pure_ : ppureV P o e (fun d => K d S) → After P (Post I S w K) ((execOp (V.ev e') o).run P w) := fun h =>
    (pureV_opV (ppure_sound he h)).mono fun v w' ⟨hw, d, hd, hk⟩ => by subst hw; exact ⟨I, S, d, Stp.refl _ _ _, hR, hd, hk⟩
  have new_ : newV P o e S K → After P (Post I S w K) ((execOp (V.ev e') o).run P w) := fun h => (opV_sound (newV_sound he hR h)).mono fun v w' h => h.2
  have op_ : opV P o e' w (Post I S w K) → After P (Post I S w K) ((execOp (V.ev e') o).run P w) := opV_sound
  obtain ⟨dst, op, ty, pos, aft, gd⟩ := o
  cases op <;> simp only [popV] at h <;> first | exact pure_ h | exact new_ h | skip
  case load t a =>
    obtain ⟨u, h1, d, h2, h3⟩ := loadD_sound (P := P) hR (he.ev a) h
    exact op_ ⟨u, h1 w (Ext.refl _), I, S, d, Stp.refl _ _ _, hR, h2, h3⟩
  case store t a x =>
    obtain ⟨w', h1, I', S', h2, h3, h4⟩ := storeD_sound (P := P) hR (he.ev a) (he.ev x) h
    exact op_ ⟨w', h1, I', S', _, h2, h3, RdD.ofT .nil, h4⟩
  case makeMap t r =>
    cases r with
    | none =>
      obtain ⟨v, w', h1, h2⟩ := newMap_sound (P := P) (t := t) hR h
      simp only [execOp]
      exact after_value h1 h2
    | some _ => exact pure_ h
  case lookup t x ix ok =>
    cases ok with
    | true =>
      obtain ⟨v, h1, d, h2, h3⟩ := look_sound hR (he.ev x) (he.ev ix) h
      simp only [execOp]
      exact after_value h1 ⟨I, S, d, Stp.refl _ _ _, hR, h2, h3⟩
    | false => exact pure_ h
  case mapUpdate t m k x =>
    obtain ⟨w', h1, I', S', h2, h3, h4⟩ := map_sound hR (he.ev m) (he.ev k) (he.ev x) h
    simp only [execOp]
    exact after_unit h1 ⟨I', S', _, h2, h3, RdD.ofT .nil, h4⟩
  case call c =>
    obtain ⟨callee, args, ats⟩ := c
    cases callee with
    | value x =>
      refine callD_sound he h fun c ds vs hq hv => ?_
      cases c with
      | f f => exact hq w I vs hR hv
      | y l => exact hq w I vs hR hv
    | invoke r m => exact pure_ h
    | builtin b =>
      cases b <;> first | exact pure_ h | skip
      all_goals simp only at h
      all_goals split at h
      rotate_left 2
      · rename_i t t' x y ht hx
        obtain ⟨rfl, h⟩ := h
        split at h
        · rename_i q hq
          obtain ⟨r, w', h1, h2⟩ := copyD_sound (P := P) hR hq (he.ev x) (he.ev y) h rfl ty
          refine op_ ?_
          simp only [opV, callV]
          have e1 : ats = #[t', t'] := by apply Array.ext'; simpa using ht
          have e2 : args.map (V.ev e') = #[V.ev e' x, V.ev e' y] := by apply Array.ext'; simp [hx]
          rw [e1, e2]
          exact ⟨r, w', h1, h2⟩
        · exact h.elim
      · exact h.elim
      · rename_i t t' x y ht hx
        obtain ⟨rfl, h⟩ := h
        split at h
        · rename_i q hq
          obtain ⟨r, w', h1, h2⟩ := appD_sound (P := P) hR hq (he.ev x) (he.ev y) h rfl ty
          refine op_ ?_
          simp only [opV, callV]
          have e1 : ats = #[t', t'] := by apply Array.ext'; simpa using ht
          have e2 : args.map (V.ev e') = #[V.ev e' x, V.ev e' y] := by apply Array.ext'; simp [hx]
          rw [e1, e2]
          exact ⟨r, w', h1, h2⟩
        · exact h.elim
      · exact h.elim

theorem pextV_sound (he : EnvR I w.heap e e') (hR : Rel I S w) {o : Oper} {K : D → Store → Prop} (h : pextV P o e S K) : After P (fun v w' => Ext w w' ∧ Post I S w K v w') ((execOp (V.ev e') o).run P w) := by
  have new_ : newV P o e S K → After P (fun v w' => Ext w w' ∧ Post I S w K v w') ((execOp (V.ev e') o).run P w) := fun h => opV_sound (newV_sound he hR h)
  have op_ : opV P o e' w (fun v w' => Ext w w' ∧ Post I S w K v w') → After P (fun v w' => Ext w w' ∧ Post I S w K v w') ((execOp (V.ev e') o).run P w) := opV_sound
  obtain ⟨dst, op, ty, pos, aft, gd⟩ := o
  cases op <;> simp only [pextV] at h <;> first | exact h.elim | exact new_ h | skip
  case load t a =>
    obtain ⟨u, h1, d, h2, h3⟩ := loadD_sound (P := P) hR (he.ev a) h
    exact op_ ⟨u, h1 w (Ext.refl _), Ext.refl _, I, S, d, Stp.refl _ _ _, hR, h2, h3⟩
  case call c =>
    obtain ⟨callee, args, ats⟩ := c
    cases callee with
    | value x =>
      refine callD_sound he h fun c ds vs hq hv => ?_
      cases c with
      | y l => exact hq.elim
      | f f =>
        obtain ⟨I1, S1, ds1, s1, r1, q1, hq⟩ := coeDs_sound ds hR hv hq
        exact (hq w I1 vs r1.gi q1).mono fun r w' ⟨I', d, hE, hI, hn, ho, hd, hk⟩ => ⟨hE, I', S1, d, s1.trans (Stp.of_ext hE hI hn r1.old), r1.ext hE hI hn ho, hd, hk⟩
    | invoke r m => exact h.elim
    | builtin b => exact h.elim

end
end Go.V

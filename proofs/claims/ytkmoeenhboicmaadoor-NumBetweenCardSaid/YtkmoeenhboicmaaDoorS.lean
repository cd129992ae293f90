/- Operations over values as data: those that read and write memory; calls. No program in sight. -/
import Derived.Test.YtkmoeenhboicmaaDoorQ
set_option linter.unusedSimpArgs false
set_option linter.unusedVariables false
namespace Go.V
open Go Go.RowKit

section
variable {P : Program} {I : CI} {S : Store} {w : World} {e : DEnv} {e' : Env}

def optL (o : Option (List D)) (K : List D → Prop) : Prop := match o with | some x => K x | none => False
theorem optL_some {x : List D} {K : List D → Prop} : optL (some x) K = K x := rfl
theorem optL_cases {o : Option (List D)} {K : List D → Prop} (h : optL o K) : ∃ x, o = some x ∧ K x := by
  cases o with | none => exact h.elim | some x => exact ⟨x, rfl, h⟩
def stV (S : Store) (k : Nm) (K : Blk → Prop) : Prop := match S k with | some B => K B | none => False
theorem stV_cases {k : Nm} {K : Blk → Prop} (h : stV S k K) : ∃ B, S k = some B ∧ K B := by
  unfold stV at h; split at h
  · rename_i B hB; exact ⟨B, hB, h⟩
  · exact h.elim
def optB (o : Option Blk) (K : Blk → Prop) : Prop := match o with | some B => K B | none => False
theorem optB_some {B : Blk} {K : Blk → Prop} : optB (some B) K = K B := rfl
theorem stV_eq {k : Nm} {K : Blk → Prop} : stV S k K = optB (S k) K := rfl

/-! ### Loads -/

def cellsD (P : Program) (t : TypeId) (l : List D) (K : D → Prop) : Prop := match aggN P t with
  | some n => n ≤ l.length ∧ K (.agg (l.take n))
  | none => scalB P t = true ∧ optD l[0]? K
theorem cellsD_agg {t n : Nat} (h : aggN P t = some n) {l : List D} {K : D → Prop} : cellsD P t l K = (n ≤ l.length ∧ K (.agg (l.take n))) := by simp only [cellsD, h]
theorem cellsD_one {t : Nat} (h : aggN P t = none ∧ scalB P t = true) {l : List D} {K : D → Prop} : cellsD P t l K = optD l[0]? K := by simp only [cellsD, h.1, h.2, true_and]

def loadD (P : Program) (S : Store) (t : TypeId) (d : D) (K : D → Prop) : Prop := match d with
  | .ptr k b i off s => optB (S k) fun B => B.b = b ∧ B.s = s ∧ optL B.els[i]? fun es => cellsD P t (es.drop off) K
  | .ip cs => cellsD P t (cs.map D.g) K
  | _ => False
theorem loadD_ptr {t : TypeId} {k : Nm} {b i off s : Nat} {K : D → Prop} : loadD P S t (.ptr k b i off s) K = optB (S k) fun B => B.b = b ∧ B.s = s ∧ optL B.els[i]? fun es => cellsD P t (es.drop off) K := rfl
theorem loadD_ip {t : TypeId} {cs : List G} {K : D → Prop} : loadD P S t (.ip cs) K = cellsD P t (cs.map D.g) K := rfl

theorem optB_cases {o : Option Blk} {K : Blk → Prop} (h : optB o K) : ∃ B, o = some B ∧ K B := by
  cases o with | none => exact h.elim | some x => exact ⟨x, rfl, h⟩

theorem cells_ld {t : TypeId} {l : List D} {K : D → Prop} {b o : Nat} {cur : Array Value} {el : TypeId} {fr : Nat × Nat} (hb : w.heap[b]? = some (.cells cur el fr))
    (hc : ∀ (j : Nat) (d : D), l[j]? = some d → ∃ u, cur[o + j]? = some u ∧ RdD I w.heap d u) (h : cellsD P t l K) :
    ∃ u, (∀ w', Below w.heap.size w w' → Ld P w' t (.pointer (some ⟨b, o, none⟩)) u) ∧ ∃ d, RdD I w.heap d u ∧ K d := by
  have cell : ∀ (w' : World), Below w.heap.size w w' → ∀ (j : Nat) (u : Value), cur[o + j]? = some u → w'.cell? ⟨b, o + j, none⟩ = some u := by
    intro w' hE j u hu
    have : w'.heap[b]? = some (.cells cur el fr) := Ext.at hE hb
    simp [World.cell?, this, hu]
  unfold cellsD at h
  split at h
  · rename_i n ha
    obtain ⟨hn, hk⟩ := h
    have hl : ∀ j, j < n → ∃ u, cur[o + j]? = some u := fun j hj => by
      obtain ⟨u, hu, _⟩ := hc j (l[j]'(by omega)) (List.getElem?_eq_getElem (by omega))
      exact ⟨u, hu⟩
    refine ⟨.agg ((List.range n).map fun j => (cur[o + j]?).getD undef).toArray, fun w' hE => ?_, _, RdD.ofL ⟨by simp; omega, fun j d u h1 h2 => ?_⟩, hk⟩
    · refine ld_agg ha (by simp) fun j v hv => ?_
      rw [addr_add]
      have hj : j < n := by have := (List.getElem?_eq_some_iff.1 hv).1; simpa using this
      obtain ⟨u, hu⟩ := hl j hj
      simp [hj, hu] at hv
      subst hv
      exact cell w' hE j u hu
    · rw [List.getElem?_take] at h1
      split at h1
      · rename_i hj
        obtain ⟨u', hu, hr⟩ := hc j d h1
        simp [hj, hu] at h2
        subst h2
        exact hr
      · cases h1
  · obtain ⟨hs, h⟩ := h
    unfold optD at h
    split at h
    · rename_i d hd
      obtain ⟨u, hu, hr⟩ := hc 0 d hd
      exact ⟨u, fun w' hE => ld_scal hs (by have := cell w' hE 0 u hu; simpa using this), d, hr, h⟩
    · exact h.elim

theorem loadD_sound (hR : Rel I S w) {t : TypeId} {d : D} {v : Value} (hd : RdD I w.heap d v) {K : D → Prop} (h : loadD P S t d K) :
    ∃ u, (∀ w', Below w.heap.size w w' → Ld P w' t v u) ∧ ∃ d', RdD I w.heap d' u ∧ K d' := by
  unfold loadD at h
  split at h
  · rename_i k b i off s
    obtain ⟨B, hk, rfl, rfl, h2⟩ := optB_cases h
    obtain ⟨es, he, h⟩ := optL_cases h2
    obtain ⟨cur, el, hb, _, _, hc, _⟩ := (hR.has k B hk).ex
    rw [hd.ptr_inv]
    refine cells_ld hb (fun j d hj => ?_) h
    rw [List.getElem?_drop] at hj
    have := hc i es _ d he hj
    rw [Nat.add_assoc]
    exact this
  · rename_i cs
    cases hd with
    | ip _ b o cur el fr f hb hc hr =>
      refine cells_ld hb (fun j d hj => ?_) h
      rw [List.getElem?_map] at hj
      cases hg : cs[j]? with
      | none => rw [hg] at hj; cases hj
      | some g => rw [hg] at hj; injection hj with hj; subst hj; exact ⟨f j, (hc j g hg).2, .g (hr j g hg)⟩
  · exact h.elim

/-! ### Stores -/

def storeD (P : Program) (S : Store) (t : TypeId) (a x : D) (K : Store → Prop) : Prop := match a with
  | .ptr k b i off s => optB (S k) fun B => B.b = b ∧ B.s = s ∧ B.p ≤ i ∧ optL B.els[i]? fun es => (match aggN P t with
    | some n => (match x with | .agg cs => cs.length = n ∧ cs.all D.one = true ∧ off + n ≤ es.length ∧ K (updS S k (some ⟨B.b, B.s, B.p, B.els.set i (es.take off ++ cs ++ es.drop (off + n))⟩)) | _ => False)
    | none => scalB P t = true ∧ x.one = true ∧ off < es.length ∧ K (updS S k (some ⟨B.b, B.s, B.p, B.els.set i (es.set off x)⟩)))
  | _ => False
def stCells (P : Program) (t : TypeId) (off : Nat) (x : D) (es : List D) (K : List D → Prop) : Prop := match aggN P t with
  | some n => (match x with | .agg cs => cs.length = n ∧ cs.all D.one = true ∧ off + n ≤ es.length ∧ K (es.take off ++ cs ++ es.drop (off + n)) | _ => False)
  | none => scalB P t = true ∧ x.one = true ∧ off < es.length ∧ K (es.set off x)
theorem stCells_agg {t n off : Nat} (h : aggN P t = some n) {cs es : List D} {K : List D → Prop} : stCells P t off (.agg cs) es K = (cs.length = n ∧ cs.all D.one = true ∧ off + n ≤ es.length ∧ K (es.take off ++ cs ++ es.drop (off + n))) := by simp only [stCells, h]
theorem stCells_one {t off : Nat} (h : aggN P t = none ∧ scalB P t = true) {x : D} {es : List D} {K : List D → Prop} : stCells P t off x es K = (x.one = true ∧ off < es.length ∧ K (es.set off x)) := by simp only [stCells, h.1, h.2, true_and]
theorem storeD_ptr {t : TypeId} {k : Nm} {b i off s : Nat} {x : D} {K : Store → Prop} : storeD P S t (.ptr k b i off s) x K =
    optB (S k) fun B => B.b = b ∧ B.s = s ∧ B.p ≤ i ∧ optL B.els[i]? fun es => stCells P t off x es fun es' => K (updS S k (some ⟨B.b, B.s, B.p, B.els.set i es'⟩)) := by
  unfold storeD stCells; rfl

theorem cells_agg (l : List Value) : (Value.agg l.toArray).cells = l.toArray := rfl

theorem storeD_sound (hR : Rel I S w) {t : TypeId} {a x : D} {va vx : Value} (ha : RdD I w.heap a va) (hx : RdD I w.heap x vx) {K : Store → Prop} (h : storeD P S t a x K) :
    ∃ w', St P w t va vx w' ∧ ∃ I' S', Stp I S w I' S' w' ∧ Rel I' S' w' ∧ K S' := by
  cases a with
  | ptr k b i off s =>
    rw [storeD_ptr] at h
    obtain ⟨B, hk, rfl, rfl, hp, h2⟩ := optB_cases h
    obtain ⟨es, he, h3⟩ := optL_cases h2
    clear h h2
    have h := h3
    clear h3
    obtain ⟨cur, el, hb, hz, hl, hc, hfz, hpl⟩ := (hR.has k B hk).ex
    have hi : i < B.els.length := (List.getElem?_eq_some_iff.1 he).1
    have hes := hl i es he
    have hrow : Row w B.b el cur.toList := by unfold Row; simpa using hb
    rw [ha.ptr_inv]
    have hib : (i + 1) * B.s ≤ cur.size := Nat.le_trans (Nat.mul_le_mul_right _ hi) hz
    rw [Nat.add_mul] at hib
    have hpi : B.p * B.s ≤ i * B.s := Nat.mul_le_mul_right _ hp
    have apart : ∀ (i' j : Nat), i' ≠ i → j < B.s → i' * B.s + j < i * B.s ∨ i * B.s + B.s ≤ i' * B.s + j := by
      intro i' j hne hj
      rcases Nat.lt_or_gt_of_ne hne with h1 | h1
      · left
        have : (i' + 1) * B.s ≤ i * B.s := Nat.mul_le_mul_right _ h1
        rw [Nat.add_mul] at this; omega
      · right
        have : (i + 1) * B.s ≤ i' * B.s := Nat.mul_le_mul_right _ h1
        rw [Nat.add_mul] at this; omega
    -- what both ways have in common
    have fin : ∀ (w' : World) (ys : List Value) (es' : List D), Row w' B.b el ys → Upd B.b w w' → ys.length = cur.size → es'.length = B.s → (∀ j, (j < i * B.s ∨ i * B.s + B.s ≤ j) → ys[j]? = cur[j]?) →
        (∀ (j : Nat) (d : D), es'[j]? = some d → ∃ u, ys[i * B.s + j]? = some u ∧ RdD I w.heap d u) → K (updS S k (some ⟨B.b, B.s, B.p, B.els.set i es'⟩)) →
        ∃ I' S', Stp I S w I' S' w' ∧ Rel I' S' w' ∧ K S' := by
      intro w' ys es' h1 h2 h3 h4 h5 h6 h7
      obtain ⟨r1, r2⟩ := hR.write hk hrow h1 h2 (by simpa using h3) (els := B.els.set i es') (by simpa using hpl) (by simp; omega) (fun i' es0 h8 => by
          rw [List.getElem?_set] at h8
          by_cases hii : i = i'
          · subst hii
            rw [if_pos rfl, if_pos hi] at h8
            injection h8 with h8; subst h8; exact h4
          · rw [if_neg hii] at h8; exact hl i' es0 h8) (fun j hj => by
            have h8 := h5 j (Or.inl (by omega))
            simpa using h8) (fun i' es0 j d h8 h9 => by
          rw [List.getElem?_set] at h8
          by_cases hii : i = i'
          · subst hii
            rw [if_pos rfl, if_pos hi] at h8
            injection h8 with h8; subst h8; exact h6 j d h9
          · have hne := hii
            rw [if_neg hii] at h8
            obtain ⟨u, hu, hr⟩ := hc i' es0 j d h8 h9
            refine ⟨u, ?_, hr⟩
            have hj : j < B.s := by rw [← hl i' es0 h8]; exact (List.getElem?_eq_some_iff.1 h9).1
            rw [h5 _ (apart i' j (fun e => hne e.symm) hj)]
            exact hu)
      exact ⟨I, _, r2, r1, h7⟩
    unfold stCells at h
    split at h
    · rename_i n hn
      split at h
      · rename_i cs
        obtain ⟨hcs, hone, hof, hK⟩ := h
        obtain ⟨vs, rfl, hvs⟩ := hx.agg_inv
        have hvl : vs.length = n := by rw [hvs.len, hcs]
        have hu1 : ∀ v ∈ vs, v.oneCell' = true := by
          intro v hv
          obtain ⟨j, hj⟩ := List.mem_iff_getElem?.1 hv
          have hj' : j < cs.length := by rw [← hvs.len]; exact (List.getElem?_eq_some_iff.1 hj).1
          have hd := List.getElem?_eq_getElem hj'
          exact (hvs.at_ j _ v hd hj).oneV (List.all_eq_true.1 hone _ (List.getElem_mem hj'))
        obtain ⟨w', h1, h2, h3⟩ := hrow.stAgg hn (i := i * B.s + off) hvl (by simp; omega) hu1
        have hpos : i * B.s + off + n ≤ cur.size := by omega
        refine ⟨w', h1, fin w' _ _ h2 h3 ?_ ?_ ?_ ?_ hK⟩
        · simp; omega
        · simp; omega
        · intro j hj
          simp only [List.append_assoc]
          rcases hj with hj | hj
          · rw [List.getElem?_append_left (by simp; omega), List.getElem?_take, if_pos (by omega)]; simp
          · rw [List.getElem?_append_right (by simp; omega), List.getElem?_append_right (by simp; omega), List.getElem?_drop]
            simp only [List.length_take, Array.length_toList]
            rw [show i * B.s + off + n + (j - min (i * B.s + off) cur.size - vs.length) = j by omega]
            simp
        · intro j d hj
          rw [List.append_assoc] at hj ⊢
          by_cases hj1 : j < off
          · rw [List.getElem?_append_left (by simp; omega), List.getElem?_take, if_pos hj1] at hj
            obtain ⟨u, hu, hr⟩ := hc i es j d he hj
            refine ⟨u, ?_, hr⟩
            rw [List.getElem?_append_left (by simp; omega), List.getElem?_take, if_pos (by omega)]
            simpa using hu
          · rw [List.getElem?_append_right (by simp; omega)] at hj
            rw [List.getElem?_append_right (by simp; omega)]
            simp only [List.length_take, Array.length_toList] at hj ⊢
            by_cases hj2 : j < off + n
            · rw [List.getElem?_append_left (by omega)] at hj
              have hlt : j - min off es.length < vs.length := by omega
              refine ⟨vs[j - min off es.length], ?_, hvs.at_ _ d _ hj (List.getElem?_eq_getElem hlt)⟩
              rw [List.getElem?_append_left (by omega), show i * B.s + j - min (i * B.s + off) cur.size = j - min off es.length by omega, List.getElem?_eq_getElem hlt]
            · rw [List.getElem?_append_right (by omega), List.getElem?_drop, show off + n + (j - min off es.length - cs.length) = j by omega] at hj
              obtain ⟨u, hu, hr⟩ := hc i es j d he hj
              refine ⟨u, ?_, hr⟩
              rw [List.getElem?_append_right (by omega), List.getElem?_drop, show i * B.s + off + n + (i * B.s + j - min (i * B.s + off) cur.size - vs.length) = i * B.s + j by omega]
              simpa using hu
      · exact h.elim
    · obtain ⟨hs, hone, hof, hK⟩ := h
      have hpos : i * B.s + off < cur.size := by omega
      obtain ⟨w', h1, h2, h3⟩ := hrow.st hs (i := i * B.s + off) (by simpa using hpos) (hx.oneV hone)
      refine ⟨w', h1, fin w' _ _ h2 h3 ?_ ?_ ?_ ?_ hK⟩
      · simp
      · simpa using hes
      · intro j hj
        rw [List.getElem?_set_ne (by omega)]; simp
      · intro j d hj
        rw [List.getElem?_set] at hj
        by_cases e0 : off = j
        · subst e0
          rw [if_pos rfl, if_pos hof] at hj
          injection hj with hj; subst hj
          exact ⟨vx, by rw [List.getElem?_set_self (by simpa using hpos)], hx⟩
        · have hne := e0
          rw [if_neg e0] at hj
          obtain ⟨u, hu, hr⟩ := hc i es j d he hj
          exact ⟨u, by rw [List.getElem?_set_ne (by omega)]; simpa using hu, hr⟩
  | _ => exact h.elim

/-! ### New blocks -/

theorem alloc_sound (hR : Rel I S w) {t : TypeId} {z : List D} (hz : zeroD P t = some z) {k : Nm} {K : D → Store → Prop} (h : ∀ b, K (.ptr k b 0 0 z.length) (updS S k (some ⟨b, z.length, 0, [z]⟩))) :
    ∃ v w', Does P (Instr.alloc t true (.tuple #[])) w v w' ∧ Ext w w' ∧ ∃ I' S' d, Stp I S w I' S' w' ∧ Rel I' S' w' ∧ RdD I' w'.heap d v ∧ K d S' := by
  unfold zeroD at hz
  split at hz
  · rename_i i hi
    split at hz
    · rename_i zv hzv
      injection hz with hz
      have hrd : RdL I w.heap z zv.cells.toList := hz ▸ cellsD_rd I w.heap zv.cells.toList
      have hN := New.alloc w t zv.cells
      obtain ⟨r1, r2⟩ := hR.alloc hN (s := z.length) (els := [z]) (by simp [hrd.len]) (fun i es he => by
          cases i with
          | zero => simp at he; subst he; rfl
          | succ i => simp at he) (fun i es j d he hj => by
          cases i with
          | zero =>
            simp at he; subst he
            have hlt : j < zv.cells.toList.length := by rw [hrd.len]; exact (List.getElem?_eq_some_iff.1 hj).1
            exact ⟨zv.cells.toList[j], by simp, hrd.at_ j d _ hj (List.getElem?_eq_getElem hlt)⟩
          | succ i => simp at he) k 0 (Nat.zero_le _)
      refine ⟨.pointer (some ⟨w.heap.size, 0, none⟩), _, ?_, hN.ext, I, _, _, r2, r1, ?_, h w.heap.size⟩
      · simp [Does, Instr.alloc, zeroValue, info_parts' hi, hzv, newVar, newRow]
      · have := RdD.ptr (I := I) (H := (w.alloc (.cells zv.cells t)).heap) k w.heap.size 0 0 z.length
        simpa using this
    · cases hz
  · cases hz

theorem box_sound (hR : Rel I S w) {t : TypeId} {x : D} {vx : Value} (hx : RdD I w.heap x vx) (hone : x.cells.all D.one = true) {k : Nm} {K : D → Store → Prop} (h : ∀ b, K (.ptr k b 0 0 x.cells.length) (updS S k (some ⟨b, x.cells.length, 0, [x.cells]⟩))) :
    ∃ v w', Does P (Instr.box t vx) w v w' ∧ Ext w w' ∧ ∃ I' S' d, Stp I S w I' S' w' ∧ Rel I' S' w' ∧ RdD I' w'.heap d v ∧ K d S' := by
  have hrd := hx.cellsL hone
  have hN := New.alloc w t vx.cells
  obtain ⟨r1, r2⟩ := hR.alloc hN (s := x.cells.length) (els := [x.cells]) (by simp [hrd.len]) (fun i es he => by
      cases i with
      | zero => simp at he; subst he; rfl
      | succ i => simp at he) (fun i es j d he hj => by
      cases i with
      | zero =>
        simp at he; subst he
        have hlt : j < vx.cells.toList.length := by rw [hrd.len]; exact (List.getElem?_eq_some_iff.1 hj).1
        exact ⟨vx.cells.toList[j], by simp, hrd.at_ j d _ hj (List.getElem?_eq_getElem hlt)⟩
      | succ i => simp at he) k 0 (Nat.zero_le _)
  refine ⟨.pointer (some ⟨w.heap.size, 0, none⟩), _, ?_, hN.ext, I, _, _, r2, r1, ?_, h w.heap.size⟩
  · simp [Does, Instr.box, newVar, newRow]
  · have := RdD.ptr (I := I) (H := (w.alloc (.cells vx.cells t)).heap) k w.heap.size 0 0 x.cells.length
    simpa using this

/-- Slice types whose rows can be made: the element type, its size, its bytes, its zero value. -/
structure SlZ where
  el : TypeId
  s : Nat
  bytes : Nat
  z : List D
def slZ (P : Program) (t : TypeId) : Option SlZ := match P.underlying t with
  | some (.slice el) => (match P.info? el, zeroD P el with
    | some i, some z => if 0 < i.size ∧ z.length = i.size then some ⟨el, i.size, i.bytes, z⟩ else none
    | _, _ => none)
  | _ => none
theorem slZ_T {t : TypeId} {q : SlZ} (h : slZ P t = some q) : ∃ zv, SlT P t q.el q.s q.bytes zv ∧ q.z = zv.cells.toList.map cellD ∧ zv.cells.size = q.s ∧ 0 < q.s := by
  unfold slZ at h
  split at h
  · rename_i el hu
    split at h
    · rename_i i z hi hz
      split at h
      · rename_i hs
        injection h with h; subst h
        unfold zeroD at hz
        rw [hi] at hz
        simp only at hz
        split at hz
        · rename_i zv hzv
          injection hz with hz
          refine ⟨zv, ⟨hu, by simp [hi, hzv]⟩, hz.symm, ?_, hs.1⟩
          have := hs.2
          rw [← hz] at this
          simpa using this
        · cases hz
      · cases h
    · cases h
  · cases h
theorem slZ_slS {t : TypeId} {q : SlZ} (h : slZ P t = some q) : slS P t = some q.s := by
  unfold slZ at h
  unfold slS
  split at h
  · rename_i el hu
    split at h
    · rename_i i z hi hz
      split at h
      · injection h with h; subst h; simp [hu, hi]
      · cases h
    · cases h
  · cases h

theorem madeCells_get (z : Array Value) (n s : Nat) (hs : z.size = s) (hs0 : 0 < s) {i j : Nat} (hi : i < n) (hj : j < s) : (madeCells z (n * s)).toList[i * s + j]? = z[j]? := by
  have h1 : i * s + j < n * s := by
    have : (i + 1) * s ≤ n * s := Nat.mul_le_mul_right _ hi
    rw [Nat.add_mul] at this; omega
  have h2 : (i * s + j) % z.size = j := by rw [hs, Nat.mul_comm, Nat.mul_add_mod, Nat.mod_eq_of_lt hj]
  have h3 : j < z.size := by omega
  simp [madeCells, h1, h2, h3]

theorem make_sound (hR : Rel I S w) {t : TypeId} {q : SlZ} (hq : slZ P t = some q) {n : Nat} {kl kc : IntKind} (hb : q.bytes * n ≤ 140737488355328) (h47 : n ≤ 140737488355328) {k : Nm} {K : D → Store → Prop}
    (h : ∀ b, K (.own k b 0 n n q.s) (updS S k (some ⟨b, q.s, 0, List.replicate n q.z⟩))) :
    ∃ v w', Does P (Instr.makeSlice t (.int kl n) (.int kc n)) w v w' ∧ Ext w w' ∧ ∃ I' S' d, Stp I S w I' S' w' ∧ Rel I' S' w' ∧ RdD I' w'.heap d v ∧ K d S' := by
  obtain ⟨zv, T, hz, hzs, hs0⟩ := slZ_T hq
  obtain ⟨b, w', h1, hN⟩ := make_any (w := w) T (kl := kl) (kc := kc) hb (by omega)
  have hml : (madeCells zv.cells (n * q.s)).toList.length = n * q.s := by simp [madeCells]
  have hql : q.z.length = q.s := by rw [hz]; simpa using hzs
  obtain ⟨r1, r2⟩ := hR.alloc hN (s := q.s) (els := List.replicate n q.z) (by simp [madeCells]) (fun i es he => by
      rw [List.getElem?_replicate] at he
      split at he
      · injection he with he; subst he; exact hql
      · cases he) (fun i es j d he hj => by
      rw [List.getElem?_replicate] at he
      split at he
      · rename_i hi
        injection he with he; subst he
        have hjl : j < q.s := by rw [← hql]; exact (List.getElem?_eq_some_iff.1 hj).1
        rw [madeCells_get zv.cells n q.s hzs hs0 hi hjl]
        rw [hz, List.getElem?_map] at hj
        simp only [Array.getElem?_toList] at hj
        cases hv : zv.cells[j]? with
        | none => rw [hv] at hj; cases hj
        | some u => rw [hv] at hj; injection hj with hj; subst hj; exact ⟨u, rfl, cellD_rd _ _ _⟩
      · cases he) k 0 (Nat.zero_le _)
  refine ⟨_, w', h1, hN.ext, I, _, _, r2, r1, ?_, h b⟩
  have hrow := hN.row
  unfold Row at hrow
  have := RdD.own (I := I) (H := w'.heap) k b 0 n n q.s _ q.el (0, 0) (Nat.le_refl _) (by unfold maxLen; omega) h47 hrow (by simp [madeCells])
  simpa using this

theorem flat_get {s : Nat} : ∀ (vs : List Value) (i j : Nat) (v : Value), (∀ u ∈ vs, u.cells.size = s) → vs[i]? = some v → j < s → (vs.flatMap fun v => v.cells.toList)[i * s + j]? = v.cells.toList[j]?
  | [], i, j, v, _, h, _ => by simp at h
  | u :: r, 0, j, v, hs, h, hj => by
    simp at h; subst h
    have := hs u (by simp)
    simp only [List.flatMap_cons, Nat.zero_mul, Nat.zero_add]
    rw [List.getElem?_append_left (by simp [this]; exact hj)]
  | u :: r, i + 1, j, v, hs, h, hj => by
    have hu := hs u (by simp)
    simp only [List.flatMap_cons]
    rw [List.getElem?_append_right (by simp [hu, Nat.add_mul]; omega)]
    rw [show (i + 1) * s + j - u.cells.toList.length = i * s + j by simp [hu, Nat.add_mul]; omega]
    exact flat_get r i j v (fun x hx => hs x (by simp [hx])) (by simpa using h) hj

theorem flat_len {s : Nat} : ∀ (vs : List Value), (∀ u ∈ vs, u.cells.size = s) → (vs.flatMap fun v => v.cells.toList).length = vs.length * s
  | [], _ => by simp
  | u :: r, h => by
    have := h u (by simp)
    simp only [List.flatMap_cons, List.length_append, List.length_cons, flat_len r (fun x hx => h x (by simp [hx])), Array.length_toList, this, Nat.add_mul]
    omega

theorem lit_sound (hR : Rel I S w) {t : TypeId} {q : SlZ} (hq : slZ P t = some q) {ds : List D} {vs : List Value} (hd : RdL I w.heap ds vs) (hone : ∀ d ∈ ds, d.cells.all D.one = true ∧ d.cells.length = q.s) (hn : ds.length * q.s ≤ 16777216) {k : Nm} {K : D → Store → Prop}
    (h : ∀ b, K (.own k b 0 ds.length ds.length q.s) (updS S k (some ⟨b, q.s, 0, ds.map D.cells⟩))) :
    ∃ v w', Does P (Instr.buildSlice t vs.length (partsFrom 0 vs).toArray) w v w' ∧ Ext w w' ∧ ∃ I' S' d, Stp I S w I' S' w' ∧ Rel I' S' w' ∧ RdD I' w'.heap d v ∧ K d S' := by
  obtain ⟨zv, T, hz, hzs, hs0⟩ := slZ_T hq
  have cl : ∀ (i : Nat) (d : D) (v : Value), ds[i]? = some d → vs[i]? = some v → RdL I w.heap d.cells v.cells.toList := fun i d v h1 h2 => (hd.at_ i d v h1 h2).cellsL (hone d (List.mem_of_getElem? h1)).1
  have hvs : ∀ u ∈ vs, u.cells.size = q.s := by
    intro u hu
    obtain ⟨i, hi⟩ := List.mem_iff_getElem?.1 hu
    have hlt : i < ds.length := by rw [← hd.len]; exact (List.getElem?_eq_some_iff.1 hi).1
    have h1 := List.getElem?_eq_getElem hlt
    have := (cl i _ u h1 hi).len
    rw [(hone _ (List.getElem_mem hlt)).2] at this
    simpa using this
  obtain ⟨b, w', h1, hN⟩ := slice_lit (w := w) T vs hvs (by rw [hd.len]; exact hn)
  obtain ⟨r1, r2⟩ := hR.alloc hN (s := q.s) (els := ds.map D.cells) (by rw [flat_len vs hvs]; simp [hd.len]) (fun i es he => by
      rw [List.getElem?_map] at he
      cases hi : ds[i]? with
      | none => rw [hi] at he; cases he
      | some d => rw [hi] at he; injection he with he; subst he; exact (hone d (List.mem_of_getElem? hi)).2) (fun i es j d he hj => by
      rw [List.getElem?_map] at he
      cases hi : ds[i]? with
      | none => rw [hi] at he; cases he
      | some d' =>
        rw [hi] at he; injection he with he; subst he
        have hlt : i < vs.length := by rw [hd.len]; exact (List.getElem?_eq_some_iff.1 hi).1
        have hv := List.getElem?_eq_getElem hlt
        have hjl : j < q.s := by rw [← (hone d' (List.mem_of_getElem? hi)).2]; exact (List.getElem?_eq_some_iff.1 hj).1
        rw [flat_get vs i j _ hvs hv hjl]
        have hc := cl i d' _ hi hv
        have hjv : j < (vs[i]).cells.toList.length := by rw [hc.len]; exact (List.getElem?_eq_some_iff.1 hj).1
        exact ⟨_, List.getElem?_eq_getElem hjv, hc.at_ j d _ hj (List.getElem?_eq_getElem hjv)⟩) k 0 (Nat.zero_le _)
  refine ⟨_, w', h1, hN.ext, I, _, _, r2, r1, ?_, h b⟩
  have hrow := hN.row
  unfold Row at hrow
  have hlen : ds.length ≤ 16777216 := Nat.le_trans (Nat.le_mul_of_pos_right _ hs0) hn
  have := RdD.own (I := I) (H := w'.heap) k b 0 ds.length ds.length q.s _ q.el (0, 0) (Nat.le_refl _) (by unfold maxLen; omega) (by omega) hrow (by simp [flat_len vs hvs, hd.len])
  rw [hd.len]
  simpa using this

end
end Go.V

/- Columns at right angles, about: the plain laws. No program in sight. Columns at right angles, about: the plain laws of sizes, and of columns that are at right angles already. No program in sight. Package ortho over values as data: sums of products; a column less what of it lies along another one. Package ortho over values as data: a column less what of it lies along another one. Package ortho over values as data: a column scaled; upright. Package ortho over values as data: upright; square. Package ortho over values as data: columns at right angles, about. The seat's deck: how many variables, points. The statement's own known columns of layer 9. The statement's own known columns of layer 9: the walk. The document's matrices over values as data: right rows, sums of products, what is left of a number. -/
import Derived.Test.YtolccagkfobbmaaGreatDoorZPS
import Derived.Test.YtolccagkfobbmaaGreatDoorZPR
set_option linter.unusedSimpArgs false
set_option linter.unusedVariables false
set_option maxRecDepth 100000
namespace Go.V
open Go Go.RowKit Go.Proofs

/-- A number that fits, or the error of one that doesn't. -/
def okO (d : Dyadic) : Except Int Dyadic := if (nuOf d).Ok then .ok d else .error 2
theorem okO_ok {d : Dyadic} (h : OkD d) : okO d = .ok d := if_pos h
theorem okO_no {d : Dyadic} (h : ¬ OkD d) : okO d = .error 2 := if_neg h
def okN : Except Int Dyadic → Nu × Int
  | .ok d => (nuOf d, 0)
  | .error c => (nu0, c)
theorem okN_okO (d : Dyadic) : okN (okO d) = numR d := by unfold okO numR; split <;> rfl
theorem okN_ok {d : Dyadic} : okN (.ok d) = (nuOf d, 0) := rfl
theorem okN_no {c : Int} : okN (.error c) = (nu0, c) := rfl
def bnd {α β : Type} (x : Except Int α) (f : α → Except Int β) : Except Int β := match x with | .ok a => f a | .error c => .error c
theorem bnd_ok {α β : Type} {a : α} {f : α → Except Int β} : bnd (.ok a) f = f a := rfl
theorem bnd_no {α β : Type} {c : Int} {f : α → Except Int β} : bnd (.error c) f = .error c := rfl
theorem bnd_cases {α β : Type} {x : Except Int α} {f : α → Except Int β} {b : β} (h : bnd x f = .ok b) : ∃ a, x = .ok a ∧ f a = .ok b := by
  cases x with | ok a => exact ⟨a, rfl, h⟩ | error c => cases h
theorem okO_cases {d b : Dyadic} (h : okO d = .ok b) : b = d ∧ OkD d := by
  unfold okO at h; split at h
  · rename_i hd; injection h with h; exact ⟨h.symm, hd⟩
  · cases h

/-- Step by step: the error of an earlier step stays. -/
def runE {α : Type} (s0 : α) (f : Nat → α → Except Int α) : Nat → Except Int α
  | 0 => .ok s0
  | n + 1 => bnd (runE s0 f n) (f n)
theorem runE_err {α : Type} {s0 : α} {f : Nat → α → Except Int α} {n m : Nat} {c : Int} (h : runE s0 f n = .error c) (hm : n ≤ m) : runE s0 f m = .error c := by
  induction m with
  | zero => rwa [Nat.le_zero.1 hm] at h
  | succ m ih =>
    rcases Nat.lt_or_ge n (m + 1) with h1 | h1
    · rw [runE, ih (by omega)]; rfl
    · rwa [show n = m + 1 by omega] at h
theorem runE_step {α : Type} {s0 s : α} {f : Nat → α → Except Int α} {n : Nat} (h : runE s0 f n = .ok s) : runE s0 f (n + 1) = f n s := by rw [runE, h]; rfl
theorem runE_all {α : Type} {s0 t : α} {f : Nat → α → Except Int α} (Q : Nat → α → Prop) (h0 : Q 0 s0) (hs : ∀ n s s', Q n s → f n s = .ok s' → Q (n + 1) s') : ∀ m t, runE s0 f m = .ok t → Q m t
  | 0, t, h => by injection h with h; subst h; exact h0
  | m + 1, t, h => by
    obtain ⟨s, h1, h2⟩ := bnd_cases h
    exact hs m s t (runE_all (t := t) Q h0 hs m s h1) h2

/-- A list, one by one. -/
def bldE {α : Type} (f : Nat → Except Int α) (n : Nat) : Except Int (List α) := runE [] (fun i l => bnd (f i) fun y => .ok (l ++ [y])) n
theorem bldE_step {α : Type} {f : Nat → Except Int α} {n : Nat} {l : List α} {y : α} (h : bldE f n = .ok l) (hy : f n = .ok y) : bldE f (n + 1) = .ok (l ++ [y]) := by
  unfold bldE at *; rw [runE_step h, hy]; rfl
theorem bldE_no {α : Type} {f : Nat → Except Int α} {n m : Nat} {l : List α} {c : Int} (h : bldE f n = .ok l) (hy : f n = .error c) (hm : n < m) : bldE f m = .error c := by
  unfold bldE at *
  exact runE_err (n := n + 1) (by rw [runE_step h, hy]; rfl) hm
theorem bldE_spec {α : Type} {f : Nat → Except Int α} {n : Nat} {l : List α} (h : bldE f n = .ok l) : l.length = n ∧ ∀ i (hi : i < l.length), f i = .ok l[i] := by
  refine runE_all (t := l) (fun n l => l.length = n ∧ ∀ i (hi : i < l.length), f i = .ok l[i]) ⟨rfl, fun i hi => (by cases hi)⟩ (fun n s s' hq hs => ?_) n l h
  obtain ⟨y, h1, h2⟩ := bnd_cases hs
  injection h2 with h2; subst h2
  refine ⟨by simp [hq.1], fun i hi => ?_⟩
  by_cases hlt : i < s.length
  · rw [List.getElem_append_left hlt]; exact hq.2 i hlt
  · have : i = s.length := by simp at hi; omega
    subst this
    simp only [List.getElem_append_right (Nat.le_refl _), Nat.sub_self, List.getElem_cons_zero]
    rw [hq.1]; exact h1
theorem bldE_all {α : Type} {f : Nat → Except Int α} {n : Nat} {l : List α} (h : bldE f n = .ok l) {Q : α → Prop} (hq : ∀ i y, i < n → f i = .ok y → Q y) : ∀ y ∈ l, Q y := by
  obtain ⟨h1, h2⟩ := bldE_spec h
  intro y hy
  obtain ⟨i, hi, rfl⟩ := List.mem_iff_getElem.1 hy
  exact hq i _ (by omega) (h2 i hi)
theorem bldE_of {α : Type} {f : Nat → Except Int α} {g : Nat → α} : ∀ {n : Nat}, (∀ i, i < n → f i = .ok (g i)) → bldE f n = .ok ((List.range n).map g)
  | 0, _ => rfl
  | n + 1, h => by rw [bldE_step (bldE_of fun i hi => h i (by omega)) (h n (by omega)), List.range_succ, List.map_append]; rfl
/-! ### Columns -/
abbrev DL := List Dyadic
def gD (l : DL) (i : Nat) : Dyadic := l.getD i 0
theorem gD_mem {l : DL} {i : Nat} (h : i < l.length) : gD l i ∈ l := by unfold gD; simp only [List.getD, List.getElem?_eq_getElem h, Option.getD_some]; exact List.getElem_mem h
theorem gD_get {l : DL} {i : Nat} (h : i < l.length) : gD l i = l[i] := by unfold gD; simp only [List.getD, List.getElem?_eq_getElem h, Option.getD_some]
def mulO (p : Nat) (x y : Dyadic) : Except Int Dyadic := okO (rd p false (x * y))
def dotS (p : Nat) (us vs : DL) (i : Nat) (s : Dyadic) : Except Int Dyadic := bnd (mulO p (gD us i) (gD vs i)) fun x => if i = 0 then .ok x else okO (rd p false (s + x))
def dotA (p : Nat) (us vs : DL) : Nat → Except Int Dyadic := runE 0 (dotS p us vs)
def dotR (p : Nat) (us vs : DL) : Except Int Dyadic := dotA p us vs us.length
def divO (p : Nat) (a b : Dyadic) : Except Int Dyadic := if b = 0 then .error 3 else okO (rd p false (quo p a b))
def awayO (p : Nat) (x c u : Dyadic) : Except Int Dyadic := bnd (mulO p c u) fun y => okO (rd p false (x - y))
def lessR (p : Nat) (vs us : DL) : Except Int DL := bnd (dotR p us vs) fun a => bnd (dotR p us us) fun b => bnd (divO p a b) fun c => bldE (fun i => awayO p (gD vs i) c (gD us i)) vs.length
/-- The amount; how many places it has above the point. -/
def abD (d : Dyadic) : Dyadic := dy false (fN d) (fE d)
def szD (d : Dyadic) : Int := fE d + bitLen (fN d)
def topA (vs : DL) : Nat → Dyadic
  | 0 => 0
  | n + 1 => if topA vs n < abD (gD vs n) then abD (gD vs n) else topA vs n
def topD (vs : DL) : Dyadic := topA vs vs.length
def scO (x : Dyadic) (j : Int) : Except Int Dyadic := okO (dy (fS x) (fN x) (fE x + j))
def scaledR (vs : DL) : Except Int DL := if topD vs = 0 then .error 3 else bldE (fun i => scO (gD vs i) (-szD (topD vs))) vs.length
def upA (p : Nat) (v : DL) (made : List DL) : Nat → Except Int DL := runE v fun k w => lessR p w (made.getD k [])
def upR (p : Nat) (v : DL) (made : List DL) : Except Int DL := bnd (upA p v made made.length) scaledR
def colOf (a : List DL) (j : Nat) : DL := a.map fun r => gD r j
def colA (p : Nat) (a : List DL) : Nat → Except Int (List DL) := runE [] fun j cols => bnd (upR p (colOf a j) cols) fun v => .ok (cols ++ [v])
def turned (n : Nat) (cols : List DL) : List DL := (List.range n).map fun i => cols.map fun c => gD c i
def colsR (p : Nat) (a : List DL) : Except Int (List DL) := bnd (colA p a a.length) fun cols => .ok (turned a.length cols)

abbrev OkL (l : DL) : Prop := ∀ x ∈ l, OkD x
theorem OkL.at {l : DL} (h : OkL l) (i : Nat) : OkD (gD l i) := by
  by_cases hi : i < l.length
  · exact h _ (gD_mem hi)
  · unfold gD; simp only [List.getD, List.getElem?_eq_none (Nat.le_of_not_lt hi), Option.getD_none]; exact OkD.zero
theorem dotS_ok {p : Nat} {us vs : DL} {i : Nat} {s t : Dyadic} (h : dotS p us vs i s = .ok t) : OkD t := by
  obtain ⟨x, h1, h2⟩ := bnd_cases h
  split at h2
  · injection h2 with h2; subst h2; have := okO_cases h1; rw [this.1]; exact this.2
  · have := okO_cases h2; rw [this.1]; exact this.2
theorem dotA_ok {p : Nat} {us vs : DL} {n : Nat} {t : Dyadic} (h : dotA p us vs n = .ok t) : OkD t := by
  cases n with
  | zero => injection h with h; rw [← h]; exact OkD.zero
  | succ n => obtain ⟨s, _, h2⟩ := bnd_cases h; exact dotS_ok h2
theorem dotA_c {p : Nat} {us vs : DL} : ∀ {n : Nat} {c : Int}, dotA p us vs n = .error c → c = 2
  | 0, c, h => by cases h
  | n + 1, c, h => by
    cases h1 : dotA p us vs n with
    | error c' => have := dotA_c h1; unfold dotA at h h1; rw [runE, h1] at h; injection h with h; omega
    | ok s =>
      unfold dotA at h h1
      rw [runE_step h1] at h
      unfold dotS mulO okO at h
      split at h
      · simp only [bnd_ok] at h
        split at h
        · cases h
        · split at h
          · cases h
          · injection h with h; omega
      · injection h with h; omega
theorem lessR_ok {p : Nat} {vs us l : DL} (h : lessR p vs us = .ok l) : OkL l ∧ l.length = vs.length := by
  obtain ⟨a, _, h⟩ := bnd_cases h
  obtain ⟨b, _, h⟩ := bnd_cases h
  obtain ⟨c, _, h⟩ := bnd_cases h
  exact ⟨bldE_all h fun i y _ hy => by obtain ⟨z, _, h3⟩ := bnd_cases hy; have := okO_cases h3; rw [this.1]; exact this.2, (bldE_spec h).1⟩
theorem scaledR_ok {vs l : DL} (h : scaledR vs = .ok l) : OkL l ∧ l.length = vs.length := by
  unfold scaledR at h
  split at h
  · cases h
  · exact ⟨bldE_all h fun i y _ hy => by have := okO_cases hy; rw [this.1]; exact this.2, (bldE_spec h).1⟩
theorem upA_ok {p : Nat} {v l : DL} {made : List DL} {n : Nat} (hv : OkL v) (h : upA p v made n = .ok l) : OkL l ∧ l.length = v.length :=
  runE_all (t := l) (fun _ l => OkL l ∧ l.length = v.length) ⟨hv, rfl⟩ (fun n s s' hq hs => by have := lessR_ok hs; exact ⟨this.1, this.2.trans hq.2⟩) n l h
theorem upR_ok {p : Nat} {v l : DL} {made : List DL} (hv : OkL v) (h : upR p v made = .ok l) : OkL l ∧ l.length = v.length := by
  obtain ⟨w, h1, h2⟩ := bnd_cases h
  have := scaledR_ok h2
  exact ⟨this.1, this.2.trans (upA_ok hv h1).2⟩
theorem colOf_ok {a : List DL} (ha : ∀ r ∈ a, OkL r) (j : Nat) : OkL (colOf a j) := by
  intro x hx
  obtain ⟨r, hr, rfl⟩ := List.mem_map.1 hx
  exact (ha r hr).at j
theorem colOf_len (a : List DL) (j : Nat) : (colOf a j).length = a.length := by simp [colOf]
theorem colA_ok {p : Nat} {a cols : List DL} {n : Nat} (ha : ∀ r ∈ a, OkL r) (h : colA p a n = .ok cols) : cols.length = n ∧ ∀ c ∈ cols, OkL c ∧ c.length = a.length :=
  runE_all (t := cols) (fun n cols => cols.length = n ∧ ∀ c ∈ cols, OkL c ∧ c.length = a.length) ⟨rfl, fun c hc => by cases hc⟩ (fun n s s' hq hs => by
    obtain ⟨v, h1, h2⟩ := bnd_cases hs
    injection h2 with h2; subst h2
    have := upR_ok (colOf_ok ha n) h1
    refine ⟨by simp [hq.1], fun c hc => ?_⟩
    rcases List.mem_append.1 hc with hc | hc
    · exact hq.2 c hc
    · rw [List.mem_singleton.1 hc]; exact ⟨this.1, this.2.trans (colOf_len a n)⟩) n cols h

/-! ### Places above the point -/
theorem abD_nn (d : Dyadic) : 0 ≤ abD d := dy_nn _ _
theorem abD_zero {d : Dyadic} : abD d = 0 ↔ d = 0 := by unfold abD; rw [dy_zero, fN_eq_zero]
theorem abD_ok {d : Dyadic} (h : OkD d) : OkD (abD d) := by
  unfold OkD at *
  by_cases h0 : d = 0
  · subst h0; exact OkD.zero
  · unfold abD
    have h1 := nuOf_f d
    have := nuOf_odd (neg := false) (e := fE d) (fN_mod h0)
    rw [this]; rw [h1] at h; exact ⟨h.len, h.lo, h.hi⟩
theorem szD_ab {d : Dyadic} (h0 : d ≠ 0) : szD (abD d) = szD d := by
  unfold szD abD; rw [fE_odd (fN_mod h0), fN_odd (fN_mod h0)]
theorem szD_mono {a b : Dyadic} (ha : a ≠ 0) (hb : b ≠ 0) (h : abD a ≤ abD b) : szD a ≤ szD b := by
  rcases Int.lt_or_le (szD b) (szD a) with h1 | h1
  · have h2 := size_lt (n := fN b) (m := fN a) (ea := fE b) (eb := fE a) (fun e => ha (fN_eq_zero.1 e)) (by unfold szD at h1; omega)
    exact absurd h (by unfold abD; grind)
  · exact h1
theorem topA_nn (vs : DL) : ∀ n, 0 ≤ topA vs n
  | 0 => by unfold topA; grind
  | n + 1 => by unfold topA; split; exact abD_nn _; exact topA_nn vs n
theorem topA_or (vs : DL) : ∀ n, topA vs n = 0 ∨ ∃ i, i < n ∧ topA vs n = abD (gD vs i) ∧ gD vs i ≠ 0
  | 0 => .inl rfl
  | n + 1 => by
    unfold topA
    have h0 := topA_nn vs n
    split
    · rename_i h1
      exact .inr ⟨n, by omega, rfl, fun e => by rw [e] at h1; have : abD 0 = 0 := abD_zero.2 rfl; grind⟩
    · rcases topA_or vs n with h | ⟨i, h1, h2, h3⟩
      · exact .inl h
      · exact .inr ⟨i, by omega, h2, h3⟩
theorem topA_ge (vs : DL) : ∀ n i, i < n → abD (gD vs i) ≤ topA vs n
  | 0, i, h => by cases h
  | n + 1, i, h => by
    unfold topA
    by_cases e : i = n
    · subst e; split <;> grind
    · have := topA_ge vs n i (by omega)
      split <;> grind
theorem topA_ok {vs : DL} (h : OkL vs) : ∀ n, OkD (topA vs n)
  | 0 => OkD.zero
  | n + 1 => by unfold topA; split; exact abD_ok (h.at n); exact topA_ok h n
/-- The same from the places alone. -/
def stopA (vs : DL) : Nat → Int × Bool
  | 0 => (0, false)
  | n + 1 => if gD vs n = 0 then stopA vs n else if (stopA vs n).2 = false ∨ (stopA vs n).1 < szD (gD vs n) then (szD (gD vs n), true) else stopA vs n
theorem stopA_eq (vs : DL) : ∀ n, stopA vs n = if topA vs n = 0 then (0, false) else (szD (topA vs n), true)
  | 0 => rfl
  | n + 1 => by
    unfold stopA topA
    rw [stopA_eq vs n]
    have h0 := topA_nn vs n
    by_cases hz : gD vs n = 0
    · rw [if_pos hz, hz, abD_zero.2 rfl, if_neg (show ¬ topA vs n < 0 by grind)]
    · rw [if_neg hz]
      have hp : 0 < abD (gD vs n) := by have := abD_nn (gD vs n); have h2 : abD (gD vs n) ≠ 0 := fun e => hz (abD_zero.1 e); grind
      have ha : abD (gD vs n) ≠ 0 := by grind
      by_cases ht : topA vs n = 0
      · simp only [ht, if_true, true_or]
        rw [if_pos hp, if_neg ha, szD_ab hz]
      · simp only [ht, if_false, Bool.true_eq_false, false_or]
        obtain ⟨i, hi, e1, e2⟩ := (topA_or vs n).resolve_left ht
        by_cases hlt : topA vs n < abD (gD vs n)
        · rw [if_pos hlt, if_neg ha, szD_ab hz]
          split
          · rfl
          · rename_i h2
            have := szD_mono e2 hz (by rw [← e1]; grind)
            rw [e1, szD_ab e2] at h2 ⊢
            rw [show szD (gD vs i) = szD (gD vs n) by omega]
        · rw [if_neg hlt, if_neg ht]
          have := szD_mono hz e2 (by rw [← e1]; grind)
          rw [e1, szD_ab e2]
          rw [if_neg (by omega)]

end Go.V
namespace Go.V
open Go Go.RowKit Go.Proofs

def tw (j : Int) : Dyadic := dy false 1 j
theorem tw_pos (j : Int) : 0 < tw j := dy_pos.2 ⟨rfl, by decide⟩
theorem sc_mul (x : Dyadic) (j : Int) : dy (fS x) (fN x) (fE x + j) = x * tw j := by
  have h := dy_mul (fS x) false (fN x) 1 (fE x) j
  rw [dy_f] at h
  unfold tw
  rw [h, Nat.mul_one, Bool.bne_false]
/-! ### Two columns at right angles -/
def l2 (x y : Dyadic) : DL := [x, y]
theorem dot2 {p : Nat} {a b c d x y s : Dyadic} (h1 : mulO p a c = .ok x) (h2 : mulO p b d = .ok y) (h3 : okO (rd p false (x + y)) = .ok s) : dotR p [a, b] [c, d] = .ok s := by
  unfold dotR dotA
  show runE 0 (dotS p [a, b] [c, d]) 2 = .ok s
  have e1 : runE 0 (dotS p [a, b] [c, d]) 1 = .ok x := by
    rw [runE_step (n := 0) rfl]
    unfold dotS
    rw [show gD [a, b] 0 = a from rfl, show gD [c, d] 0 = c from rfl, h1]; rfl
  rw [runE_step e1]
  unfold dotS
  rw [show gD [a, b] 1 = b from rfl, show gD [c, d] 1 = d from rfl, h2]
  exact h3
theorem topD2 (x y : Dyadic) : topD [x, y] = if abD x < abD y then abD y else abD x := by
  show topA [x, y] 2 = _
  unfold topA
  unfold topA
  rw [show topA [x, y] 0 = 0 from rfl, show gD [x, y] 0 = x from rfl, show gD [x, y] 1 = y from rfl]
  have := abD_nn x; have := abD_nn y
  by_cases h : 0 < abD x
  · rw [if_pos h]
  · rw [if_neg h, show abD x = 0 by grind]

end Go.V
namespace Go.V
open Go Go.RowKit Go.Proofs
def qJ1_41_5 : PT := (.lin [(0, 0), (1, 0), (2, 0), (3, 2), (4, 0), (5, 0), (6, 0), (7, 2), (8, 0)] (.fork 9 3 (.lin [(10, 0), (11, 0), (12, 0), (13, 4), (14, 3), (15, 0)] .nil) 13 4 (.lin [(9, 3), (10, 0), (11, 0), (12, 0), (14, 3), (15, 0)] .nil)))
attribute [go_sem] qJ1_41_5
/-- Lists of numbers, rows of these. -/
def nus (l : DL) : List Nu := l.map nuOf
def eR (r : List Nu) : List G := [eS eU r]
def ND (l : DL) : D := .g (eS eU (nus l))
def NR (a : List DL) : D := .g (eS eR (a.map nus))
def bU (x : Nu) : List D := [bl x.neg, i64 x.exp, W64 x.w]
theorem nus_len {l : DL} : (nus l).length = l.length := List.length_map _
theorem nus_get {l : DL} {i : Nat} (h : i < l.length) : (nus l)[i]? = some (nuOf (gD l i)) := by
  unfold nus; rw [List.getElem?_map, gD_get h, List.getElem?_eq_getElem h]; rfl
theorem bU_eq {x : Nu} : bU x = [.g (.lit (.bool x.neg)), .g (.lit (.int .i64 x.exp)), W64 x.w] := rfl
attribute [go_sem] nus_len eU_0 ND NR bU_eq eR
theorem Recast.z3 {N : DEnv → Store → Prop} {e : DEnv} {S : Store} {k : Nm} {b : Nat} {x y : D} (hk : S k = some ⟨b, 3, 0, [[x, y, .nil]]⟩) (h : N e (updS S k (some ⟨b, 3, 0, [[x, y, W64 []]]⟩))) : Recast N e S :=
  Recast.cell (i := 0) (j := 2) (es := [x, y, .nil]) (d := .nil) (d' := W64 []) hk rfl rfl (fun I H v hv => nil_row hv) h

theorem okN_div {p : Nat} {a b : Dyadic} : okN (divO p a b) = if b = 0 then (nu0, 3) else numR (rd p false (quo p a b)) := by
  unfold divO; split
  · rfl
  · exact okN_okO _
theorem p_rdAddD {p : Nat} {up : Bool} {a b : Dyadic} (ha : OkD a) (hb : OkD b) (h8 : 8 ≤ p) (h256 : p ≤ 256) : PC Tryz.prog 59 [NU (nuOf a), NU (nuOf b), i64 p, bl up] fun d => d = NE (numR (rd p up (a + b))) := by
  have := p_rdAdd (p := p) (up := up) (ha.sz).wl (hb.sz).wl
  rwa [opP_D ha hb h8 h256, val_nuOf, val_nuOf] at this
theorem p_rdSubD {p : Nat} {up : Bool} {a b : Dyadic} (ha : OkD a) (hb : OkD b) (h8 : 8 ≤ p) (h256 : p ≤ 256) : PC Tryz.prog 44 [NU (nuOf a), NU (nuOf b), i64 p, bl up] fun d => d = NE (numR (rd p up (a - b))) := by
  have := p_rdSub (p := p) (up := up) (ha.sz).wl (hb.sz).wl
  rwa [opP_D ha hb h8 h256, val_nuOf, val_nuOf] at this
theorem p_rdMulD {p : Nat} {up : Bool} {a b : Dyadic} (ha : OkD a) (hb : OkD b) (h8 : 8 ≤ p) (h256 : p ≤ 256) : PC Tryz.prog 43 [NU (nuOf a), NU (nuOf b), i64 p, bl up] fun d => d = NE (numR (rd p up (a * b))) := by
  have := p_rdMul (p := p) (up := up) (ha.sz).wl (hb.sz).wl
  rwa [opP_D ha hb h8 h256, val_nuOf, val_nuOf] at this
theorem p_rdDivO {p : Nat} {a b : Dyadic} (ha : OkD a) (hb : OkD b) (h8 : 8 ≤ p) (h256 : p ≤ 256) : PC Tryz.prog 42 [NU (nuOf a), NU (nuOf b), i64 p, bl false] fun d => d = NE (okN (divO p a b)) := by
  have := p_rdDiv (p := p) (up := false) (ha.sz).wl (hb.sz).wl
  rwa [dvR_D ha hb h8 h256, ← okN_div] at this
set_option maxHeartbeats 1000000 in
theorem p_oDot {p : Nat} {us vs : DL} (hu : OkL us) (hv : OkL vs) (hl : vs.length = us.length) (h0 : 0 < us.length) (hn : us.length ≤ 1000) (h8 : 8 ≤ p) (h256 : p ≤ 256) : PC Tryz.prog 41 [ND us, ND vs, i64 p] fun d => d = NE (okN (dotR p us vs)) := by
  unfold ND
  generalize hr : dotR p us vs = r
  have d1 := @dr 5 qJ1_41_5
  refine PB (rs := [.cell 6 38, .tmp 7]) Tryz.func41 ?_
  refine pv_seq fun K1 q1 => ?_
  repeat (first | with_reducible refine pv_seq fun K hK => ?_ | ((with_reducible first | refine hK _ _ ?_ | (clear hK; refine hK _ _ ?_) | (clear hK; clear hK; refine hK _ _ ?_)); clear hK; try clear K) | refine W0 ?_ | exact Z | with_reducible intro b)
  refine q1 _ _ ?_
  clear q1
  refine pv_seqR fun K2 q2 hC => ?_
  repeat (first | with_reducible refine pv_seq fun K hK => ?_ | ((with_reducible first | refine hK _ _ ?_ | (clear hK; refine hK _ _ ?_) | (clear hK; clear hK; refine hK _ _ ?_)); clear hK; try clear K) | refine W0 ?_ | exact Z | with_reducible intro b)
  refine hC _ _ (Recast.z3 (k := .l 8) Zr ?_)
  refine q2 _ _ ?_
  clear q2 hC
  repeat (first | with_reducible refine pv_seq fun K hK => ?_ | ((with_reducible first | refine hK _ _ ?_ | (clear hK; refine hK _ _ ?_) | (clear hK; clear hK; refine hK _ _ ?_)); clear hK; try clear K) | refine W0 ?_ | exact Z | with_reducible intro b)
  have J : ∀ (e : DEnv) (S : Store) (b6 b8 : Nat) (s : Dyadic), r = .ok s → e 6 = .ptr (.l 6) b6 0 0 3 → e 8 = .ptr (.l 8) b8 0 0 3 → S (.l 6) = some ⟨b6, 3, 0, [[bl false, i64 0, .nil]]⟩ → S (.l 8) = some ⟨b8, 3, 0, [bU (nuOf s)]⟩ → K e S := by
    intro e S b6 b8 s hs g6 g8 s6 s8
    subst hs
    have ft := And.intro g6 (And.intro g8 (And.intro s6 s8))
    exact Wk
  clear hK
  refine pv_loop (fun e S => ∃ (i b6 b8 : Nat) (s : Dyadic), i ≤ us.length ∧ dotA p us vs i = .ok s ∧ e 0 = .g (eS eU (nus us)) ∧ e 1 = .g (eS eU (nus vs)) ∧ e 2 = i64 p ∧ e 13 = i64 us.length ∧ e 14 = i64 i ∧ e 6 = .ptr (.l 6) b6 0 0 3 ∧ e 8 = .ptr (.l 8) b8 0 0 3 ∧ S (.l 6) = some ⟨b6, 3, 0, [[bl false, i64 0, .nil]]⟩ ∧ S (.l 8) = some ⟨b8, 3, 0, [bU (nuOf s)]⟩) (fun e _ => us.length - (intD (e 14)).toNat) ?_ ?_
  · exact ⟨0, _, _, 0, Nat.zero_le _, rfl, Zr, Zr, Zr, Zr, Zr, Zr, Zr, Zr, Zr⟩
  · rintro e S ⟨i, b6, b8, s, hi, hA, g0, g1, g2, g13, g14, g6, g8, s6, s8⟩
    have ft := And.intro g0 (And.intro g1 (And.intro g2 (And.intro g13 (And.intro g14 (And.intro g6 (And.intro g8 (And.intro s6 s8)))))))
    repeat (first | with_reducible refine pv_seq fun K hK => ?_ | ((with_reducible first | refine hK _ _ ?_ | (clear hK; refine hK _ _ ?_) | (clear hK; clear hK; refine hK _ _ ?_)); clear hK; try clear K) | refine W0 ?_ | exact Z | with_reducible intro b)
    refine pv_cdD (fun ht => ?_) (fun ht => ?_)
    · have e1 := nus_get (l := us) ht
      have e2 := nus_get (l := vs) (i := i) (by omega)
      have pM := p_rdMulD (up := false) (hu.at i) (hv.at i) h8 h256
      have st := runE_step hA
      have os := dotA_ok hA
      unfold dotS mulO at st
      have er : ∀ c, dotA p us vs (i + 1) = .error c → r = .error c := fun c h => by rw [← hr]; exact runE_err h (by omega)
      unfold dotA at er
      by_cases hm : OkD (rd p false (gD us i * gD vs i))
      · rw [numR_ok hm] at pM
        rw [okO_ok hm, bnd_ok] at st
        generalize nuOf (gD us i) = X at *
        generalize nuOf (gD vs i) = Y at *
        generalize rd p false (gD us i * gD vs i) = x at *
        by_cases hi0 : i = 0
        · subst hi0
          rw [if_pos rfl] at st
          have ft := And.intro g0 (And.intro g1 (And.intro g2 (And.intro g13 (And.intro g14 (And.intro g6 (And.intro g8 (And.intro s6 (And.intro s8 (And.intro e1 e2)))))))))
          repeat' (first | with_reducible refine pv_seq fun K hK => ?_ | ((with_reducible first | refine hK _ _ ?_ | (clear hK; refine hK _ _ ?_) | (clear hK; clear hK; refine hK _ _ ?_)); clear hK; try clear K) | refine W ?_ | exact Z | with_reducible intro b | with_reducible refine And.intro ?_ ?_ )
          all_goals first | (simp only [intD]; omega) | exact ⟨1, b6, b8, x, by omega, st, Zr, Zr, Zr, Zr, Zr⟩
        · rw [if_neg hi0] at st
          have k1 : (0 < i) = True := eq_true (by omega)
          have pA := p_rdAddD (p := p) (up := false) os hm h8 h256
          by_cases ho : OkD (rd p false (s + x))
          · rw [numR_ok ho] at pA
            rw [okO_ok ho] at st
            generalize rd p false (s + x) = y at *
            generalize nuOf s = Z at *
            have ft := And.intro g0 (And.intro g1 (And.intro g2 (And.intro g13 (And.intro g14 (And.intro g6 (And.intro g8 (And.intro s6 (And.intro s8 (And.intro e1 (And.intro e2 k1))))))))))
            repeat' (first | with_reducible refine pv_seq fun K hK => ?_ | ((with_reducible first | refine hK _ _ ?_ | (clear hK; refine hK _ _ ?_) | (clear hK; clear hK; refine hK _ _ ?_)); clear hK; try clear K) | refine W ?_ | exact Z | with_reducible intro b | with_reducible refine And.intro ?_ ?_ )
            all_goals first | (simp only [intD]; omega) | exact ⟨i + 1, b6, b8, y, by omega, st, Zr, Zr, Zr, Zr, Zr⟩
          · rw [numR_over ho] at pA
            rw [okO_no ho] at st
            have er := er _ st
            subst er
            generalize nuOf s = Z at *
            have ft := And.intro g0 (And.intro g1 (And.intro g2 (And.intro g13 (And.intro g14 (And.intro g6 (And.intro g8 (And.intro s6 (And.intro s8 (And.intro e1 (And.intro e2 k1))))))))))
            repeat' (first | with_reducible refine pv_seq fun K hK => ?_ | ((with_reducible first | refine hK _ _ ?_ | (clear hK; refine hK _ _ ?_) | (clear hK; clear hK; refine hK _ _ ?_)); clear hK; try clear K) | refine W ?_ | exact Z | with_reducible intro b | with_reducible refine And.intro ?_ ?_ )
            all_goals rfl
      · rw [numR_over hm] at pM
        rw [okO_no hm, bnd_no] at st
        have er := er _ st
        subst er
        generalize nuOf (gD us i) = X at *
        generalize nuOf (gD vs i) = Y at *
        have ft := And.intro g0 (And.intro g1 (And.intro g2 (And.intro g13 (And.intro g14 (And.intro g6 (And.intro g8 (And.intro s6 (And.intro s8 (And.intro e1 e2)))))))))
        repeat' (first | with_reducible refine pv_seq fun K hK => ?_ | ((with_reducible first | refine hK _ _ ?_ | (clear hK; refine hK _ _ ?_) | (clear hK; clear hK; refine hK _ _ ?_)); clear hK; try clear K) | refine W ?_ | exact Z | with_reducible intro b | with_reducible refine And.intro ?_ ?_ )
        all_goals rfl
    · obtain rfl : i = us.length := by omega
      repeat (first | with_reducible refine pv_seq fun K hK => ?_ | ((with_reducible first | refine hK _ _ ?_ | (clear hK; refine hK _ _ ?_) | (clear hK; clear hK; refine hK _ _ ?_)); clear hK; try clear K) | refine W0 ?_ | exact Z | with_reducible intro b)
      exact J _ _ b6 b8 s (by rw [← hr]; exact hA) Zr Zr Zr Zr

end Go.V
namespace Go.V
open Go Go.RowKit Go.Proofs
def qJ2_28_14 : PT := (.lin [(0, 2), (1, 0), (2, 0), (3, 0), (4, 2), (5, 0)] (.fork 6 3 (.lin [(7, 0), (8, 0), (9, 0), (10, 4), (11, 3), (12, 0)] .nil) 10 4 (.lin [(6, 3), (7, 0), (8, 0), (9, 0), (11, 3), (12, 0)] .nil)))
def qJ2_28_17 : List (Nat × Nat) := [(0, 0), (1, 0), (2, 0), (3, 1), (4, 1), (5, 0), (6, 3), (7, 0), (8, 0), (9, 0), (10, 3), (11, 0)]
attribute [go_sem] qJ2_28_14 qJ2_28_17
def okL : Except Int DL → DL × Int
  | .ok l => (l, 0)
  | .error c => ([], c)
/-- A list of numbers and an error's number. -/
def NLE (q : DL × Int) : D := .tup [ND q.1, i64 q.2]
theorem okL_ok {l : DL} : okL (.ok l) = (l, 0) := rfl
theorem okL_no {c : Int} : okL (.error c) = ([], c) := rfl
attribute [go_sem] NLE okL_ok okL_no okN_ok okN_no
theorem rS_u {l : DL} {y : Dyadic} : rS eU (nus l) ++ [bU (nuOf y)] = rS eU (nus (l ++ [y])) := by
  unfold nus; rw [List.map_append, ← rS_app]; rfl
theorem divO_c {p : Nat} {a b : Dyadic} {c : Int} (h : divO p a b = .error c) : c = 3 ∨ c = 2 := by
  unfold divO at h
  split at h
  · injection h with h; exact .inl h.symm
  · unfold okO at h; split at h
    · cases h
    · injection h with h; exact .inr h.symm
theorem divO_ok {p : Nat} {a b c : Dyadic} (h : divO p a b = .ok c) : OkD c := by
  unfold divO at h
  split at h
  · cases h
  · have := okO_cases h; rw [this.1]; exact this.2
set_option maxHeartbeats 2000000 in
theorem p_oLess {p : Nat} {vs us : DL} (hv : OkL vs) (hu : OkL us) (hl : vs.length = us.length) (h0 : 0 < us.length) (hn : us.length ≤ 1000) (h8 : 8 ≤ p) (h256 : p ≤ 256) : PC Tryz.prog 28 [ND vs, ND us, i64 p] fun d => d = NLE (okL (lessR p vs us)) := by
  have pA := p_oDot hu hv hl h0 hn h8 h256
  have pB := p_oDot hu hu rfl h0 hn h8 h256
  unfold ND at pA pB ⊢
  generalize hr : lessR p vs us = r
  unfold lessR at hr
  have d1 := @dr 14 qJ2_28_14
  have d2 := @dl 17 qJ2_28_17
  refine PB (rs := [.tmp 6, .tmp 7]) Tryz.func28 ?_
  cases ha : dotR p us vs with
  | error c =>
    obtain rfl := dotA_c ha
    rw [ha, okN_no] at pA
    rw [ha, bnd_no] at hr
    subst hr
    exact Wk
  | ok a =>
    have oa := dotA_ok ha
    rw [ha, okN_ok] at pA
    rw [ha, bnd_ok] at hr
    cases hb : dotR p us us with
    | error c =>
      obtain rfl := dotA_c hb
      rw [hb, okN_no] at pB
      rw [hb, bnd_no] at hr
      subst hr
      exact Wk
    | ok b =>
      have ob := dotA_ok hb
      have pC := p_rdDivO oa ob h8 h256
      rw [hb, okN_ok] at pB
      rw [hb, bnd_ok] at hr
      cases hc : divO p a b with
      | error c =>
        rw [hc, okN_no] at pC
        rw [hc, bnd_no] at hr
        subst hr
        rcases divO_c hc with rfl | rfl
        · exact Wk
        · exact Wk
      | ok c =>
        have oc := divO_ok hc
        rw [hc, okN_ok] at pC
        rw [hc, bnd_ok] at hr
        repeat (first | with_reducible refine pv_seq fun K hK => ?_ | ((with_reducible first | refine hK _ _ ?_ | (clear hK; refine hK _ _ ?_) | (clear hK; clear hK; refine hK _ _ ?_)); clear hK; try clear K) | refine W ?_ | exact Z | with_reducible intro b)
        have J : ∀ (e : DEnv) (S : Store) (l : DL), r = .ok l → RowD S (.l 80) 3 (e 12) (rS eU (nus l)) → K e S := by
          intro e S l hs hw
          subst hs
          repeat (first | with_reducible refine pv_seq fun K hK => ?_ | ((with_reducible first | refine hK _ _ ?_ | (clear hK; refine hK _ _ ?_) | (clear hK; clear hK; refine hK _ _ ?_)); clear hK; try clear K) | refine W0 ?_ | exact Z | with_reducible intro b)
          exact hw.coeD fun S' _ _ => rfl
        clear hK pA pB pC
        refine pv_loop (fun e S => ∃ (i b11 : Nat) (l : DL), i ≤ vs.length ∧ bldE (fun i => awayO p (gD vs i) c (gD us i)) i = .ok l ∧ e 0 = .g (eS eU (nus vs)) ∧ e 1 = .g (eS eU (nus us)) ∧ e 2 = i64 p ∧ e 47 = i64 vs.length ∧ e 48 = i64 i ∧ e 11 = .ptr (.l 11) b11 0 0 3 ∧ S (.l 11) = some ⟨b11, 3, 0, [bU (nuOf c)]⟩ ∧ RowD S (.l 80) 3 (e 12) (rS eU (nus l))) (fun e _ => vs.length - (intD (e 48)).toNat) ?_ ?_
        · exact ⟨0, _, [], Nat.zero_le _, rfl, Zr, Zr, Zr, Zr, Zr, Zr, Zr, .nil⟩
        · rintro e S ⟨i, b11, l, hi, hA, g0, g1, g2, g47, g48, g11, s11, hw⟩
          have hlen := (bldE_spec hA).1
          have ft := And.intro g0 (And.intro g1 (And.intro g2 (And.intro g47 (And.intro g48 (And.intro g11 s11)))))
          repeat (first | with_reducible refine pv_seq fun K hK => ?_ | ((with_reducible first | refine hK _ _ ?_ | (clear hK; refine hK _ _ ?_) | (clear hK; clear hK; refine hK _ _ ?_)); clear hK; try clear K) | refine W0 ?_ | exact Z | with_reducible intro b)
          refine pv_cdD (fun ht => ?_) (fun ht => ?_)
          · have e1 := nus_get (l := us) (i := i) (by omega)
            have e2 := nus_get (l := vs) (i := i) (by omega)
            have pM := p_rdMulD (up := false) oc (hu.at i) h8 h256
            have er : ∀ c', awayO p (gD vs i) c (gD us i) = .error c' → r = .error c' := fun c' h => by rw [← hr]; exact bldE_no hA h ht
            have st : ∀ y, awayO p (gD vs i) c (gD us i) = .ok y → bldE (fun i => awayO p (gD vs i) c (gD us i)) (i + 1) = .ok (l ++ [y]) := fun y h => bldE_step hA h
            unfold awayO mulO at er st
            by_cases hm : OkD (rd p false (c * gD us i))
            · rw [numR_ok hm] at pM
              rw [okO_ok hm, bnd_ok] at er st
              have pS := p_rdSubD (up := false) (hv.at i) hm h8 h256
              by_cases ho : OkD (rd p false (gD vs i - rd p false (c * gD us i)))
              · rw [numR_ok ho] at pS
                rw [okO_ok ho] at st
                have st := st _ rfl
                generalize rd p false (gD vs i - rd p false (c * gD us i)) = y at *
                have ft := And.intro g0 (And.intro g1 (And.intro g2 (And.intro g47 (And.intro g48 (And.intro g11 (And.intro s11 (And.intro e1 e2)))))))
                repeat' (first | with_reducible refine pv_seq fun K hK => ?_ | ((with_reducible first | refine hK _ _ ?_ | (clear hK; refine hK _ _ ?_) | (clear hK; clear hK; refine hK _ _ ?_)); clear hK; try clear K) | refine W ?_ | exact Z | with_reducible intro b | with_reducible refine And.intro ?_ ?_ | (refine RowD.appL (hw.up (by rfl)) (by decide) rfl (by simp [D.one, W64]) ?_ ?_ fun d' S' hr' hS' => ?_))
                all_goals first | (rw [rS_len, nus_len]; omega) | (rw [rS_len, nus_len]; simp; omega) | (simp only [intD]; omega) | exact ⟨i + 1, b11, l ++ [y], by omega, st, Zr, Zr, by rw [hS' _ (by decide)]; exact Zr, by rw [← rS_u]; exact hr'⟩
              · rw [numR_over ho] at pS
                rw [okO_no ho] at er
                have er := er _ rfl
                subst er
                have ft := And.intro g0 (And.intro g1 (And.intro g2 (And.intro g47 (And.intro g48 (And.intro g11 (And.intro s11 (And.intro e1 e2)))))))
                exact Wk
            · rw [numR_over hm] at pM
              rw [okO_no hm, bnd_no] at er
              have er := er _ rfl
              subst er
              have ft := And.intro g0 (And.intro g1 (And.intro g2 (And.intro g47 (And.intro g48 (And.intro g11 (And.intro s11 (And.intro e1 e2)))))))
              exact Wk
          · obtain rfl : i = vs.length := by omega
            repeat (first | with_reducible refine pv_seq fun K hK => ?_ | ((with_reducible first | refine hK _ _ ?_ | (clear hK; refine hK _ _ ?_) | (clear hK; clear hK; refine hK _ _ ?_)); clear hK; try clear K) | refine W0 ?_ | exact Z | with_reducible intro b)
            exact J _ _ l (by rw [← hr]; exact hA) hw

end Go.V
namespace Go.V
open Go Go.RowKit Go.Proofs
def qJ3_29_5 : List (Nat × Nat) := [(0, 1), (2, 2), (1, 4), (3, 3), (4, 0)]
def qJ3_29_14 : PT := (.lin [(0, 2), (1, 0), (2, 2), (3, 0), (4, 0), (5, 2)] (.fork 6 4 (.lin [(7, 0)] (.fork 8 3 (.lin [(9, 0), (10, 0), (11, 0), (12, 4), (13, 3), (14, 0)] .nil) 12 4 (.lin [(8, 3), (9, 0), (10, 0), (11, 0), (13, 3), (14, 0)] .nil))) 12 4 (.lin [(6, 4), (7, 0), (8, 3), (9, 0), (10, 0), (11, 0), (13, 3), (14, 0)] .nil)))
attribute [go_sem] qJ3_29_5 qJ3_29_14
theorem bitsN {a : Dyadic} (ha : OkD a) : PC Tryz.prog 49 [W64 (nuOf a).w] fun d => d = i64 (bitLen (fN a) : Nat) := by
  have h := p_Bits (xs := (nuOf a).w) (ha.sz).b (by have := (ha.sz).len; omega)
  rw [nuOf_f] at h ⊢
  simp only at h ⊢
  rw [show N64 (digs 18446744073709551616 (fN a)) = fN a from N64_D64 _] at h
  exact h
theorem rvO {d : Dyadic} (h : OkD d) : rv (nuOf d) = d := by unfold rv; rw [rightB_nuOf, decide_eq_true h, if_pos rfl, val_nuOf]
theorem p_nSignO {a : Dyadic} (ha : OkD a) : PC Tryz.prog 47 [NU (nuOf a)] fun d => d = i64 (sgnD a) := by
  have := p_nSign (ha.sz).wl (by decide)
  rwa [rvO ha] at this
theorem p_nAbsO {a : Dyadic} (ha : OkD a) : PC Tryz.prog 46 [NU (nuOf a)] fun d => d = NU (nuOf (abD a)) := by
  have := p_nAbs (ha.sz).wl (by decide)
  rwa [rvO ha] at this
theorem scR_O {x : Dyadic} {j : Int} (hx : OkD x) (hj : -131072 ≤ j) (hj2 : j ≤ 131072) : scR (nuOf x) j = okN (scO x j) := by
  unfold scR scO
  rw [rightB_nuOf, decide_eq_true hx, if_pos rfl, okN_okO]
  by_cases h : x = 0
  · subst h; rw [if_pos (show (nuOf 0).w.length = 0 from rfl), fN_zero, dy0]; rfl
  · rw [if_neg, if_neg (by omega)]
    · rfl
    · intro e
      have h2 : fN x = 0 := by
        unfold fN
        rw [List.eq_nil_of_length_eq_zero e]; rfl
      exact h (fN_eq_zero.1 h2)
theorem bitLen64 {n k : Nat} (h : n < 18446744073709551616 ^ k) : bitLen n ≤ 64 * k := by
  rw [show (18446744073709551616 : Nat) = 2 ^ 64 by decide, ← Nat.pow_mul] at h
  exact bitLen_le h
theorem szD_ok {d : Dyadic} (h : OkD d) : -65536 ≤ fE d ∧ fE d ≤ 65536 ∧ bitLen (fN d) ≤ 4096 := by
  have h1 := h.lo; have h2 := h.hi
  refine ⟨h1, h2, ?_⟩
  have h3 := bitLen64 (nval_lt (B := 18446744073709551616) (by decide) (nuOf d).w (h.sz).b)
  have h4 := h.len
  unfold fN
  omega
theorem scO_c {x : Dyadic} {j : Int} {c : Int} (h : scO x j = .error c) : c = 2 := by
  unfold scO okO at h; split at h
  · cases h
  · injection h with h; exact h.symm
set_option maxHeartbeats 2000000 in
theorem p_oScaled {vs : DL} (hv : OkL vs) (hn : vs.length ≤ 1000) : PC Tryz.prog 29 [ND vs] fun d => d = NLE (okL (scaledR vs)) := by
  unfold ND
  generalize hr : scaledR vs = r
  unfold scaledR at hr
  have d1 := @dl 5 qJ3_29_5
  have d2 := @dr 14 qJ3_29_14
  refine PB (rs := [.tmp 2, .tmp 3]) Tryz.func29 ?_
  refine pv_seq fun K1 q1 => ?_
  repeat (first | with_reducible refine pv_seq fun K hK => ?_ | ((with_reducible first | refine hK _ _ ?_ | (clear hK; refine hK _ _ ?_) | (clear hK; clear hK; refine hK _ _ ?_)); clear hK; try clear K) | refine W0 ?_ | exact Z | with_reducible intro b)
  refine q1 _ _ ?_
  clear q1
  refine pv_seqR fun K2 q2 hC => ?_
  repeat (first | with_reducible refine pv_seq fun K hK => ?_ | ((with_reducible first | refine hK _ _ ?_ | (clear hK; refine hK _ _ ?_) | (clear hK; clear hK; refine hK _ _ ?_)); clear hK; try clear K) | refine W0 ?_ | exact Z | with_reducible intro b)
  refine hC _ _ (Recast.z3 (k := .l 4) Zr ?_)
  refine q2 _ _ ?_
  clear q2 hC
  repeat (first | with_reducible refine pv_seq fun K hK => ?_ | ((with_reducible first | refine hK _ _ ?_ | (clear hK; refine hK _ _ ?_) | (clear hK; clear hK; refine hK _ _ ?_)); clear hK; try clear K) | refine W0 ?_ | exact Z | with_reducible intro b)
  have J : ∀ (e : DEnv) (S : Store) (b4 : Nat), e 0 = .g (eS eU (nus vs)) → e 4 = .ptr (.l 4) b4 0 0 3 → S (.l 4) = some ⟨b4, 3, 0, [bU (nuOf (topD vs))]⟩ → K e S := by
    intro e S b4 g0 g4 s4
    have oT : OkD (topD vs) := topA_ok hv _
    have pS := p_nSignO oT
    obtain ⟨hT1, hT2, hT3⟩ := szD_ok oT
    have pB := bitsN oT
    have hz : (sgnD (topD vs) = 0) = (topD vs = 0) := propext sgnD_zero
    by_cases hT : topD vs = 0
    · rw [if_pos hT] at hr
      rw [eq_true hT] at hz
      subst hr
      generalize nuOf (topD vs) = X at *
      have ft := And.intro g0 (And.intro g4 (And.intro s4 hz))
      exact Wk
    · rw [if_neg hT] at hr
      rw [eq_false hT] at hz
      have hX : (nuOf (topD vs)).exp = fE (topD vs) := rfl
      have hsz : -szD (topD vs) = 0 - fE (topD vs) - (bitLen (fN (topD vs)) : Int) := by unfold szD; omega
      rw [hsz] at hr
      generalize sgnD (topD vs) = sg at *
      generalize fE (topD vs) = te at *
      generalize bitLen (fN (topD vs)) = tb at *
      generalize nuOf (topD vs) = X at *
      obtain ⟨xn, xe, xw⟩ := X
      simp only at hX pB
      subst hX
      have ft := And.intro g0 (And.intro g4 (And.intro s4 hz))
      repeat (first | with_reducible refine pv_seq fun K hK => ?_ | ((with_reducible first | refine hK _ _ ?_ | (clear hK; refine hK _ _ ?_) | (clear hK; clear hK; refine hK _ _ ?_)); clear hK; try clear K) | refine W ?_ | exact Z | with_reducible intro b)
      have J2 : ∀ (e : DEnv) (S : Store) (l : DL), r = .ok l → RowD S (.l 53) 3 (e 7) (rS eU (nus l)) → K e S := by
        intro e S l hs hw
        subst hs
        repeat (first | with_reducible refine pv_seq fun K hK => ?_ | ((with_reducible first | refine hK _ _ ?_ | (clear hK; refine hK _ _ ?_) | (clear hK; clear hK; refine hK _ _ ?_)); clear hK; try clear K) | refine W0 ?_ | exact Z | with_reducible intro b)
        exact hw.coeD fun S' _ _ => rfl
      clear hK pS
      refine pv_loop (fun e S => ∃ (i b4 : Nat) (l : DL), i ≤ vs.length ∧ bldE (fun i => scO (gD vs i) (0 - xe - (tb : Int))) i = .ok l ∧ e 29 = .g (eS eU (nus vs)) ∧ e 30 = i64 vs.length ∧ e 31 = i64 i ∧ e 4 = .ptr (.l 4) b4 0 0 3 ∧ S (.l 4) = some ⟨b4, 3, 0, [[bl xn, i64 xe, W64 xw]]⟩ ∧ RowD S (.l 53) 3 (e 7) (rS eU (nus l))) (fun e _ => vs.length - (intD (e 31)).toNat) ?_ ?_
      · exact ⟨0, b4, [], Nat.zero_le _, rfl, Zr, Zr, Zr, Zr, Zr, .nil⟩
      · rintro e S ⟨i, b4, l, hi, hA, g29, g30, g31, g4, s4, hw⟩
        have hlen := (bldE_spec hA).1
        have ft := And.intro g29 (And.intro g30 (And.intro g31 (And.intro g4 s4)))
        repeat (first | with_reducible refine pv_seq fun K hK => ?_ | ((with_reducible first | refine hK _ _ ?_ | (clear hK; refine hK _ _ ?_) | (clear hK; clear hK; refine hK _ _ ?_)); clear hK; try clear K) | refine W0 ?_ | exact Z | with_reducible intro b)
        refine pv_cdD (fun ht => ?_) (fun ht => ?_)
        · have e1 := nus_get (l := vs) (i := i) (by omega)
          have pSc := p_nScale (x := nuOf (gD vs i)) (j := 0 - xe - (tb : Int)) ((hv.at i).sz).wl (by decide) (by unfold R64; omega)
          rw [scR_O (hv.at i) (by omega) (by omega)] at pSc
          cases hs : scO (gD vs i) (0 - xe - (tb : Int)) with
          | ok y =>
            have st := bldE_step hA hs
            rw [hs, okN_ok] at pSc
            generalize nuOf (gD vs i) = Y at *
            have ft := And.intro g29 (And.intro g30 (And.intro g31 (And.intro g4 (And.intro s4 e1))))
            repeat' (first | with_reducible refine pv_seq fun K hK => ?_ | ((with_reducible first | refine hK _ _ ?_ | (clear hK; refine hK _ _ ?_) | (clear hK; clear hK; refine hK _ _ ?_)); clear hK; try clear K) | refine W ?_ | exact Z | with_reducible intro b | with_reducible refine And.intro ?_ ?_ | (refine RowD.appL (hw.up (by rfl)) (by decide) rfl (by simp [D.one, W64]) ?_ ?_ fun d' S' hr' hS' => ?_))
            all_goals first | (rw [rS_len, nus_len]; omega) | (simp only [intD]; omega) | exact ⟨i + 1, b4, l ++ [y], by omega, st, Zr, Zr, by rw [hS' _ (by decide)]; exact Zr, by rw [← rS_u]; exact hr'⟩
          | error c =>
            obtain rfl := scO_c hs
            have er : r = .error 2 := by rw [← hr]; exact bldE_no hA hs ht
            subst er
            rw [hs, okN_no] at pSc
            generalize nuOf (gD vs i) = Y at *
            have ft := And.intro g29 (And.intro g30 (And.intro g31 (And.intro g4 (And.intro s4 e1))))
            exact Wk
        · obtain rfl : i = vs.length := by omega
          repeat (first | with_reducible refine pv_seq fun K hK => ?_ | ((with_reducible first | refine hK _ _ ?_ | (clear hK; refine hK _ _ ?_) | (clear hK; clear hK; refine hK _ _ ?_)); clear hK; try clear K) | refine W0 ?_ | exact Z | with_reducible intro b)
          exact J2 _ _ l (by rw [← hr]; exact hA) hw
  clear hK
  refine pv_loop (fun e S => ∃ (i b4 : Nat), i ≤ vs.length ∧ e 0 = .g (eS eU (nus vs)) ∧ e 12 = .g (eS eU (nus vs)) ∧ e 13 = i64 vs.length ∧ e 14 = i64 i ∧ e 4 = .ptr (.l 4) b4 0 0 3 ∧ S (.l 4) = some ⟨b4, 3, 0, [bU (nuOf (topA vs i))]⟩) (fun e _ => vs.length - (intD (e 14)).toNat) ?_ ?_
  · exact ⟨0, _, Nat.zero_le _, Zr, Zr, Zr, Zr, Zr, Zr⟩
  · rintro e S ⟨i, b4, hi, g0, g12, g13, g14, g4, s4⟩
    have ft := And.intro g0 (And.intro g12 (And.intro g13 (And.intro g14 (And.intro g4 s4))))
    repeat (first | with_reducible refine pv_seq fun K hK => ?_ | ((with_reducible first | refine hK _ _ ?_ | (clear hK; refine hK _ _ ?_) | (clear hK; clear hK; refine hK _ _ ?_)); clear hK; try clear K) | refine W0 ?_ | exact Z | with_reducible intro b)
    refine pv_cdD (fun ht => ?_) (fun ht => ?_)
    · have e1 := nus_get (l := vs) (i := i) ht
      have pA := p_nAbsO (hv.at i)
      have pC := p_nCmpD (abD_ok (hv.at i)) (topA_ok hv i)
      have hc : (0 < cmpD (abD (gD vs i)) (topA vs i)) = (topA vs i < abD (gD vs i)) := propext cmpD_gt0
      by_cases h : topA vs i < abD (gD vs i)
      · have hT : topA vs (i + 1) = abD (gD vs i) := if_pos h
        rw [eq_true h] at hc
        rw [← hT] at pA pC hc
        generalize nuOf (gD vs i) = Y at *
        have ft := And.intro g0 (And.intro g12 (And.intro g13 (And.intro g14 (And.intro g4 (And.intro s4 (And.intro e1 hc))))))
        repeat' (first | with_reducible refine pv_seq fun K hK => ?_ | ((with_reducible first | refine hK _ _ ?_ | (clear hK; refine hK _ _ ?_) | (clear hK; clear hK; refine hK _ _ ?_)); clear hK; try clear K) | refine W ?_ | exact Z | with_reducible intro b | with_reducible refine And.intro ?_ ?_ )
        all_goals first | (simp only [intD]; omega) | exact ⟨i + 1, b4, by omega, Zr, Zr, Zr⟩
      · have hT : topA vs (i + 1) = topA vs i := if_neg h
        rw [eq_false h] at hc
        generalize nuOf (gD vs i) = Y at *
        generalize nuOf (abD (gD vs i)) = Z at *
        have ft := And.intro g0 (And.intro g12 (And.intro g13 (And.intro g14 (And.intro g4 (And.intro s4 (And.intro e1 hc))))))
        repeat' (first | with_reducible refine pv_seq fun K hK => ?_ | ((with_reducible first | refine hK _ _ ?_ | (clear hK; refine hK _ _ ?_) | (clear hK; clear hK; refine hK _ _ ?_)); clear hK; try clear K) | refine W ?_ | exact Z | with_reducible intro b | with_reducible refine And.intro ?_ ?_ )
        all_goals first | (simp only [intD]; omega) | exact ⟨i + 1, b4, by omega, Zr, Zr, by rw [hT]⟩
    · obtain rfl : i = vs.length := by omega
      repeat (first | with_reducible refine pv_seq fun K hK => ?_ | ((with_reducible first | refine hK _ _ ?_ | (clear hK; refine hK _ _ ?_) | (clear hK; clear hK; refine hK _ _ ?_)); clear hK; try clear K) | refine W0 ?_ | exact Z | with_reducible intro b)
      exact J _ _ b4 Zr Zr Zr

end Go.V
namespace Go.V
open Go Go.RowKit Go.Proofs

theorem nr_len {a : List DL} : (a.map nus).length = a.length := List.length_map _
attribute [go_sem] nr_len
theorem gR_get {α : Type} {a : List (List α)} {i : Nat} (h : i < a.length) : a[i]? = some (a.getD i []) := by simp only [List.getD, List.getElem?_eq_getElem h, Option.getD_some]
theorem gR_mem {α : Type} {a : List (List α)} {i : Nat} (h : i < a.length) : a.getD i [] ∈ a := by simp only [List.getD, List.getElem?_eq_getElem h, Option.getD_some]; exact List.getElem_mem h
theorem nr_get {a : List DL} {i : Nat} (h : i < a.length) : (a.map nus)[i]? = some (nus (a.getD i [])) := by rw [List.getElem?_map, gR_get h]; rfl
theorem okO_c {d : Dyadic} {c : Int} (h : okO d = .error c) : c = 2 := by
  unfold okO at h; split at h
  · cases h
  · injection h with h; exact h.symm
theorem bnd_err {α β : Type} {x : Except Int α} {f : α → Except Int β} {c : Int} (h : bnd x f = .error c) : x = .error c ∨ ∃ a, x = .ok a ∧ f a = .error c := by
  cases x with | ok a => exact .inr ⟨a, rfl, h⟩ | error c' => injection h with h; subst h; exact .inl rfl
theorem bldE_c {α : Type} {f : Nat → Except Int α} {n : Nat} {c : Int} (Q : Int → Prop) (hq : ∀ i c, f i = .error c → Q c) : ∀ {n : Nat}, bldE f n = .error c → Q c
  | 0, h => by cases h
  | n + 1, h => by
    rcases bnd_err h with h1 | ⟨l, h1, h2⟩
    · exact bldE_c (n := n) Q hq h1
    · rcases bnd_err h2 with h3 | ⟨y, h3, h4⟩
      · exact hq n c h3
      · cases h4
theorem awayO_c {p : Nat} {x c u : Dyadic} {k : Int} (h : awayO p x c u = .error k) : k = 2 := by
  rcases bnd_err h with h1 | ⟨y, h1, h2⟩
  · exact okO_c h1
  · exact okO_c h2
theorem lessR_c {p : Nat} {vs us : DL} {c : Int} (h : lessR p vs us = .error c) : c = 3 ∨ c = 2 := by
  rcases bnd_err h with h1 | ⟨a, h1, h2⟩
  · exact .inr (dotA_c h1)
  · rcases bnd_err h2 with h3 | ⟨b, h3, h4⟩
    · exact .inr (dotA_c h3)
    · rcases bnd_err h4 with h5 | ⟨d, h5, h6⟩
      · exact divO_c h5
      · exact .inr (bldE_c (n := 0) (fun c => c = 2) (fun i c h => awayO_c h) h6)
theorem scaledR_c {vs : DL} {c : Int} (h : scaledR vs = .error c) : c = 3 ∨ c = 2 := by
  unfold scaledR at h
  split at h
  · injection h with h; exact .inl h.symm
  · exact .inr (bldE_c (n := 0) (fun c => c = 2) (fun i c h => okO_c h) h)
theorem upA_c {p : Nat} {v : DL} {made : List DL} {c : Int} : ∀ {n : Nat}, upA p v made n = .error c → c = 3 ∨ c = 2
  | 0, h => by cases h
  | n + 1, h => by
    rcases bnd_err h with h1 | ⟨l, h1, h2⟩
    · exact upA_c (n := n) h1
    · exact lessR_c h2
theorem upR_c {p : Nat} {v : DL} {made : List DL} {c : Int} (h : upR p v made = .error c) : c = 3 ∨ c = 2 := by
  rcases bnd_err h with h1 | ⟨l, h1, h2⟩
  · exact upA_c h1
  · exact scaledR_c h2
set_option maxHeartbeats 1000000 in
theorem p_oUp {p : Nat} {v : DL} {made : List DL} (hv : OkL v) (hm : ∀ c ∈ made, OkL c ∧ c.length = v.length) (h0 : 0 < v.length) (hn : v.length ≤ 1000) (hk : made.length ≤ 1000) (h8 : 8 ≤ p) (h256 : p ≤ 256) : PC Tryz.prog 17 [ND v, NR made, i64 p] fun d => d = NLE (okL (upR p v made)) := by
  unfold ND NR
  generalize hr : upR p v made = r
  unfold upR at hr
  refine PB (rs := [.tmp 6, .tmp 7]) Tryz.func17 ?_
  repeat (first | with_reducible refine pv_seq fun K hK => ?_ | ((with_reducible first | refine hK _ _ ?_ | (clear hK; refine hK _ _ ?_) | (clear hK; clear hK; refine hK _ _ ?_)); clear hK; try clear K) | refine W0 ?_ | exact Z | with_reducible intro b)
  have J : ∀ (e : DEnv) (S : Store) (w : DL), upA p v made made.length = .ok w → e 0 = .g (eS eU (nus w)) → K e S := by
    intro e S w hA g0
    rw [hA, bnd_ok] at hr
    have hw := upA_ok hv hA
    have pS := p_oScaled hw.1 (by omega)
    unfold ND at pS
    rw [hr] at pS
    have ft := g0
    exact Wk
  clear hK
  refine pv_loop (fun e S => ∃ (i : Nat) (w : DL), i ≤ made.length ∧ upA p v made i = .ok w ∧ e 0 = .g (eS eU (nus w)) ∧ e 2 = i64 p ∧ e 12 = .g (eS eR (made.map nus)) ∧ e 13 = i64 made.length ∧ e 14 = i64 i) (fun e _ => made.length - (intD (e 14)).toNat) ?_ ?_
  · exact ⟨0, v, Nat.zero_le _, rfl, Zr, Zr, Zr, Zr, Zr⟩
  · rintro e S ⟨i, w, hi, hA, g0, g2, g12, g13, g14⟩
    have hw := upA_ok hv hA
    have ft := And.intro g0 (And.intro g2 (And.intro g12 (And.intro g13 g14)))
    repeat (first | with_reducible refine pv_seq fun K hK => ?_ | ((with_reducible first | refine hK _ _ ?_ | (clear hK; refine hK _ _ ?_) | (clear hK; clear hK; refine hK _ _ ?_)); clear hK; try clear K) | refine W0 ?_ | exact Z | with_reducible intro b)
    refine pv_cdD (fun ht => ?_) (fun ht => ?_)
    · have e1 := nr_get (a := made) ht
      have hc := hm _ (gR_mem ht)
      have pL := p_oLess (vs := w) (us := made.getD i []) hw.1 hc.1 (by omega) (by omega) (by omega) h8 h256
      have st : upA p v made (i + 1) = lessR p w (made.getD i []) := runE_step hA
      unfold ND at pL
      generalize made.getD i [] = c at *
      cases hl : lessR p w c with
      | ok w' =>
        rw [hl, okL_ok] at pL
        rw [hl] at st
        have ft := And.intro g0 (And.intro g2 (And.intro g12 (And.intro g13 (And.intro g14 e1))))
        repeat' (first | with_reducible refine pv_seq fun K hK => ?_ | ((with_reducible first | refine hK _ _ ?_ | (clear hK; refine hK _ _ ?_) | (clear hK; clear hK; refine hK _ _ ?_)); clear hK; try clear K) | refine W ?_ | exact Z | with_reducible intro b | with_reducible refine And.intro ?_ ?_ )
        all_goals first | (simp only [intD]; omega) | exact ⟨i + 1, w', by omega, st, Zr, Zr⟩
      | error x =>
        rw [hl, okL_no] at pL
        rw [hl] at st
        have er : r = .error x := by rw [← hr, show upA p v made made.length = .error x from runE_err st (by omega)]; rfl
        subst er
        rcases lessR_c hl with rfl | rfl
        · have ft := And.intro g0 (And.intro g2 (And.intro g12 (And.intro g13 (And.intro g14 e1))))
          exact Wk
        · have ft := And.intro g0 (And.intro g2 (And.intro g12 (And.intro g13 (And.intro g14 e1))))
          exact Wk
    · obtain rfl : i = made.length := by omega
      repeat (first | with_reducible refine pv_seq fun K hK => ?_ | ((with_reducible first | refine hK _ _ ?_ | (clear hK; refine hK _ _ ?_) | (clear hK; clear hK; refine hK _ _ ?_)); clear hK; try clear K) | refine W0 ?_ | exact Z | with_reducible intro b)
      exact J _ _ w hA Zr
/-- Square rows of right numbers, as many as may be. -/
abbrev SqR (a : List (List Nu)) : Prop := ∀ r ∈ a, r.length = a.length ∧ ∀ x ∈ r, rightB x = true
def sqB (a : List (List Nu)) : Bool := decide (SqR a) && decide (1 ≤ a.length) && decide (a.length ≤ 4)
theorem sqB_no {a : List (List Nu)} {r : List Nu} (hr : r ∈ a) (h : ¬ (r.length = a.length ∧ ∀ x ∈ r, rightB x = true)) : sqB a = false := by
  unfold sqB; rw [decide_eq_false (fun e => h (e r hr))]; rfl
set_option maxHeartbeats 1000000 in
theorem p_oSquare {a : List (List Nu)} (hb : ∀ r ∈ a, ∀ x ∈ r, B64 x.w) (hl : a.length ≤ 1000000) (hl2 : ∀ r ∈ a, r.length ≤ 1000000) : PC Tryz.prog 15 [.g (eS eR a)] fun d => d = bl (sqB a) := by
  refine PB (rs := [.tmp 2]) Tryz.func15 ?_
  repeat (first | with_reducible refine pv_seq fun K hK => ?_ | ((with_reducible first | refine hK _ _ ?_ | (clear hK; refine hK _ _ ?_) | (clear hK; clear hK; refine hK _ _ ?_)); clear hK; try clear K) | refine W0 ?_ | exact Z | with_reducible intro b)
  have J : ∀ (e : DEnv) (S : Store), SqR a → e 0 = .g (eS eR a) → K e S := by
    intro e S h g0
    have hd : sqB a = (decide (1 ≤ a.length) && decide (a.length ≤ 4)) := by unfold sqB; rw [decide_eq_true h]; rfl
    by_cases h1 : 1 ≤ a.length
    · have k1 : ((1 : Int) ≤ a.length) = True := eq_true (by omega)
      by_cases h2 : a.length ≤ 4
      · have k2 : ((a.length : Int) ≤ 4) = True := eq_true (by omega)
        rw [decide_eq_true h1, decide_eq_true h2] at hd
        have ft := And.intro g0 (And.intro k1 (And.intro k2 hd))
        exact Wk
      · have k2 : ((a.length : Int) ≤ 4) = False := eq_false (by omega)
        rw [decide_eq_true h1, decide_eq_false h2] at hd
        have ft := And.intro g0 (And.intro k1 (And.intro k2 hd))
        exact Wk
    · have k1 : ((1 : Int) ≤ a.length) = False := eq_false (by omega)
      rw [decide_eq_false h1] at hd
      have ft := And.intro g0 (And.intro k1 hd)
      exact Wk
  clear hK
  refine pv_loop (fun e S => ∃ (i : Nat), i ≤ a.length ∧ e 0 = .g (eS eR a) ∧ e 7 = .g (eS eR a) ∧ e 8 = i64 a.length ∧ e 9 = i64 i ∧ ∀ j, j < i → (a.getD j []).length = a.length ∧ ∀ x ∈ a.getD j [], rightB x = true) (fun e _ => a.length - (intD (e 9)).toNat) ?_ ?_
  · exact ⟨0, Nat.zero_le _, Zr, Zr, Zr, Zr, fun j hj => by omega⟩
  · rintro e S ⟨i, hi, g0, g7, g8, g9, hz⟩
    have ft := And.intro g0 (And.intro g7 (And.intro g8 g9))
    repeat (first | with_reducible refine pv_seq fun K hK => ?_ | ((with_reducible first | refine hK _ _ ?_ | (clear hK; refine hK _ _ ?_) | (clear hK; clear hK; refine hK _ _ ?_)); clear hK; try clear K) | refine W0 ?_ | exact Z | with_reducible intro b)
    refine pv_cdD (fun ht => ?_) (fun ht => ?_)
    · have e1 := gR_get (a := a) ht
      have hm := gR_mem (a := a) ht
      generalize hrr : a.getD i [] = r at *
      by_cases hrl : r.length = a.length
      · have k1 := eq_true hrl
        have hmz : (intD (e 9)).toNat = i := by rw [g9]; rfl
        have ft := And.intro g0 (And.intro g7 (And.intro g8 (And.intro g9 (And.intro e1 k1))))
        repeat (first | with_reducible refine pv_seq fun K hK => ?_ | ((with_reducible first | refine hK _ _ ?_ | (clear hK; refine hK _ _ ?_) | (clear hK; clear hK; refine hK _ _ ?_)); clear hK; try clear K) | refine W0 ?_ | exact Z | with_reducible intro b)
        have J2 : ∀ (e : DEnv) (S : Store), (∀ x ∈ r, rightB x = true) → e 0 = .g (eS eR a) → e 7 = .g (eS eR a) → e 8 = i64 a.length → e 9 = i64 i → K e S := by
          intro e S h g0 g7 g8 g9
          have ft := And.intro g0 (And.intro g7 (And.intro g8 g9))
          repeat (first | with_reducible refine pv_seq fun K hK => ?_ | ((with_reducible first | refine hK _ _ ?_ | (clear hK; refine hK _ _ ?_) | (clear hK; clear hK; refine hK _ _ ?_)); clear hK; try clear K) | refine W0 ?_ | exact Z | with_reducible intro b)
          refine ⟨⟨i + 1, by omega, Zr, fun j hj => ?_⟩, by rw [hmz]; simp only [intD]; omega⟩
          by_cases hji : j = i
          · subst hji; rw [hrr]; exact ⟨hrl, h⟩
          · exact hz j (by omega)
        clear hK
        refine pv_loop (fun e S => ∃ (j : Nat), j ≤ r.length ∧ e 0 = .g (eS eR a) ∧ e 7 = .g (eS eR a) ∧ e 8 = i64 a.length ∧ e 9 = i64 i ∧ e 18 = .g (eS eU r) ∧ e 19 = i64 r.length ∧ e 20 = i64 j ∧ ∀ k, k < j → ∀ x, r[k]? = some x → rightB x = true) (fun e _ => r.length - (intD (e 20)).toNat) ?_ ?_
        · have ft := And.intro g0 (And.intro g7 (And.intro g8 g9))
          exact ⟨0, Nat.zero_le _, Zr, Zr, Zr, Zr, Zr, Zr, Zr, fun j hj => by omega⟩
        · rintro e S ⟨j, hj, g0, g7, g8, g9, g18, g19, g20, hy⟩
          have ft := And.intro g0 (And.intro g7 (And.intro g8 (And.intro g9 (And.intro g18 (And.intro g19 g20)))))
          repeat (first | with_reducible refine pv_seq fun K hK => ?_ | ((with_reducible first | refine hK _ _ ?_ | (clear hK; refine hK _ _ ?_) | (clear hK; clear hK; refine hK _ _ ?_)); clear hK; try clear K) | refine W0 ?_ | exact Z | with_reducible intro b)
          refine pv_cdD (fun hu => ?_) (fun hu => ?_)
          · have e2 := List.getElem?_eq_getElem hu
            have hmx := List.getElem_mem hu
            generalize r[j] = x at *
            have pR := p_nRight (hb r hm x hmx)
            cases hx : rightB x with
            | true =>
              rw [hx] at pR
              have ft := And.intro g0 (And.intro g7 (And.intro g8 (And.intro g9 (And.intro g18 (And.intro g19 (And.intro g20 e2))))))
              repeat' (first | with_reducible refine pv_seq fun K hK => ?_ | ((with_reducible first | refine hK _ _ ?_ | (clear hK; refine hK _ _ ?_) | (clear hK; clear hK; refine hK _ _ ?_)); clear hK; try clear K) | refine W ?_ | exact Z | with_reducible intro b | with_reducible refine And.intro ?_ ?_ )
              all_goals first | (simp only [intD]; omega) | skip
              refine ⟨j + 1, by omega, Zr, fun k hk y hky => ?_⟩
              by_cases hkj : k = j
              · subst hkj; rw [e2] at hky; injection hky with hky; subst hky; exact hx
              · exact hy k (by omega) y hky
            | false =>
              rw [hx] at pR
              have hd := sqB_no hm fun h => by have := h.2 x hmx; rw [hx] at this; cases this
              have ft := And.intro g0 (And.intro g7 (And.intro g8 (And.intro g9 (And.intro g18 (And.intro g19 (And.intro g20 (And.intro e2 hd)))))))
              exact Wk
          · obtain rfl : j = r.length := by omega
            repeat (first | with_reducible refine pv_seq fun K hK => ?_ | ((with_reducible first | refine hK _ _ ?_ | (clear hK; refine hK _ _ ?_) | (clear hK; clear hK; refine hK _ _ ?_)); clear hK; try clear K) | refine W0 ?_ | exact Z | with_reducible intro b)
            exact J2 _ _ (fun x hx => by obtain ⟨k, hk, rfl⟩ := List.mem_iff_getElem.1 hx; exact hy k hk _ (List.getElem?_eq_getElem hk)) Zr Zr Zr Zr
      · have k1 : ((r.length : Int) = a.length) = False := eq_false (by omega)
        have hd := sqB_no hm fun h => hrl h.1
        have ft := And.intro g0 (And.intro g7 (And.intro g8 (And.intro g9 (And.intro e1 (And.intro k1 (And.intro hrl hd))))))
        exact Wk
    · obtain rfl : i = a.length := by omega
      repeat (first | with_reducible refine pv_seq fun K hK => ?_ | ((with_reducible first | refine hK _ _ ?_ | (clear hK; refine hK _ _ ?_) | (clear hK; clear hK; refine hK _ _ ?_)); clear hK; try clear K) | refine W0 ?_ | exact Z | with_reducible intro b)
      refine J _ _ (fun r hr => ?_) Zr
      obtain ⟨k, hk, rfl⟩ := List.mem_iff_getElem.1 hr
      have := hz k hk
      simp only [List.getD, List.getElem?_eq_getElem hk, Option.getD_some] at this
      exact this

end Go.V
namespace Go.V
open Go Go.RowKit Go.Proofs
def qJ5_7_21 : List (Nat × Nat) := [(0, 0), (1, 0), (2, 0), (3, 0), (4, 0), (5, 2), (6, 1), (7, 4), (8, 3), (9, 0), (10, 3)]
attribute [go_sem] qJ5_7_21
def rowOf (cols : List DL) (i : Nat) : DL := cols.map fun c => gD c i
theorem rowOf_app (cols : List DL) (v : DL) (i : Nat) : rowOf (cols ++ [v]) i = rowOf cols i ++ [gD v i] := by unfold rowOf; rw [List.map_append]; rfl
def okR : Except Int (List DL) → List DL × Int
  | .ok l => (l, 0)
  | .error c => ([], c)
/-- Rows of numbers and an error's number. -/
def NRE (q : List DL × Int) : D := .tup [NR q.1, i64 q.2]
theorem okR_ok {l : List DL} : okR (.ok l) = (l, 0) := rfl
theorem okR_no {c : Int} : okR (.error c) = ([], c) := rfl
attribute [go_sem] NRE okR_ok okR_no
theorem RowD.ones {S : Store} {k : Nm} {s : Nat} {d : D} {els : List (List D)} (h : RowD S k s d els) : d.one = true := by
  rcases h with ⟨rfl, _⟩ | ⟨b, cap, p, rfl, _⟩ <;> rfl
/-- append to a row that has its name, or none yet: then it gets the step's own. -/
theorem RowD.appK {S : Store} {K : D → Store → Prop} {q : SlZ} {k kd k2 : Nm} {dd : D} {els new : List (List D)} {b n cap p : Nat} (h : RowD S k q.s dd els) (hk : k ≠ k2) (hkd : kd ≠ k2) (hn : n = new.length) (h1 : ∀ es ∈ new, es.all D.one = true) (hl : els.length + new.length ≤ 140737488355328)
    (hb : (els.length + new.length) * q.bytes ≤ 140737488355328) (hK : ∀ d' S' k', (k' = k ∨ k' = kd) → RowD S' k' q.s d' (els ++ new) → (∀ j, j ≠ k' → S' j = updS S k2 (some ⟨b, q.s, p, new⟩) j) → K d' S') :
    appD q (updS S k2 (some ⟨b, q.s, p, new⟩)) kd dd (.own k2 b 0 n cap q.s) K := by
  rcases h with ⟨rfl, rfl⟩ | ⟨b0, cap0, p0, rfl, hS⟩
  · exact RowD.appL (k := kd) RowD.nil hkd hn h1 hl hb fun d' S' h2 h3 => hK d' S' kd (.inr rfl) h2 h3
  · have := RowD.appL (K := K) (cap := cap) (p := p) (k2 := k2) (b := b) (RowD.own (cap := cap0) rfl hS) hk hn h1 hl hb fun d' S' h2 h3 => hK d' S' k (.inl rfl) h2 h3
    rw [appD_own] at this ⊢
    exact this
def zU : List D := [bl false, i64 0, .nil]
/-- A column as far as it is filled. -/
def clD (l : DL) (n i : Nat) : List (List D) := rS eU (nus (l.take i)) ++ List.replicate (n - i) zU
theorem clD_0 (l : DL) (n : Nat) : clD l n 0 = List.replicate n zU := rfl
theorem clD_get {l : DL} {n i : Nat} (hl : l.length = n) (hi : i < n) : (clD l n i)[i]? = some zU := by
  unfold clD
  have h : (rS eU (nus (l.take i))).length = i := by rw [rS_len, nus_len, List.length_take]; omega
  rw [List.getElem?_append_right (by omega), h, Nat.sub_self, List.getElem?_replicate, if_pos (by omega)]
theorem clD_set {l : DL} {n i : Nat} (hl : l.length = n) (hi : i < n) : (clD l n i).set i (bU (nuOf (gD l i))) = clD l n (i + 1) := by
  unfold clD
  have h : (rS eU (nus (l.take i))).length = i := by rw [rS_len, nus_len, List.length_take]; omega
  rw [List.set_append_right _ _ (by omega), h, Nat.sub_self, show n - i = (n - (i + 1)) + 1 by omega, List.replicate_succ, List.set_cons_zero]
  rw [show l.take (i + 1) = l.take i ++ [gD l i] by rw [List.take_add_one, List.getElem?_eq_getElem (by omega), gD_get (by omega)]; rfl, ← rS_u, List.append_assoc]; rfl
theorem clD_all {l : DL} {n : Nat} (hl : l.length = n) : clD l n n = rS eU (nus l) := by
  unfold clD; rw [Nat.sub_self, List.take_of_length_le (by omega)]; simp
theorem gD_colOf {a : List DL} {i j : Nat} (hi : i < a.length) : gD (colOf a j) i = gD (a.getD i []) j := by
  unfold colOf gD
  simp only [List.getD, List.getElem?_map, List.getElem?_eq_getElem hi, Option.map_some, Option.getD_some]
theorem rS_r {cols : List DL} {v : DL} : rS eR (cols.map nus) ++ [[.g (eS eU (nus v))]] = rS eR ((cols ++ [v]).map nus) := by
  rw [List.map_append, ← rS_app]; rfl
theorem set_map {ds : List D} {i : Nat} {d : D} : (ds.map fun d => [d]).set i [d] = (ds.set i d).map fun d => [d] := by rw [List.map_set]

abbrev RowsI (S : Store) (ds : List D) (f : Nat → DL) : Prop := ∀ i d, ds[i]? = some d → RowD S (.r 0 i) 3 d (rS eU (nus (f i)))
theorem RowsI.up {S S' : Store} {ds : List D} {f : Nat → DL} (h : RowsI S ds f) (hS : ∀ i, S' (.r 0 i) = S (.r 0 i)) : RowsI S' ds f := fun i d hd => (h i d hd).up (hS i)
theorem RowsI.upd {S : Store} {ds : List D} {f : Nat → DL} {d : Nat} {x : Option Blk} (h : RowsI S ds f) : RowsI (updS S (.l d) x) ds f := h.up fun i => updS_ne (by simp)
theorem RowD.updl {S : Store} {k : Nm} {s d : Nat} {dd : D} {els : List (List D)} {x : Option Blk} (h : RowD S k s dd els) (hk : k ≠ .l d) : RowD (updS S (.l d) x) k s dd els := h.up (updS_ne hk)
/-- What stays through the rounds. -/
structure ColI (a : List DL) (p j bo : Nat) (ds : List D) (e : DEnv) (S : Store) : Prop where
  e0 : e 0 = .g (eS eR (a.map nus))
  e1 : e 1 = i64 p
  e6 : e 6 = .own (.l 25) bo 0 a.length a.length 1
  e8 : e 8 = i64 0
  e27 : e 27 = i64 a.length
  e28 : e 28 = i64 j
  s25 : S (.l 25) = some ⟨bo, 1, 0, ds.map fun d => [d]⟩
  dl : ds.length = a.length

set_option maxHeartbeats 4000000 in
theorem p_oCols {p : Nat} {a : List DL} (ha : ∀ r ∈ a, OkL r) (hs : ∀ r ∈ a, r.length = a.length) (h1 : 1 ≤ a.length) (h4 : a.length ≤ 4) (h8 : 8 ≤ p) (h256 : p ≤ 256) : PC Tryz.prog 7 [NR a, i64 p] fun d => d = NRE (okR (colsR p a)) := by
  have hmn : ∀ r ∈ a.map nus, ∃ l ∈ a, r = nus l := fun r hr => by obtain ⟨l, h, rfl⟩ := List.mem_map.1 hr; exact ⟨l, h, rfl⟩
  have pQ := p_oSquare (a := a.map nus) (fun r hr x hx => by
      obtain ⟨l, hl, rfl⟩ := hmn r hr
      obtain ⟨d, hd, rfl⟩ := List.mem_map.1 hx
      exact (((ha l hl) d hd).sz).b) (by rw [List.length_map]; omega) (fun r hr => by
      obtain ⟨l, hl, rfl⟩ := hmn r hr
      rw [nus_len, hs l hl]; omega)
  rw [show sqB (a.map nus) = true by
    unfold sqB
    rw [decide_eq_true (show SqR (a.map nus) from fun r hr => by
      obtain ⟨l, hl, rfl⟩ := hmn r hr
      refine ⟨by rw [nus_len, List.length_map, hs l hl], fun x hx => ?_⟩
      obtain ⟨d, hd, rfl⟩ := List.mem_map.1 hx
      rw [rightB_nuOf]; exact decide_eq_true (ha l hl d hd)), List.length_map, decide_eq_true h1, decide_eq_true h4]; rfl] at pQ
  have pV := p_Valid (p := (p : Int))
  rw [okP_of h8 h256] at pV
  unfold NR
  generalize hr : colsR p a = r
  unfold colsR at hr
  have d1 := @dl 21 qJ5_7_21
  refine PB (rs := [.tmp 4, .tmp 5]) Tryz.func7 ?_
  repeat (first | with_reducible refine pv_seq fun K hK => ?_ | ((with_reducible first | refine hK _ _ ?_ | (clear hK; refine hK _ _ ?_) | (clear hK; clear hK; refine hK _ _ ?_)); clear hK; try clear K) | refine W ?_ | exact Z | with_reducible intro b)
  have Jbad : ∀ (e : DEnv) (S : Store) (c : Int), r = .error c → (c = 3 ∨ c = 2) → e 8 = i64 c → K e S := by
    intro e S c er hc g8
    subst er
    rcases hc with rfl | rfl
    · have ft := g8
      exact Wk
    · have ft := g8
      exact Wk
  have Jok : ∀ (e : DEnv) (S : Store) (cols : List DL) (b : Nat) (ds : List D), colA p a a.length = .ok cols → ColI a p a.length b ds e S → RowsI S ds (rowOf cols) → K e S := by
    intro e S cols b ds hA hI hds
    have er : r = .ok (turned a.length cols) := by rw [← hr, hA]; rfl
    subst er
    obtain ⟨g0, g1, g6, g8, g27, g28, s25, dl⟩ := hI
    have ft := And.intro g6 g8
    repeat (first | with_reducible refine pv_stop 26 ?_ | with_reducible refine pv_seq fun K hK => ?_ | ((with_reducible first | refine hK _ _ ?_ | (clear hK; refine hK _ _ ?_) | (clear hK; clear hK; refine hK _ _ ?_)); clear hK; try clear K) | refine W ?_ | exact Z | with_reducible intro b)
    refine ⟨fun K1 q1 hC => ?_⟩
    repeat (first | with_reducible refine pv_seq fun K hK => ?_ | ((with_reducible first | refine hK _ _ ?_ | (clear hK; refine hK _ _ ?_) | (clear hK; clear hK; refine hK _ _ ?_)); clear hK; try clear K) | refine W0 ?_ | exact Z | with_reducible intro b)
    refine hC _ _ (Recast.rows (f := eU) (s := 3) (rows := (List.range a.length).map fun i => nus (rowOf cols i)) (fun i => .r 0 i) s25 (fun i => by simp) (fun i j h => by injection h) (by simpa using dl) (fun i d row h2 h3 => ?_) (fun S' h2 _ => q1 _ _ ?_))
    · have hi : i < a.length := by have := (List.getElem?_eq_some_iff.1 h2).1; omega
      rw [List.getElem?_map, List.getElem?_range hi] at h3
      injection h3 with h3
      subst h3
      exact hds i d h2
    · have hL : (rS (fun r => [eS eU r]) ((List.range a.length).map fun i => nus (rowOf cols i))).length = a.length := by rw [rS_len]; simp
      have hT := List.take_of_length_le (Nat.le_of_eq hL)
      have hP := pureLL_rS (f := fun r => [eS eU r]) (xs := (List.range a.length).map fun i => nus (rowOf cols i))
      have hF : G.sl (((List.range a.length).map fun i => nus (rowOf cols i)).map fun r => [eS eU r]) = eS eR ((turned a.length cols).map nus) := by
        simp only [turned, eS, List.map_map]; rfl
      generalize rS (fun r => [eS eU r]) ((List.range a.length).map fun i => nus (rowOf cols i)) = E at *
      have ft := And.intro h2 (And.intro hL (And.intro hT (And.intro hP hF)))
      exact Wk
  clear hK
  refine pv_loop (fun e S => ∃ (j : Nat) (cols : List DL) (bo : Nat) (ds : List D), j ≤ a.length ∧ colA p a j = .ok cols ∧ ColI a p j bo ds e S ∧ RowsI S ds (rowOf cols) ∧ RowD S (.l 61) 1 (e 7) (rS eR (cols.map nus))) (fun e _ => a.length - (intD (e 28)).toNat) ?_ ?_
  · refine ⟨0, [], _, List.replicate a.length .nil, Nat.zero_le _, rfl, ⟨Zr, Zr, Zr, Zr, Zr, Zr, by rw [List.map_replicate]; exact Zr, List.length_replicate⟩, fun i d hd => ?_, .inl ⟨Zr, rfl⟩⟩
    rw [List.getElem?_replicate] at hd
    split at hd
    · injection hd with hd; subst hd; exact .nil
    · cases hd
  · rintro e S ⟨j, cols, bo, ds, hj, hA, ⟨g0, g1, g6, g8, g27, g28, s25, dl⟩, hds, hmd⟩
    have hcol := colA_ok ha hA
    have ft := And.intro g0 (And.intro g1 (And.intro g6 (And.intro g8 (And.intro g27 (And.intro g28 s25)))))
    repeat (first | with_reducible refine pv_seq fun K hK => ?_ | ((with_reducible first | refine hK _ _ ?_ | (clear hK; refine hK _ _ ?_) | (clear hK; clear hK; refine hK _ _ ?_)); clear hK; try clear K) | refine W0 ?_ | exact Z | with_reducible intro b)
    refine pv_cdD (fun ht => ?_) (fun ht => ?_)
    · have hmz : (intD (e 28)).toNat = j := by rw [g28]; rfl
      have hvl := colOf_len a j
      have pU := p_oUp (v := colOf a j) (made := cols) (colOf_ok ha j) (fun c hc => ⟨(hcol.2 c hc).1, by rw [(hcol.2 c hc).2, hvl]⟩) (by omega) (by omega) (by rw [hcol.1]; omega) h8 h256
      have st : colA p a (j + 1) = bnd (upR p (colOf a j) cols) fun v => .ok (cols ++ [v]) := runE_step hA
      unfold ND NR at pU
      repeat (first | with_reducible refine pv_seq fun K hK => ?_ | ((with_reducible first | refine hK _ _ ?_ | (clear hK; refine hK _ _ ?_) | (clear hK; clear hK; refine hK _ _ ?_)); clear hK; try clear K) | refine W0 ?_ | exact Z | with_reducible intro b)
      have Jv : ∀ (e : DEnv) (S : Store) (bv : Nat), ColI a p j bo ds e S → RowsI S ds (rowOf cols) → RowD S (.l 61) 1 (e 7) (rS eR (cols.map nus)) → e 10 = .own (.l 33) bv 0 a.length a.length 3 → S (.l 33) = some ⟨bv, 3, 0, rS eU (nus (colOf a j))⟩ → K e S := by
        rintro e S bv ⟨g0, g1, g6, g8, g27, g28, s25, dl⟩ hds hmd g10 s33
        have hL : (rS eU (nus (colOf a j))).length = a.length := by rw [rS_len, nus_len, hvl]
        have hT := List.take_of_length_le (Nat.le_of_eq hL)
        have hP := pureLL_rS (f := eU) (xs := nus (colOf a j))
        generalize rS eU (nus (colOf a j)) = E at *
        have ft := And.intro g0 (And.intro g1 (And.intro g6 (And.intro g8 (And.intro g27 (And.intro g28 (And.intro s25 (And.intro g10 (And.intro s33 (And.intro hL (And.intro hT hP))))))))))
        repeat (first | with_reducible refine pv_seq fun K hK => ?_ | ((with_reducible first | refine hK _ _ ?_ | (clear hK; refine hK _ _ ?_) | (clear hK; clear hK; refine hK _ _ ?_)); clear hK; try clear K) | refine W0 ?_ | exact Z | with_reducible intro b)
        refine PFC.coe ?_
        try simp -implicitDefEqProofs only [ft, go_sem, seval]
        refine (hmd.updl (by decide)).coeD fun S1 hmd1 hS1 => ?_
        have s25a : S1 (.l 25) = some ⟨bo, 1, 0, ds.map fun d => [d]⟩ := by rw [hS1 _ (by decide)]; exact Zr
        have hds1 : RowsI S1 ds (rowOf cols) := hds.up fun i => by rw [hS1 _ (by simp), updS_ne (by simp)]
        cases hu : upR p (colOf a j) cols with
        | error c =>
          rw [hu, okL_no] at pU
          rw [hu, bnd_no] at st
          have er : r = .error c := by rw [← hr, show colA p a a.length = .error c from runE_err st (by omega)]; rfl
          rcases upR_c hu with rfl | rfl
          · try simp -implicitDefEqProofs only [ft, go_sem, seval]
            repeat (first | with_reducible refine pv_seq fun K hK => ?_ | ((with_reducible first | refine hK _ _ ?_ | (clear hK; refine hK _ _ ?_) | (clear hK; clear hK; refine hK _ _ ?_)); clear hK; try clear K) | refine W ?_ | exact Z | with_reducible intro b)
            exact Jbad _ _ 3 er (.inl rfl) Zr
          · try simp -implicitDefEqProofs only [ft, go_sem, seval]
            repeat (first | with_reducible refine pv_seq fun K hK => ?_ | ((with_reducible first | refine hK _ _ ?_ | (clear hK; refine hK _ _ ?_) | (clear hK; clear hK; refine hK _ _ ?_)); clear hK; try clear K) | refine W ?_ | exact Z | with_reducible intro b)
            exact Jbad _ _ 2 er (.inr rfl) Zr
        | ok v =>
          rw [hu, okL_ok] at pU
          rw [hu, bnd_ok] at st
          have hv := upR_ok (colOf_ok ha j) hu
          have hvn : v.length = a.length := hv.2.trans hvl
          try simp -implicitDefEqProofs only [ft, go_sem, seval]
          repeat (first | with_reducible refine pv_seq fun K hK => ?_ | ((with_reducible first | refine hK _ _ ?_ | (clear hK; refine hK _ _ ?_) | (clear hK; clear hK; refine hK _ _ ?_)); clear hK; try clear K) | refine W ?_ | exact Z | with_reducible intro b)
          refine RowD.appL hmd1 (by decide) rfl (by simp [D.one]) ?_ ?_ fun d' S2 hmd2 hS2 => ?_
          · rw [rS_len, nr_len, hcol.1]; simp; omega
          · rw [rS_len, nr_len, hcol.1]; simp; omega
          rw [show [[D.g (eS eU (nus v))]] = [[.g (eS eU (nus v))]] from rfl, rS_r] at hmd2
          have s25b : S2 (.l 25) = some ⟨bo, 1, 0, ds.map fun d => [d]⟩ := by rw [hS2 _ (by decide), updS_ne (by decide)]; exact s25a
          have hds2 : RowsI S2 ds (rowOf cols) := hds1.up fun i => by rw [hS2 _ (by simp), updS_ne (by simp)]
          have ft := And.intro g0 (And.intro g1 (And.intro g6 (And.intro g8 (And.intro g27 (And.intro g28 s25b)))))
          repeat (first | with_reducible refine pv_seq fun K hK => ?_ | ((with_reducible first | refine hK _ _ ?_ | (clear hK; refine hK _ _ ?_) | (clear hK; clear hK; refine hK _ _ ?_)); clear hK; try clear K) | refine W0 ?_ | exact Z | with_reducible intro b)
          have J3 : ∀ (e : DEnv) (S : Store) (ds' : List D), ColI a p j bo ds' e S → RowsI S ds' (rowOf (cols ++ [v])) → RowD S (.l 61) 1 (e 7) (rS eR ((cols ++ [v]).map nus)) → K e S := by
            rintro e S ds' ⟨g0, g1, g6, g8, g27, g28, s25, dl⟩ hds hmd
            have ft := And.intro g0 (And.intro g1 (And.intro g6 (And.intro g8 (And.intro g27 (And.intro g28 s25)))))
            repeat (first | with_reducible refine pv_seq fun K hK => ?_ | ((with_reducible first | refine hK _ _ ?_ | (clear hK; refine hK _ _ ?_) | (clear hK; clear hK; refine hK _ _ ?_)); clear hK; try clear K) | refine W0 ?_ | exact Z | with_reducible intro b)
            refine ⟨⟨j + 1, cols ++ [v], bo, ds', by omega, st, ⟨Zr, Zr, Zr, Zr, Zr, Zr, s25, dl⟩, hds, hmd⟩, by rw [hmz]; simp only [intD]; omega⟩
          clear hK
          refine pv_loop (fun e S => ∃ (i : Nat) (ds' : List D), i ≤ a.length ∧ ColI a p j bo ds' e S ∧ RowsI S ds' (fun k => if k < i then rowOf (cols ++ [v]) k else rowOf cols k) ∧ RowD S (.l 61) 1 (e 7) (rS eR ((cols ++ [v]).map nus)) ∧ e 62 = .g (eS eU (nus v)) ∧ e 63 = i64 a.length ∧ e 64 = i64 i) (fun e _ => a.length - (intD (e 64)).toNat) ?_ ?_
          · have ft := And.intro g0 (And.intro g1 (And.intro g6 (And.intro g8 (And.intro g27 (And.intro g28 s25)))))
            exact ⟨0, ds, Nat.zero_le _, ⟨Zr, Zr, Zr, Zr, Zr, Zr, s25b, dl⟩, fun i d hd => hds2 i d hd, hmd2, Zr, by rw [← hvn]; exact Zr, Zr⟩
          · rintro e S ⟨i, ds', hi, ⟨g0, g1, g6, g8, g27, g28, s25, dl⟩, hds, hmd, g62, g63, g64⟩
            have hmy : (intD (e 64)).toNat = i := by rw [g64]; rfl
            have ft := And.intro g0 (And.intro g1 (And.intro g6 (And.intro g8 (And.intro g27 (And.intro g28 (And.intro s25 (And.intro g62 (And.intro g63 g64))))))))
            repeat (first | with_reducible refine pv_seq fun K hK => ?_ | ((with_reducible first | refine hK _ _ ?_ | (clear hK; refine hK _ _ ?_) | (clear hK; clear hK; refine hK _ _ ?_)); clear hK; try clear K) | refine W0 ?_ | exact Z | with_reducible intro b)
            refine pv_cdD (fun hy => ?_) (fun hy => ?_)
            · have e2 := nus_get (l := v) (i := i) (by omega)
              have hil : i < ds'.length := by omega
              have hd : ds'[i]? = some ds'[i] := List.getElem?_eq_getElem hil
              generalize ds'[i] = d at hd
              have eD : (ds'.map fun d => [d])[i]? = some [d] := by rw [List.getElem?_map, hd]; rfl
              have hrow := hds i d hd
              simp only [Nat.lt_irrefl, if_false] at hrow
              have hset : ∀ x : D, (ds'.map fun d => [d]).set i [x] = (ds'.set i x).map fun d => [d] := fun x => set_map
              have hlen : (rS eU (nus (rowOf cols i))).length ≤ 4 := by rw [rS_len, nus_len]; unfold rowOf; rw [List.length_map, hcol.1]; omega
              have hnew : rS eU (nus (rowOf cols i)) ++ [bU (nuOf (gD v i))] = rS eU (nus (rowOf (cols ++ [v]) i)) := by rw [rS_u, rowOf_app]
              generalize nuOf (gD v i) = X at *
              have ft := And.intro g0 (And.intro g1 (And.intro g6 (And.intro g8 (And.intro g27 (And.intro g28 (And.intro s25 (And.intro g62 (And.intro g63 (And.intro g64 (And.intro e2 eD))))))))))
              repeat (first | with_reducible refine pv_stopB 5 ?_ | with_reducible refine pv_seq fun K hK => ?_ | ((with_reducible first | refine hK _ _ ?_ | (clear hK; refine hK _ _ ?_) | (clear hK; clear hK; refine hK _ _ ?_)); clear hK; try clear K) | refine W ?_ | exact Z | with_reducible intro b)
              refine ⟨fun K1 q1 hC => ?_⟩
              have J1 : ∀ (e : DEnv) (S2 : Store) (d2 : D), e 0 = .g (eS eR (a.map nus)) → e 1 = i64 p → e 6 = .own (.l 25) bo 0 a.length a.length 1 → e 8 = i64 0 → e 27 = i64 a.length → e 28 = i64 j → S2 (.l 25) = some ⟨bo, 1, 0, (ds'.set i d2).map fun d => [d]⟩ →
                  RowD S2 (.r 0 i) 3 d2 (rS eU (nus (rowOf (cols ++ [v]) i))) → (∀ k, k ≠ i → S2 (.r 0 k) = S (.r 0 k)) → RowD S2 (.l 61) 1 (e 7) (rS eR ((cols ++ [v]).map nus)) → e 62 = .g (eS eU (nus v)) → e 63 = i64 a.length → e 64 = i64 i → K1 e S2 := by
                intro e S2 d2 g0 g1 g6 g8 g27 g28 s25 hr2 hk2 hmd2 g62 g63 g64
                refine q1 _ _ ?_
                have ft := And.intro g0 (And.intro g1 (And.intro g6 (And.intro g8 (And.intro g27 (And.intro g28 (And.intro s25 (And.intro g62 (And.intro g63 g64))))))))
                repeat (first | with_reducible refine pv_seq fun K hK => ?_ | ((with_reducible first | refine hK _ _ ?_ | (clear hK; refine hK _ _ ?_) | (clear hK; clear hK; refine hK _ _ ?_)); clear hK; try clear K) | refine W0 ?_ | exact Z | with_reducible intro b)
                refine ⟨⟨i + 1, ds'.set i d2, by omega, ⟨Zr, Zr, Zr, Zr, Zr, Zr, s25, by simpa using dl⟩, fun k x hx => ?_, hmd2, Zr⟩, by first | (simp only [intD]; omega) | (rw [hmy]; simp only [intD]; omega)⟩
                rw [List.getElem?_set] at hx
                by_cases hki : i = k
                · subst hki
                  rw [if_pos rfl, if_pos hil] at hx
                  injection hx with hx
                  subst hx
                  dsimp only
                  rw [if_pos (by omega)]; exact hr2
                · rw [if_neg hki] at hx
                  have h5 := hds k x hx
                  dsimp only
                  rw [show (if k < i + 1 then rowOf (cols ++ [v]) k else rowOf cols k) = if k < i then rowOf (cols ++ [v]) k else rowOf cols k by
                    by_cases h6 : k < i
                    · rw [if_pos h6, if_pos (by omega)]
                    · rw [if_neg h6, if_neg (by omega)]]
                  exact h5.up (hk2 k (fun e => hki e.symm))
              repeat' (first | with_reducible refine pv_seq fun K hK => ?_ | ((with_reducible first | refine hK _ _ ?_ | (clear hK; refine hK _ _ ?_) | (clear hK; clear hK; refine hK _ _ ?_)); clear hK; try clear K) | refine W ?_ | exact Z | with_reducible intro b | with_reducible refine And.intro ?_ ?_ )
              all_goals
                refine RowD.appK (hrow.up (by rfl)) (by simp) (by decide) rfl (by simp [D.one, W64]) (by simp; omega) (by simp; omega) fun d2 S3 k2 hk2 hr2 hS3 => ?_
                have o2 := hr2.ones
                have hr3 : RowD S3 k2 3 d2 (rS eU (nus (rowOf (cols ++ [v]) i))) := by rw [← hnew]; exact hr2
                have n2 : k2 ≠ .l 25 := by rcases hk2 with rfl | rfl <;> simp
                have n6 : k2 ≠ .l 61 := by rcases hk2 with rfl | rfl <;> simp
                have s3 : S3 (.l 25) = some ⟨bo, 1, 0, ds'.map fun d => [d]⟩ := by rw [hS3 _ n2.symm]; exact Zr
                have hm3 : RowD S3 (.l 61) 1 (e 7) (rS eR ((cols ++ [v]).map nus)) := hmd.up (by rw [hS3 _ n6.symm]; simp only [updS]; rfl)
                have hk3 : ∀ k, k ≠ i → S3 (.r 0 k) = S (.r 0 k) := fun k hki => by
                  rw [hS3 _ (by rcases hk2 with rfl | rfl <;> simp [hki])]; simp only [updS]; rfl
                have ft := And.intro g0 (And.intro g1 (And.intro g6 (And.intro g8 (And.intro g27 (And.intro g28 (And.intro s3 (And.intro g62 (And.intro g63 (And.intro g64 (And.intro eD o2))))))))))
                repeat (first | with_reducible refine pv_seq fun K hK => ?_ | ((with_reducible first | refine hK _ _ ?_ | (clear hK; refine hK _ _ ?_) | (clear hK; clear hK; refine hK _ _ ?_)); clear hK; try clear K) | refine W0 ?_ | exact Z | with_reducible intro b)
                rcases hk2 with rfl | rfl
                · exact J1 _ _ d2 Zr Zr Zr Zr Zr Zr (by rw [← hset]; exact Zr) (hr3.up (updS_ne (by simp))) (fun k hki => (updS_ne (by simp)).trans (hk3 k hki)) (hm3.up (updS_ne (by decide))) Zr Zr Zr
                · rcases hr3 with ⟨_, h0⟩ | ⟨b7, c7, p7, rfl, h7⟩
                  · rw [rowOf_app] at h0; have := congrArg List.length h0; rw [rS_len, nus_len] at this; simp at this
                  · refine hC _ _ (Recast.move (.l 77) (.r 0 i) (by simp) ?_)
                    refine hC _ _ (Recast.cell (k := .l 25) (b := bo) (s := 1) (p := 0) (els := (ds'.set i (.own (.l 77) b7 0 (rS eU (nus (rowOf (cols ++ [v]) i))).length c7 3)).map fun d => [d]) (i := i) (j := 0) (es := [.own (.l 77) b7 0 (rS eU (nus (rowOf (cols ++ [v]) i))).length c7 3]) (d' := .own (.r 0 i) b7 0 (rS eU (nus (rowOf (cols ++ [v]) i))).length c7 3) ?_ ?_ rfl (fun I H v h => own_name _ h) ?_)
                    · rw [← hset]; simp only [updS]; rfl
                    · rw [List.getElem?_map, List.getElem?_set_self hil]; rfl
                    · refine J1 _ _ (.own (.r 0 i) b7 0 (rS eU (nus (rowOf (cols ++ [v]) i))).length c7 3) Zr Zr Zr Zr Zr Zr ?_ ?_ ?_ ?_ Zr Zr Zr
                      · rw [updS_at, List.set_cons_zero, set_map, List.set_set]
                      · exact .own rfl (by simp only [updS]; exact h7)
                      · intro k hki
                        rw [updS_ne (by simp), updS_ne (by simp [hki]), updS_ne (by simp), updS_ne (by simp)]; exact hk3 k hki
                      · exact hm3.up (by rw [updS_ne (by decide), updS_ne (by simp), updS_ne (by decide), updS_ne (by decide)])
            · obtain rfl : i = a.length := by omega
              repeat (first | with_reducible refine pv_seq fun K hK => ?_ | ((with_reducible first | refine hK _ _ ?_ | (clear hK; refine hK _ _ ?_) | (clear hK; clear hK; refine hK _ _ ?_)); clear hK; try clear K) | refine W0 ?_ | exact Z | with_reducible intro b)
              refine J3 _ _ ds' ⟨Zr, Zr, Zr, Zr, Zr, Zr, s25, dl⟩ (fun k d hd => ?_) hmd
              have hk : k < a.length := by have := (List.getElem?_eq_some_iff.1 hd).1; omega
              have := hds k d hd
              dsimp only at this
              rwa [if_pos hk] at this
      clear hK
      refine pv_loop (fun e S => ∃ (i bv : Nat), i ≤ a.length ∧ ColI a p j bo ds e S ∧ RowsI S ds (rowOf cols) ∧ RowD S (.l 61) 1 (e 7) (rS eR (cols.map nus)) ∧ e 9 = i64 j ∧ e 10 = .own (.l 33) bv 0 a.length a.length 3 ∧ e 34 = .g (eS eR (a.map nus)) ∧ e 35 = i64 a.length ∧ e 36 = i64 i ∧ S (.l 33) = some ⟨bv, 3, 0, clD (colOf a j) a.length i⟩) (fun e _ => a.length - (intD (e 36)).toNat) ?_ ?_
      · exact ⟨0, _, Nat.zero_le _, ⟨Zr, Zr, Zr, Zr, Zr, Zr, Zr, dl⟩, hds.upd, hmd.updl (by decide), Zr, Zr, Zr, Zr, Zr, by rw [clD_0]; exact Zr⟩
      · rintro e S ⟨i, bv, hi, ⟨g0, g1, g6, g8, g27, g28, s25, dl⟩, hds, hmd, g9, g10, g34, g35, g36, s33⟩
        have ft := And.intro g0 (And.intro g1 (And.intro g6 (And.intro g8 (And.intro g27 (And.intro g28 (And.intro s25 (And.intro g9 (And.intro g10 (And.intro g34 (And.intro g35 (And.intro g36 s33)))))))))))
        repeat (first | with_reducible refine pv_seq fun K hK => ?_ | ((with_reducible first | refine hK _ _ ?_ | (clear hK; refine hK _ _ ?_) | (clear hK; clear hK; refine hK _ _ ?_)); clear hK; try clear K) | refine W0 ?_ | exact Z | with_reducible intro b)
        refine pv_cdD (fun hw => ?_) (fun hw => ?_)
        · have e1 := nr_get (a := a) hw
          have hrl := hs _ (gR_mem hw)
          have e2 := nus_get (l := a.getD i []) (i := j) (by rw [hrl]; exact ht)
          have eE := clD_get (l := colOf a j) hvl hw
          have eN := gD_colOf (a := a) (j := j) hw
          have eT := clD_set (l := colOf a j) hvl hw
          rw [eN] at eT
          generalize clD (colOf a j) a.length i = E at *
          generalize nuOf (gD (a.getD i []) j) = X at *
          generalize a.getD i [] = row at *
          unfold zU at eE
          have ft := And.intro g0 (And.intro g1 (And.intro g6 (And.intro g8 (And.intro g27 (And.intro g28 (And.intro s25 (And.intro g9 (And.intro g10 (And.intro g34 (And.intro g35 (And.intro g36 (And.intro s33 (And.intro e1 (And.intro e2 eE))))))))))))))
          repeat (first | with_reducible refine pv_seq fun K hK => ?_ | ((with_reducible first | refine hK _ _ ?_ | (clear hK; refine hK _ _ ?_) | (clear hK; clear hK; refine hK _ _ ?_)); clear hK; try clear K) | refine W0 ?_ | exact Z | with_reducible intro b)
          refine ⟨⟨i + 1, bv, by omega, ⟨Zr, Zr, Zr, Zr, Zr, Zr, Zr, dl⟩, hds.upd, hmd.updl (by decide), Zr, Zr, by rw [← eT]; exact Zr⟩, by simp only [intD]; omega⟩
        · obtain rfl : i = a.length := by omega
          rw [clD_all hvl] at s33
          repeat (first | with_reducible refine pv_seq fun K hK => ?_ | ((with_reducible first | refine hK _ _ ?_ | (clear hK; refine hK _ _ ?_) | (clear hK; clear hK; refine hK _ _ ?_)); clear hK; try clear K) | refine W0 ?_ | exact Z | with_reducible intro b)
          exact Jv _ _ bv ⟨Zr, Zr, Zr, Zr, Zr, Zr, s25, dl⟩ hds hmd Zr s33
    · obtain rfl : j = a.length := by omega
      repeat (first | with_reducible refine pv_seq fun K hK => ?_ | ((with_reducible first | refine hK _ _ ?_ | (clear hK; refine hK _ _ ?_) | (clear hK; clear hK; refine hK _ _ ?_)); clear hK; try clear K) | refine W0 ?_ | exact Z | with_reducible intro b)
      exact Jok _ _ cols bo ds hA ⟨Zr, Zr, Zr, Zr, Zr, Zr, s25, dl⟩ hds

end Go.V
namespace Go.V
open Go Go.RowKit Go.Proofs


end Go.V
namespace Go.V
open Go Go.RowKit Go.Proofs

theorem f_tw1 (j : Int) : fS (tw j) = false ∧ fN (tw j) = 1 ∧ fE (tw j) = j := ⟨fS_odd (by decide), fN_odd (by decide), fE_odd (by decide)⟩
theorem ok_tw {j : Int} (h1 : -1000 ≤ j) (h2 : j ≤ 1000) : OkD (tw j) := OkD_word (by decide) (by omega) (by omega)
theorem okO_tw {j : Int} (h1 : -1000 ≤ j) (h2 : j ≤ 1000) : okO (tw j) = .ok (tw j) := okO_ok (ok_tw h1 h2)
theorem rd_tw {p : Nat} (hp : 1 ≤ p) (j : Int) : rd p false (tw j) = tw j := rd_fix (Pb.dy (Nat.one_lt_two_pow (by omega)))
theorem tw_mul (a b : Int) : tw a * tw b = tw (a + b) := by unfold tw; rw [dy_mul]; rfl
theorem tw_add (a : Int) : tw a + tw a = tw (a + 1) := by
  have h := dy_shl false 1 1 a
  unfold tw; rw [dy_add, ← show ((1 : Nat) : Int) = 1 from rfl, ← h]
theorem tw_sub (a : Int) : tw a - tw a = 0 := by grind
theorem abD_tw1 (j : Int) : abD (tw j) = tw j := by obtain ⟨_, h2, h3⟩ := f_tw1 j; unfold abD; rw [h2, h3]; rfl
theorem szD_tw1 (j : Int) : szD (tw j) = j + 1 := by obtain ⟨_, h2, h3⟩ := f_tw1 j; unfold szD; rw [h2, h3]; rfl
theorem tw_ne (j : Int) : tw j ≠ 0 := fun e => by have := tw_pos j; rw [e] at this; grind
theorem sc_tw {j : Int} (h1 : -400 ≤ j) (h2 : j ≤ 400) : scO (tw j) (-(j + 1)) = .ok (tw (-1)) := by
  unfold scO; rw [sc_mul, tw_mul, show j + -(j + 1) = -1 by omega]; exact okO_tw (by decide) (by decide)
theorem scaled_1 {j : Int} (h1 : -400 ≤ j) (h2 : j ≤ 400) : scaledR [tw j] = .ok [tw (-1)] := by
  have hT : topD [tw j] = tw j := by
    show topA [tw j] 1 = _
    unfold topA
    rw [show topA [tw j] 0 = 0 from rfl, show gD [tw j] 0 = tw j from rfl, abD_tw1, if_pos (tw_pos j)]
  unfold scaledR
  rw [if_neg (by rw [hT]; exact tw_ne j), hT, szD_tw1]
  exact bldE_of (f := fun i => scO (gD [tw j] i) (-(j + 1))) (g := fun _ => tw (-1)) (n := 1) fun i hi => by
    obtain rfl : i = 0 := by omega
    exact sc_tw h1 h2
theorem scaled_2 {j : Int} (h1 : -400 ≤ j) (h2 : j ≤ 400) : scaledR [tw j, tw j] = .ok [tw (-1), tw (-1)] := by
  have hT : topD [tw j, tw j] = tw j := by rw [topD2, abD_tw1, if_neg (by grind)]
  unfold scaledR
  rw [if_neg (by rw [hT]; exact tw_ne j), hT, szD_tw1]
  exact bldE_of (f := fun i => scO (gD [tw j, tw j] i) (-(j + 1))) (g := fun _ => tw (-1)) (n := 2) fun i hi => by
    rcases (show i = 0 ∨ i = 1 by omega) with rfl | rfl <;> exact sc_tw h1 h2
theorem mulO_tw {a b : Int} (h1 : -1000 ≤ a + b) (h2 : a + b ≤ 1000) : mulO 16 (tw a) (tw b) = .ok (tw (a + b)) := by
  unfold mulO; rw [tw_mul, rd_tw (by decide)]; exact okO_tw h1 h2
theorem cols_1 : colsR 16 [[tw 1]] = .ok [[tw (-1)]] := by
  have : colA 16 [[tw 1]] 1 = .ok [[tw (-1)]] := by
    unfold colA
    rw [runE_step (n := 0) rfl]
    show bnd (upR 16 [tw 1] []) _ = _
    rw [show upR 16 [tw 1] [] = scaledR [tw 1] from rfl, scaled_1 (by decide) (by decide)]; rfl
  show bnd (colA 16 [[tw 1]] 1) _ = _
  rw [this]; rfl
theorem quo_tw : quo 16 (tw 1) (tw (-1)) = tw 2 := by
  have h := dy_shl false 1 18 (-16)
  unfold quo tw
  rw [fN_odd (by decide), fN_odd (by decide), fS_odd (by decide), fS_odd (by decide), fE_odd (by decide), fE_odd (by decide), show (2 : Int) = -16 + (18 : Nat) from rfl, ← h]
  rfl
theorem cols_2 : colsR 16 [[tw 1, tw 1], [tw 1, tw 1]] = .error 3 := by
  have c1 : colA 16 [[tw 1, tw 1], [tw 1, tw 1]] 1 = .ok [[tw (-1), tw (-1)]] := by
    unfold colA
    rw [runE_step (n := 0) rfl]
    show bnd (upR 16 [tw 1, tw 1] []) _ = _
    rw [show upR 16 [tw 1, tw 1] [] = scaledR [tw 1, tw 1] from rfl, scaled_2 (by decide) (by decide)]; rfl
  have dA : dotR 16 [tw (-1), tw (-1)] [tw 1, tw 1] = .ok (tw 1) := dot2 (mulO_tw (by decide) (by decide)) (mulO_tw (by decide) (by decide)) (by
    rw [tw_add, rd_tw (by decide)]; exact okO_tw (by decide) (by decide))
  have dB : dotR 16 [tw (-1), tw (-1)] [tw (-1), tw (-1)] = .ok (tw (-1)) := dot2 (mulO_tw (by decide) (by decide)) (mulO_tw (by decide) (by decide)) (by
    rw [tw_add, rd_tw (by decide)]; exact okO_tw (by decide) (by decide))
  have dC : divO 16 (tw 1) (tw (-1)) = .ok (tw 2) := by
    unfold divO; rw [if_neg (tw_ne _), quo_tw, rd_tw (by decide)]; exact okO_tw (by decide) (by decide)
  have aw : awayO 16 (tw 1) (tw 2) (tw (-1)) = .ok 0 := by
    unfold awayO; rw [mulO_tw (by decide) (by decide), bnd_ok, show (2 : Int) + -1 = 1 from rfl, tw_sub, rd_zero]; exact okO_ok OkD.zero
  have hL : lessR 16 [tw 1, tw 1] [tw (-1), tw (-1)] = .ok [0, 0] := by
    unfold lessR
    rw [dA, bnd_ok, dB, bnd_ok, dC, bnd_ok]
    exact bldE_of (f := fun i => awayO 16 (gD [tw 1, tw 1] i) (tw 2) (gD [tw (-1), tw (-1)] i)) (g := fun _ => 0) (n := 2) fun i hi => by
      rcases (show i = 0 ∨ i = 1 by omega) with rfl | rfl <;> exact aw
  have hz : scaledR [0, 0] = .error 3 := by
    unfold scaledR
    rw [if_pos (by rw [topD2, abD_zero.2 rfl]; split <;> rfl)]
  have c2 : colA 16 [[tw 1, tw 1], [tw 1, tw 1]] 2 = .error 3 := by
    unfold colA at c1 ⊢
    rw [runE_step c1]
    show bnd (upR 16 [tw 1, tw 1] [[tw (-1), tw (-1)]]) _ = _
    rw [show upR 16 [tw 1, tw 1] [[tw (-1), tw (-1)]] = bnd (lessR 16 [tw 1, tw 1] [tw (-1), tw (-1)]) scaledR from rfl, hL, bnd_ok, hz]; rfl
  show bnd (colA 16 [[tw 1, tw 1], [tw 1, tw 1]] 2) _ = _
  rw [c2]; rfl
end Go.V
namespace Go.V
open Go Go.RowKit Go.Proofs

def g1 (e : Int) : List G := [.lit (.bool false), .lit (.int .i64 e), .sl [[.lit (.int .u64 1)]]]
theorem nu_tw {j : Int} (h1 : -60000 ≤ j) (h2 : j ≤ 60000) : nuOf (tw j) = ⟨false, j, [1]⟩ := ((w1 (s := false) (k := j) (n := 1) (by decide) (by decide) h1 h2).1).symm
theorem NR_1 {j : Int} (h1 : -60000 ≤ j) (h2 : j ≤ 60000) : NR [[tw j]] = .g (.sl [[.sl [g1 j]]]) := by
  unfold NR nus; simp only [List.map_cons, List.map_nil, nu_tw h1 h2]; rfl
theorem NR_2 {j : Int} (h1 : -60000 ≤ j) (h2 : j ≤ 60000) : NR [[tw j, tw j], [tw j, tw j]] = .g (.sl [[.sl [g1 j, g1 j]], [.sl [g1 j, g1 j]]]) := by
  unfold NR nus; simp only [List.map_cons, List.map_nil, nu_tw h1 h2]; rfl
set_option maxHeartbeats 2000000 in
theorem p_known9 : PC Tryz.prog 5 [] fun d => d = bl true := by
  have o1 : OkL [tw 1] := fun x hx => by rw [List.mem_singleton.1 hx]; exact ok_tw (by decide) (by decide)
  have o2 : OkL [tw 1, tw 1] := fun x hx => by
    rcases List.mem_cons.1 hx with h | h
    · rw [h]; exact ok_tw (by decide) (by decide)
    · exact o1 x h
  have pA := p_oCols (p := 16) (a := [[tw 1]]) (fun r hr => by rw [List.mem_singleton.1 hr]; exact o1) (fun r hr => by rw [List.mem_singleton.1 hr]; rfl) (by decide) (by decide) (by decide) (by decide)
  have pB := p_oCols (p := 16) (a := [[tw 1, tw 1], [tw 1, tw 1]]) (fun r hr => by simp only [List.mem_cons, List.not_mem_nil, or_false, or_self] at hr; rw [hr]; exact o2) (fun r hr => by simp only [List.mem_cons, List.not_mem_nil, or_false, or_self] at hr; rw [hr]; rfl) (by decide) (by decide) (by decide) (by decide)
  have pW := p_hWords (xs := [1]) (ys := [1]) (by intro x hx; rw [List.mem_singleton.1 hx]; decide) (by intro x hx; rw [List.mem_singleton.1 hx]; decide) (by simp) (by simp)
  rw [decide_eq_true rfl] at pW
  unfold NRE at pA pB
  rw [cols_1, okR_ok, NR_1 (by decide) (by decide), NR_1 (by decide) (by decide)] at pA
  rw [cols_2, okR_no, NR_2 (by decide) (by decide)] at pB
  refine PB (rs := [.tmp 0]) Tryz.func5 ?_
  repeat (first | with_reducible refine pv_stop 1 ?_ | with_reducible refine pv_seq fun K hK => ?_ | ((with_reducible first | refine hK _ _ ?_ | (clear hK; refine hK _ _ ?_) | (clear hK; clear hK; refine hK _ _ ?_)); clear hK; try clear K) | refine W ?_ | exact Z | with_reducible intro b)
  refine ⟨fun K1 q1 hC => ?_⟩
  repeat (first | with_reducible refine pv_seq fun K hK => ?_ | ((with_reducible first | refine hK _ _ ?_ | (clear hK; refine hK _ _ ?_) | (clear hK; clear hK; refine hK _ _ ?_)); clear hK; try clear K) | refine W0 ?_ | exact Z | with_reducible intro b)
  refine hC _ _ (Recast.frzCell (k2 := .l 1) (k := .l 6) updS_at 0 2 rfl rfl (by decide) ((updS_ne (by decide)).trans ((updS_ne (by decide)).trans updS_at)) (gs := [[.lit (.int .u64 1)]]) rfl (by decide) ?_)
  refine q1 _ _ ?_
  clear q1 hC
  repeat (first | with_reducible refine pv_seq fun K hK => ?_ | ((with_reducible first | refine hK _ _ ?_ | (clear hK; refine hK _ _ ?_) | (clear hK; clear hK; refine hK _ _ ?_)); clear hK; try clear K) | refine W0 ?_ | exact Z | with_reducible intro b)
  refine PFC.frzCell (k2 := .l 11) (k := .l 10) updS_at 0 0 rfl rfl (by decide) ((updS_ne (by decide)).trans updS_at) (gs := [g1 1]) rfl (by decide) ?_
  refine PFC.coe ?_
  try simp -implicitDefEqProofs only [ft, go_sem, seval]
  refine call_is pA ?_
  unfold g1
  repeat (first | with_reducible refine pv_seq fun K hK => ?_ | ((with_reducible first | refine hK _ _ ?_ | (clear hK; refine hK _ _ ?_) | (clear hK; clear hK; refine hK _ _ ?_)); clear hK; try clear K) | refine W0 ?_ | exact Z | with_reducible intro b)
  refine PFC.frzCell (k2 := .l 22) (k := .l 18) updS_at 0 0 rfl rfl (by decide) ((updS_ne (by decide)).trans ((updS_ne (by decide)).trans updS_at)) (gs := [g1 1, g1 1]) rfl (by decide) ?_
  refine PFC.frzCell (k2 := .l 22) (k := .l 21) updS_at 1 0 rfl rfl (by decide) ((updS_ne (by decide)).trans ((updS_ne (by decide)).trans ((updS_ne (by decide)).trans updS_at))) (gs := [g1 1, g1 1]) rfl (by decide) ?_
  refine PFC.coe ?_
  try simp -implicitDefEqProofs only [ft, go_sem, seval]
  refine call_is pB ?_
  unfold g1 at *
  exact Wk

end Go.V
namespace Go.V
open Go Go.RowKit Go.Proofs

theorem p_precs6 {p : Int} : PC Tryz.prog 19 [i64 p] fun d => d = bl (okP p) := by
  refine PB (rs := [.tmp 2]) Tryz.func19 ?_
  by_cases h1 : (8 : Int) ≤ p
  · have k1 : ((8 : Int) ≤ p) = True := eq_true (by omega)
    by_cases h2 : p ≤ (256 : Int)
    · have k2 : (p ≤ (256 : Int)) = True := eq_true (by omega)
      have k3 : okP p = true := by rw [okP, decide_eq_true h1, decide_eq_true h2]; rfl
      have ft := And.intro k1 (And.intro k2 k3)
      exact Wk
    · have k2 : (p ≤ (256 : Int)) = False := eq_false (by omega)
      have k3 : okP p = false := by rw [okP, decide_eq_true h1, decide_eq_false h2]; rfl
      have ft := And.intro k1 (And.intro k2 k3)
      exact Wk
  · have k1 : ((8 : Int) ≤ p) = False := eq_false (by omega)
    have k3 : okP p = false := by rw [okP, decide_eq_false h1]; rfl
    have ft := And.intro k1 k3
    exact Wk
set_option maxHeartbeats 1000000 in
theorem p_rPoints {a : List (List Nu)} (hb : ∀ r ∈ a, ∀ x ∈ r, B64 x.w) (hl : a.length ≤ 1000000) (hl2 : ∀ r ∈ a, r.length ≤ 1000000) : PC Tryz.prog 18 [.g (eS eR a)] fun d => d = bl (sqB a) := by
  refine PB (rs := [.tmp 2]) Tryz.func18 ?_
  repeat (first | with_reducible refine pv_seq fun K hK => ?_ | ((with_reducible first | refine hK _ _ ?_ | (clear hK; refine hK _ _ ?_) | (clear hK; clear hK; refine hK _ _ ?_)); clear hK; try clear K) | refine W0 ?_ | exact Z | with_reducible intro b)
  have J : ∀ (e : DEnv) (S : Store), (∀ j, j < a.length → j < 4 → (a.getD j []).length = a.length ∧ ∀ x ∈ a.getD j [], rightB x = true) → e 0 = .g (eS eR a) → K e S := by
    intro e S h g0
    by_cases h1 : 0 < a.length
    · have k1 : ((0 : Int) < a.length) = True := eq_true (by omega)
      by_cases h2 : a.length ≤ 4
      · have k2 : ((a.length : Int) ≤ 4) = True := eq_true (by omega)
        have hd : sqB a = true := by
          unfold sqB
          rw [decide_eq_true (show SqR a from fun r hr => by
            obtain ⟨k, hk, rfl⟩ := List.mem_iff_getElem.1 hr
            have := h k hk (by omega)
            simp only [List.getD, List.getElem?_eq_getElem hk, Option.getD_some] at this
            exact this), decide_eq_true (show 1 ≤ a.length by omega), decide_eq_true h2]; rfl
        have ft := And.intro g0 (And.intro k1 (And.intro k2 hd))
        exact Wk
      · have k2 : ((a.length : Int) ≤ 4) = False := eq_false (by omega)
        have hd : sqB a = false := by unfold sqB; rw [decide_eq_false h2, Bool.and_false]
        have ft := And.intro g0 (And.intro k1 (And.intro k2 hd))
        exact Wk
    · have k1 : ((0 : Int) < a.length) = False := eq_false (by omega)
      have hd : sqB a = false := by unfold sqB; rw [decide_eq_false (show ¬ 1 ≤ a.length by omega), Bool.and_false]; rfl
      have ft := And.intro g0 (And.intro k1 hd)
      exact Wk
  clear hK
  refine pv_loop (fun e S => ∃ (i : Nat), i ≤ a.length ∧ e 0 = .g (eS eR a) ∧ e 3 = i64 i ∧ ∀ j, j < i → (a.getD j []).length = a.length ∧ ∀ x ∈ a.getD j [], rightB x = true) (fun e _ => a.length - (intD (e 3)).toNat) ?_ ?_
  · exact ⟨0, Nat.zero_le _, Zr, Zr, fun j hj => by omega⟩
  · rintro e S ⟨i, hi, g0, g3, hz⟩
    have hmz : (intD (e 3)).toNat = i := by rw [g3]; rfl
    by_cases ht : i < a.length
    · have k1 : ((i : Int) < a.length) = True := eq_true (by omega)
      by_cases ht4 : i < 4
      · have k2 : ((i : Int) < 4) = True := eq_true (by omega)
        have e1 := gR_get (a := a) ht
        have hm := gR_mem (a := a) ht
        generalize hrr : a.getD i [] = r at *
        by_cases hrl : r.length = a.length
        · have k3 := eq_true hrl
          have ft := And.intro g0 (And.intro g3 (And.intro e1 (And.intro k1 (And.intro k2 k3))))
          repeat (first | with_reducible refine pv_seq fun K hK => ?_ | ((with_reducible first | refine hK _ _ ?_ | (clear hK; refine hK _ _ ?_) | (clear hK; clear hK; refine hK _ _ ?_)); clear hK; try clear K) | refine W0 ?_ | exact Z | with_reducible intro b)
          have J2 : ∀ (e : DEnv) (S : Store), (∀ x ∈ r, rightB x = true) → e 0 = .g (eS eR a) → e 3 = i64 i → K e S := by
            intro e S h g0 g3
            have ft := And.intro g3 g0
            repeat (first | with_reducible refine pv_seq fun K hK => ?_ | ((with_reducible first | refine hK _ _ ?_ | (clear hK; refine hK _ _ ?_) | (clear hK; clear hK; refine hK _ _ ?_)); clear hK; try clear K) | refine W0 ?_ | exact Z | with_reducible intro b)
            refine ⟨⟨i + 1, by omega, Zr, fun j hj => ?_⟩, by rw [hmz]; simp only [intD]; omega⟩
            by_cases hji : j = i
            · subst hji; rw [hrr]; exact ⟨hrl, h⟩
            · exact hz j (by omega)
          clear hK
          refine pv_loop (fun e S => ∃ (j : Nat), j ≤ r.length ∧ e 0 = .g (eS eR a) ∧ e 3 = i64 i ∧ e 4 = i64 j ∧ ∀ k, k < j → ∀ x, r[k]? = some x → rightB x = true) (fun e _ => r.length - (intD (e 4)).toNat) ?_ ?_
          · have ft := And.intro g0 g3
            exact ⟨0, Nat.zero_le _, Zr, Zr, Zr, fun j hj => by omega⟩
          · rintro e S ⟨j, hj, g0, g3, g4, hy⟩
            have ft := And.intro g0 (And.intro g3 (And.intro g4 e1))
            repeat (first | with_reducible refine pv_seq fun K hK => ?_ | ((with_reducible first | refine hK _ _ ?_ | (clear hK; refine hK _ _ ?_) | (clear hK; clear hK; refine hK _ _ ?_)); clear hK; try clear K) | refine W0 ?_ | exact Z | with_reducible intro b)
            refine pv_cdD (fun hu => ?_) (fun hu => ?_)
            · have hu' : j < r.length := by omega
              have e2 := List.getElem?_eq_getElem hu'
              have hmx := List.getElem_mem hu'
              generalize r[j] = x at *
              have pR := p_rRight (hb r hm x hmx)
              cases hx : rightB x with
              | true =>
                rw [hx] at pR
                have ft := And.intro g0 (And.intro g3 (And.intro g4 (And.intro e1 e2)))
                repeat' (first | with_reducible refine pv_seq fun K hK => ?_ | ((with_reducible first | refine hK _ _ ?_ | (clear hK; refine hK _ _ ?_) | (clear hK; clear hK; refine hK _ _ ?_)); clear hK; try clear K) | refine W ?_ | exact Z | with_reducible intro b | with_reducible refine And.intro ?_ ?_ )
                all_goals first | (simp only [intD]; omega) | skip
                refine ⟨j + 1, by omega, Zr, fun k hk y hky => ?_⟩
                by_cases hkj : k = j
                · subst hkj; rw [e2] at hky; injection hky with hky; subst hky; exact hx
                · exact hy k (by omega) y hky
              | false =>
                rw [hx] at pR
                have hd := sqB_no hm fun h => by have := h.2 x hmx; rw [hx] at this; cases this
                have ft := And.intro g0 (And.intro g3 (And.intro g4 (And.intro e1 (And.intro e2 hd))))
                exact Wk
            · have hjl : j = r.length := by omega
              subst hjl
              repeat (first | with_reducible refine pv_seq fun K hK => ?_ | ((with_reducible first | refine hK _ _ ?_ | (clear hK; refine hK _ _ ?_) | (clear hK; clear hK; refine hK _ _ ?_)); clear hK; try clear K) | refine W0 ?_ | exact Z | with_reducible intro b)
              exact J2 _ _ (fun x hx => by obtain ⟨k, hk, rfl⟩ := List.mem_iff_getElem.1 hx; exact hy k hk _ (List.getElem?_eq_getElem hk)) Zr Zr
        · have k3 := eq_false hrl
          have hd := sqB_no hm fun h => hrl h.1
          have ft := And.intro g0 (And.intro g3 (And.intro e1 (And.intro k1 (And.intro k2 (And.intro k3 hd)))))
          exact Wk
      · have k2 : ((i : Int) < 4) = False := eq_false (by omega)
        have ft := And.intro g0 (And.intro g3 (And.intro k1 k2))
        repeat (first | with_reducible refine pv_seq fun K hK => ?_ | ((with_reducible first | refine hK _ _ ?_ | (clear hK; refine hK _ _ ?_) | (clear hK; clear hK; refine hK _ _ ?_)); clear hK; try clear K) | refine W0 ?_ | exact Z | with_reducible intro b)
        exact J _ _ (fun j hj hj4 => hz j (by omega)) Zr
    · have k1 : ((i : Int) < a.length) = False := eq_false (by omega)
      have ft := And.intro g0 (And.intro g3 k1)
      repeat (first | with_reducible refine pv_seq fun K hK => ?_ | ((with_reducible first | refine hK _ _ ?_ | (clear hK; refine hK _ _ ?_) | (clear hK; clear hK; refine hK _ _ ?_)); clear hK; try clear K) | refine W0 ?_ | exact Z | with_reducible intro b)
      exact J _ _ (fun j hj hj4 => hz j (by omega)) Zr
theorem rkR_D {n : Int} {a b : Dyadic} {p : Nat} {up : Bool} (ha : OkD a) (hb : OkD b) (h8 : 8 ≤ p) (h256 : p ≤ 256) (hn : n ≠ 3) : rkR n (nuOf a) (nuOf b) p up = numR (rd p up (exD n a b)) := by
  unfold rkR; rw [rightB_nuOf, rightB_nuOf, decide_eq_true ha, decide_eq_true hb, okP_of h8 h256]; simp only [Bool.and_self, if_true, Int.toNat_natCast, val_nuOf]; rw [if_neg hn]
theorem p_rkAdd {a b : Dyadic} {p : Nat} (ha : OkD a) (hb : OkD b) (h8 : 8 ≤ p) (h256 : p ≤ 256) : PC Tryz.prog 32 [i64 0, NU (nuOf a), NU (nuOf b), i64 p, bl false] fun d => d = NE (numR (rd p false (a + b))) := by
  have := p_rReckon (n := 0) (p := p) (up := false) (ha.sz).b (hb.sz).b
  rwa [rkR_D ha hb h8 h256 (by decide), show exD 0 a b = a + b from rfl] at this
theorem p_rkSub {a b : Dyadic} {p : Nat} (ha : OkD a) (hb : OkD b) (h8 : 8 ≤ p) (h256 : p ≤ 256) : PC Tryz.prog 32 [i64 1, NU (nuOf a), NU (nuOf b), i64 p, bl false] fun d => d = NE (numR (rd p false (a - b))) := by
  have := p_rReckon (n := 1) (p := p) (up := false) (ha.sz).b (hb.sz).b
  rwa [rkR_D ha hb h8 h256 (by decide), show exD 1 a b = a - b from rfl] at this
theorem p_rkMul {a b : Dyadic} {p : Nat} (ha : OkD a) (hb : OkD b) (h8 : 8 ≤ p) (h256 : p ≤ 256) : PC Tryz.prog 32 [i64 2, NU (nuOf a), NU (nuOf b), i64 p, bl false] fun d => d = NE (numR (rd p false (a * b))) := by
  have := p_rReckon (n := 2) (p := p) (up := false) (ha.sz).b (hb.sz).b
  rwa [rkR_D ha hb h8 h256 (by decide), show exD 2 a b = a * b from rfl] at this
theorem p_rkDiv {a b : Dyadic} {p : Nat} (ha : OkD a) (hb : OkD b) (h8 : 8 ≤ p) (h256 : p ≤ 256) : PC Tryz.prog 32 [i64 3, NU (nuOf a), NU (nuOf b), i64 p, bl false] fun d => d = NE (okN (divO p a b)) := by
  have := p_rReckon (n := 3) (p := p) (up := false) (ha.sz).b (hb.sz).b
  rw [okN_div]
  unfold rkR at this
  rw [rightB_nuOf, rightB_nuOf, decide_eq_true ha, decide_eq_true hb, okP_of h8 h256] at this
  simp only [Bool.and_self, if_true, Int.toNat_natCast, val_nuOf] at this
  exact this
set_option maxHeartbeats 1000000 in
theorem p_rAway {p : Nat} {x c u : Dyadic} (hx : OkD x) (hc : OkD c) (hu : OkD u) (h8 : 8 ≤ p) (h256 : p ≤ 256) : PC Tryz.prog 33 [NU (nuOf x), NU (nuOf c), NU (nuOf u), i64 p] fun d => d = NE (okN (awayO p x c u)) := by
  have pM := p_rkMul hc hu h8 h256
  unfold awayO mulO
  by_cases hm : OkD (rd p false (c * u))
  · rw [numR_ok hm] at pM
    rw [okO_ok hm, bnd_ok, okN_okO]
    have pS := p_rkSub hx hm h8 h256
    generalize numR (rd p false (x - rd p false (c * u))) = q at *
    obtain ⟨Q, q2⟩ := q
    generalize nuOf (rd p false (c * u)) = Y at *
    generalize nuOf x = X at *
    generalize nuOf c = C at *
    generalize nuOf u = U at *
    refine PB (rs := [.cell 8 38, .tmp 9]) Tryz.func33 ?_
    exact Wk
  · rw [numR_over hm] at pM
    rw [okO_no hm, bnd_no, okN_no]
    generalize nuOf x = X at *
    generalize nuOf c = C at *
    generalize nuOf u = U at *
    refine PB (rs := [.cell 8 38, .tmp 9]) Tryz.func33 ?_
    exact Wk
end Go.V

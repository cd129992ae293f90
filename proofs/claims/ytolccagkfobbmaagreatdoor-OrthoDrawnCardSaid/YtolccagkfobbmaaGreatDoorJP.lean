/- Columns at right angles, about: the plain laws. No program in sight. -/
import Derived.Test.YtolccagkfobbmaaGreatDoorPS
set_option linter.unusedSimpArgs false
set_option linter.unusedVariables false
namespace Go.V
open Go Go.RowKit Go.Proofs

/-- A number that fits, or the error of one that doesn't. -/
def okO (d : Dyadic) : Except Int Dyadic := if (nuOf d).Ok then .ok d else .error 2
theorem okO_ok {d : Dyadic} (h : OkD d) : okO d = .ok d := if_pos h
theorem okO_no {d : Dyadic} (h : ¬ OkD d) : okO d = .error 2 := if_neg h
def okN : Except Int Dyadic → Nu × Int
  | .ok d => (nuOf d, 0)
  | .error c => (nu0, c)
theorem okN_okO (d : Dyadic) : okN (okO d) = numR d := by unfold okO numR; split <;> rfl
theorem okN_ok {d : Dyadic} : okN (.ok d) = (nuOf d, 0) := rfl
theorem okN_no {c : Int} : okN (.error c) = (nu0, c) := rfl
def bnd {α β : Type} (x : Except Int α) (f : α → Except Int β) : Except Int β := match x with | .ok a => f a | .error c => .error c
theorem bnd_ok {α β : Type} {a : α} {f : α → Except Int β} : bnd (.ok a) f = f a := rfl
theorem bnd_no {α β : Type} {c : Int} {f : α → Except Int β} : bnd (.error c) f = .error c := rfl
theorem bnd_cases {α β : Type} {x : Except Int α} {f : α → Except Int β} {b : β} (h : bnd x f = .ok b) : ∃ a, x = .ok a ∧ f a = .ok b := by
  cases x with | ok a => exact ⟨a, rfl, h⟩ | error c => cases h
theorem okO_cases {d b : Dyadic} (h : okO d = .ok b) : b = d ∧ OkD d := by
  unfold okO at h; split at h
  · rename_i hd; injection h with h; exact ⟨h.symm, hd⟩
  · cases h

/-- Step by step: the error of an earlier step stays. -/
def runE {α : Type} (s0 : α) (f : Nat → α → Except Int α) : Nat → Except Int α
  | 0 => .ok s0
  | n + 1 => bnd (runE s0 f n) (f n)
theorem runE_err {α : Type} {s0 : α} {f : Nat → α → Except Int α} {n m : Nat} {c : Int} (h : runE s0 f n = .error c) (hm : n ≤ m) : runE s0 f m = .error c := by
  induction m with
  | zero => rwa [Nat.le_zero.1 hm] at h
  | succ m ih =>
    rcases Nat.lt_or_ge n (m + 1) with h1 | h1
    · rw [runE, ih (by omega)]; rfl
    · rwa [show n = m + 1 by omega] at h
theorem runE_step {α : Type} {s0 s : α} {f : Nat → α → Except Int α} {n : Nat} (h : runE s0 f n = .ok s) : runE s0 f (n + 1) = f n s := by rw [runE, h]; rfl
theorem runE_ok {α : Type} {s0 t : α} {f : Nat → α → Except Int α} {n m : Nat} (h : runE s0 f m = .ok t) (hn : n ≤ m) : ∃ s, runE s0 f n = .ok s := by
  cases e : runE s0 f n with
  | ok s => exact ⟨s, rfl⟩
  | error c => rw [runE_err e hn] at h; cases h
theorem runE_all {α : Type} {s0 t : α} {f : Nat → α → Except Int α} (Q : Nat → α → Prop) (h0 : Q 0 s0) (hs : ∀ n s s', Q n s → f n s = .ok s' → Q (n + 1) s') : ∀ m t, runE s0 f m = .ok t → Q m t
  | 0, t, h => by injection h with h; subst h; exact h0
  | m + 1, t, h => by
    obtain ⟨s, h1, h2⟩ := bnd_cases h
    exact hs m s t (runE_all (t := t) Q h0 hs m s h1) h2

/-- A list, one by one. -/
def bldE {α : Type} (f : Nat → Except Int α) (n : Nat) : Except Int (List α) := runE [] (fun i l => bnd (f i) fun y => .ok (l ++ [y])) n
theorem bldE_step {α : Type} {f : Nat → Except Int α} {n : Nat} {l : List α} {y : α} (h : bldE f n = .ok l) (hy : f n = .ok y) : bldE f (n + 1) = .ok (l ++ [y]) := by
  unfold bldE at *; rw [runE_step h, hy]; rfl
theorem bldE_no {α : Type} {f : Nat → Except Int α} {n m : Nat} {l : List α} {c : Int} (h : bldE f n = .ok l) (hy : f n = .error c) (hm : n < m) : bldE f m = .error c := by
  unfold bldE at *
  exact runE_err (n := n + 1) (by rw [runE_step h, hy]; rfl) hm
theorem bldE_spec {α : Type} {f : Nat → Except Int α} {n : Nat} {l : List α} (h : bldE f n = .ok l) : l.length = n ∧ ∀ i (hi : i < l.length), f i = .ok l[i] := by
  refine runE_all (t := l) (fun n l => l.length = n ∧ ∀ i (hi : i < l.length), f i = .ok l[i]) ⟨rfl, fun i hi => (by cases hi)⟩ (fun n s s' hq hs => ?_) n l h
  obtain ⟨y, h1, h2⟩ := bnd_cases hs
  injection h2 with h2; subst h2
  refine ⟨by simp [hq.1], fun i hi => ?_⟩
  by_cases hlt : i < s.length
  · rw [List.getElem_append_left hlt]; exact hq.2 i hlt
  · have : i = s.length := by simp at hi; omega
    subst this
    simp only [List.getElem_append_right (Nat.le_refl _), Nat.sub_self, List.getElem_cons_zero]
    rw [hq.1]; exact h1
theorem bldE_all {α : Type} {f : Nat → Except Int α} {n : Nat} {l : List α} (h : bldE f n = .ok l) {Q : α → Prop} (hq : ∀ i y, i < n → f i = .ok y → Q y) : ∀ y ∈ l, Q y := by
  obtain ⟨h1, h2⟩ := bldE_spec h
  intro y hy
  obtain ⟨i, hi, rfl⟩ := List.mem_iff_getElem.1 hy
  exact hq i _ (by omega) (h2 i hi)
theorem bldE_of {α : Type} {f : Nat → Except Int α} {g : Nat → α} : ∀ {n : Nat}, (∀ i, i < n → f i = .ok (g i)) → bldE f n = .ok ((List.range n).map g)
  | 0, _ => rfl
  | n + 1, h => by rw [bldE_step (bldE_of fun i hi => h i (by omega)) (h n (by omega)), List.range_succ, List.map_append]; rfl
theorem bldE_congr {α : Type} {f g : Nat → Except Int α} : ∀ {n : Nat}, (∀ i, i < n → f i = g i) → bldE f n = bldE g n
  | 0, _ => rfl
  | n + 1, h => by
    unfold bldE runE
    rw [show runE [] (fun i l => bnd (f i) fun y => .ok (l ++ [y])) n = runE [] (fun i l => bnd (g i) fun y => .ok (l ++ [y])) n from bldE_congr fun i hi => h i (by omega)]
    simp only [h n (by omega)]

/-! ### Columns -/
abbrev DL := List Dyadic
def gD (l : DL) (i : Nat) : Dyadic := l.getD i 0
theorem gD_mem {l : DL} {i : Nat} (h : i < l.length) : gD l i ∈ l := by unfold gD; simp only [List.getD, List.getElem?_eq_getElem h, Option.getD_some]; exact List.getElem_mem h
theorem gD_get {l : DL} {i : Nat} (h : i < l.length) : gD l i = l[i] := by unfold gD; simp only [List.getD, List.getElem?_eq_getElem h, Option.getD_some]
def mulO (p : Nat) (x y : Dyadic) : Except Int Dyadic := okO (rd p false (x * y))
def dotS (p : Nat) (us vs : DL) (i : Nat) (s : Dyadic) : Except Int Dyadic := bnd (mulO p (gD us i) (gD vs i)) fun x => if i = 0 then .ok x else okO (rd p false (s + x))
def dotA (p : Nat) (us vs : DL) : Nat → Except Int Dyadic := runE 0 (dotS p us vs)
def dotR (p : Nat) (us vs : DL) : Except Int Dyadic := dotA p us vs us.length
def divO (p : Nat) (a b : Dyadic) : Except Int Dyadic := if b = 0 then .error 3 else okO (rd p false (quo p a b))
def awayO (p : Nat) (x c u : Dyadic) : Except Int Dyadic := bnd (mulO p c u) fun y => okO (rd p false (x - y))
def lessR (p : Nat) (vs us : DL) : Except Int DL := bnd (dotR p us vs) fun a => bnd (dotR p us us) fun b => bnd (divO p a b) fun c => bldE (fun i => awayO p (gD vs i) c (gD us i)) vs.length
/-- The amount; how many places it has above the point. -/
def abD (d : Dyadic) : Dyadic := dy false (fN d) (fE d)
def szD (d : Dyadic) : Int := fE d + bitLen (fN d)
def topA (vs : DL) : Nat → Dyadic
  | 0 => 0
  | n + 1 => if topA vs n < abD (gD vs n) then abD (gD vs n) else topA vs n
def topD (vs : DL) : Dyadic := topA vs vs.length
def scO (x : Dyadic) (j : Int) : Except Int Dyadic := okO (dy (fS x) (fN x) (fE x + j))
def scaledR (vs : DL) : Except Int DL := if topD vs = 0 then .error 3 else bldE (fun i => scO (gD vs i) (-szD (topD vs))) vs.length
def upA (p : Nat) (v : DL) (made : List DL) : Nat → Except Int DL := runE v fun k w => lessR p w (made.getD k [])
def upR (p : Nat) (v : DL) (made : List DL) : Except Int DL := bnd (upA p v made made.length) scaledR
def colOf (a : List DL) (j : Nat) : DL := a.map fun r => gD r j
def colA (p : Nat) (a : List DL) : Nat → Except Int (List DL) := runE [] fun j cols => bnd (upR p (colOf a j) cols) fun v => .ok (cols ++ [v])
def turned (n : Nat) (cols : List DL) : List DL := (List.range n).map fun i => cols.map fun c => gD c i
def colsR (p : Nat) (a : List DL) : Except Int (List DL) := bnd (colA p a a.length) fun cols => .ok (turned a.length cols)

abbrev OkL (l : DL) : Prop := ∀ x ∈ l, OkD x
theorem OkL.at {l : DL} (h : OkL l) (i : Nat) : OkD (gD l i) := by
  by_cases hi : i < l.length
  · exact h _ (gD_mem hi)
  · unfold gD; simp only [List.getD, List.getElem?_eq_none (Nat.le_of_not_lt hi), Option.getD_none]; exact OkD.zero
theorem dotS_ok {p : Nat} {us vs : DL} {i : Nat} {s t : Dyadic} (h : dotS p us vs i s = .ok t) : OkD t := by
  obtain ⟨x, h1, h2⟩ := bnd_cases h
  split at h2
  · injection h2 with h2; subst h2; have := okO_cases h1; rw [this.1]; exact this.2
  · have := okO_cases h2; rw [this.1]; exact this.2
theorem dotA_ok {p : Nat} {us vs : DL} {n : Nat} {t : Dyadic} (h : dotA p us vs n = .ok t) : OkD t := by
  cases n with
  | zero => injection h with h; rw [← h]; exact OkD.zero
  | succ n => obtain ⟨s, _, h2⟩ := bnd_cases h; exact dotS_ok h2
theorem dotA_c {p : Nat} {us vs : DL} : ∀ {n : Nat} {c : Int}, dotA p us vs n = .error c → c = 2
  | 0, c, h => by cases h
  | n + 1, c, h => by
    cases h1 : dotA p us vs n with
    | error c' => have := dotA_c h1; unfold dotA at h h1; rw [runE, h1] at h; injection h with h; omega
    | ok s =>
      unfold dotA at h h1
      rw [runE_step h1] at h
      unfold dotS mulO okO at h
      split at h
      · simp only [bnd_ok] at h
        split at h
        · cases h
        · split at h
          · cases h
          · injection h with h; omega
      · injection h with h; omega
theorem lessR_ok {p : Nat} {vs us l : DL} (h : lessR p vs us = .ok l) : OkL l ∧ l.length = vs.length := by
  obtain ⟨a, _, h⟩ := bnd_cases h
  obtain ⟨b, _, h⟩ := bnd_cases h
  obtain ⟨c, _, h⟩ := bnd_cases h
  exact ⟨bldE_all h fun i y _ hy => by obtain ⟨z, _, h3⟩ := bnd_cases hy; have := okO_cases h3; rw [this.1]; exact this.2, (bldE_spec h).1⟩
theorem scaledR_ok {vs l : DL} (h : scaledR vs = .ok l) : OkL l ∧ l.length = vs.length := by
  unfold scaledR at h
  split at h
  · cases h
  · exact ⟨bldE_all h fun i y _ hy => by have := okO_cases hy; rw [this.1]; exact this.2, (bldE_spec h).1⟩
theorem upA_ok {p : Nat} {v l : DL} {made : List DL} {n : Nat} (hv : OkL v) (h : upA p v made n = .ok l) : OkL l ∧ l.length = v.length :=
  runE_all (t := l) (fun _ l => OkL l ∧ l.length = v.length) ⟨hv, rfl⟩ (fun n s s' hq hs => by have := lessR_ok hs; exact ⟨this.1, this.2.trans hq.2⟩) n l h
theorem upR_ok {p : Nat} {v l : DL} {made : List DL} (hv : OkL v) (h : upR p v made = .ok l) : OkL l ∧ l.length = v.length := by
  obtain ⟨w, h1, h2⟩ := bnd_cases h
  have := scaledR_ok h2
  exact ⟨this.1, this.2.trans (upA_ok hv h1).2⟩
theorem colOf_ok {a : List DL} (ha : ∀ r ∈ a, OkL r) (j : Nat) : OkL (colOf a j) := by
  intro x hx
  obtain ⟨r, hr, rfl⟩ := List.mem_map.1 hx
  exact (ha r hr).at j
theorem colOf_len (a : List DL) (j : Nat) : (colOf a j).length = a.length := by simp [colOf]
theorem colA_ok {p : Nat} {a cols : List DL} {n : Nat} (ha : ∀ r ∈ a, OkL r) (h : colA p a n = .ok cols) : cols.length = n ∧ ∀ c ∈ cols, OkL c ∧ c.length = a.length :=
  runE_all (t := cols) (fun n cols => cols.length = n ∧ ∀ c ∈ cols, OkL c ∧ c.length = a.length) ⟨rfl, fun c hc => by cases hc⟩ (fun n s s' hq hs => by
    obtain ⟨v, h1, h2⟩ := bnd_cases hs
    injection h2 with h2; subst h2
    have := upR_ok (colOf_ok ha n) h1
    refine ⟨by simp [hq.1], fun c hc => ?_⟩
    rcases List.mem_append.1 hc with hc | hc
    · exact hq.2 c hc
    · rw [List.mem_singleton.1 hc]; exact ⟨this.1, this.2.trans (colOf_len a n)⟩) n cols h

/-! ### Places above the point -/
theorem abD_nn (d : Dyadic) : 0 ≤ abD d := dy_nn _ _
theorem abD_zero {d : Dyadic} : abD d = 0 ↔ d = 0 := by unfold abD; rw [dy_zero, fN_eq_zero]
theorem abD_ok {d : Dyadic} (h : OkD d) : OkD (abD d) := by
  unfold OkD at *
  by_cases h0 : d = 0
  · subst h0; exact OkD.zero
  · unfold abD
    have h1 := nuOf_f d
    have := nuOf_odd (neg := false) (e := fE d) (fN_mod h0)
    rw [this]; rw [h1] at h; exact ⟨h.len, h.lo, h.hi⟩
theorem szD_ab {d : Dyadic} (h0 : d ≠ 0) : szD (abD d) = szD d := by
  unfold szD abD; rw [fE_odd (fN_mod h0), fN_odd (fN_mod h0)]
theorem szD_mono {a b : Dyadic} (ha : a ≠ 0) (hb : b ≠ 0) (h : abD a ≤ abD b) : szD a ≤ szD b := by
  rcases Int.lt_or_le (szD b) (szD a) with h1 | h1
  · have h2 := size_lt (n := fN b) (m := fN a) (ea := fE b) (eb := fE a) (fun e => ha (fN_eq_zero.1 e)) (by unfold szD at h1; omega)
    exact absurd h (by unfold abD; grind)
  · exact h1
theorem topA_nn (vs : DL) : ∀ n, 0 ≤ topA vs n
  | 0 => by unfold topA; grind
  | n + 1 => by unfold topA; split; exact abD_nn _; exact topA_nn vs n
theorem topA_or (vs : DL) : ∀ n, topA vs n = 0 ∨ ∃ i, i < n ∧ topA vs n = abD (gD vs i) ∧ gD vs i ≠ 0
  | 0 => .inl rfl
  | n + 1 => by
    unfold topA
    have h0 := topA_nn vs n
    split
    · rename_i h1
      exact .inr ⟨n, by omega, rfl, fun e => by rw [e] at h1; have : abD 0 = 0 := abD_zero.2 rfl; grind⟩
    · rcases topA_or vs n with h | ⟨i, h1, h2, h3⟩
      · exact .inl h
      · exact .inr ⟨i, by omega, h2, h3⟩
theorem topA_ge (vs : DL) : ∀ n i, i < n → abD (gD vs i) ≤ topA vs n
  | 0, i, h => by cases h
  | n + 1, i, h => by
    unfold topA
    by_cases e : i = n
    · subst e; split <;> grind
    · have := topA_ge vs n i (by omega)
      split <;> grind
theorem topA_ok {vs : DL} (h : OkL vs) : ∀ n, OkD (topA vs n)
  | 0 => OkD.zero
  | n + 1 => by unfold topA; split; exact abD_ok (h.at n); exact topA_ok h n
/-- The same from the places alone. -/
def stopA (vs : DL) : Nat → Int × Bool
  | 0 => (0, false)
  | n + 1 => if gD vs n = 0 then stopA vs n else if (stopA vs n).2 = false ∨ (stopA vs n).1 < szD (gD vs n) then (szD (gD vs n), true) else stopA vs n
theorem stopA_eq (vs : DL) : ∀ n, stopA vs n = if topA vs n = 0 then (0, false) else (szD (topA vs n), true)
  | 0 => rfl
  | n + 1 => by
    unfold stopA topA
    rw [stopA_eq vs n]
    have h0 := topA_nn vs n
    by_cases hz : gD vs n = 0
    · rw [if_pos hz, hz, abD_zero.2 rfl, if_neg (show ¬ topA vs n < 0 by grind)]
    · rw [if_neg hz]
      have hp : 0 < abD (gD vs n) := by have := abD_nn (gD vs n); have h2 : abD (gD vs n) ≠ 0 := fun e => hz (abD_zero.1 e); grind
      have ha : abD (gD vs n) ≠ 0 := by grind
      by_cases ht : topA vs n = 0
      · simp only [ht, if_true, true_or]
        rw [if_pos hp, if_neg ha, szD_ab hz]
      · simp only [ht, if_false, Bool.true_eq_false, false_or]
        obtain ⟨i, hi, e1, e2⟩ := (topA_or vs n).resolve_left ht
        by_cases hlt : topA vs n < abD (gD vs n)
        · rw [if_pos hlt, if_neg ha, szD_ab hz]
          split
          · rfl
          · rename_i h2
            have := szD_mono e2 hz (by rw [← e1]; grind)
            rw [e1, szD_ab e2] at h2 ⊢
            rw [show szD (gD vs i) = szD (gD vs n) by omega]
        · rw [if_neg hlt, if_neg ht]
          have := szD_mono hz e2 (by rw [← e1]; grind)
          rw [e1, szD_ab e2]
          rw [if_neg (by omega)]

end Go.V

/- Package ortho over values as data: columns at right angles, about. -/
import Derived.Test.YtolccagkfobbmaaGreatDoorJ4
set_option linter.unusedSimpArgs false
set_option linter.unusedVariables false
set_option maxRecDepth 100000
namespace Go.V
open Go Go.RowKit Go.Proofs
def qJ5_7_21 : List (Nat × Nat) := [(0, 0), (1, 0), (2, 0), (3, 0), (4, 0), (5, 2), (6, 1), (7, 4), (8, 3), (9, 0), (10, 3)]
attribute [go_sem] qJ5_7_21

def rowOf (cols : List DL) (i : Nat) : DL := cols.map fun c => gD c i
theorem rowOf_app (cols : List DL) (v : DL) (i : Nat) : rowOf (cols ++ [v]) i = rowOf cols i ++ [gD v i] := by unfold rowOf; rw [List.map_append]; rfl
def okR : Except Int (List DL) → List DL × Int
  | .ok l => (l, 0)
  | .error c => ([], c)
/-- Rows of numbers and an error's number. -/
def NRE (q : List DL × Int) : D := .tup [NR q.1, i64 q.2]
theorem okR_ok {l : List DL} : okR (.ok l) = (l, 0) := rfl
theorem okR_no {c : Int} : okR (.error c) = ([], c) := rfl
attribute [go_sem] NRE okR_ok okR_no
theorem RowD.ones {S : Store} {k : Nm} {s : Nat} {d : D} {els : List (List D)} (h : RowD S k s d els) : d.one = true := by
  rcases h with ⟨rfl, _⟩ | ⟨b, cap, p, rfl, _⟩ <;> rfl
/-- append to a row that has its name, or none yet: then it gets the step's own. -/
theorem RowD.appK {S : Store} {K : D → Store → Prop} {q : SlZ} {k kd k2 : Nm} {dd : D} {els new : List (List D)} {b n cap p : Nat} (h : RowD S k q.s dd els) (hk : k ≠ k2) (hkd : kd ≠ k2) (hn : n = new.length) (h1 : ∀ es ∈ new, es.all D.one = true) (hl : els.length + new.length ≤ 140737488355328)
    (hb : (els.length + new.length) * q.bytes ≤ 140737488355328) (hK : ∀ d' S' k', (k' = k ∨ k' = kd) → RowD S' k' q.s d' (els ++ new) → (∀ j, j ≠ k' → S' j = updS S k2 (some ⟨b, q.s, p, new⟩) j) → K d' S') :
    appD q (updS S k2 (some ⟨b, q.s, p, new⟩)) kd dd (.own k2 b 0 n cap q.s) K := by
  rcases h with ⟨rfl, rfl⟩ | ⟨b0, cap0, p0, rfl, hS⟩
  · exact RowD.appL (k := kd) RowD.nil hkd hn h1 hl hb fun d' S' h2 h3 => hK d' S' kd (.inr rfl) h2 h3
  · have := RowD.appL (K := K) (cap := cap) (p := p) (k2 := k2) (b := b) (RowD.own (cap := cap0) rfl hS) hk hn h1 hl hb fun d' S' h2 h3 => hK d' S' k (.inl rfl) h2 h3
    rw [appD_own] at this ⊢
    exact this
def zU : List D := [bl false, i64 0, .nil]
/-- A column as far as it is filled. -/
def clD (l : DL) (n i : Nat) : List (List D) := rS eU (nus (l.take i)) ++ List.replicate (n - i) zU
theorem clD_0 (l : DL) (n : Nat) : clD l n 0 = List.replicate n zU := rfl
theorem clD_len {l : DL} {n i : Nat} (hl : l.length = n) (hi : i ≤ n) : (clD l n i).length = n := by
  unfold clD; rw [List.length_append, rS_len, nus_len, List.length_replicate, List.length_take]; omega
theorem clD_get {l : DL} {n i : Nat} (hl : l.length = n) (hi : i < n) : (clD l n i)[i]? = some zU := by
  unfold clD
  have h : (rS eU (nus (l.take i))).length = i := by rw [rS_len, nus_len, List.length_take]; omega
  rw [List.getElem?_append_right (by omega), h, Nat.sub_self, List.getElem?_replicate, if_pos (by omega)]
theorem clD_set {l : DL} {n i : Nat} (hl : l.length = n) (hi : i < n) : (clD l n i).set i (bU (nuOf (gD l i))) = clD l n (i + 1) := by
  unfold clD
  have h : (rS eU (nus (l.take i))).length = i := by rw [rS_len, nus_len, List.length_take]; omega
  rw [List.set_append_right _ _ (by omega), h, Nat.sub_self, show n - i = (n - (i + 1)) + 1 by omega, List.replicate_succ, List.set_cons_zero]
  rw [show l.take (i + 1) = l.take i ++ [gD l i] by rw [List.take_add_one, List.getElem?_eq_getElem (by omega), gD_get (by omega)]; rfl, ← rS_u, List.append_assoc]; rfl
theorem clD_all {l : DL} {n : Nat} (hl : l.length = n) : clD l n n = rS eU (nus l) := by
  unfold clD; rw [Nat.sub_self, List.take_of_length_le (by omega)]; simp
theorem gD_colOf {a : List DL} {i j : Nat} (hi : i < a.length) : gD (colOf a j) i = gD (a.getD i []) j := by
  unfold colOf gD
  simp only [List.getD, List.getElem?_map, List.getElem?_eq_getElem hi, Option.map_some, Option.getD_some]
theorem rS_r {cols : List DL} {v : DL} : rS eR (cols.map nus) ++ [[.g (eS eU (nus v))]] = rS eR ((cols ++ [v]).map nus) := by
  rw [List.map_append, ← rS_app]; rfl
theorem set_map {ds : List D} {i : Nat} {d : D} : (ds.map fun d => [d]).set i [d] = (ds.set i d).map fun d => [d] := by rw [List.map_set]

abbrev RowsI (S : Store) (ds : List D) (f : Nat → DL) : Prop := ∀ i d, ds[i]? = some d → RowD S (.r 0 i) 3 d (rS eU (nus (f i)))
theorem RowsI.up {S S' : Store} {ds : List D} {f : Nat → DL} (h : RowsI S ds f) (hS : ∀ i, S' (.r 0 i) = S (.r 0 i)) : RowsI S' ds f := fun i d hd => (h i d hd).up (hS i)
theorem RowsI.upd {S : Store} {ds : List D} {f : Nat → DL} {d : Nat} {x : Option Blk} (h : RowsI S ds f) : RowsI (updS S (.l d) x) ds f := h.up fun i => updS_ne (by simp)
theorem RowD.updl {S : Store} {k : Nm} {s d : Nat} {dd : D} {els : List (List D)} {x : Option Blk} (h : RowD S k s dd els) (hk : k ≠ .l d) : RowD (updS S (.l d) x) k s dd els := h.up (updS_ne hk)
/-- What stays through the rounds. -/
structure ColI (a : List DL) (p j bo : Nat) (ds : List D) (e : DEnv) (S : Store) : Prop where
  e0 : e 0 = .g (eS eR (a.map nus))
  e1 : e 1 = i64 p
  e6 : e 6 = .own (.l 25) bo 0 a.length a.length 1
  e8 : e 8 = i64 0
  e27 : e 27 = i64 a.length
  e28 : e 28 = i64 j
  s25 : S (.l 25) = some ⟨bo, 1, 0, ds.map fun d => [d]⟩
  dl : ds.length = a.length

set_option maxHeartbeats 4000000 in
theorem p_oCols {p : Nat} {a : List DL} (ha : ∀ r ∈ a, OkL r) (hs : ∀ r ∈ a, r.length = a.length) (h1 : 1 ≤ a.length) (h4 : a.length ≤ 4) (h8 : 8 ≤ p) (h256 : p ≤ 256) : PC Tryz.prog 7 [NR a, i64 p] fun d => d = NRE (okR (colsR p a)) := by
  have hmn : ∀ r ∈ a.map nus, ∃ l ∈ a, r = nus l := fun r hr => by obtain ⟨l, h, rfl⟩ := List.mem_map.1 hr; exact ⟨l, h, rfl⟩
  have pQ := p_oSquare (a := a.map nus) (fun r hr x hx => by
      obtain ⟨l, hl, rfl⟩ := hmn r hr
      obtain ⟨d, hd, rfl⟩ := List.mem_map.1 hx
      exact (((ha l hl) d hd).sz).b) (by rw [List.length_map]; omega) (fun r hr => by
      obtain ⟨l, hl, rfl⟩ := hmn r hr
      rw [nus_len, hs l hl]; omega)
  rw [show sqB (a.map nus) = true by
    unfold sqB
    rw [decide_eq_true (show SqR (a.map nus) from fun r hr => by
      obtain ⟨l, hl, rfl⟩ := hmn r hr
      refine ⟨by rw [nus_len, List.length_map, hs l hl], fun x hx => ?_⟩
      obtain ⟨d, hd, rfl⟩ := List.mem_map.1 hx
      rw [rightB_nuOf]; exact decide_eq_true (ha l hl d hd)), List.length_map, decide_eq_true h1, decide_eq_true h4]; rfl] at pQ
  have pV := p_Valid (p := (p : Int))
  rw [okP_of h8 h256] at pV
  unfold NR
  generalize hr : colsR p a = r
  unfold colsR at hr
  have d1 := @dl 21 qJ5_7_21
  refine PB (rs := [.tmp 4, .tmp 5]) Tryz.func7 ?_
  repeat (first | with_reducible refine pv_seq fun K hK => ?_ | ((with_reducible first | refine hK _ _ ?_ | (clear hK; refine hK _ _ ?_) | (clear hK; clear hK; refine hK _ _ ?_)); clear hK; try clear K) | refine W ?_ | exact Z | with_reducible intro b)
  have Jbad : ∀ (e : DEnv) (S : Store) (c : Int), r = .error c → (c = 3 ∨ c = 2) → e 8 = i64 c → K e S := by
    intro e S c er hc g8
    subst er
    rcases hc with rfl | rfl
    · have ft := g8
      exact Wk
    · have ft := g8
      exact Wk
  have Jok : ∀ (e : DEnv) (S : Store) (cols : List DL) (b : Nat) (ds : List D), colA p a a.length = .ok cols → ColI a p a.length b ds e S → RowsI S ds (rowOf cols) → K e S := by
    intro e S cols b ds hA hI hds
    have er : r = .ok (turned a.length cols) := by rw [← hr, hA]; rfl
    subst er
    obtain ⟨g0, g1, g6, g8, g27, g28, s25, dl⟩ := hI
    have ft := And.intro g6 g8
    repeat (first | with_reducible refine pv_stop 26 ?_ | with_reducible refine pv_seq fun K hK => ?_ | ((with_reducible first | refine hK _ _ ?_ | (clear hK; refine hK _ _ ?_) | (clear hK; clear hK; refine hK _ _ ?_)); clear hK; try clear K) | refine W ?_ | exact Z | with_reducible intro b)
    refine ⟨fun K1 q1 hC => ?_⟩
    repeat (first | with_reducible refine pv_seq fun K hK => ?_ | ((with_reducible first | refine hK _ _ ?_ | (clear hK; refine hK _ _ ?_) | (clear hK; clear hK; refine hK _ _ ?_)); clear hK; try clear K) | refine W0 ?_ | exact Z | with_reducible intro b)
    refine hC _ _ (Recast.rows (f := eU) (s := 3) (rows := (List.range a.length).map fun i => nus (rowOf cols i)) (fun i => .r 0 i) s25 (fun i => by simp) (fun i j h => by injection h) (by simpa using dl) (fun i d row h2 h3 => ?_) (fun S' h2 _ => q1 _ _ ?_))
    · have hi : i < a.length := by have := (List.getElem?_eq_some_iff.1 h2).1; omega
      rw [List.getElem?_map, List.getElem?_range hi] at h3
      injection h3 with h3
      subst h3
      exact hds i d h2
    · have hL : (rS (fun r => [eS eU r]) ((List.range a.length).map fun i => nus (rowOf cols i))).length = a.length := by rw [rS_len]; simp
      have hT := List.take_of_length_le (Nat.le_of_eq hL)
      have hP := pureLL_rS (f := fun r => [eS eU r]) (xs := (List.range a.length).map fun i => nus (rowOf cols i))
      have hF : G.sl (((List.range a.length).map fun i => nus (rowOf cols i)).map fun r => [eS eU r]) = eS eR ((turned a.length cols).map nus) := by
        simp only [turned, eS, List.map_map]; rfl
      generalize rS (fun r => [eS eU r]) ((List.range a.length).map fun i => nus (rowOf cols i)) = E at *
      have ft := And.intro h2 (And.intro hL (And.intro hT (And.intro hP hF)))
      exact Wk
  clear hK
  refine pv_loop (fun e S => ∃ (j : Nat) (cols : List DL) (bo : Nat) (ds : List D), j ≤ a.length ∧ colA p a j = .ok cols ∧ ColI a p j bo ds e S ∧ RowsI S ds (rowOf cols) ∧ RowD S (.l 61) 1 (e 7) (rS eR (cols.map nus))) (fun e _ => a.length - (intD (e 28)).toNat) ?_ ?_
  · refine ⟨0, [], _, List.replicate a.length .nil, Nat.zero_le _, rfl, ⟨Zr, Zr, Zr, Zr, Zr, Zr, by rw [List.map_replicate]; exact Zr, List.length_replicate⟩, fun i d hd => ?_, .inl ⟨Zr, rfl⟩⟩
    rw [List.getElem?_replicate] at hd
    split at hd
    · injection hd with hd; subst hd; exact .nil
    · cases hd
  · rintro e S ⟨j, cols, bo, ds, hj, hA, ⟨g0, g1, g6, g8, g27, g28, s25, dl⟩, hds, hmd⟩
    have hcol := colA_ok ha hA
    have ft := And.intro g0 (And.intro g1 (And.intro g6 (And.intro g8 (And.intro g27 (And.intro g28 s25)))))
    repeat (first | with_reducible refine pv_seq fun K hK => ?_ | ((with_reducible first | refine hK _ _ ?_ | (clear hK; refine hK _ _ ?_) | (clear hK; clear hK; refine hK _ _ ?_)); clear hK; try clear K) | refine W0 ?_ | exact Z | with_reducible intro b)
    refine pv_cdD (fun ht => ?_) (fun ht => ?_)
    · have hmz : (intD (e 28)).toNat = j := by rw [g28]; rfl
      have hvl := colOf_len a j
      have pU := p_oUp (v := colOf a j) (made := cols) (colOf_ok ha j) (fun c hc => ⟨(hcol.2 c hc).1, by rw [(hcol.2 c hc).2, hvl]⟩) (by omega) (by omega) (by rw [hcol.1]; omega) h8 h256
      have st : colA p a (j + 1) = bnd (upR p (colOf a j) cols) fun v => .ok (cols ++ [v]) := runE_step hA
      unfold ND NR at pU
      repeat (first | with_reducible refine pv_seq fun K hK => ?_ | ((with_reducible first | refine hK _ _ ?_ | (clear hK; refine hK _ _ ?_) | (clear hK; clear hK; refine hK _ _ ?_)); clear hK; try clear K) | refine W0 ?_ | exact Z | with_reducible intro b)
      have Jv : ∀ (e : DEnv) (S : Store) (bv : Nat), ColI a p j bo ds e S → RowsI S ds (rowOf cols) → RowD S (.l 61) 1 (e 7) (rS eR (cols.map nus)) → e 10 = .own (.l 33) bv 0 a.length a.length 3 → S (.l 33) = some ⟨bv, 3, 0, rS eU (nus (colOf a j))⟩ → K e S := by
        rintro e S bv ⟨g0, g1, g6, g8, g27, g28, s25, dl⟩ hds hmd g10 s33
        have hL : (rS eU (nus (colOf a j))).length = a.length := by rw [rS_len, nus_len, hvl]
        have hT := List.take_of_length_le (Nat.le_of_eq hL)
        have hP := pureLL_rS (f := eU) (xs := nus (colOf a j))
        generalize rS eU (nus (colOf a j)) = E at *
        have ft := And.intro g0 (And.intro g1 (And.intro g6 (And.intro g8 (And.intro g27 (And.intro g28 (And.intro s25 (And.intro g10 (And.intro s33 (And.intro hL (And.intro hT hP))))))))))
        repeat (first | with_reducible refine pv_seq fun K hK => ?_ | ((with_reducible first | refine hK _ _ ?_ | (clear hK; refine hK _ _ ?_) | (clear hK; clear hK; refine hK _ _ ?_)); clear hK; try clear K) | refine W0 ?_ | exact Z | with_reducible intro b)
        refine PFC.coe ?_
        try simp -implicitDefEqProofs only [ft, go_sem, seval]
        refine (hmd.updl (by decide)).coeD fun S1 hmd1 hS1 => ?_
        have s25a : S1 (.l 25) = some ⟨bo, 1, 0, ds.map fun d => [d]⟩ := by rw [hS1 _ (by decide)]; exact Zr
        have hds1 : RowsI S1 ds (rowOf cols) := hds.up fun i => by rw [hS1 _ (by simp), updS_ne (by simp)]
        cases hu : upR p (colOf a j) cols with
        | error c =>
          rw [hu, okL_no] at pU
          rw [hu, bnd_no] at st
          have er : r = .error c := by rw [← hr, show colA p a a.length = .error c from runE_err st (by omega)]; rfl
          rcases upR_c hu with rfl | rfl
          · try simp -implicitDefEqProofs only [ft, go_sem, seval]
            repeat (first | with_reducible refine pv_seq fun K hK => ?_ | ((with_reducible first | refine hK _ _ ?_ | (clear hK; refine hK _ _ ?_) | (clear hK; clear hK; refine hK _ _ ?_)); clear hK; try clear K) | refine W ?_ | exact Z | with_reducible intro b)
            exact Jbad _ _ 3 er (.inl rfl) Zr
          · try simp -implicitDefEqProofs only [ft, go_sem, seval]
            repeat (first | with_reducible refine pv_seq fun K hK => ?_ | ((with_reducible first | refine hK _ _ ?_ | (clear hK; refine hK _ _ ?_) | (clear hK; clear hK; refine hK _ _ ?_)); clear hK; try clear K) | refine W ?_ | exact Z | with_reducible intro b)
            exact Jbad _ _ 2 er (.inr rfl) Zr
        | ok v =>
          rw [hu, okL_ok] at pU
          rw [hu, bnd_ok] at st
          have hv := upR_ok (colOf_ok ha j) hu
          have hvn : v.length = a.length := hv.2.trans hvl
          try simp -implicitDefEqProofs only [ft, go_sem, seval]
          repeat (first | with_reducible refine pv_seq fun K hK => ?_ | ((with_reducible first | refine hK _ _ ?_ | (clear hK; refine hK _ _ ?_) | (clear hK; clear hK; refine hK _ _ ?_)); clear hK; try clear K) | refine W ?_ | exact Z | with_reducible intro b)
          refine RowD.appL hmd1 (by decide) rfl (by simp [D.one]) ?_ ?_ fun d' S2 hmd2 hS2 => ?_
          · rw [rS_len, nr_len, hcol.1]; simp; omega
          · rw [rS_len, nr_len, hcol.1]; simp; omega
          rw [show [[D.g (eS eU (nus v))]] = [[.g (eS eU (nus v))]] from rfl, rS_r] at hmd2
          have s25b : S2 (.l 25) = some ⟨bo, 1, 0, ds.map fun d => [d]⟩ := by rw [hS2 _ (by decide), updS_ne (by decide)]; exact s25a
          have hds2 : RowsI S2 ds (rowOf cols) := hds1.up fun i => by rw [hS2 _ (by simp), updS_ne (by simp)]
          have ft := And.intro g0 (And.intro g1 (And.intro g6 (And.intro g8 (And.intro g27 (And.intro g28 s25b)))))
          repeat (first | with_reducible refine pv_seq fun K hK => ?_ | ((with_reducible first | refine hK _ _ ?_ | (clear hK; refine hK _ _ ?_) | (clear hK; clear hK; refine hK _ _ ?_)); clear hK; try clear K) | refine W0 ?_ | exact Z | with_reducible intro b)
          have J3 : ∀ (e : DEnv) (S : Store) (ds' : List D), ColI a p j bo ds' e S → RowsI S ds' (rowOf (cols ++ [v])) → RowD S (.l 61) 1 (e 7) (rS eR ((cols ++ [v]).map nus)) → K e S := by
            rintro e S ds' ⟨g0, g1, g6, g8, g27, g28, s25, dl⟩ hds hmd
            have ft := And.intro g0 (And.intro g1 (And.intro g6 (And.intro g8 (And.intro g27 (And.intro g28 s25)))))
            repeat (first | with_reducible refine pv_seq fun K hK => ?_ | ((with_reducible first | refine hK _ _ ?_ | (clear hK; refine hK _ _ ?_) | (clear hK; clear hK; refine hK _ _ ?_)); clear hK; try clear K) | refine W0 ?_ | exact Z | with_reducible intro b)
            refine ⟨⟨j + 1, cols ++ [v], bo, ds', by omega, st, ⟨Zr, Zr, Zr, Zr, Zr, Zr, s25, dl⟩, hds, hmd⟩, by rw [hmz]; simp only [intD]; omega⟩
          clear hK
          refine pv_loop (fun e S => ∃ (i : Nat) (ds' : List D), i ≤ a.length ∧ ColI a p j bo ds' e S ∧ RowsI S ds' (fun k => if k < i then rowOf (cols ++ [v]) k else rowOf cols k) ∧ RowD S (.l 61) 1 (e 7) (rS eR ((cols ++ [v]).map nus)) ∧ e 62 = .g (eS eU (nus v)) ∧ e 63 = i64 a.length ∧ e 64 = i64 i) (fun e _ => a.length - (intD (e 64)).toNat) ?_ ?_
          · have ft := And.intro g0 (And.intro g1 (And.intro g6 (And.intro g8 (And.intro g27 (And.intro g28 s25)))))
            exact ⟨0, ds, Nat.zero_le _, ⟨Zr, Zr, Zr, Zr, Zr, Zr, s25b, dl⟩, fun i d hd => hds2 i d hd, hmd2, Zr, by rw [← hvn]; exact Zr, Zr⟩
          · rintro e S ⟨i, ds', hi, ⟨g0, g1, g6, g8, g27, g28, s25, dl⟩, hds, hmd, g62, g63, g64⟩
            have hmy : (intD (e 64)).toNat = i := by rw [g64]; rfl
            have ft := And.intro g0 (And.intro g1 (And.intro g6 (And.intro g8 (And.intro g27 (And.intro g28 (And.intro s25 (And.intro g62 (And.intro g63 g64))))))))
            repeat (first | with_reducible refine pv_seq fun K hK => ?_ | ((with_reducible first | refine hK _ _ ?_ | (clear hK; refine hK _ _ ?_) | (clear hK; clear hK; refine hK _ _ ?_)); clear hK; try clear K) | refine W0 ?_ | exact Z | with_reducible intro b)
            refine pv_cdD (fun hy => ?_) (fun hy => ?_)
            · have e2 := nus_get (l := v) (i := i) (by omega)
              have hil : i < ds'.length := by omega
              have hd : ds'[i]? = some ds'[i] := List.getElem?_eq_getElem hil
              generalize ds'[i] = d at hd
              have eD : (ds'.map fun d => [d])[i]? = some [d] := by rw [List.getElem?_map, hd]; rfl
              have hrow := hds i d hd
              simp only [Nat.lt_irrefl, if_false] at hrow
              have hset : ∀ x : D, (ds'.map fun d => [d]).set i [x] = (ds'.set i x).map fun d => [d] := fun x => set_map
              have hlen : (rS eU (nus (rowOf cols i))).length ≤ 4 := by rw [rS_len, nus_len]; unfold rowOf; rw [List.length_map, hcol.1]; omega
              have hnew : rS eU (nus (rowOf cols i)) ++ [bU (nuOf (gD v i))] = rS eU (nus (rowOf (cols ++ [v]) i)) := by rw [rS_u, rowOf_app]
              generalize nuOf (gD v i) = X at *
              have ft := And.intro g0 (And.intro g1 (And.intro g6 (And.intro g8 (And.intro g27 (And.intro g28 (And.intro s25 (And.intro g62 (And.intro g63 (And.intro g64 (And.intro e2 eD))))))))))
              repeat (first | with_reducible refine pv_stopB 5 ?_ | with_reducible refine pv_seq fun K hK => ?_ | ((with_reducible first | refine hK _ _ ?_ | (clear hK; refine hK _ _ ?_) | (clear hK; clear hK; refine hK _ _ ?_)); clear hK; try clear K) | refine W ?_ | exact Z | with_reducible intro b)
              refine ⟨fun K1 q1 hC => ?_⟩
              have J1 : ∀ (e : DEnv) (S2 : Store) (d2 : D), e 0 = .g (eS eR (a.map nus)) → e 1 = i64 p → e 6 = .own (.l 25) bo 0 a.length a.length 1 → e 8 = i64 0 → e 27 = i64 a.length → e 28 = i64 j → S2 (.l 25) = some ⟨bo, 1, 0, (ds'.set i d2).map fun d => [d]⟩ →
                  RowD S2 (.r 0 i) 3 d2 (rS eU (nus (rowOf (cols ++ [v]) i))) → (∀ k, k ≠ i → S2 (.r 0 k) = S (.r 0 k)) → RowD S2 (.l 61) 1 (e 7) (rS eR ((cols ++ [v]).map nus)) → e 62 = .g (eS eU (nus v)) → e 63 = i64 a.length → e 64 = i64 i → K1 e S2 := by
                intro e S2 d2 g0 g1 g6 g8 g27 g28 s25 hr2 hk2 hmd2 g62 g63 g64
                refine q1 _ _ ?_
                have ft := And.intro g0 (And.intro g1 (And.intro g6 (And.intro g8 (And.intro g27 (And.intro g28 (And.intro s25 (And.intro g62 (And.intro g63 g64))))))))
                repeat (first | with_reducible refine pv_seq fun K hK => ?_ | ((with_reducible first | refine hK _ _ ?_ | (clear hK; refine hK _ _ ?_) | (clear hK; clear hK; refine hK _ _ ?_)); clear hK; try clear K) | refine W0 ?_ | exact Z | with_reducible intro b)
                refine ⟨⟨i + 1, ds'.set i d2, by omega, ⟨Zr, Zr, Zr, Zr, Zr, Zr, s25, by simpa using dl⟩, fun k x hx => ?_, hmd2, Zr⟩, by first | (simp only [intD]; omega) | (rw [hmy]; simp only [intD]; omega)⟩
                rw [List.getElem?_set] at hx
                by_cases hki : i = k
                · subst hki
                  rw [if_pos rfl, if_pos hil] at hx
                  injection hx with hx
                  subst hx
                  dsimp only
                  rw [if_pos (by omega)]; exact hr2
                · rw [if_neg hki] at hx
                  have h5 := hds k x hx
                  dsimp only
                  rw [show (if k < i + 1 then rowOf (cols ++ [v]) k else rowOf cols k) = if k < i then rowOf (cols ++ [v]) k else rowOf cols k by
                    by_cases h6 : k < i
                    · rw [if_pos h6, if_pos (by omega)]
                    · rw [if_neg h6, if_neg (by omega)]]
                  exact h5.up (hk2 k (fun e => hki e.symm))
              repeat' (first | with_reducible refine pv_seq fun K hK => ?_ | ((with_reducible first | refine hK _ _ ?_ | (clear hK; refine hK _ _ ?_) | (clear hK; clear hK; refine hK _ _ ?_)); clear hK; try clear K) | refine W ?_ | exact Z | with_reducible intro b | with_reducible refine And.intro ?_ ?_ )
              all_goals
                refine RowD.appK (hrow.up (by rfl)) (by simp) (by decide) rfl (by simp [D.one, W64]) (by simp; omega) (by simp; omega) fun d2 S3 k2 hk2 hr2 hS3 => ?_
                have o2 := hr2.ones
                have hr3 : RowD S3 k2 3 d2 (rS eU (nus (rowOf (cols ++ [v]) i))) := by rw [← hnew]; exact hr2
                have n2 : k2 ≠ .l 25 := by rcases hk2 with rfl | rfl <;> simp
                have n6 : k2 ≠ .l 61 := by rcases hk2 with rfl | rfl <;> simp
                have s3 : S3 (.l 25) = some ⟨bo, 1, 0, ds'.map fun d => [d]⟩ := by rw [hS3 _ n2.symm]; exact Zr
                have hm3 : RowD S3 (.l 61) 1 (e 7) (rS eR ((cols ++ [v]).map nus)) := hmd.up (by rw [hS3 _ n6.symm]; simp only [updS]; rfl)
                have hk3 : ∀ k, k ≠ i → S3 (.r 0 k) = S (.r 0 k) := fun k hki => by
                  rw [hS3 _ (by rcases hk2 with rfl | rfl <;> simp [hki])]; simp only [updS]; rfl
                have ft := And.intro g0 (And.intro g1 (And.intro g6 (And.intro g8 (And.intro g27 (And.intro g28 (And.intro s3 (And.intro g62 (And.intro g63 (And.intro g64 (And.intro eD o2))))))))))
                repeat (first | with_reducible refine pv_seq fun K hK => ?_ | ((with_reducible first | refine hK _ _ ?_ | (clear hK; refine hK _ _ ?_) | (clear hK; clear hK; refine hK _ _ ?_)); clear hK; try clear K) | refine W0 ?_ | exact Z | with_reducible intro b)
                rcases hk2 with rfl | rfl
                · exact J1 _ _ d2 Zr Zr Zr Zr Zr Zr (by rw [← hset]; exact Zr) (hr3.up (updS_ne (by simp))) (fun k hki => (updS_ne (by simp)).trans (hk3 k hki)) (hm3.up (updS_ne (by decide))) Zr Zr Zr
                · rcases hr3 with ⟨_, h0⟩ | ⟨b7, c7, p7, rfl, h7⟩
                  · rw [rowOf_app] at h0; have := congrArg List.length h0; rw [rS_len, nus_len] at this; simp at this
                  · refine hC _ _ (Recast.move (.l 77) (.r 0 i) (by simp) ?_)
                    refine hC _ _ (Recast.cell (k := .l 25) (b := bo) (s := 1) (p := 0) (els := (ds'.set i (.own (.l 77) b7 0 (rS eU (nus (rowOf (cols ++ [v]) i))).length c7 3)).map fun d => [d]) (i := i) (j := 0) (es := [.own (.l 77) b7 0 (rS eU (nus (rowOf (cols ++ [v]) i))).length c7 3]) (d' := .own (.r 0 i) b7 0 (rS eU (nus (rowOf (cols ++ [v]) i))).length c7 3) ?_ ?_ rfl (fun I H v h => own_name _ h) ?_)
                    · rw [← hset]; simp only [updS]; rfl
                    · rw [List.getElem?_map, List.getElem?_set_self hil]; rfl
                    · refine J1 _ _ (.own (.r 0 i) b7 0 (rS eU (nus (rowOf (cols ++ [v]) i))).length c7 3) Zr Zr Zr Zr Zr Zr ?_ ?_ ?_ ?_ Zr Zr Zr
                      · rw [updS_at, List.set_cons_zero, set_map, List.set_set]
                      · exact .own rfl (by simp only [updS]; exact h7)
                      · intro k hki
                        rw [updS_ne (by simp), updS_ne (by simp [hki]), updS_ne (by simp), updS_ne (by simp)]; exact hk3 k hki
                      · exact hm3.up (by rw [updS_ne (by decide), updS_ne (by simp), updS_ne (by decide), updS_ne (by decide)])
            · obtain rfl : i = a.length := by omega
              repeat (first | with_reducible refine pv_seq fun K hK => ?_ | ((with_reducible first | refine hK _ _ ?_ | (clear hK; refine hK _ _ ?_) | (clear hK; clear hK; refine hK _ _ ?_)); clear hK; try clear K) | refine W0 ?_ | exact Z | with_reducible intro b)
              refine J3 _ _ ds' ⟨Zr, Zr, Zr, Zr, Zr, Zr, s25, dl⟩ (fun k d hd => ?_) hmd
              have hk : k < a.length := by have := (List.getElem?_eq_some_iff.1 hd).1; omega
              have := hds k d hd
              dsimp only at this
              rwa [if_pos hk] at this
      clear hK
      refine pv_loop (fun e S => ∃ (i bv : Nat), i ≤ a.length ∧ ColI a p j bo ds e S ∧ RowsI S ds (rowOf cols) ∧ RowD S (.l 61) 1 (e 7) (rS eR (cols.map nus)) ∧ e 9 = i64 j ∧ e 10 = .own (.l 33) bv 0 a.length a.length 3 ∧ e 34 = .g (eS eR (a.map nus)) ∧ e 35 = i64 a.length ∧ e 36 = i64 i ∧ S (.l 33) = some ⟨bv, 3, 0, clD (colOf a j) a.length i⟩) (fun e _ => a.length - (intD (e 36)).toNat) ?_ ?_
      · exact ⟨0, _, Nat.zero_le _, ⟨Zr, Zr, Zr, Zr, Zr, Zr, Zr, dl⟩, hds.upd, hmd.updl (by decide), Zr, Zr, Zr, Zr, Zr, by rw [clD_0]; exact Zr⟩
      · rintro e S ⟨i, bv, hi, ⟨g0, g1, g6, g8, g27, g28, s25, dl⟩, hds, hmd, g9, g10, g34, g35, g36, s33⟩
        have ft := And.intro g0 (And.intro g1 (And.intro g6 (And.intro g8 (And.intro g27 (And.intro g28 (And.intro s25 (And.intro g9 (And.intro g10 (And.intro g34 (And.intro g35 (And.intro g36 s33)))))))))))
        repeat (first | with_reducible refine pv_seq fun K hK => ?_ | ((with_reducible first | refine hK _ _ ?_ | (clear hK; refine hK _ _ ?_) | (clear hK; clear hK; refine hK _ _ ?_)); clear hK; try clear K) | refine W0 ?_ | exact Z | with_reducible intro b)
        refine pv_cdD (fun hw => ?_) (fun hw => ?_)
        · have e1 := nr_get (a := a) hw
          have hrl := hs _ (gR_mem hw)
          have e2 := nus_get (l := a.getD i []) (i := j) (by rw [hrl]; exact ht)
          have eE := clD_get (l := colOf a j) hvl hw
          have eN := gD_colOf (a := a) (j := j) hw
          have eT := clD_set (l := colOf a j) hvl hw
          rw [eN] at eT
          generalize clD (colOf a j) a.length i = E at *
          generalize nuOf (gD (a.getD i []) j) = X at *
          generalize a.getD i [] = row at *
          unfold zU at eE
          have ft := And.intro g0 (And.intro g1 (And.intro g6 (And.intro g8 (And.intro g27 (And.intro g28 (And.intro s25 (And.intro g9 (And.intro g10 (And.intro g34 (And.intro g35 (And.intro g36 (And.intro s33 (And.intro e1 (And.intro e2 eE))))))))))))))
          repeat (first | with_reducible refine pv_seq fun K hK => ?_ | ((with_reducible first | refine hK _ _ ?_ | (clear hK; refine hK _ _ ?_) | (clear hK; clear hK; refine hK _ _ ?_)); clear hK; try clear K) | refine W0 ?_ | exact Z | with_reducible intro b)
          refine ⟨⟨i + 1, bv, by omega, ⟨Zr, Zr, Zr, Zr, Zr, Zr, Zr, dl⟩, hds.upd, hmd.updl (by decide), Zr, Zr, by rw [← eT]; exact Zr⟩, by simp only [intD]; omega⟩
        · obtain rfl : i = a.length := by omega
          rw [clD_all hvl] at s33
          repeat (first | with_reducible refine pv_seq fun K hK => ?_ | ((with_reducible first | refine hK _ _ ?_ | (clear hK; refine hK _ _ ?_) | (clear hK; clear hK; refine hK _ _ ?_)); clear hK; try clear K) | refine W0 ?_ | exact Z | with_reducible intro b)
          exact Jv _ _ bv ⟨Zr, Zr, Zr, Zr, Zr, Zr, s25, dl⟩ hds hmd Zr s33
    · obtain rfl : j = a.length := by omega
      repeat (first | with_reducible refine pv_seq fun K hK => ?_ | ((with_reducible first | refine hK _ _ ?_ | (clear hK; refine hK _ _ ?_) | (clear hK; clear hK; refine hK _ _ ?_)); clear hK; try clear K) | refine W0 ?_ | exact Z | with_reducible intro b)
      exact Jok _ _ cols bo ds hA ⟨Zr, Zr, Zr, Zr, Zr, Zr, s25, dl⟩ hds

end Go.V

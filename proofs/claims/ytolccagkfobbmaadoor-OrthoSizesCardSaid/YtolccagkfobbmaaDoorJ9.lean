/- The statement OrthoSizes of layer 9. -/
import Derived.Test.YtolccagkfobbmaaDoorJ8
set_option linter.unusedSimpArgs false
set_option linter.unusedVariables false
set_option maxRecDepth 100000
namespace Go.V
open Go Go.RowKit Go.Proofs
def qJ9_4_29 : PT := (.lin [(0, 0), (1, 0), (2, 0), (3, 2), (4, 0), (5, 2), (6, 0), (7, 0), (8, 2), (9, 0), (10, 2)] (.fork 11 3 (.lin [(12, 0), (13, 0), (14, 0), (15, 4), (16, 3), (17, 0)] .nil) 15 4 (.lin [(11, 3), (12, 0), (13, 0), (14, 0), (16, 3), (17, 0)] .nil)))
def qJ9_4_30 : PT := (.lin [(0, 0), (1, 0), (2, 2), (3, 0), (4, 2), (5, 0), (6, 0), (7, 0), (8, 2), (9, 0), (10, 2)] (.fork 11 3 (.lin [(12, 0), (13, 0), (14, 0), (15, 4), (16, 3), (17, 0)] .nil) 15 4 (.lin [(11, 3), (12, 0), (13, 0), (14, 0), (16, 3), (17, 0)] .nil)))
attribute [go_sem] qJ9_4_29 qJ9_4_30

theorem colA_c {p : Nat} {a : List DL} {c : Int} : ∀ {n : Nat}, colA p a n = .error c → c = 3 ∨ c = 2
  | 0, h => by cases h
  | n + 1, h => by
    rcases bnd_err h with h1 | ⟨l, h1, h2⟩
    · exact colA_c (n := n) h1
    · rcases bnd_err h2 with h3 | ⟨y, h3, h4⟩
      · exact upR_c h3
      · cases h4
theorem colsR_c {p : Nat} {a : List DL} {c : Int} (h : colsR p a = .error c) : c = 3 ∨ c = 2 := by
  rcases bnd_err h with h1 | ⟨l, h1, h2⟩
  · exact colA_c h1
  · cases h2
theorem colsR_ok {p : Nat} {a x : List DL} (h : colsR p a = .ok x) : ∃ cols, colA p a a.length = .ok cols ∧ x = turned a.length cols := by
  obtain ⟨cols, h1, h2⟩ := bnd_cases h
  injection h2 with h2; exact ⟨cols, h1, h2.symm⟩
theorem turned_len {n : Nat} {cols : List DL} : (turned n cols).length = n := by unfold turned; simp
theorem turned_get {n i : Nat} {cols : List DL} (hi : i < n) : (turned n cols).getD i [] = rowOf cols i := by
  unfold turned
  simp only [List.getD, List.getElem?_map, List.getElem?_range hi, Option.map_some, Option.getD_some]; rfl
theorem rowOf_len {cols : List DL} {i : Nat} : (rowOf cols i).length = cols.length := List.length_map _
theorem rowOf_get {cols : List DL} {i j : Nat} (hj : j < cols.length) : gD (rowOf cols i) j = gD (cols.getD j []) i := by
  unfold rowOf gD
  simp only [List.getD, List.getElem?_map, List.getElem?_eq_getElem hj, Option.map_some, Option.getD_some]
theorem cmpD_ge0 {a b : Dyadic} (h : b ≤ a) : (cmpD a b < 0) = False := by
  apply eq_false; unfold cmpD; rw [if_neg (by grind)]; split <;> decide
theorem cmpD_lt0 {a b : Dyadic} (h : a < b) : (0 ≤ cmpD a b) = False := by rw [cmpD_lt h]; decide
/-- What stays. -/
structure SzI (a x : List DL) (n p b9 b10 : Nat) (e : DEnv) (S : Store) : Prop where
  e4 : e 4 = i64 n
  e5 : e 5 = .g (eS eR (a.map nus))
  e7 : e 7 = .g (eS eR (x.map nus))
  e9 : e 9 = .ptr (.l 9) b9 0 0 3
  e10 : e 10 = .ptr (.l 10) b10 0 0 3
  s9 : S (.l 9) = some ⟨b9, 3, 0, [[bl false, i64 0, .g (.sl [[.lit (.int .u64 1)]])]]⟩
  s10 : S (.l 10) = some ⟨b10, 3, 0, [[bl false, i64 (-1), .g (.sl [[.lit (.int .u64 1)]])]]⟩
set_option maxHeartbeats 4000000 in
theorem p_OrthoSizes {w : List Nat} (hb : B64 w) : PC Tryd.prog 4 [W64 w] fun d => d = bl true := by
  have pK := p_known9
  have d1 := @dr 29 qJ9_4_29
  have d2 := @dr 30 qJ9_4_30
  refine PB (rs := [.tmp 2]) Tryd.func4 ?_
  repeat (first | with_reducible refine pv_seq fun K hK => ?_ | ((with_reducible first | refine hK _ _ ?_ | (clear hK; refine hK _ _ ?_) | (clear hK; clear hK; refine hK _ _ ?_)); clear hK; try clear K) | refine W ?_ | exact Z | with_reducible intro b)
  refine p_Of (fun b0 => ?_)
  repeat (first | with_reducible refine pv_seq fun K hK => ?_ | ((with_reducible first | refine hK _ _ ?_ | (clear hK; refine hK _ _ ?_) | (clear hK; clear hK; refine hK _ _ ?_)); clear hK; try clear K) | refine W0 ?_ | exact Z | with_reducible intro b)
  refine p_dDim (i := 0) (by simp -implicitDefEqProofs only [updS, upS, if_true]; rfl) hb (by omega) (fun n n1 n4 => ?_)
  repeat (first | with_reducible refine pv_seq fun K hK => ?_ | ((with_reducible first | refine hK _ _ ?_ | (clear hK; refine hK _ _ ?_) | (clear hK; clear hK; refine hK _ _ ?_)); clear hK; try clear K) | refine W0 ?_ | exact Z | with_reducible intro b)
  refine p_dPoints (i := 1) (by simp -implicitDefEqProofs only [updS, upS, if_true]; rfl) hb (by omega) n1 n4 (fun a j al am jl => ?_)
  repeat (first | with_reducible refine pv_seq fun K hK => ?_ | ((with_reducible first | refine hK _ _ ?_ | (clear hK; refine hK _ _ ?_) | (clear hK; clear hK; refine hK _ _ ?_)); clear hK; try clear K) | refine W0 ?_ | exact Z | with_reducible intro b)
  refine p_dPrec (i := j) (by simp -implicitDefEqProofs only [updS, upS, if_true]; rfl) hb (by omega) (fun p j3 p1 p2 l3 => ?_)
  have pC := p_oCols (p := p) am.ok (fun r hr => by rw [(am r hr).1, al]) (by omega) (by omega) p1 p2
  unfold NR at pC
  cases hc : colsR p a with
  | error c =>
    rw [hc, okR_no] at pC
    rcases colsR_c hc with rfl | rfl
    · exact Wk
    · exact Wk
  | ok x =>
    rw [hc, okR_ok] at pC
    obtain ⟨cols, hA, rfl⟩ := colsR_ok hc
    have hcl := colA_ok am.ok hA
    obtain ⟨_, hcc⟩ := colA_col hA
    have hxl : (turned a.length cols).length = n := by rw [turned_len, al]
    have hxr : ∀ i, i < n → (turned a.length cols).getD i [] = rowOf cols i := fun i hi => turned_get (by omega)
    generalize turned a.length cols = x at *
    have hcO : ∀ c ∈ cols, OkL c ∧ c.length = n := fun c h => ⟨(hcl.2 c h).1, (hcl.2 c h).2.trans al⟩
    have hcn : cols.length = n := hcl.1.trans al
    have k0 : (0 < n) = True := eq_true (by omega)
    have ft := hxl
    repeat (first | with_reducible refine pv_stop 11 ?_ | with_reducible refine pv_seq fun K hK => ?_ | ((with_reducible first | refine hK _ _ ?_ | (clear hK; refine hK _ _ ?_) | (clear hK; clear hK; refine hK _ _ ?_)); clear hK; try clear K) | refine W ?_ | exact Z | with_reducible intro b)
    refine ⟨fun K1 q1 hC => ?_⟩
    repeat (first | with_reducible refine pv_seq fun K hK => ?_ | ((with_reducible first | refine hK _ _ ?_ | (clear hK; refine hK _ _ ?_) | (clear hK; clear hK; refine hK _ _ ?_)); clear hK; try clear K) | refine W0 ?_ | exact Z | with_reducible intro b)
    have J0 : ∀ (e : DEnv) (S : Store) (b9 b10 : Nat), SzI a x n p b9 b10 e S → K1 e S := by
      rintro e S b9 b10 ⟨g4, g5, g7, g9, g10, s9, s10⟩
      refine q1 _ _ ?_
      have ft := And.intro g4 (And.intro g5 (And.intro g7 (And.intro g9 (And.intro g10 (And.intro s9 s10)))))
      repeat (first | with_reducible refine pv_seq fun K hK => ?_ | ((with_reducible first | refine hK _ _ ?_ | (clear hK; refine hK _ _ ?_) | (clear hK; clear hK; refine hK _ _ ?_)); clear hK; try clear K) | refine W0 ?_ | exact Z | with_reducible intro b)
      have Jc : ∀ (e : DEnv) (S : Store), SzI a x n p b9 b10 e S → K e S := by
        rintro e S ⟨g4, g5, g7, g9, g10, s9, s10⟩
        have ft := And.intro g7 (And.intro g4 (And.intro g5 (And.intro g9 (And.intro g10 (And.intro s9 s10)))))
        repeat (first | with_reducible refine pv_seq fun K hK => ?_ | ((with_reducible first | refine hK _ _ ?_ | (clear hK; refine hK _ _ ?_) | (clear hK; clear hK; refine hK _ _ ?_)); clear hK; try clear K) | refine W0 ?_ | exact Z | with_reducible intro b)
        have Je : ∀ (e : DEnv) (S : Store), K e S := by
          intro e S
          have ft := true_and
          exact Wk
        clear hK
        obtain ⟨w0, hw0, hw1⟩ := hcc 0 (by omega)
        obtain rfl := hw1 rfl
        have hbx : ∀ i, Bx 6 20 (gD (colOf a 0) i) := gD_all Bx.zero fun y hy => by
          obtain ⟨r, hr, rfl⟩ := List.mem_map.1 hy
          exact gD_all Bx.zero (fun z hz => ((am r hr).2 z hz).bx) 0
        obtain ⟨ok_l, len_l⟩ := hcO _ (gR_mem (a := cols) (i := 0) (by omega))
        have sml := fun i k => scaled_small hbx hw0 i k
        have hrow : ∀ i, gD (rowOf cols i) 0 = gD (cols.getD 0 []) i := fun i => rowOf_get (by omega)
        have okv : ∀ i, OkD (gD (colOf a 0) i) := fun i => (hbx i).ok (by decide) (by decide)
        generalize cols.getD 0 [] = l at *
        refine pv_loop (fun e S => ∃ (i : Nat), 1 ≤ i ∧ i ≤ n ∧ e 4 = i64 n ∧ e 5 = .g (eS eR (a.map nus)) ∧ e 7 = .g (eS eR (x.map nus)) ∧ e 15 = i64 i) (fun e _ => n - (intD (e 15)).toNat) ?_ ?_
        · exact ⟨1, by omega, by omega, Zr, Zr, Zr, Zr⟩
        · rintro e S ⟨i, hi1, hi, g4, g5, g7, g15⟩
          have ft := And.intro g4 (And.intro g5 (And.intro g7 g15))
          repeat (first | with_reducible refine pv_seq fun K hK => ?_ | ((with_reducible first | refine hK _ _ ?_ | (clear hK; refine hK _ _ ?_) | (clear hK; clear hK; refine hK _ _ ?_)); clear hK; try clear K) | refine W0 ?_ | exact Z | with_reducible intro b)
          refine pv_cdD (fun hu => ?_) (fun hu => ?_)
          · have e1 := nr_get (a := x) (i := i) (by omega)
            have e2 := nr_get (a := x) (i := 0) (by omega)
            rw [hxr i hu] at e1
            rw [hxr 0 (by omega)] at e2
            have r1 : (rowOf cols i).length = n := rowOf_len.trans hcn
            have r2 : (rowOf cols 0).length = n := rowOf_len.trans hcn
            have f1 := nus_get (l := rowOf cols i) (i := 0) (by omega)
            have f2 := nus_get (l := rowOf cols 0) (i := 0) (by omega)
            rw [hrow] at f1 f2
            have e3 := nr_get (a := a) (i := 0) (by omega)
            have e4 := nr_get (a := a) (i := i) (by omega)
            have r3 := (am _ (gR_mem (a := a) (i := 0) (by omega))).1
            have r4 := (am _ (gR_mem (a := a) (i := i) (by omega))).1
            have f3 := nus_get (l := a.getD 0 []) (i := 0) (by omega)
            have f4 := nus_get (l := a.getD i []) (i := 0) (by omega)
            rw [← gD_colOf (by omega)] at f3 f4
            have pM := p_nMulD (ok_l.at i) (okv 0)
            have pN := p_nMulD (ok_l.at 0) (okv i)
            obtain ⟨q1, q2⟩ := sml i 0
            have q3 := (sml 0 i).2
            have o1 := q2.ok (by decide) (by decide)
            have o2 := q3.ok (by decide) (by decide)
            rw [numR_ok o1] at pM
            rw [numR_ok o2] at pN
            have pS := p_nSameD (b := gD l 0 * gD (colOf a 0) i) o1
            rw [decide_eq_true q1] at pS
            generalize nuOf (gD l i * gD (colOf a 0) 0) = U at *
            generalize nuOf (gD l 0 * gD (colOf a 0) i) = V at *
            generalize nuOf (gD l i) = X1 at *
            generalize nuOf (gD l 0) = X2 at *
            generalize nuOf (gD (colOf a 0) 0) = Y1 at *
            generalize nuOf (gD (colOf a 0) i) = Y2 at *
            generalize rowOf cols i = R1 at *
            generalize rowOf cols 0 = R2 at *
            generalize a.getD 0 [] = R3 at *
            generalize a.getD i [] = R4 at *
            have k2 : (0 < n) = True := eq_true (by omega)
            have ft := And.intro g4 (And.intro g5 (And.intro g7 (And.intro g15 (And.intro e1 (And.intro e2 (And.intro e3 (And.intro e4 (And.intro f1 (And.intro f2 (And.intro f3 (And.intro f4 (And.intro r1 (And.intro r2 (And.intro r3 (And.intro r4 (And.intro hxl (And.intro al k2)))))))))))))))))
            repeat' (first | with_reducible refine pv_seq fun K hK => ?_ | ((with_reducible first | refine hK _ _ ?_ | (clear hK; refine hK _ _ ?_) | (clear hK; clear hK; refine hK _ _ ?_)); clear hK; try clear K) | refine W ?_ | exact Z | with_reducible intro b | with_reducible refine And.intro ?_ ?_ )
            all_goals first | (simp only [intD]; omega) | exact ⟨i + 1, by omega, by omega, Zr⟩
          · repeat (first | with_reducible refine pv_seq fun K hK => ?_ | ((with_reducible first | refine hK _ _ ?_ | (clear hK; refine hK _ _ ?_) | (clear hK; clear hK; refine hK _ _ ?_)); clear hK; try clear K) | refine W0 ?_ | exact Z | with_reducible intro b)
            exact Je _ _
      clear hK
      refine pv_loop (fun e S => ∃ (q : Nat), q ≤ n ∧ SzI a x n p b9 b10 e S ∧ e 11 = i64 q) (fun e _ => n - (intD (e 11)).toNat) ?_ ?_
      · exact ⟨0, Nat.zero_le _, ⟨Zr, Zr, Zr, Zr, Zr, Zr, Zr⟩, Zr⟩
      · rintro e S ⟨q, hq, ⟨g4, g5, g7, g9, g10, s9, s10⟩, g11⟩
        have hmz : (intD (e 11)).toNat = q := by rw [g11]; rfl
        have ft := And.intro g4 (And.intro g5 (And.intro g7 (And.intro g9 (And.intro g10 (And.intro s9 (And.intro s10 g11))))))
        repeat (first | with_reducible refine pv_seq fun K hK => ?_ | ((with_reducible first | refine hK _ _ ?_ | (clear hK; refine hK _ _ ?_) | (clear hK; clear hK; refine hK _ _ ?_)); clear hK; try clear K) | refine W0 ?_ | exact Z | with_reducible intro b)
        refine pv_cdD (fun ht => ?_) (fun ht => ?_)
        · obtain ⟨ok_c, len_c⟩ := hcO _ (gR_mem (a := cols) (i := q) (by omega))
          obtain ⟨w0, hw0, _⟩ := hcc q (by omega)
          have hsz := scaled_size hw0
          rw [len_c] at hsz
          have hrow : ∀ i, i < n → gD (rowOf cols i) q = gD (cols.getD q []) i := fun i _ => rowOf_get (by omega)
          generalize cols.getD q [] = c at *
          repeat (first | with_reducible refine pv_stop 15 ?_ | with_reducible refine pv_seq fun K hK => ?_ | ((with_reducible first | refine hK _ _ ?_ | (clear hK; refine hK _ _ ?_) | (clear hK; clear hK; refine hK _ _ ?_)); clear hK; try clear K) | refine W ?_ | exact Z | with_reducible intro b)
          refine ⟨fun K2 q2 hC2 => ?_⟩
          repeat (first | with_reducible refine pv_seq fun K hK => ?_ | ((with_reducible first | refine hK _ _ ?_ | (clear hK; refine hK _ _ ?_) | (clear hK; clear hK; refine hK _ _ ?_)); clear hK; try clear K) | refine W0 ?_ | exact Z | with_reducible intro b)
          refine hC2 _ _ (Recast.z3 (k := .l 12) updS_at ?_)
          refine q2 _ _ ?_
          clear q2 hC2
          repeat (first | with_reducible refine pv_seq fun K hK => ?_ | ((with_reducible first | refine hK _ _ ?_ | (clear hK; refine hK _ _ ?_) | (clear hK; clear hK; refine hK _ _ ?_)); clear hK; try clear K) | refine W0 ?_ | exact Z | with_reducible intro b)
          have Jd : ∀ (e : DEnv) (S : Store) (b12 : Nat), SzI a x n p b9 b10 e S → e 11 = i64 q → e 12 = .ptr (.l 12) b12 0 0 3 → S (.l 12) = some ⟨b12, 3, 0, [bU (nuOf (topA c n))]⟩ → K e S := by
            rintro e S b12 ⟨g4, g5, g7, g9, g10, s9, s10⟩ g11 g12 s12
            have pH := p_nCmpD (topA_ok ok_c n) (ok_tw (j := -1) (by decide) (by decide))
            have pO := p_nCmpD (topA_ok ok_c n) (ok_tw (j := 0) (by decide) (by decide))
            rw [nu_tw (by decide) (by decide)] at pH pO
            have hH := cmpD_ge0 (a := topA c n) (b := tw (-1)) hsz.1
            have hO := cmpD_lt0 (a := topA c n) (b := tw 0) hsz.2
            generalize cmpD (topA c n) (tw (-1)) = v1 at *
            generalize cmpD (topA c n) (tw 0) = v2 at *
            generalize nuOf (topA c n) = X at *
            have ft := And.intro g4 (And.intro g5 (And.intro g7 (And.intro g9 (And.intro g10 (And.intro s9 (And.intro s10 (And.intro g11 (And.intro g12 (And.intro s12 (And.intro hH hO))))))))))
            repeat (first | with_reducible refine pv_seq fun K hK => ?_ | ((with_reducible first | refine hK _ _ ?_ | (clear hK; refine hK _ _ ?_) | (clear hK; clear hK; refine hK _ _ ?_)); clear hK; try clear K) | refine W ?_ | exact Z | with_reducible intro b)
            refine ⟨⟨q + 1, by omega, ⟨Zr, Zr, Zr, Zr, Zr, Zr, Zr⟩, Zr⟩, by rw [hmz]; simp only [intD]; omega⟩
          clear hK
          refine pv_loop (fun e S => ∃ (i b12 : Nat), i ≤ n ∧ SzI a x n p b9 b10 e S ∧ e 11 = i64 q ∧ e 12 = .ptr (.l 12) b12 0 0 3 ∧ e 13 = i64 i ∧ S (.l 12) = some ⟨b12, 3, 0, [bU (nuOf (topA c i))]⟩) (fun e _ => n - (intD (e 13)).toNat) ?_ ?_
          · exact ⟨0, _, Nat.zero_le _, ⟨Zr, Zr, Zr, Zr, Zr, Zr, Zr⟩, Zr, Zr, Zr, Zr⟩
          · rintro e S ⟨i, b12, hi, ⟨g4, g5, g7, g9, g10, s9, s10⟩, g11, g12, g13, s12⟩
            have ft := And.intro g4 (And.intro g5 (And.intro g7 (And.intro g9 (And.intro g10 (And.intro s9 (And.intro s10 (And.intro g11 (And.intro g12 (And.intro g13 s12)))))))))
            repeat (first | with_reducible refine pv_seq fun K hK => ?_ | ((with_reducible first | refine hK _ _ ?_ | (clear hK; refine hK _ _ ?_) | (clear hK; clear hK; refine hK _ _ ?_)); clear hK; try clear K) | refine W0 ?_ | exact Z | with_reducible intro b)
            refine pv_cdD (fun hu => ?_) (fun hu => ?_)
            · have e1 := nr_get (a := x) (i := i) (by omega)
              rw [hxr i hu] at e1
              have hrl : (rowOf cols i).length = n := rowOf_len.trans hcn
              have e2 := nus_get (l := rowOf cols i) (i := q) (by omega)
              rw [hrow i hu] at e2
              generalize rowOf cols i = row at *
              have pA := p_nAbsO (ok_c.at i)
              have pC := p_nCmpD (abD_ok (ok_c.at i)) (topA_ok ok_c i)
              have hc : (0 < cmpD (abD (gD c i)) (topA c i)) = (topA c i < abD (gD c i)) := propext cmpD_gt0
              by_cases h : topA c i < abD (gD c i)
              · have hT : topA c (i + 1) = abD (gD c i) := if_pos h
                rw [eq_true h] at hc
                rw [← hT] at pA pC hc
                generalize nuOf (gD c i) = Y at *
                have ft := And.intro g4 (And.intro g5 (And.intro g7 (And.intro g9 (And.intro g10 (And.intro s9 (And.intro s10 (And.intro g11 (And.intro g12 (And.intro g13 (And.intro s12 (And.intro e1 (And.intro e2 (And.intro hrl (And.intro hxl hc))))))))))))))
                repeat (first | with_reducible refine pv_seq fun K hK => ?_ | ((with_reducible first | refine hK _ _ ?_ | (clear hK; refine hK _ _ ?_) | (clear hK; clear hK; refine hK _ _ ?_)); clear hK; try clear K) | refine W ?_ | exact Z | with_reducible intro b)
                refine ⟨⟨i + 1, b12, by omega, ⟨Zr, Zr, Zr, Zr, Zr, Zr, Zr⟩, Zr, Zr, Zr⟩, by simp only [intD]; omega⟩
              · have hT : topA c (i + 1) = topA c i := if_neg h
                rw [eq_false h] at hc
                generalize nuOf (gD c i) = Y at *
                generalize nuOf (abD (gD c i)) = Z at *
                have ft := And.intro g4 (And.intro g5 (And.intro g7 (And.intro g9 (And.intro g10 (And.intro s9 (And.intro s10 (And.intro g11 (And.intro g12 (And.intro g13 (And.intro s12 (And.intro e1 (And.intro e2 (And.intro hrl (And.intro hxl hc))))))))))))))
                repeat (first | with_reducible refine pv_seq fun K hK => ?_ | ((with_reducible first | refine hK _ _ ?_ | (clear hK; refine hK _ _ ?_) | (clear hK; clear hK; refine hK _ _ ?_)); clear hK; try clear K) | refine W ?_ | exact Z | with_reducible intro b)
                refine ⟨⟨i + 1, b12, by omega, ⟨Zr, Zr, Zr, Zr, Zr, Zr, Zr⟩, Zr, Zr, by rw [hT]⟩, by simp only [intD]; omega⟩
            · obtain rfl : i = n := by omega
              repeat (first | with_reducible refine pv_seq fun K hK => ?_ | ((with_reducible first | refine hK _ _ ?_ | (clear hK; refine hK _ _ ?_) | (clear hK; clear hK; refine hK _ _ ?_)); clear hK; try clear K) | refine W0 ?_ | exact Z | with_reducible intro b)
              exact Jd _ _ b12 ⟨Zr, Zr, Zr, Zr, Zr, Zr, Zr⟩ Zr Zr Zr
        · obtain rfl : q = n := by omega
          repeat (first | with_reducible refine pv_seq fun K hK => ?_ | ((with_reducible first | refine hK _ _ ?_ | (clear hK; refine hK _ _ ?_) | (clear hK; clear hK; refine hK _ _ ?_)); clear hK; try clear K) | refine W0 ?_ | exact Z | with_reducible intro b)
          exact Jc _ _ ⟨Zr, Zr, Zr, Zr, Zr, Zr, Zr⟩
    refine hC _ _ (Recast.frzCell (k2 := .l 9) (k := .l 46) (by repeat first | exact updS_at | refine (updS_ne (by decide)).trans ?_) 0 2 (by rfl) (by rfl) (by decide) (by repeat first | exact updS_at | refine (updS_ne (by decide)).trans ?_) (gs := [[.lit (.int .u64 1)]]) (by rfl) (by decide) ?_)
    refine hC _ _ (Recast.frzCell (k2 := .l 10) (k := .l 48) (by repeat first | exact updS_at | refine (updS_ne (by decide)).trans ?_) 0 2 (by rfl) (by rfl) (by decide) (by repeat first | exact updS_at | refine (updS_ne (by decide)).trans ?_) (gs := [[.lit (.int .u64 1)]]) (by rfl) (by decide) ?_)
    exact J0 _ _ _ _ ⟨Zr, Zr, Zr, Zr, Zr, Zr, Zr⟩
end Go.V

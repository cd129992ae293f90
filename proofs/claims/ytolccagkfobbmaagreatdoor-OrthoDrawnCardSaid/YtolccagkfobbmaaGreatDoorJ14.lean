/- The statement OrthoDrawn of layer 9. -/
import Derived.Test.YtolccagkfobbmaaGreatDoorJ13
import Derived.Test.YtolccagkfobbmaaGreatDoorJ8
set_option linter.unusedSimpArgs false
set_option linter.unusedVariables false
set_option maxRecDepth 100000
namespace Go.V
open Go Go.RowKit Go.Proofs
def qJ14_23_6 : List (Nat × Nat) := [(0, 0), (1, 0), (2, 0), (3, 1), (4, 0), (5, 0), (6, 0), (7, 1), (8, 3), (9, 0)]
def qJ14_9_6 : List (Nat × Nat) := [(0, 0), (1, 0), (2, 0), (3, 1), (4, 0), (5, 0), (6, 0), (7, 1), (8, 3), (9, 0)]
attribute [go_sem] qJ14_23_6 qJ14_9_6

theorem p_hNums {l : DL} (hl : OkL l) (hn : l.length ≤ 1000000) : PC Tryz.prog 23 [ND l, ND l] fun d => d = bl true := by
  unfold ND
  have d1 := @dl 6 qJ14_23_6
  refine PB (rs := [.tmp 4]) Tryz.func23 ?_
  repeat (first | with_reducible refine pv_seq fun K hK => ?_ | ((with_reducible first | refine hK _ _ ?_ | (clear hK; refine hK _ _ ?_) | (clear hK; clear hK; refine hK _ _ ?_)); clear hK; try clear K) | refine W0 ?_ | exact Z | with_reducible intro b)
  have J : ∀ (e : DEnv) (S : Store), K e S := by
    intro e S
    exact Wk
  clear hK
  refine pv_loop (fun e S => ∃ (i : Nat), i ≤ l.length ∧ e 0 = .g (eS eU (nus l)) ∧ e 1 = .g (eS eU (nus l)) ∧ e 5 = i64 i) (fun e _ => l.length - (intD (e 5)).toNat) ?_ ?_
  · exact ⟨0, Nat.zero_le _, Zr, Zr, Zr⟩
  · rintro e S ⟨i, hi, g0, g1, g5⟩
    have ft := And.intro g0 (And.intro g1 g5)
    repeat (first | with_reducible refine pv_seq fun K hK => ?_ | ((with_reducible first | refine hK _ _ ?_ | (clear hK; refine hK _ _ ?_) | (clear hK; clear hK; refine hK _ _ ?_)); clear hK; try clear K) | refine W0 ?_ | exact Z | with_reducible intro b)
    refine pv_cdD (fun ht => ?_) (fun ht => ?_)
    · have e1 := nus_get (l := l) (i := i) (by omega)
      have pS := p_rSame (x := nuOf (gD l i)) (y := nuOf (gD l i)) (by have := (hl.at i).len; omega)
      rw [decide_eq_true rfl] at pS
      generalize nuOf (gD l i) = X at *
      have ft := And.intro g0 (And.intro g1 (And.intro g5 e1))
      repeat (first | with_reducible refine pv_seq fun K hK => ?_ | ((with_reducible first | refine hK _ _ ?_ | (clear hK; refine hK _ _ ?_) | (clear hK; clear hK; refine hK _ _ ?_)); clear hK; try clear K) | refine W ?_ | exact Z | with_reducible intro b)
      exact ⟨⟨i + 1, by omega, Zr⟩, by simp only [intD]; omega⟩
    · repeat (first | with_reducible refine pv_seq fun K hK => ?_ | ((with_reducible first | refine hK _ _ ?_ | (clear hK; refine hK _ _ ?_) | (clear hK; clear hK; refine hK _ _ ?_)); clear hK; try clear K) | refine W0 ?_ | exact Z | with_reducible intro b)
      exact J _ _
theorem p_hRows {a : List DL} (hl : ∀ r ∈ a, OkL r) (hn : a.length ≤ 1000000) (hr : ∀ r ∈ a, r.length ≤ 1000000) : PC Tryz.prog 9 [NR a, NR a] fun d => d = bl true := by
  unfold NR
  have d1 := @dl 6 qJ14_9_6
  refine PB (rs := [.tmp 4]) Tryz.func9 ?_
  repeat (first | with_reducible refine pv_seq fun K hK => ?_ | ((with_reducible first | refine hK _ _ ?_ | (clear hK; refine hK _ _ ?_) | (clear hK; clear hK; refine hK _ _ ?_)); clear hK; try clear K) | refine W0 ?_ | exact Z | with_reducible intro b)
  have J : ∀ (e : DEnv) (S : Store), K e S := by
    intro e S
    exact Wk
  clear hK
  refine pv_loop (fun e S => ∃ (i : Nat), i ≤ a.length ∧ e 0 = .g (eS eR (a.map nus)) ∧ e 1 = .g (eS eR (a.map nus)) ∧ e 5 = i64 i) (fun e _ => a.length - (intD (e 5)).toNat) ?_ ?_
  · exact ⟨0, Nat.zero_le _, Zr, Zr, Zr⟩
  · rintro e S ⟨i, hi, g0, g1, g5⟩
    have ft := And.intro g0 (And.intro g1 g5)
    repeat (first | with_reducible refine pv_seq fun K hK => ?_ | ((with_reducible first | refine hK _ _ ?_ | (clear hK; refine hK _ _ ?_) | (clear hK; clear hK; refine hK _ _ ?_)); clear hK; try clear K) | refine W0 ?_ | exact Z | with_reducible intro b)
    refine pv_cdD (fun ht => ?_) (fun ht => ?_)
    · have e1 := nr_get (a := a) (i := i) (by omega)
      have hm := gR_mem (a := a) (i := i) (by omega)
      have pS := p_hNums (hl _ hm) (hr _ hm)
      unfold ND at pS
      generalize a.getD i [] = r at *
      have ft := And.intro g0 (And.intro g1 (And.intro g5 e1))
      repeat (first | with_reducible refine pv_seq fun K hK => ?_ | ((with_reducible first | refine hK _ _ ?_ | (clear hK; refine hK _ _ ?_) | (clear hK; clear hK; refine hK _ _ ?_)); clear hK; try clear K) | refine W ?_ | exact Z | with_reducible intro b)
      exact ⟨⟨i + 1, by omega, Zr⟩, by simp only [intD]; omega⟩
    · repeat (first | with_reducible refine pv_seq fun K hK => ?_ | ((with_reducible first | refine hK _ _ ?_ | (clear hK; refine hK _ _ ?_) | (clear hK; clear hK; refine hK _ _ ?_)); clear hK; try clear K) | refine W0 ?_ | exact Z | with_reducible intro b)
      exact J _ _
theorem turned_ok {n m : Nat} {cols : List DL} (h : ∀ c ∈ cols, OkL c) (hm : cols.length ≤ m) : ∀ r ∈ turned n cols, OkL r ∧ r.length ≤ m := by
  intro r hr
  obtain ⟨i, hi, rfl⟩ := List.mem_map.1 hr
  refine ⟨fun x hx => ?_, by rw [List.length_map]; exact hm⟩
  obtain ⟨c, hc, rfl⟩ := List.mem_map.1 hx
  exact (h c hc).at i
/-- What comes of columns holds few right numbers. -/
theorem colsR_few {p : Nat} {a : List DL} (ha : ∀ r ∈ a, OkL r) (hn : a.length ≤ 4) : (∀ r ∈ (okR (colsR p a)).1, OkL r) ∧ (okR (colsR p a)).1.length ≤ 1000000 ∧ ∀ r ∈ (okR (colsR p a)).1, r.length ≤ 1000000 := by
  cases h : colsR p a with
  | error c => exact ⟨fun r hr => (by cases hr), by simp [okR], fun r hr => (by cases hr)⟩
  | ok x =>
    obtain ⟨cols, h1, h2⟩ := bnd_cases h
    injection h2 with h2
    have hc := colA_ok ha h1
    have ht := turned_ok (n := a.length) (m := 4) (fun c hx => (hc.2 c hx).1) (by omega)
    rw [okR_ok, ← h2]
    exact ⟨fun r hr => (ht r hr).1, by unfold turned; simp; omega, fun r hr => by have := (ht r hr).2; omega⟩
set_option maxHeartbeats 1000000 in
theorem p_OrthoDrawn {w : List Nat} (hb : B64 w) : PC Tryz.prog 4 [W64 w] fun d => d = bl true := by
  have pK := p_known9
  refine PB (rs := [.tmp 2]) Tryz.func4 ?_
  repeat (first | with_reducible refine pv_seq fun K hK => ?_ | ((with_reducible first | refine hK _ _ ?_ | (clear hK; refine hK _ _ ?_) | (clear hK; clear hK; refine hK _ _ ?_)); clear hK; try clear K) | refine W ?_ | exact Z | with_reducible intro b)
  refine p_Of (fun b0 => ?_)
  repeat (first | with_reducible refine pv_seq fun K hK => ?_ | ((with_reducible first | refine hK _ _ ?_ | (clear hK; refine hK _ _ ?_) | (clear hK; clear hK; refine hK _ _ ?_)); clear hK; try clear K) | refine W0 ?_ | exact Z | with_reducible intro b)
  refine p_dDim (i := 0) (by simp -implicitDefEqProofs only [updS, upS, if_true]; rfl) hb (by omega) (fun n n1 n4 => ?_)
  repeat (first | with_reducible refine pv_seq fun K hK => ?_ | ((with_reducible first | refine hK _ _ ?_ | (clear hK; refine hK _ _ ?_) | (clear hK; clear hK; refine hK _ _ ?_)); clear hK; try clear K) | refine W0 ?_ | exact Z | with_reducible intro b)
  refine p_dPoints (i := 1) (by simp -implicitDefEqProofs only [updS, upS, if_true]; rfl) hb (by omega) n1 n4 (fun a j al am jl => ?_)
  repeat (first | with_reducible refine pv_seq fun K hK => ?_ | ((with_reducible first | refine hK _ _ ?_ | (clear hK; refine hK _ _ ?_) | (clear hK; clear hK; refine hK _ _ ?_)); clear hK; try clear K) | refine W0 ?_ | exact Z | with_reducible intro b)
  refine p_dPrec (i := j) (by simp -implicitDefEqProofs only [updS, upS, if_true]; rfl) hb (by omega) (fun p j3 p1 p2 l3 => ?_)
  have pC := p_oCols (p := p) am.ok (fun r hr => by rw [(am r hr).1, al]) (by omega) (by omega) p1 p2
  have pD := p_rCols (p := p) am.ok (fun r hr => by rw [(am r hr).1, al]) (by omega) (by omega) p1 p2
  obtain ⟨f1, f2, f3⟩ := colsR_few (p := p) am.ok (by omega)
  have pR := p_hRows f1 f2 f3
  generalize okR (colsR p a) = q at *
  obtain ⟨q1, q2⟩ := q
  unfold NR at pC pD pR
  exact Wk
end Go.V

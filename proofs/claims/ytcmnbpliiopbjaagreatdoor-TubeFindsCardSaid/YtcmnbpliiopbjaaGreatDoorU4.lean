/- Package tube over values as data: the first piece with a time. -/
import Derived.Test.YtcmnbpliiopbjaaGreatDoorU3
set_option linter.unusedSimpArgs false
set_option linter.unusedVariables false
set_option maxRecDepth 100000
namespace Go.V
open Go Go.RowKit Go.Proofs

/-- The first piece that meets. -/
def firstS (t : Nu) (l : List Sg) : Option Sg := ((metL t t l l.length).head?).map (gS l)
def fndD : Option Sg → D
  | some s => .tup [SEG s, bl true]
  | none => .tup [SEG sg0, bl false]
theorem eachL_len {lo hi : Nu} {l : List Sg} : (eachL lo hi l).length = (metL lo hi l l.length).length := by unfold eachL; rw [List.length_map]
theorem eachL_get {lo hi : Nu} {l : List Sg} {i : Nat} {x : List D} (h : (eachL lo hi l)[i]? = some x) : ∃ j : Nat, (metL lo hi l l.length)[i]? = some j ∧ x = [i64 j, SEG (gS l j)] := by
  unfold eachL at h
  rw [List.getElem?_map] at h
  cases hj : (metL lo hi l l.length)[i]? with
  | none => rw [hj] at h; cases h
  | some j => rw [hj] at h; injection h with h; exact ⟨j, rfl, h.symm⟩

set_option maxHeartbeats 1000000 in
theorem p_Find {l l' : List Sg} {t : Nu} (pR : PC Tryz.prog 35 [NU t] fun d => d = bl true)
    (pE : PC Tryz.prog 18 [SS l, NU t, NU t] fun d => d = .fn 42 [] [.ip [eS eG l'], .ip (eU t), .ip (eU t)])
    (pI : Iter Tryz.prog 42 [.ip [eS eG l'], .ip (eU t), .ip (eU t)] (eachL t t l')) : PC Tryz.prog 11 [SS l, NU t] fun d => d = fndD (firstS t l') := by
  generalize hr : fndD (firstS t l') = r
  have hl := eachL_len (lo := t) (hi := t) (l := l')
  have hx : ∀ x ∈ eachL t t l', x.length = 2 := fun x hx => by
    obtain ⟨i, hi⟩ := List.mem_iff_getElem?.1 hx
    obtain ⟨j, _, rfl⟩ := eachL_get hi
    rfl
  have hget : ∀ (i : Nat) (x : List D), (eachL t t l')[i]? = some x → ∃ j : Nat, (metL t t l' l'.length)[i]? = some j ∧ x = [i64 j, SEG (gS l' j)] := fun i x h => eachL_get h
  generalize eachL t t l' = xs at *
  obtain ⟨nt, et, wt⟩ := t
  refine PB (rs := [.cell 4 38, .cell 5 4]) Tryz.func11 ?_
  repeat (first | with_reducible refine pv_seq fun K hK => ?_ | ((with_reducible first | refine hK _ _ ?_ | (clear hK; refine hK _ _ ?_) | (clear hK; clear hK; refine hK _ _ ?_)); clear hK; try clear K) | refine W ?_ | exact Z | with_reducible intro b)
  rename_i b3 b4
  refine pv_range (f := 42) xs rfl (by kernel_rfl) (by kernel_rfl) (by kernel_rfl) pI hx (fun i S => i = 0 ∧ S (.l 4) = some ⟨b4, 9, 0, [[i64 0, i64 0, bl false, i64 0, .nil, bl false, i64 0, .nil, .nil]]⟩ ∧ S (.l 5) = some ⟨b, 1, 0, [[bl false]]⟩)
    (fun c S => c = .ret ∧ ∃ s, r = fndD (some s) ∧ S (.l 4) = some ⟨b4, 9, 0, [[i64 s.fr, i64 s.to, bl s.t0.neg, i64 s.t0.exp, W64 s.t0.w, bl s.t1.neg, i64 s.t1.exp, W64 s.t1.w, .g (eS eI s.box)]]⟩ ∧ S (.l 5) = some ⟨b, 1, 0, [[bl true]]⟩) ⟨rfl, rfl, rfl⟩ ?_ ?_ ?_ ?_
  · rintro i x S1 ga gb Kn Kx Kr hxi ⟨rfl, s4, s5⟩ hg1 hKn hKx hKr
    obtain ⟨j, hj, rfl⟩ := hget 0 x hxi
    have hfr : r = fndD (some (gS l' j)) := by
      rw [← hr]; unfold firstS; rw [List.head?_eq_getElem?, hj]; rfl
    clear hr hget hxi hK
    generalize gS l' j = q at *
    obtain ⟨fr, to, ⟨n0, e0, w0⟩, ⟨n1, e1, w1⟩, bx⟩ := q
    simp only [bindD, SEG]
    have ft := And.intro s4 (And.intro s5 hg1)
    repeat (first | with_reducible refine pv_seq fun K hK => ?_ | ((with_reducible first | refine hK _ _ ?_ | (clear hK; refine hK _ _ ?_) | (clear hK; clear hK; refine hK _ _ ?_)); clear hK; try clear K) | refine W0 ?_ | exact Z | with_reducible intro b)
    exact hKr _ rfl ⟨rfl, _, hfr, by simp only [updS_apply]; rfl, by simp only [updS_apply]; rfl⟩
  · intro S' hg0 ⟨h0, s4, s5⟩
    have hfr : r = fndD none := by
      rw [← hr]; unfold firstS
      have : metL ⟨nt, et, wt⟩ ⟨nt, et, wt⟩ l' l'.length = [] := List.eq_nil_of_length_eq_zero (by omega)
      rw [this]; rfl
    have ft := And.intro s4 s5
    repeat (first | with_reducible refine pv_seq fun K hK => ?_ | ((with_reducible first | refine hK _ _ ?_ | (clear hK; refine hK _ _ ?_) | (clear hK; clear hK; refine hK _ _ ?_)); clear hK; try clear K) | refine W0 ?_ | exact Z | with_reducible intro b)
    rw [hfr]; rfl
  · rintro id S' _ ⟨h, _⟩
    cases h
  · rintro S' _ ⟨_, s, hs, s4, s5⟩
    rw [hs]
    have ft := And.intro s5 s4
    exact Wk
end Go.V

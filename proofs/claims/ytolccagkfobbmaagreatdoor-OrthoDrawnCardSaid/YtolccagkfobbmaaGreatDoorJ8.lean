/- The statement's own known columns of layer 9: the walk. -/
import Derived.Test.YtolccagkfobbmaaGreatDoorJ7
set_option linter.unusedSimpArgs false
set_option linter.unusedVariables false
set_option maxRecDepth 100000
namespace Go.V
open Go Go.RowKit Go.Proofs

def g1 (e : Int) : List G := [.lit (.bool false), .lit (.int .i64 e), .sl [[.lit (.int .u64 1)]]]
theorem nu_tw {j : Int} (h1 : -60000 ≤ j) (h2 : j ≤ 60000) : nuOf (tw j) = ⟨false, j, [1]⟩ := ((w1 (s := false) (k := j) (n := 1) (by decide) (by decide) h1 h2).1).symm
theorem NR_1 {j : Int} (h1 : -60000 ≤ j) (h2 : j ≤ 60000) : NR [[tw j]] = .g (.sl [[.sl [g1 j]]]) := by
  unfold NR nus; simp only [List.map_cons, List.map_nil, nu_tw h1 h2]; rfl
theorem NR_2 {j : Int} (h1 : -60000 ≤ j) (h2 : j ≤ 60000) : NR [[tw j, tw j], [tw j, tw j]] = .g (.sl [[.sl [g1 j, g1 j]], [.sl [g1 j, g1 j]]]) := by
  unfold NR nus; simp only [List.map_cons, List.map_nil, nu_tw h1 h2]; rfl
set_option maxHeartbeats 2000000 in
theorem p_known9 : PC Tryz.prog 5 [] fun d => d = bl true := by
  have o1 : OkL [tw 1] := fun x hx => by rw [List.mem_singleton.1 hx]; exact ok_tw (by decide) (by decide)
  have o2 : OkL [tw 1, tw 1] := fun x hx => by
    rcases List.mem_cons.1 hx with h | h
    · rw [h]; exact ok_tw (by decide) (by decide)
    · exact o1 x h
  have pA := p_oCols (p := 16) (a := [[tw 1]]) (fun r hr => by rw [List.mem_singleton.1 hr]; exact o1) (fun r hr => by rw [List.mem_singleton.1 hr]; rfl) (by decide) (by decide) (by decide) (by decide)
  have pB := p_oCols (p := 16) (a := [[tw 1, tw 1], [tw 1, tw 1]]) (fun r hr => by simp only [List.mem_cons, List.not_mem_nil, or_false, or_self] at hr; rw [hr]; exact o2) (fun r hr => by simp only [List.mem_cons, List.not_mem_nil, or_false, or_self] at hr; rw [hr]; rfl) (by decide) (by decide) (by decide) (by decide)
  have pW := p_hWords (xs := [1]) (ys := [1]) (by intro x hx; rw [List.mem_singleton.1 hx]; decide) (by intro x hx; rw [List.mem_singleton.1 hx]; decide) (by simp) (by simp)
  rw [decide_eq_true rfl] at pW
  unfold NRE at pA pB
  rw [cols_1, okR_ok, NR_1 (by decide) (by decide), NR_1 (by decide) (by decide)] at pA
  rw [cols_2, okR_no, NR_2 (by decide) (by decide)] at pB
  refine PB (rs := [.tmp 0]) Tryz.func5 ?_
  repeat (first | with_reducible refine pv_stop 1 ?_ | with_reducible refine pv_seq fun K hK => ?_ | ((with_reducible first | refine hK _ _ ?_ | (clear hK; refine hK _ _ ?_) | (clear hK; clear hK; refine hK _ _ ?_)); clear hK; try clear K) | refine W ?_ | exact Z | with_reducible intro b)
  refine ⟨fun K1 q1 hC => ?_⟩
  repeat (first | with_reducible refine pv_seq fun K hK => ?_ | ((with_reducible first | refine hK _ _ ?_ | (clear hK; refine hK _ _ ?_) | (clear hK; clear hK; refine hK _ _ ?_)); clear hK; try clear K) | refine W0 ?_ | exact Z | with_reducible intro b)
  refine hC _ _ (Recast.frzCell (k2 := .l 1) (k := .l 6) updS_at 0 2 rfl rfl (by decide) ((updS_ne (by decide)).trans ((updS_ne (by decide)).trans updS_at)) (gs := [[.lit (.int .u64 1)]]) rfl (by decide) ?_)
  refine q1 _ _ ?_
  clear q1 hC
  repeat (first | with_reducible refine pv_seq fun K hK => ?_ | ((with_reducible first | refine hK _ _ ?_ | (clear hK; refine hK _ _ ?_) | (clear hK; clear hK; refine hK _ _ ?_)); clear hK; try clear K) | refine W0 ?_ | exact Z | with_reducible intro b)
  refine PFC.frzCell (k2 := .l 11) (k := .l 10) updS_at 0 0 rfl rfl (by decide) ((updS_ne (by decide)).trans updS_at) (gs := [g1 1]) rfl (by decide) ?_
  refine PFC.coe ?_
  try simp -implicitDefEqProofs only [ft, go_sem, seval]
  refine call_is pA ?_
  unfold g1
  repeat (first | with_reducible refine pv_seq fun K hK => ?_ | ((with_reducible first | refine hK _ _ ?_ | (clear hK; refine hK _ _ ?_) | (clear hK; clear hK; refine hK _ _ ?_)); clear hK; try clear K) | refine W0 ?_ | exact Z | with_reducible intro b)
  refine PFC.frzCell (k2 := .l 22) (k := .l 18) updS_at 0 0 rfl rfl (by decide) ((updS_ne (by decide)).trans ((updS_ne (by decide)).trans updS_at)) (gs := [g1 1, g1 1]) rfl (by decide) ?_
  refine PFC.frzCell (k2 := .l 22) (k := .l 21) updS_at 1 0 rfl rfl (by decide) ((updS_ne (by decide)).trans ((updS_ne (by decide)).trans ((updS_ne (by decide)).trans updS_at))) (gs := [g1 1, g1 1]) rfl (by decide) ?_
  refine PFC.coe ?_
  try simp -implicitDefEqProofs only [ft, go_sem, seval]
  refine call_is pB ?_
  unfold g1 at *
  exact Wk

end Go.V

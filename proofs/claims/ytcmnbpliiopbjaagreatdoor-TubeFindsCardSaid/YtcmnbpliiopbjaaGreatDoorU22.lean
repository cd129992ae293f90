/- The statement's own known tube. -/
import Derived.Test.YtcmnbpliiopbjaaGreatDoorU21
import Derived.Test.YtcmnbpliiopbjaaGreatDoorU13
import Derived.Test.YtcmnbpliiopbjaaGreatDoorU14
set_option linter.unusedSimpArgs false
set_option linter.unusedVariables false
set_option maxRecDepth 100000
namespace Go.V
open Go Go.RowKit Go.Proofs
def qU22_4_9 : List (Nat × Nat) := [(0, 0), (1, 3), (2, 0), (3, 0), (4, 3), (5, 0), (6, 0), (7, 0), (8, 0), (10, 2), (9, 4), (11, 3), (12, 0), (13, 0), (14, 0), (15, 1), (16, 0), (17, 0), (18, 0), (19, 1), (20, 0), (21, 0), (22, 0), (23, 0), (24, 0), (25, 3), (26, 0), (27, 0), (28, 0), (29, 0), (30, 3), (31, 0), (32, 0), (33, 0), (34, 0), (35, 3), (36, 0), (37, 0), (38, 0)]
attribute [go_sem] qU22_4_9

def kO : Nu := ⟨false, 0, [1]⟩
def kW : Nu := ⟨false, 1, [1]⟩
def kA : Sg := ⟨1, 1, nu0, kO, [iv0]⟩
def kB : Sg := ⟨2, 2, kO, kW, [⟨nu0, kO⟩]⟩
def kT : List Sg := [kA, kB]
theorem kO_eq : kO = nuOf (dy false 1 0) := ((w1 (s := false) (k := 0) (n := 1) (by decide) (by decide) (by decide) (by decide)).1)
theorem kW_eq : kW = nuOf (dy false 1 1) := ((w1 (s := false) (k := 1) (n := 1) (by decide) (by decide) (by decide) (by decide)).1)
theorem k_wl {x : Nu} (h : x = nu0 ∨ x = kO ∨ x = kW) : Wl 65536 x ∧ rightB x = true := by
  rcases h with rfl | rfl | rfl
  · exact ⟨⟨fun y hy => (by cases hy), by decide⟩, by decide⟩
  · exact ⟨⟨fun y hy => by rw [List.mem_singleton.1 hy]; decide, by decide⟩, (w1 (s := false) (k := 0) (n := 1) (by decide) (by decide) (by decide) (by decide)).2.2.1⟩
  · exact ⟨⟨fun y hy => by rw [List.mem_singleton.1 hy]; decide, by decide⟩, (w1 (s := false) (k := 1) (n := 1) (by decide) (by decide) (by decide) (by decide)).2.2.1⟩
theorem k_box {a : Iv} (h : a = iv0 ∨ a = ⟨nu0, kO⟩) : Wi 65536 a ∧ rightI a = true := by
  rcases h with rfl | rfl
  · exact ⟨⟨(k_wl (.inl rfl)).1, (k_wl (.inl rfl)).1⟩, by decide +kernel⟩
  · exact ⟨⟨(k_wl (.inl rfl)).1, (k_wl (.inr (.inl rfl))).1⟩, by decide +kernel⟩
theorem kA_ok : OkP kA := ⟨⟨(k_wl (.inl rfl)).1, (k_wl (.inr (.inl rfl))).1, (k_wl (.inl rfl)).2, (k_wl (.inr (.inl rfl))).2⟩, fun a ha => k_box (.inl (List.mem_singleton.1 ha)), by decide⟩
theorem kB_ok : OkP kB := ⟨⟨(k_wl (.inr (.inl rfl))).1, (k_wl (.inr (.inr rfl))).1, (k_wl (.inr (.inl rfl))).2, (k_wl (.inr (.inr rfl))).2⟩, fun a ha => k_box (.inr (List.mem_singleton.1 ha)), by decide⟩
theorem kT_ok : ∀ s ∈ kT, OkP s := by
  intro s hs
  rcases List.mem_cons.1 hs with h | h
  · rw [h]; exact kA_ok
  · rw [List.mem_singleton.1 h]; exact kB_ok
theorem kT_tube : tubeB kT = true := by decide +kernel
theorem kT_met : metL kO kW kT 2 = [0, 1] := by decide +kernel
theorem kT_met2 : metL kW kW kT 2 = [1] := by decide +kernel
theorem kT_cov : coversB kT kT = true := by decide +kernel
theorem kT_same : allS kT kT = true := by decide +kernel
theorem kB_not : tubeB [kB] = false := by decide +kernel
theorem kT_each : eachL kO kW kT = [[i64 0, SEG kA], [i64 1, SEG kB]] := by
  unfold eachL
  rw [show kT.length = 2 from rfl, kT_met]; rfl
theorem kT_find : firstS kW kT = some kB := by
  unfold firstS
  rw [show kT.length = 2 from rfl, kT_met2]; rfl
theorem kT_last : lastT kT = kB := by rw [lastT_eq kT_tube (by decide)]; rfl
set_option maxHeartbeats 2000000 in
theorem p_known26 : PC Tryz.prog 4 [] fun d => d = bl true := by
  have pR := p_tRight (l := kT) (by decide) kT_ok
  have pS := p_Steps (l := kT) (by decide) kT_ok
  have pU := p_Until (l := kT) (by decide) kT_ok
  have pC := p_Covers (a := kT) (z := kT) (by decide) (by decide) kT_ok kT_ok
  have pT := p_tSame (a := kT) (b := kT) (by decide) (by decide) (fun s hs => (kT_ok s hs).ln) (fun s hs => (kT_ok s hs).ln)
  have pN := p_tRight (l := [kB]) (by decide) (fun s hs => by rw [List.mem_singleton.1 hs]; exact kB_ok)
  have pQ := p_rSame (x := kW) (y := kW) (by decide)
  have pF := p_FindS (l := kT) (t := kW) (by decide) kT_ok (k_wl (.inr (.inr rfl))).1 (k_wl (.inr (.inr rfl))).2
  have pE := p_EachS (l := kT) (lo := kO) (hi := kW) (by decide) kT_ok (k_wl (.inr (.inl rfl))).1 (k_wl (.inr (.inr rfl))).1 (k_wl (.inr (.inl rfl))).2 (k_wl (.inr (.inr rfl))).2
  have pI := p_EachI (l := kT) (lo := kO) (hi := kW) (by decide) kT_ok (k_wl (.inr (.inl rfl))).1 (k_wl (.inr (.inr rfl))).1 (k_wl (.inr (.inl rfl))).2 (k_wl (.inr (.inr rfl))).2
  rw [kT_tube] at pR
  rw [kT_last] at pS pU
  change PC _ _ _ fun d => d = i64 2 at pS
  change PC _ _ _ fun d => d = NU ⟨false, 1, [1]⟩ at pU
  rw [kT_cov] at pC
  rw [kT_same] at pT
  rw [kB_not] at pN
  rw [decide_eq_true rfl] at pQ
  rw [ownL_t kT_tube] at pF pE pI
  rw [kT_find] at pF
  rw [kT_each] at pI
  have kl : kT.length = 2 := rfl
  change PC _ _ _ fun d => d = .tup [SEG ⟨2, 2, ⟨false, 0, [1]⟩, ⟨false, 1, [1]⟩, [⟨⟨false, 0, []⟩, ⟨false, 0, [1]⟩⟩]⟩, bl true] at pF
  have d1 := @dl 9 qU22_4_9
  refine PB (rs := [.tmp 0]) Tryz.func4 ?_
  repeat (first | with_reducible refine pv_stop 1 ?_ | with_reducible refine pv_seq fun K hK => ?_ | ((with_reducible first | refine hK _ _ ?_ | (clear hK; refine hK _ _ ?_) | (clear hK; clear hK; refine hK _ _ ?_)); clear hK; try clear K) | refine W ?_ | exact Z | with_reducible intro b)
  refine ⟨fun K1 q1 hC1 => ?_⟩
  repeat (first | with_reducible refine pv_seq fun K hK => ?_ | ((with_reducible first | refine hK _ _ ?_ | (clear hK; refine hK _ _ ?_) | (clear hK; clear hK; refine hK _ _ ?_)); clear hK; try clear K) | refine W0 ?_ | exact Z | with_reducible intro b)
  refine hC1 _ _ (Recast.join (Recast.frzCell (k2 := .l 1) (k := .l 7) rfl 0 2 rfl rfl (by decide) rfl (gs := [[.lit (.int .u64 1)]]) rfl (by decide) (Recast.frzCell (k2 := .l 2) (k := .l 9) rfl 0 2 rfl rfl (by decide) rfl (gs := [[.lit (.int .u64 1)]]) rfl (by decide) ?_)))
  refine q1 _ _ ?_
  clear hC1 q1
  repeat (first | with_reducible refine pv_stop 2 ?_ | with_reducible refine pv_seq fun K hK => ?_ | ((with_reducible first | refine hK _ _ ?_ | (clear hK; refine hK _ _ ?_) | (clear hK; clear hK; refine hK _ _ ?_)); clear hK; try clear K) | refine W ?_ | exact Z | with_reducible intro b)
  refine ⟨fun K2 q2 hC2 => ?_⟩
  repeat (first | with_reducible refine pv_seq fun K hK => ?_ | ((with_reducible first | refine hK _ _ ?_ | (clear hK; refine hK _ _ ?_) | (clear hK; clear hK; refine hK _ _ ?_)); clear hK; try clear K) | refine W0 ?_ | exact Z | with_reducible intro b)
  refine hC2 _ _ (Recast.join (Recast.frzCell (k2 := .l 21) (k := .l 13) rfl 0 8 rfl rfl (by decide) rfl (gs := [eI iv0]) rfl (by decide) (Recast.join (Recast.frzCell (k2 := .l 21) (k := .l 19) rfl 1 8 rfl rfl (by decide) rfl (gs := [eI ⟨nu0, kO⟩]) rfl (by decide) (Recast.frzSlot 3 (k := .l 21) rfl rfl (gs := kT.map eG) rfl (Nat.le_refl 2) ?_)))))
  rw [sl_eS]
  refine q2 _ _ ?_
  clear hC2 q2
  have ft := kl
  repeat (first | with_reducible refine pv_seq fun K hK => ?_ | ((with_reducible first | refine hK _ _ ?_ | (clear hK; refine hK _ _ ?_) | (clear hK; clear hK; refine hK _ _ ?_)); clear hK; try clear K) | refine W ?_ | exact Z | with_reducible intro b)
  rename_i b1 b2 b13 b19 b21 b4
  refine pv_range (f := 42) _ rfl (by kernel_rfl) (by kernel_rfl) (by kernel_rfl) pI (by intro x hx; simp only [List.mem_cons, List.not_mem_nil, or_false] at hx; rcases hx with rfl | rfl <;> rfl)
    (fun i S => S (.l 6) = some ⟨b, 1, 0, [[i64 i]]⟩ ∧ S (.l 2) = some ⟨b2, 3, 0, [[bl false, i64 1, W64 [1]]]⟩ ∧ S (.l 4) = some ⟨b4, 9, 0, [[i64 2, i64 2, bl false, i64 0, W64 [1], bl false, i64 1, W64 [1], .g (eS eI [⟨⟨false, 0, []⟩, ⟨false, 0, [1]⟩⟩])]]⟩) (fun _ _ => False) ⟨rfl, rfl, rfl⟩ ?_ ?_ ?_ ?_
  · rintro i x S1 ga gb Kn Kx Kr hxi ⟨s6, s2, s4⟩ hg1 hKn hKx hKr
    have hx2 : x.length = 2 := by
      have := List.mem_of_getElem? hxi
      simp only [List.mem_cons, List.not_mem_nil, or_false] at this
      rcases this with rfl | rfl <;> rfl
    obtain ⟨x1, x2, rfl⟩ : ∃ a b, x = [a, b] := by
      match x, hx2 with
      | [a, b], _ => exact ⟨a, b, rfl⟩
    have hi : i < 2 := (List.getElem?_eq_some_iff.1 hxi).1
    clear hK
    simp only [bindD]
    have ft := And.intro s6 (And.intro s2 (And.intro s4 hg1))
    repeat (first | with_reducible refine pv_seq fun K hK => ?_ | ((with_reducible first | refine hK _ _ ?_ | (clear hK; refine hK _ _ ?_) | (clear hK; clear hK; refine hK _ _ ?_)); clear hK; try clear K) | refine W0 ?_ | exact Z | with_reducible intro b)
    exact hKn _ rfl ⟨rfl, s2, s4⟩
  · intro S' hg0 ⟨s6, s2, s4⟩
    have ft := And.intro s6 (And.intro s2 (And.intro s4 kl))
    exact Wk
  · rintro id S' _ ⟨⟩
  · rintro S' _ ⟨⟩
end Go.V

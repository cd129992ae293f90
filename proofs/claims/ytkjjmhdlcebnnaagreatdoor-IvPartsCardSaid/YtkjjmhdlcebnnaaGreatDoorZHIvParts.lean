/- For any two intervals and any number what lies in what, hull, meet, opposite and amount are the documented ones, and the arguments are left as they were. The one listed variable (a table of the library's) is tied to the program's text. -/
import Derived.Test.YtkjjmhdlcebnnaaGreatDoorZPF
import Derived.Test.YtkjjmhdlcebnnaaGreatDoorZFJ
import Derived.Test.YtkjjmhdlcebnnaaGreatDoorZI25
set_option linter.unusedSimpArgs false
set_option linter.unusedVariables false
set_option maxRecDepth 100000
namespace Go.Proofs.YtkjjmhdlcebnnaaGreatDoor
open Go Go.RowKit Go.Proofs Go.V Go.WideShapes Go.ChangeShapes Go.ChangeAt Go.WideElems

theorem ivParts_lifted (os : Os) (started : os.Started) (H : Type) (enc : TypeId × Value → H) :
    ReturnsInHanded {} Tryz.checked os 9 .any (fun w args => (Rows.ivPartsSpec.pre enc Tryz.prog Tryz.f9 [] false w args ∧ laidMetH Tryz.prog laidL w) ∧ sizedMet enc Tryz.prog Tryz.f9 (OpenSpec.ofChange Rows.ivPartsSpec) false w args)
      (Rows.ivPartsSpec.post enc Tryz.prog Tryz.f9 false true false false) := by
  refine returnsInHanded_of_change_and (C := Tryz.checked) (X := fun w _ => laidMetH Tryz.prog laidL w) (fun _ _ _ hh h => h.of_heap hh) own started (by kernel_rfl) Tryz.func9
    (ChangeSpec.witness_shaped (enc := enc) (C := Tryz.checked) (os := os) (X := fun w _ => laidMetH Tryz.prog laidL w) false (World.doorLaid Tryz.prog 400 os) #[.agg #[.bool false, .int .i64 0, .slice Option.none 0 0, .bool false, .int .i64 0, .slice Option.none 0 0], .agg #[.bool false, .int .i64 0, .slice Option.none 0 0, .bool false, .int .i64 0, .slice Option.none 0 0], .agg #[.bool false, .int .i64 0, .slice Option.none 0 0]] 8 rfl (World.shaped_of_RefB (by kernel_rfl) (by kernel_rfl)) (by kernel_rfl) (by kernel_rfl) (by kernel_rfl) (door_met os _)) ?_
  intro W base args ds gs before hval0 hW _ hwt hL _
  have hval : ∀ (j : Nat) t v, Tryz.f9.params[j]? = some t → args[j]? = some v → Value.okWide Tryz.prog W .any base t v := hval0
  have hW' := hW
  obtain ⟨p, q, hA0, hV, rfl, hfz, hnd⟩ := hW
  have hA : DataW.TrodAll enc Tryz.prog W 0 (fun _ => true) true Tryz.f9.params.toList args.toList ds p := hA0
  have hAk := hA
  rw [Tryz.params9] at hA hval hwt
  obtain ⟨v0, v1, v2, d0, d1, d2, q0, q1, q2, hargs, rfl, hpp, h0, h1, h2⟩ := trodAll_three hA
  obtain rfl : args = #[v0, v1, v2] := by simpa using hargs
  obtain ⟨rfl, rfl⟩ := trodVars_none hV
  simp only [List.append_nil] at hW' hwt
  obtain ⟨x0, hx0, hB0, hE0, hF0⟩ := open_iv Tryz.underlying26 (by kernel_rfl) rfl rfl rfl rfl Tryz.underlying24 (by kernel_rfl) rfl rfl rfl (by kernel_rfl) (by kernel_rfl) (by kernel_rfl) Tryz.underlying4 Tryz.underlying2 rfl Tryz.underlying22 Tryz.underlying53 words64 (by kernel_rfl) h0 (hval 0 26 v0 rfl rfl) (fun x y hd a b el sp hxy => sized_iv hwt (j := 0) rfl (by rw [hd]; rfl) hxy Tryz.underlying26 rfl rfl Tryz.underlying24 Tryz.underlying22 bytes64)
  obtain ⟨x1, hx1, hB1, hE1, hF1⟩ := open_iv Tryz.underlying26 (by kernel_rfl) rfl rfl rfl rfl Tryz.underlying24 (by kernel_rfl) rfl rfl rfl (by kernel_rfl) (by kernel_rfl) (by kernel_rfl) Tryz.underlying4 Tryz.underlying2 rfl Tryz.underlying22 Tryz.underlying53 words64 (by kernel_rfl) h1 (hval 1 26 v1 rfl rfl) (fun x y hd a b el sp hxy => sized_iv hwt (j := 1) rfl (by rw [hd]; rfl) hxy Tryz.underlying26 rfl rfl Tryz.underlying24 Tryz.underlying22 bytes64)
  obtain ⟨x2, hx2, hB2, hE2⟩ := open_num Tryz.underlying24 (by kernel_rfl) rfl rfl rfl (by kernel_rfl) (by kernel_rfl) (by kernel_rfl) Tryz.underlying4 Tryz.underlying2 rfl Tryz.underlying22 Tryz.underlying53 words64 (by kernel_rfl) h2 (hval 2 24 v2 rfl rfl) (fun a b el sp hd => sized_num hwt (j := 2) rfl (by rw [hd]; rfl) Tryz.underlying24 Tryz.underlying22 bytes64)
  refine (calls_of_pc Tryz.func9 rfl (by kernel_rfl) (p_IvParts hB0 hB1 hB2) hL (.cons hx0 (.cons hx1 (.cons hx2 .nil)))).mono ?_
  rintro e W' ⟨rfl, hE⟩
  refine ⟨_, rfl, ?_⟩
  refine post_below (pa := p) (pv := []) hW' (fun _ _ _ => trodAll_mk1 (shut_bool Tryz.underlying4 _)) (fun sp hs => ?_) (fun _ _ => rfl) (by simp) hE (ok_one (by kernel_rfl) rfl (okWide_bool_mk Tryz.underlying4 _))
  exact trodAll_stays laidOut hE (by rw [Tryz.params9]; intro t ht; simp at ht; rcases ht with rfl | rfl <;> exact ⟨by kernel_rfl, of_decide_eq_true (by kernel_rfl)⟩) hAk (fun x hx => hW'.lt x hx) hs

theorem ivParts_row : Rows.IvPartsSaid :=
  OpenClaim.holds_of_wide 9 Tryz.f9 rfl rfl rfl rfl rfl rfl rfl ⟨rfl, rfl, rfl, rfl, rfl⟩ rfl rfl rfl rfl rfl (by kernel_rfl) Tryz.func9 (by kernel_rfl)
    (of_decide_eq_true (by kernel_rfl)) (by unfold Func.isWrapper; first | (rw [if_pos (by decide +kernel)]; kernel_rfl) | (rw [if_neg (by decide +kernel)]; exact ⟨rfl, rfl⟩))
    (fun os started H enc _ => ivParts_lifted os started H enc)

theorem ivParts_holds : Rows.IvPartsCardSaid :=
  Claim7.holds_tied_plain_at .later [] [.data] true (true, "380b0dff7a9cdd5fc0450c4c2051513dff82b1b8a1818a656175ece218202999") false
    ivParts_row (fun _ h => by cases h) (by kernel_rfl) (fun _ h => by cases h) ivParts_row_tie rfl ⟨rfl, rfl⟩ (by kernel_rfl) rfl
    (fun f fn hf hfn => by
      obtain rfl : f = 9 := Option.some.inj ((show Tryz.prog.funcNamed "fathomline/fathomlinelaw5.IvParts" = some 9 by kernel_rfl).symm.trans hf) |>.symm
      obtain rfl : fn = Tryz.f9 := (Option.some.inj (Tryz.func9.symm.trans hfn)).symm
      exact ⟨by kernel_rfl, fun j t ht => by
        rw [Tryz.params9] at ht
        have hm : t ∈ [26, 26, 24] := by simpa using Array.mem_of_getElem? ht
        have hall : ([26, 26, 24].all fun u => !Tryz.prog.wantsStandIn u) = true := by kernel_rfl
        exact (show Tryz.prog.wantsStandIn t = false by simpa using List.all_eq_true.1 hall t hm)⟩)
    (by kernel_rfl)

end Go.Proofs.YtkjjmhdlcebnnaaGreatDoor

/- For any two numbers, Add, Sub and Mul of package num answer what the document's numbers say, and the arguments are left as they were. The one listed variable (a table of the library's) is tied to the program's text. -/
import Derived.Test.YtkmoeenhboicmaaDoorG1
import Derived.Test.YtkmoeenhboicmaaDoorFN
import Derived.Test.YtkmoeenhboicmaaDoorA10
set_option linter.unusedSimpArgs false
set_option linter.unusedVariables false
set_option maxRecDepth 100000
namespace Go.Proofs.YtkmoeenhboicmaaDoor
open Go Go.RowKit Go.Proofs Go.V Go.WideShapes Go.ChangeShapes Go.ChangeAt Go.WideElems

theorem numReckons_lifted (os : Os) (started : os.Started) (H : Type) (enc : TypeId × Value → H) :
    ReturnsInHanded {} Tryd.checked os 7 .any (fun w args => (Rows.numReckonsSpec.pre enc Tryd.prog Tryd.f7 [] false w args ∧ laidMetH Tryd.prog laidL w) ∧ sizedMet enc Tryd.prog Tryd.f7 (OpenSpec.ofChange Rows.numReckonsSpec) false w args)
      (Rows.numReckonsSpec.post enc Tryd.prog Tryd.f7 false true false false) := by
  refine returnsInHanded_of_change_and (C := Tryd.checked) (X := fun w _ => laidMetH Tryd.prog laidL w) (fun _ _ _ hh h => h.of_heap hh) own started (by kernel_rfl) Tryd.func7
    (ChangeSpec.witness_shaped (enc := enc) (C := Tryd.checked) (os := os) (X := fun w _ => laidMetH Tryd.prog laidL w) false (World.doorLaid Tryd.prog 400 os) #[.agg #[.bool false, .int .i64 0, .slice Option.none 0 0], .agg #[.bool false, .int .i64 0, .slice Option.none 0 0]] 8 rfl (World.shaped_of_RefB (by kernel_rfl) (by kernel_rfl)) (by kernel_rfl) (by kernel_rfl) (by kernel_rfl) (door_met os _)) ?_
  intro W base args ds gs before hval0 hW _ hwt hL _
  have hval : ∀ (j : Nat) t v, Tryd.f7.params[j]? = some t → args[j]? = some v → Value.okWide Tryd.prog W .any base t v := hval0
  have hW' := hW
  obtain ⟨p, q, hA0, hV, rfl, hfz, hnd⟩ := hW
  have hA : DataW.TrodAll enc Tryd.prog W 0 (fun _ => true) true Tryd.f7.params.toList args.toList ds p := hA0
  have hAk := hA
  rw [Tryd.params7] at hA hval hwt
  obtain ⟨v0, v1, d0, d1, q0, q1, hargs, rfl, hpp, h0, h1⟩ := trodAll_two hA
  obtain rfl : args = #[v0, v1] := by simpa using hargs
  obtain ⟨rfl, rfl⟩ := trodVars_none hV
  simp only [List.append_nil] at hW' hwt
  obtain ⟨x0, hx0, hB0, hE0⟩ := open_num Tryd.underlying24 (by kernel_rfl) rfl rfl rfl (by kernel_rfl) (by kernel_rfl) (by kernel_rfl) Tryd.underlying4 Tryd.underlying2 rfl Tryd.underlying22 Tryd.underlying54 words64 (by kernel_rfl) h0 (hval 0 24 v0 rfl rfl) (fun a b el sp hd => sized_num hwt (j := 0) rfl (by rw [hd]; rfl) Tryd.underlying24 Tryd.underlying22 bytes64)
  obtain ⟨x1, hx1, hB1, hE1⟩ := open_num Tryd.underlying24 (by kernel_rfl) rfl rfl rfl (by kernel_rfl) (by kernel_rfl) (by kernel_rfl) Tryd.underlying4 Tryd.underlying2 rfl Tryd.underlying22 Tryd.underlying54 words64 (by kernel_rfl) h1 (hval 1 24 v1 rfl rfl) (fun a b el sp hd => sized_num hwt (j := 1) rfl (by rw [hd]; rfl) Tryd.underlying24 Tryd.underlying22 bytes64)
  refine (calls_of_pc Tryd.func7 rfl (by kernel_rfl) (p_NumReckons hB0 hB1) hL (.cons hx0 (.cons hx1 .nil))).mono ?_
  rintro e W' ⟨rfl, hE⟩
  refine ⟨_, rfl, ?_⟩
  refine post_below (pa := p) (pv := []) hW' (fun _ _ _ => trodAll_mk1 (shut_bool Tryd.underlying4 _)) (fun sp hs => ?_) (fun _ _ => rfl) (by simp) hE (ok_one (by kernel_rfl) rfl (okWide_bool_mk Tryd.underlying4 _))
  exact trodAll_stays laidOut hE (by rw [Tryd.params7]; intro t ht; simp at ht; subst ht; exact ⟨by kernel_rfl, of_decide_eq_true (by kernel_rfl)⟩) hAk (fun x hx => hW'.lt x hx) hs

theorem numReckons_row : Rows.NumReckonsSaid :=
  OpenClaim.holds_of_wide 7 Tryd.f7 rfl rfl rfl rfl rfl rfl rfl ⟨rfl, rfl, rfl, rfl, rfl⟩ rfl rfl rfl rfl rfl (by kernel_rfl) Tryd.func7 (by kernel_rfl)
    (of_decide_eq_true (by kernel_rfl)) (by unfold Func.isWrapper; first | (rw [if_pos (by decide +kernel)]; kernel_rfl) | (rw [if_neg (by decide +kernel)]; exact ⟨rfl, rfl⟩))
    (fun os started H enc _ => numReckons_lifted os started H enc)

theorem numReckons_holds : Rows.NumReckonsCardSaid :=
  Claim7.holds_tied_plain_at .later [] [.data] true (true, "3dd5302a80e728afc51e6e5867a235f9c5400d78070187e1180b2f6deb30e7fd") false
    numReckons_row (fun _ h => by cases h) (by kernel_rfl) (fun _ h => by cases h) numReckons_row_tie rfl ⟨rfl, rfl⟩ (by kernel_rfl) rfl
    (fun f fn hf hfn => by
      obtain rfl : f = 7 := Option.some.inj ((show Tryd.prog.funcNamed "fathomline/fathomlinelaw2.NumReckons" = some 7 by kernel_rfl).symm.trans hf) |>.symm
      obtain rfl : fn = Tryd.f7 := (Option.some.inj (Tryd.func7.symm.trans hfn)).symm
      exact ⟨by kernel_rfl, fun j t ht => by
        rw [Tryd.params7] at ht
        have hm : t ∈ [24, 24] := by simpa using Array.mem_of_getElem? ht
        have hall : ([24, 24].all fun u => !Tryd.prog.wantsStandIn u) = true := by kernel_rfl
        exact (show Tryd.prog.wantsStandIn t = false by simpa using List.all_eq_true.1 hall t hm)⟩)
    (by kernel_rfl)

end Go.Proofs.YtkmoeenhboicmaaDoor

/- For any two integers of 64 bits, Int, Cmp and Same of package num answer what the document's numbers say, and the arguments are left as they were. The one listed variable (a table of the library's) is tied to the program's text. -/
import Derived.Test.YtkmoeenhboicmaaDoorG1
import Derived.Test.YtkmoeenhboicmaaDoorA11
set_option linter.unusedSimpArgs false
set_option linter.unusedVariables false
set_option maxRecDepth 100000
namespace Go.Proofs.YtkmoeenhboicmaaDoor
open Go Go.RowKit Go.Proofs Go.V Go.WideShapes Go.ChangeShapes Go.ChangeAt Go.WideElems

theorem numInts_lifted (os : Os) (started : os.Started) (H : Type) (enc : TypeId × Value → H) :
    ReturnsInHanded {} Tryd.checked os 5 .any (fun w args => (Rows.numIntsSpec.pre enc Tryd.prog Tryd.f5 [] false w args ∧ laidMetH Tryd.prog laidL w) ∧ sizedMet enc Tryd.prog Tryd.f5 (OpenSpec.ofChange Rows.numIntsSpec) false w args)
      (Rows.numIntsSpec.post enc Tryd.prog Tryd.f5 false true false false) := by
  refine returnsInHanded_of_change_and (C := Tryd.checked) (X := fun w _ => laidMetH Tryd.prog laidL w) (fun _ _ _ hh h => h.of_heap hh) own started (by kernel_rfl) Tryd.func5
    (ChangeSpec.witness_shaped (enc := enc) (C := Tryd.checked) (os := os) (X := fun w _ => laidMetH Tryd.prog laidL w) false (World.doorLaid Tryd.prog 400 os) #[.int .i64 0, .int .i64 0] 8 rfl (World.shaped_of_RefB (by kernel_rfl) (by kernel_rfl)) (by kernel_rfl) (by kernel_rfl) (by kernel_rfl) (door_met os _)) ?_
  intro W base args ds gs before hval0 hW _ hwt hL _
  have hval : ∀ (j : Nat) t v, Tryd.f5.params[j]? = some t → args[j]? = some v → Value.okWide Tryd.prog W .any base t v := hval0
  have hW' := hW
  obtain ⟨p, q, hA0, hV, rfl, hfz, hnd⟩ := hW
  have hA : DataW.TrodAll enc Tryd.prog W 0 (fun _ => true) true Tryd.f5.params.toList args.toList ds p := hA0
  have hAk := hA
  rw [Tryd.params5] at hA hval hwt
  obtain ⟨v0, v1, d0, d1, q0, q1, hargs, rfl, hpp, h0, h1⟩ := trodAll_two hA
  obtain rfl : args = #[v0, v1] := by simpa using hargs
  obtain ⟨rfl, rfl⟩ := trodVars_none hV
  simp only [List.append_nil] at hW' hwt
  obtain ⟨x0, rfl, hx0⟩ := open_int Tryd.underlying2 h0 (hval 0 2 v0 rfl rfl)
  obtain ⟨x1, rfl, hx1⟩ := open_int Tryd.underlying2 h1 (hval 1 2 v1 rfl rfl)
  refine (calls_of_pc Tryd.func5 rfl (by kernel_rfl) (p_NumInts hx0 hx1) hL (.cons (.g (.lit _ rfl)) (.cons (.g (.lit _ rfl)) .nil))).mono ?_
  rintro e W' ⟨rfl, hE⟩
  refine ⟨_, rfl, ?_⟩
  refine post_below (pa := p) (pv := []) hW' (fun _ _ _ => trodAll_mk1 (shut_bool Tryd.underlying4 _)) (fun sp hs => ?_) (fun _ _ => rfl) (by simp) hE (ok_one (by kernel_rfl) rfl (okWide_bool_mk Tryd.underlying4 _))
  exact trodAll_stays laidOut hE (by rw [Tryd.params5]; intro t ht; simp at ht; subst ht; exact ⟨by kernel_rfl, of_decide_eq_true (by kernel_rfl)⟩) hAk (fun x hx => hW'.lt x hx) hs

theorem numInts_row : Rows.NumIntsSaid :=
  OpenClaim.holds_of_wide 5 Tryd.f5 rfl rfl rfl rfl rfl rfl rfl ⟨rfl, rfl, rfl, rfl, rfl⟩ rfl rfl rfl rfl rfl (by kernel_rfl) Tryd.func5 (by kernel_rfl)
    (of_decide_eq_true (by kernel_rfl)) (by unfold Func.isWrapper; first | (rw [if_pos (by decide +kernel)]; kernel_rfl) | (rw [if_neg (by decide +kernel)]; exact ⟨rfl, rfl⟩))
    (fun os started H enc _ => numInts_lifted os started H enc)

theorem numInts_holds : Rows.NumIntsCardSaid :=
  Claim7.holds_tied_plain_at .later [] [.data] true (true, "3dd5302a80e728afc51e6e5867a235f9c5400d78070187e1180b2f6deb30e7fd") false
    numInts_row (fun _ h => by cases h) (by kernel_rfl) (fun _ h => by cases h) numInts_row_tie rfl ⟨rfl, rfl⟩ (by kernel_rfl) rfl
    (fun f fn hf hfn => by
      obtain rfl : f = 5 := Option.some.inj ((show Tryd.prog.funcNamed "fathomline/fathomlinelaw2.NumInts" = some 5 by kernel_rfl).symm.trans hf) |>.symm
      obtain rfl : fn = Tryd.f5 := (Option.some.inj (Tryd.func5.symm.trans hfn)).symm
      exact ⟨by kernel_rfl, fun j t ht => by
        rw [Tryd.params5] at ht
        have hm : t ∈ [2, 2] := by simpa using Array.mem_of_getElem? ht
        have hall : ([2, 2].all fun u => !Tryd.prog.wantsStandIn u) = true := by kernel_rfl
        exact (show Tryd.prog.wantsStandIn t = false by simpa using List.all_eq_true.1 hall t hm)⟩)
    (by kernel_rfl)

end Go.Proofs.YtkmoeenhboicmaaDoor

/- For any two numbers, any number of bits and either direction, Add, Sub, Mul and Div answer the numbers or errors that the document's numbers say, and the arguments are left as they were. The one listed variable (a table of the library's) is tied to the program's text. -/
import Derived.Test.YtjilhcofkcnplaaDoorPF
import Derived.Test.YtjilhcofkcnplaaDoorP7
set_option linter.unusedSimpArgs false
set_option linter.unusedVariables false
set_option maxRecDepth 100000
namespace Go.Proofs.YtjilhcofkcnplaaDoor
open Go Go.RowKit Go.Proofs Go.V Go.WideShapes Go.ChangeShapes Go.ChangeAt Go.WideElems

theorem roundReckons_lifted (os : Os) (started : os.Started) (H : Type) (enc : TypeId × Value → H) :
    ReturnsInHanded {} Tryd.checked os 4 .any (fun w args => (Rows.roundReckonsSpec.pre enc Tryd.prog Tryd.f4 [] false w args ∧ laidMetH Tryd.prog laidL w) ∧ sizedMet enc Tryd.prog Tryd.f4 (OpenSpec.ofChange Rows.roundReckonsSpec) false w args)
      (Rows.roundReckonsSpec.post enc Tryd.prog Tryd.f4 false true false false) := by
  refine returnsInHanded_of_change_and (C := Tryd.checked) (X := fun w _ => laidMetH Tryd.prog laidL w) (fun _ _ _ hh h => h.of_heap hh) own started (by kernel_rfl) Tryd.func4
    (ChangeSpec.witness_shaped (enc := enc) (C := Tryd.checked) (os := os) (X := fun w _ => laidMetH Tryd.prog laidL w) false (World.doorLaid Tryd.prog 400 os) #[.agg #[.bool false, .int .i64 0, .slice Option.none 0 0], .agg #[.bool false, .int .i64 0, .slice Option.none 0 0], .int .i64 0, .bool false] 8 rfl (World.shaped_of_RefB (by kernel_rfl) (by kernel_rfl)) (by kernel_rfl) (by kernel_rfl) (by kernel_rfl) (door_met os _)) ?_
  intro W base args ds gs before hval0 hW _ hwt hL _
  have hval : ∀ (j : Nat) t v, Tryd.f4.params[j]? = some t → args[j]? = some v → Value.okWide Tryd.prog W .any base t v := hval0
  have hW' := hW
  obtain ⟨p, q, hA0, hV, rfl, hfz, hnd⟩ := hW
  have hA : DataW.TrodAll enc Tryd.prog W 0 (fun _ => true) true Tryd.f4.params.toList args.toList ds p := hA0
  have hAk := hA
  rw [Tryd.params4] at hA hval hwt
  obtain ⟨v0, v1, v2, v3, d0, d1, d2, d3, q0, q1, q2, q3, hargs, rfl, hpp, h0, h1, h2, h3⟩ := trodAll_four hA
  obtain rfl : args = #[v0, v1, v2, v3] := by simpa using hargs
  obtain ⟨rfl, rfl⟩ := trodVars_none hV
  simp only [List.append_nil] at hW' hwt
  obtain ⟨x0, hx0, hB0, hE0⟩ := open_num Tryd.underlying24 (by kernel_rfl) rfl rfl rfl (by kernel_rfl) (by kernel_rfl) (by kernel_rfl) Tryd.underlying4 Tryd.underlying2 rfl Tryd.underlying22 Tryd.underlying47 words64 (by kernel_rfl) h0 (hval 0 24 v0 rfl rfl) (fun a b el sp hd => sized_num hwt (j := 0) rfl (by rw [hd]; rfl) Tryd.underlying24 Tryd.underlying22 bytes64)
  obtain ⟨x1, hx1, hB1, hE1⟩ := open_num Tryd.underlying24 (by kernel_rfl) rfl rfl rfl (by kernel_rfl) (by kernel_rfl) (by kernel_rfl) Tryd.underlying4 Tryd.underlying2 rfl Tryd.underlying22 Tryd.underlying47 words64 (by kernel_rfl) h1 (hval 1 24 v1 rfl rfl) (fun a b el sp hd => sized_num hwt (j := 1) rfl (by rw [hd]; rfl) Tryd.underlying24 Tryd.underlying22 bytes64)
  obtain ⟨x2, rfl, hx2⟩ := open_int Tryd.underlying3 h2 (hval 2 3 v2 rfl rfl)
  obtain ⟨x3, rfl, -, -⟩ := open_bool Tryd.underlying4 (hval 3 4 v3 rfl rfl) h3
  refine (calls_of_pc Tryd.func4 rfl (by kernel_rfl) (p_RoundReckons hB0 hB1 hx2 ) hL (.cons hx0 (.cons hx1 (.cons (.g (.lit _ rfl)) (.cons (.g (.lit _ rfl)) .nil))))).mono ?_
  rintro e W' ⟨rfl, hE⟩
  refine ⟨_, rfl, ?_⟩
  refine post_below (pa := p) (pv := []) hW' (fun _ _ _ => trodAll_mk1 (shut_bool Tryd.underlying4 _)) (fun sp hs => ?_) (fun _ _ => rfl) (by simp) hE (ok_one (by kernel_rfl) rfl (okWide_bool_mk Tryd.underlying4 _))
  exact trodAll_stays laidOut hE (by rw [Tryd.params4]; intro t ht; simp at ht; rcases ht with rfl | rfl | rfl <;> exact ⟨by kernel_rfl, of_decide_eq_true (by kernel_rfl)⟩) hAk (fun x hx => hW'.lt x hx) hs

theorem roundReckons_row : Rows.RoundReckonsSaid :=
  OpenClaim.holds_of_wide 4 Tryd.f4 rfl rfl rfl rfl rfl rfl rfl ⟨rfl, rfl, rfl, rfl, rfl⟩ rfl rfl rfl rfl rfl (by kernel_rfl) Tryd.func4 (by kernel_rfl)
    (of_decide_eq_true (by kernel_rfl)) (by unfold Func.isWrapper; first | (rw [if_pos (by decide +kernel)]; kernel_rfl) | (rw [if_neg (by decide +kernel)]; exact ⟨rfl, rfl⟩))
    (fun os started H enc _ => roundReckons_lifted os started H enc)

theorem roundReckons_holds : Rows.RoundReckonsCardSaid :=
  Claim7.holds_tied_plain_at .later [] [.data] true (true, "a647d786ad216ba9a8050882af831031f59262f1d4e2c4b397f98801bc15b113") false
    roundReckons_row (fun _ h => by cases h) (by kernel_rfl) (fun _ h => by cases h) roundReckons_row_tie rfl ⟨rfl, rfl⟩ (by kernel_rfl) rfl
    (fun f fn hf hfn => by
      obtain rfl : f = 4 := Option.some.inj ((show Tryd.prog.funcNamed "fathomline/fathomlinelaw3.RoundReckons" = some 4 by kernel_rfl).symm.trans hf) |>.symm
      obtain rfl : fn = Tryd.f4 := (Option.some.inj (Tryd.func4.symm.trans hfn)).symm
      exact ⟨by kernel_rfl, fun j t ht => by
        rw [Tryd.params4] at ht
        have hm : t ∈ [24, 24, 3, 4] := by simpa using Array.mem_of_getElem? ht
        have hall : ([24, 24, 3, 4].all fun u => !Tryd.prog.wantsStandIn u) = true := by kernel_rfl
        exact (show Tryd.prog.wantsStandIn t = false by simpa using List.all_eq_true.1 hall t hm)⟩)
    (by kernel_rfl)

end Go.Proofs.YtjilhcofkcnplaaDoor

/- For any list of words and the polynomial of one variable and the number of bits drawn from it, the polynomial's coefficients along the series that is time itself are its own -/
import Derived.Test.YtklilekbokialaaDoorZPF
import Derived.Test.YtklilekbokialaaDoorZI2
set_option linter.unusedSimpArgs false
set_option linter.unusedVariables false
set_option maxRecDepth 100000
namespace Go.Proofs.YtklilekbokialaaDoor
open Go Go.RowKit Go.Proofs Go.V Go.WideShapes Go.ChangeShapes Go.ChangeAt Go.WideElems

theorem seriesLines_lifted (os : Os) (started : os.Started) (H : Type) (enc : TypeId × Value → H) :
    ReturnsInHanded {} Tryd.checked os 3 .any (fun w args => (Rows.seriesLinesSpec.pre enc Tryd.prog Tryd.f3 [] false w args ∧ laidMetH Tryd.prog laidL w) ∧ sizedMet enc Tryd.prog Tryd.f3 (OpenSpec.ofChange Rows.seriesLinesSpec) false w args)
      (Rows.seriesLinesSpec.post enc Tryd.prog Tryd.f3 false true false false) := by
  refine returnsInHanded_of_change_and (C := Tryd.checked) (X := fun w _ => laidMetH Tryd.prog laidL w) (fun _ _ _ hh h => h.of_heap hh) own started (by kernel_rfl) Tryd.func3
    (ChangeSpec.witness_shaped (enc := enc) (C := Tryd.checked) (os := os) (X := fun w _ => laidMetH Tryd.prog laidL w) false (World.doorLaid Tryd.prog 400 os) #[.slice Option.none 0 0] 8 rfl (World.shaped_of_RefB (by kernel_rfl) (by kernel_rfl)) (by kernel_rfl) (by kernel_rfl) (by kernel_rfl) (door_met os _)) ?_
  intro W base args ds gs before hval0 hW _ hwt hL _
  have hval : ∀ (j : Nat) t v, Tryd.f3.params[j]? = some t → args[j]? = some v → Value.okWide Tryd.prog W .any base t v := hval0
  have hW' := hW
  obtain ⟨p, q, hA0, hV, rfl, hfz, hnd⟩ := hW
  have hA : DataW.TrodAll enc Tryd.prog W 0 (fun _ => true) true Tryd.f3.params.toList args.toList ds p := hA0
  have hAk := hA
  rw [Tryd.params3] at hA hval hwt
  obtain ⟨v0, d0, hargs, rfl, h0⟩ := trodAll_one hA
  obtain rfl : args = #[v0] := by simpa using hargs
  obtain ⟨rfl, rfl⟩ := trodVars_none hV
  simp only [List.append_nil] at hW' hwt
  obtain ⟨x0, hx0, hb0⟩ := open_words Tryd.underlying22 Tryd.underlying34 words64 h0 (hval 0 22 v0 rfl rfl) (.inl rfl) (fun el sp hd => by
    have := sized_slice hwt (j := 0) rfl (by rw [hd]; rfl) Tryd.underlying22
    rw [show Tryd.checked.prog.bytesOf 34 = 8 from bytes64] at this
    have h2 := reachBytes_lt
    omega)
  have hB0 : B64 x0 := fun x hx => by have := hb0 x hx; simp [IntKind.max, IntKind.signed, IntKind.bits] at this; omega
  refine (calls_of_pc Tryd.func3 rfl (by kernel_rfl) (p_SeriesLines hB0) hL (.cons (.g hx0) .nil)).mono ?_
  rintro e W' ⟨rfl, hE⟩
  refine ⟨_, rfl, ?_⟩
  refine post_below (pa := p) (pv := []) hW' (fun _ _ _ => trodAll_mk1 (shut_bool Tryd.underlying4 _)) (fun sp hs => ?_) (fun _ _ => rfl) (by simp) hE (ok_one (by kernel_rfl) rfl (okWide_bool_mk Tryd.underlying4 _))
  exact trodAll_stays laidOut hE (by rw [Tryd.params3]; intro t ht; simp at ht; subst ht; exact ⟨by kernel_rfl, of_decide_eq_true (by kernel_rfl)⟩) hAk (fun x hx => hW'.lt x hx) hs

theorem seriesLines_row : Rows.SeriesLinesSaid :=
  OpenClaim.holds_of_wide 3 Tryd.f3 rfl rfl rfl rfl rfl rfl rfl ⟨rfl, rfl, rfl, rfl, rfl⟩ rfl rfl rfl rfl rfl (by kernel_rfl) Tryd.func3 (by kernel_rfl)
    (of_decide_eq_true (by kernel_rfl)) (by unfold Func.isWrapper; first | (rw [if_pos (by decide +kernel)]; kernel_rfl) | (rw [if_neg (by decide +kernel)]; exact ⟨rfl, rfl⟩))
    (fun os started H enc _ => seriesLines_lifted os started H enc)

theorem seriesLines_holds : Rows.SeriesLinesCardSaid :=
  Claim7.holds_tied_plain_at .later [] [.data] true (true, "eb0d32be69d23098320e75bf6965c7d06be86f951bb17edd8ed109af2c97701c") false
    seriesLines_row (fun _ h => by cases h) (by kernel_rfl) (fun _ h => by cases h) seriesLines_row_tie rfl ⟨rfl, rfl⟩ (by kernel_rfl) rfl
    (fun f fn hf hfn => by
      obtain rfl : f = 3 := Option.some.inj ((show Tryd.prog.funcNamed "fathomline/fathomlinelaw14.SeriesLines" = some 3 by kernel_rfl).symm.trans hf) |>.symm
      obtain rfl : fn = Tryd.f3 := (Option.some.inj (Tryd.func3.symm.trans hfn)).symm
      exact ⟨by kernel_rfl, fun j t ht => by
        rw [Tryd.params3] at ht
        have hm : t ∈ [22] := by simpa using Array.mem_of_getElem? ht
        have hall : ([22].all fun u => !Tryd.prog.wantsStandIn u) = true := by kernel_rfl
        exact (show Tryd.prog.wantsStandIn t = false by simpa using List.all_eq_true.1 hall t hm)⟩)
    (by kernel_rfl)

end Go.Proofs.YtklilekbokialaaDoor

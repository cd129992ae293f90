/- For every list of words and every byte, Right, Same, Steps, Until, Find, Covers and Each of package tube answer what the document's tubes say, for drawn tubes and for such with one piece changed or missing: the law answers true, and the arguments are left as they were. -/
import Derived.Test.YtcmnbpliiopbjaaGreatPF
import Derived.Test.YtcmnbpliiopbjaaGreatU30
set_option linter.unusedSimpArgs false
set_option linter.unusedVariables false
set_option maxRecDepth 100000
namespace Go.Proofs.YtcmnbpliiopbjaaGreat
open Go Go.RowKit Go.Proofs Go.V Go.WideShapes Go.ChangeShapes Go.ChangeAt Go.WideElems

theorem tubeDrawn_lifted (os : Os) (started : os.Started) (H : Type) (enc : TypeId × Value → H) :
    ReturnsInHanded {} Tryz.checked os 3 .any (fun w args => (Rows.tubeDrawnSpec.pre enc Tryz.prog Tryz.f3 [] false w args ∧ laidMetH Tryz.prog laidL w) ∧ sizedMet enc Tryz.prog Tryz.f3 (OpenSpec.ofChange Rows.tubeDrawnSpec) false w args)
      (Rows.tubeDrawnSpec.post enc Tryz.prog Tryz.f3 false true false false) := by
  refine returnsInHanded_of_change_and (C := Tryz.checked) (X := fun w _ => laidMetH Tryz.prog laidL w) (fun _ _ _ hh h => h.of_heap hh) own started (by kernel_rfl) Tryz.func3
    (ChangeSpec.witness_shaped (enc := enc) (C := Tryz.checked) (os := os) (X := fun w _ => laidMetH Tryz.prog laidL w) false (World.doorLaid Tryz.prog 400 os) #[.slice Option.none 0 0, .int .u8 0] 8 rfl (World.shaped_of_RefB (by kernel_rfl) (by kernel_rfl)) (by kernel_rfl) (by kernel_rfl) (by kernel_rfl) (door_met os _)) ?_
  intro W base args ds gs before hval0 hW _ hwt hL _
  have hval : ∀ (j : Nat) t v, Tryz.f3.params[j]? = some t → args[j]? = some v → Value.okWide Tryz.prog W .any base t v := hval0
  have hW' := hW
  obtain ⟨p, q, hA0, hV, rfl, hfz, hnd⟩ := hW
  have hA : DataW.TrodAll enc Tryz.prog W 0 (fun _ => true) true Tryz.f3.params.toList args.toList ds p := hA0
  have hAk := hA
  rw [Tryz.params3] at hA hval hwt
  obtain ⟨v0, v1, d0, d1, q0, q1, hargs, rfl, hpp, h0, h1⟩ := trodAll_two hA
  obtain rfl : args = #[v0, v1] := by simpa using hargs
  obtain ⟨rfl, rfl⟩ := trodVars_none hV
  simp only [List.append_nil] at hW' hwt
  obtain ⟨x0, hx0, hb0⟩ := open_words Tryz.underlying22 Tryz.underlying39 words64 h0 (hval 0 22 v0 rfl rfl) (.inl rfl) (fun el sp hd => by
    have := sized_slice hwt (j := 0) rfl (by rw [hd]; rfl) Tryz.underlying22
    rw [show Tryz.checked.prog.bytesOf 39 = 8 from bytes64] at this
    have h2 := reachBytes_lt
    omega)
  have hB0 : B64 x0 := fun x hx => by have := hb0 x hx; simp [IntKind.max, IntKind.signed, IntKind.bits] at this; omega
  obtain ⟨x1, rfl, hx1⟩ := open_int Tryz.underlying5 h1 (hval 1 5 v1 rfl rfl)
  refine (calls_of_pc Tryz.func3 rfl (by kernel_rfl) (p_TubeDrawn hB0 hx1) hL (.cons (.g hx0) (.cons (.g (.lit _ rfl)) .nil))).mono ?_
  rintro e W' ⟨rfl, hE⟩
  refine ⟨_, rfl, ?_⟩
  refine post_below (pa := p) (pv := []) hW' (fun _ _ _ => trodAll_mk1 (shut_bool Tryz.underlying4 _)) (fun sp hs => ?_) (fun _ _ => rfl) (by simp) hE (ok_one (by kernel_rfl) rfl (okWide_bool_mk Tryz.underlying4 _))
  exact trodAll_stays laidOut hE (by rw [Tryz.params3]; intro t ht; simp at ht; rcases ht with rfl | rfl <;> exact ⟨by kernel_rfl, of_decide_eq_true (by kernel_rfl)⟩) hAk (fun x hx => hW'.lt x hx) hs

theorem tubeDrawn_holds : Rows.TubeDrawnSaid :=
  OpenClaim.holds_of_wide 3 Tryz.f3 rfl rfl rfl rfl rfl rfl rfl ⟨rfl, rfl, rfl, rfl, rfl⟩ rfl rfl rfl rfl rfl (by kernel_rfl) Tryz.func3 (by kernel_rfl)
    (of_decide_eq_true (by kernel_rfl)) (by unfold Func.isWrapper; first | (rw [if_pos (by decide +kernel)]; kernel_rfl) | (rw [if_neg (by decide +kernel)]; exact ⟨rfl, rfl⟩))
    (fun os started H enc _ => by
      have h := tubeDrawn_lifted os started H enc
      rw [show (fun (w : World) (args : Array Value) => (Rows.tubeDrawnSpec.pre enc Tryz.prog Tryz.f3 [] false w args ∧ laidMetH Tryz.prog laidL w) ∧ sizedMet enc Tryz.prog Tryz.f3 (OpenSpec.ofChange Rows.tubeDrawnSpec) false w args) = fun w args => Rows.tubeDrawnSpec.pre enc Tryz.prog Tryz.f3 [] false w args ∧ sizedMet enc Tryz.prog Tryz.f3 (OpenSpec.ofChange Rows.tubeDrawnSpec) false w args from by
        funext w args; rw [show laidMetH Tryz.prog laidL w = True from eq_true (laidMetH_nil _ _), and_true]] at h
      exact h)

end Go.Proofs.YtcmnbpliiopbjaaGreat

/- For every list of words and every byte, the iterator that tube.Each answers hands on, in their order and as long as more are wanted, those pieces of the drawn tube that meet the drawn span: the law answers true, and the arguments are left as they were. -/
import Derived.Test.YtcmnbpliiopbjaaPF
import Derived.Test.YtcmnbpliiopbjaaU23
set_option linter.unusedSimpArgs false
set_option linter.unusedVariables false
set_option maxRecDepth 100000
namespace Go.Proofs.Ytcmnbpliiopbjaa
open Go Go.RowKit Go.Proofs Go.V Go.WideShapes Go.ChangeShapes Go.ChangeAt Go.WideElems

theorem tubeEach_lifted (os : Os) (started : os.Started) (H : Type) (enc : TypeId × Value → H) :
    ReturnsInHanded {} Try.checked os 3 .any (fun w args => (Rows.tubeEachSpec.pre enc Try.prog Try.f3 [] false w args ∧ laidMetH Try.prog laidL w) ∧ sizedMet enc Try.prog Try.f3 (OpenSpec.ofChange Rows.tubeEachSpec) false w args)
      (Rows.tubeEachSpec.post enc Try.prog Try.f3 false true false false) := by
  refine returnsInHanded_of_change_and (C := Try.checked) (X := fun w _ => laidMetH Try.prog laidL w) (fun _ _ _ hh h => h.of_heap hh) own started (by kernel_rfl) Try.func3
    (ChangeSpec.witness_shaped (enc := enc) (C := Try.checked) (os := os) (X := fun w _ => laidMetH Try.prog laidL w) false (World.doorLaid Try.prog 400 os) #[.slice Option.none 0 0, .int .u8 0] 8 rfl (World.shaped_of_RefB (by kernel_rfl) (by kernel_rfl)) (by kernel_rfl) (by kernel_rfl) (by kernel_rfl) (door_met os _)) ?_
  intro W base args ds gs before hval0 hW _ hwt hL _
  have hval : ∀ (j : Nat) t v, Try.f3.params[j]? = some t → args[j]? = some v → Value.okWide Try.prog W .any base t v := hval0
  have hW' := hW
  obtain ⟨p, q, hA0, hV, rfl, hfz, hnd⟩ := hW
  have hA : DataW.TrodAll enc Try.prog W 0 (fun _ => true) true Try.f3.params.toList args.toList ds p := hA0
  have hAk := hA
  rw [Try.params3] at hA hval hwt
  obtain ⟨v0, v1, d0, d1, q0, q1, hargs, rfl, hpp, h0, h1⟩ := trodAll_two hA
  obtain rfl : args = #[v0, v1] := by simpa using hargs
  obtain ⟨rfl, rfl⟩ := trodVars_none hV
  simp only [List.append_nil] at hW' hwt
  obtain ⟨x0, hx0, hb0⟩ := open_words Try.underlying22 Try.underlying52 words64 h0 (hval 0 22 v0 rfl rfl) (.inl rfl) (fun el sp hd => by
    have := sized_slice hwt (j := 0) rfl (by rw [hd]; rfl) Try.underlying22
    rw [show Try.checked.prog.bytesOf 52 = 8 from bytes64] at this
    have h2 := reachBytes_lt
    omega)
  have hB0 : B64 x0 := fun x hx => by have := hb0 x hx; simp [IntKind.max, IntKind.signed, IntKind.bits] at this; omega
  obtain ⟨x1, rfl, hx1⟩ := open_int Try.underlying5 h1 (hval 1 5 v1 rfl rfl)
  refine (calls_of_pc Try.func3 rfl (by kernel_rfl) (p_TubeEach hB0 hx1) hL (.cons (.g hx0) (.cons (.g (.lit _ rfl)) .nil))).mono ?_
  rintro e W' ⟨rfl, hE⟩
  refine ⟨_, rfl, ?_⟩
  refine post_below (pa := p) (pv := []) hW' (fun _ _ _ => trodAll_mk1 (shut_bool Try.underlying4 _)) (fun sp hs => ?_) (fun _ _ => rfl) (by simp) hE (ok_one (by kernel_rfl) rfl (okWide_bool_mk Try.underlying4 _))
  exact trodAll_stays laidOut hE (by rw [Try.params3]; intro t ht; simp at ht; rcases ht with rfl | rfl <;> exact ⟨by kernel_rfl, of_decide_eq_true (by kernel_rfl)⟩) hAk (fun x hx => hW'.lt x hx) hs

theorem tubeEach_holds : Rows.TubeEachSaid :=
  OpenClaim.holds_of_wide 3 Try.f3 rfl rfl rfl rfl rfl rfl rfl ⟨rfl, rfl, rfl, rfl, rfl⟩ rfl rfl rfl rfl rfl (by kernel_rfl) Try.func3 (by kernel_rfl)
    (of_decide_eq_true (by kernel_rfl)) (by unfold Func.isWrapper; first | (rw [if_pos (by decide +kernel)]; kernel_rfl) | (rw [if_neg (by decide +kernel)]; exact ⟨rfl, rfl⟩))
    (fun os started H enc _ => by
      have h := tubeEach_lifted os started H enc
      rw [show (fun (w : World) (args : Array Value) => (Rows.tubeEachSpec.pre enc Try.prog Try.f3 [] false w args ∧ laidMetH Try.prog laidL w) ∧ sizedMet enc Try.prog Try.f3 (OpenSpec.ofChange Rows.tubeEachSpec) false w args) = fun w args => Rows.tubeEachSpec.pre enc Try.prog Try.f3 [] false w args ∧ sizedMet enc Try.prog Try.f3 (OpenSpec.ofChange Rows.tubeEachSpec) false w args from by
        funext w args; rw [show laidMetH Try.prog laidL w = True from eq_true (laidMetH_nil _ _), and_true]] at h
      exact h)

end Go.Proofs.Ytcmnbpliiopbjaa

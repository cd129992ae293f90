/- For any two lists of words and any shift, the calls of package nat leave what they are given as it was, with the room behind it, and what they answer lies in memory of its own. No condition. -/
import Derived.Test.YtilnmcabjkpohaaDoorPF
import Derived.Test.YtilnmcabjkpohaaDoorNK2
set_option linter.unusedSimpArgs false
set_option linter.unusedVariables false
set_option maxRecDepth 100000
namespace Go.Proofs.YtilnmcabjkpohaaDoor
open Go Go.RowKit Go.Proofs Go.V Go.WideShapes Go.ChangeShapes Go.ChangeAt Go.WideElems

theorem natKeeps_lifted (os : Os) (started : os.Started) (H : Type) (enc : TypeId × Value → H) :
    ReturnsInHanded {} Tryd.checked os 9 .any (fun w args => (Rows.natKeepsSpec.pre enc Tryd.prog Tryd.f9 [] false w args ∧ laidMetH Tryd.prog laidL w) ∧ sizedMet enc Tryd.prog Tryd.f9 (OpenSpec.ofChange Rows.natKeepsSpec) false w args)
      (Rows.natKeepsSpec.post enc Tryd.prog Tryd.f9 false true false false) := by
  refine returnsInHanded_of_change_and (C := Tryd.checked) (X := fun w _ => laidMetH Tryd.prog laidL w) (fun _ _ _ hh h => h.of_heap hh) own started (by kernel_rfl) Tryd.func9
    (ChangeSpec.witness_shaped (enc := enc) (C := Tryd.checked) (os := os) (X := fun w _ => laidMetH Tryd.prog laidL w) false (World.doorLaid Tryd.prog 400 os) #[.slice Option.none 0 0, .slice Option.none 0 0, .int .u8 0] 8 rfl (World.shaped_of_RefB (by kernel_rfl) (by kernel_rfl)) (by kernel_rfl) (by kernel_rfl) (by kernel_rfl) (door_met os _)) ?_
  intro W base args ds gs before hval0 hW _ hwt hL _
  have hval : ∀ (j : Nat) t v, Tryd.f9.params[j]? = some t → args[j]? = some v → Value.okWide Tryd.prog W .any base t v := hval0
  have hW' := hW
  obtain ⟨p, q, hA0, hV, rfl, hfz, hnd⟩ := hW
  have hA : DataW.TrodAll enc Tryd.prog W 0 (fun _ => true) true Tryd.f9.params.toList args.toList ds p := hA0
  have hAk := hA
  rw [Tryd.params9] at hA hval hwt
  obtain ⟨v0, v1, v2, d0, d1, d2, q0, q1, q2, hargs, rfl, hpp, h0, h1, h2⟩ := trodAll_three hA
  obtain rfl : args = #[v0, v1, v2] := by simpa using hargs
  obtain ⟨rfl, rfl⟩ := trodVars_none hV
  simp only [List.append_nil] at hW' hwt
  obtain ⟨x0, hx0, hb0⟩ := open_words Tryd.underlying22 Tryd.underlying27 words64 h0 (hval 0 22 v0 rfl rfl) (.inl rfl) (fun el sp hd => by
    have := sized_slice hwt (j := 0) rfl (by rw [hd]; rfl) Tryd.underlying22
    rw [show Tryd.checked.prog.bytesOf 27 = 8 from bytes64] at this
    have h2 := reachBytes_lt
    omega)
  have hB0 : B64 x0 := fun x hx => by have := hb0 x hx; simp [IntKind.max, IntKind.signed, IntKind.bits] at this; omega
  obtain ⟨x1, hx1, hb1⟩ := open_words Tryd.underlying22 Tryd.underlying27 words64 h1 (hval 1 22 v1 rfl rfl) (.inl rfl) (fun el sp hd => by
    have := sized_slice hwt (j := 1) rfl (by rw [hd]; rfl) Tryd.underlying22
    rw [show Tryd.checked.prog.bytesOf 27 = 8 from bytes64] at this
    have h2 := reachBytes_lt
    omega)
  have hB1 : B64 x1 := fun x hx => by have := hb1 x hx; simp [IntKind.max, IntKind.signed, IntKind.bits] at this; omega
  obtain ⟨x2, rfl, hx2⟩ := open_int Tryd.underlying5 h2 (hval 2 5 v2 rfl rfl)
  refine (calls_of_pc Tryd.func9 rfl (by kernel_rfl) (p_NatKeeps hB0 hB1) hL (.cons (.g hx0) (.cons (.g hx1) (.cons (.g (.lit _ rfl)) .nil)))).mono ?_
  rintro e W' ⟨rfl, hE⟩
  refine ⟨_, rfl, ?_⟩
  refine post_below (pa := p) (pv := []) hW' (fun _ _ _ => trodAll_mk1 (shut_bool Tryd.underlying4 _)) (fun sp hs => ?_) (fun _ _ => rfl) (by simp) hE (ok_one (by kernel_rfl) rfl (okWide_bool_mk Tryd.underlying4 _))
  exact trodAll_stays laidOut hE (by rw [Tryd.params9]; intro t ht; simp at ht; rcases ht with rfl | rfl <;> exact ⟨by kernel_rfl, of_decide_eq_true (by kernel_rfl)⟩) hAk (fun x hx => hW'.lt x hx) hs

theorem natKeeps_row : Rows.NatKeepsSaid :=
  OpenClaim.holds_of_wide 9 Tryd.f9 rfl rfl rfl rfl rfl rfl rfl ⟨rfl, rfl, rfl, rfl, rfl⟩ rfl rfl rfl rfl rfl (by kernel_rfl) Tryd.func9 (by kernel_rfl)
    (of_decide_eq_true (by kernel_rfl)) (by unfold Func.isWrapper; first | (rw [if_pos (by decide +kernel)]; kernel_rfl) | (rw [if_neg (by decide +kernel)]; exact ⟨rfl, rfl⟩))
    (fun os started H enc _ => natKeeps_lifted os started H enc)

theorem natKeeps_holds : Rows.NatKeepsCardSaid :=
  Claim7.holds_tied_plain_at .later [] [.data] true (true, "fadd19c2e402f895157f9341926dcf47a6d4509581b04a21579e27afd4798128") false
    natKeeps_row (fun _ h => by cases h) (by kernel_rfl) (fun _ h => by cases h) natKeeps_row_tie rfl ⟨rfl, rfl⟩ (by kernel_rfl) rfl
    (fun f fn hf hfn => by
      obtain rfl : f = 9 := Option.some.inj ((show Tryd.prog.funcNamed "fathomline/fathomlinelaw1.NatKeeps" = some 9 by kernel_rfl).symm.trans hf) |>.symm
      obtain rfl : fn = Tryd.f9 := (Option.some.inj (Tryd.func9.symm.trans hfn)).symm
      exact ⟨by kernel_rfl, fun j t ht => by
        rw [Tryd.params9] at ht
        have hm : t ∈ [22, 22, 5] := by simpa using Array.mem_of_getElem? ht
        have hall : ([22, 22, 5].all fun u => !Tryd.prog.wantsStandIn u) = true := by kernel_rfl
        exact (show Tryd.prog.wantsStandIn t = false by simpa using List.all_eq_true.1 hall t hm)⟩)
    (by kernel_rfl)

end Go.Proofs.YtilnmcabjkpohaaDoor

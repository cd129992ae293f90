/- The exact value at any point of a box is in Range, and Range of a part of the box is a subset of Range of the box -/
import Derived.Test.YtgapammfekmihaaGreatDoorZcPF
import Derived.Test.YtgapammfekmihaaGreatDoorZcI5
set_option linter.unusedSimpArgs false
set_option linter.unusedVariables false
set_option maxRecDepth 100000
namespace Go.Proofs.YtgapammfekmihaaGreatDoor
open Go Go.RowKit Go.Proofs Go.V Go.WideShapes Go.ChangeShapes Go.ChangeAt Go.WideElems
theorem polyHolds_lifted (os:Os) (started:os.Started) (H:Type) (enc:TypeId × Value→H) :
 ReturnsInHanded {} Tryz.checked os 10 .any (fun w args=>(Rows.polyHoldsSpec.pre enc Tryz.prog Tryz.f10 [] false w args∧laidMetH Tryz.prog laidL w)∧sizedMet enc Tryz.prog Tryz.f10 (OpenSpec.ofChange Rows.polyHoldsSpec) false w args)
  (Rows.polyHoldsSpec.post enc Tryz.prog Tryz.f10 false true false false):=by
 refine returnsInHanded_of_change_and (C:=Tryz.checked) (X:=fun w _=>laidMetH Tryz.prog laidL w) (fun _ _ _ hh h=>h.of_heap hh) own started (by kernel_rfl) Tryz.func10
  (ChangeSpec.witness_shaped (enc:=enc) (C:=Tryz.checked) (os:=os) (X:=fun w _=>laidMetH Tryz.prog laidL w) false (World.doorLaid Tryz.prog 400 os) #[.slice Option.none 0 0] 8 rfl (World.shaped_of_RefB (by kernel_rfl) (by kernel_rfl)) (by kernel_rfl) (by kernel_rfl) (by kernel_rfl) (door_met os _)) ?_
 intro W base args ds gs before hval0 hW _ hwt hL _
 have hval:∀ (j:Nat) t v,Tryz.f10.params[j]? = some t→args[j]? = some v→Value.okWide Tryz.prog W .any base t v:=hval0
 have hW':=hW
 obtain ⟨p,q,hA0,hV,rfl,hfz,hnd⟩:=hW
 have hA:DataW.TrodAll enc Tryz.prog W 0 (fun _=>true) true Tryz.f10.params.toList args.toList ds p:=hA0
 have hAk:=hA
 rw [Tryz.params10] at hA hval hwt
 obtain ⟨v0,a0,d0,b0,p0,s0,hargs,rfl,hpp0,h0,hA⟩:=trodAll_cons hA
 obtain ⟨rfl,rfl,_⟩:=trodAll_nil hA
 obtain rfl:args=#[v0]:=by cases args;simp_all
 obtain ⟨rfl,rfl⟩:=trodVars_none hV
 simp only [List.append_nil] at hW' hwt
 obtain ⟨x0,hx0,hb0⟩:=open_words Tryz.underlying29 Tryz.underlying46 words64 h0 (hval 0 29 v0 rfl rfl) (.inl rfl) (fun el sp hd=>by
  have:=sized_slice hwt (j:=0) rfl (by rw [hd];rfl) Tryz.underlying29
  rw [show Tryz.checked.prog.bytesOf 46=8 from bytes64] at this
  have h2:=reachBytes_lt
  omega)
 have hB0:B64 x0:=fun x hx=>by have:=hb0 x hx;simp [IntKind.max,IntKind.signed,IntKind.bits] at this;omega
 refine (calls_of_pc Tryz.func10 rfl (by kernel_rfl) (p_PolyHolds hB0) hL (.cons (.g hx0) .nil)).mono ?_
 rintro e W' ⟨rfl,hE⟩
 refine ⟨_,rfl,?_⟩
 refine post_below (pa:=p) (pv:=[]) hW' (fun _ _ _=>trodAll_mk1 (shut_bool Tryz.underlying4 _)) (fun sp hs=>?_) (fun _ _=>rfl) (by simp) hE (ok_one (by kernel_rfl) rfl (okWide_bool_mk Tryz.underlying4 _))
 exact trodAll_stays laidOut hE (by rw [Tryz.params10];intro t ht;simp at ht;subst ht<;>exact ⟨by kernel_rfl,of_decide_eq_true (by kernel_rfl)⟩) hAk (fun x hx=>hW'.lt x hx) hs
theorem polyHolds_row:Rows.PolyHoldsSaid :=
 OpenClaim.holds_of_wide 10 Tryz.f10 rfl rfl rfl rfl rfl rfl rfl ⟨rfl,rfl,rfl,rfl,rfl⟩ rfl rfl rfl rfl rfl (by kernel_rfl) Tryz.func10 (by kernel_rfl)
  (of_decide_eq_true (by kernel_rfl)) (by unfold Func.isWrapper;first|(rw [if_pos (by decide +kernel)];kernel_rfl)|(rw [if_neg (by decide +kernel)];exact ⟨rfl,rfl⟩))
  (fun os started H enc _=>polyHolds_lifted os started H enc)
theorem polyHolds_holds:Rows.PolyHoldsCardSaid :=
 Claim7.holds_tied_plain_at .later [] [.data] true (true, "16bbb1c3cb50256856a36b4a46284ab0b342408bab08bb354e8b01ac7b1ac621") false
  polyHolds_row (fun _ h=>by cases h) (by kernel_rfl) (fun _ h=>by cases h) polyHolds_row_tie rfl ⟨rfl,rfl⟩ (by kernel_rfl) rfl
  (fun f fn hf hfn=>by
    obtain rfl:f=10:=Option.some.inj ((show Tryz.prog.funcNamed "fathomline/fathomlinelaw10.PolyHolds" = some 10 by kernel_rfl).symm.trans hf) |>.symm
    obtain rfl:fn=Tryz.f10:=(Option.some.inj (Tryz.func10.symm.trans hfn)).symm
    exact ⟨by kernel_rfl,fun j t ht=>by
     rw [Tryz.params10] at ht
     have hm:t ∈ [29]:=by simpa using Array.mem_of_getElem? ht
     have hall:([29].all fun u => !Tryz.prog.wantsStandIn u)=true:=by kernel_rfl
     exact (show Tryz.prog.wantsStandIn t=false by simpa using List.all_eq_true.1 hall t hm)⟩)
  (by kernel_rfl)
end Go.Proofs.YtgapammfekmihaaGreatDoor

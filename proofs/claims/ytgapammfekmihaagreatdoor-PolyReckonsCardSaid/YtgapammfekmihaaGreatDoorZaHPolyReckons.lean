/- Add, Mul and Diff return the documented polynomials or errors for arbitrary arguments -/
import Derived.Test.YtgapammfekmihaaGreatDoorZaPF
import Derived.Test.YtgapammfekmihaaGreatDoorZaI5
set_option linter.unusedSimpArgs false
set_option linter.unusedVariables false
set_option maxRecDepth 100000
namespace Go.Proofs.YtgapammfekmihaaGreatDoor
open Go Go.RowKit Go.Proofs Go.V Go.WideShapes Go.ChangeShapes Go.ChangeAt Go.WideElems
theorem polyReckons_lifted (os:Os) (started:os.Started) (H:Type) (enc:TypeId × Value→H) :
 ReturnsInHanded {} Tryz.checked os 5 .any (fun w args=>(Rows.polyReckonsSpec.pre enc Tryz.prog Tryz.f5 [] false w args∧laidMetH Tryz.prog laidL w)∧sizedMet enc Tryz.prog Tryz.f5 (OpenSpec.ofChange Rows.polyReckonsSpec) false w args)
  (Rows.polyReckonsSpec.post enc Tryz.prog Tryz.f5 false true false false):=by
 refine returnsInHanded_of_change_and (C:=Tryz.checked) (X:=fun w _=>laidMetH Tryz.prog laidL w) (fun _ _ _ hh h=>h.of_heap hh) own started (by kernel_rfl) Tryz.func5
  (ChangeSpec.witness_shaped (enc:=enc) (C:=Tryz.checked) (os:=os) (X:=fun w _=>laidMetH Tryz.prog laidL w) false (World.doorLaid Tryz.prog 400 os) #[.slice Option.none 0 0,.slice Option.none 0 0,.int .i64 0,.int .i64 0] 8 rfl (World.shaped_of_RefB (by kernel_rfl) (by kernel_rfl)) (by kernel_rfl) (by kernel_rfl) (by kernel_rfl) (door_met os _)) ?_
 intro W base args ds gs before hval0 hW _ hwt hL _
 have hval:∀ (j:Nat) t v,Tryz.f5.params[j]? = some t→args[j]? = some v→Value.okWide Tryz.prog W .any base t v:=hval0
 have hW':=hW
 obtain ⟨p,q,hA0,hV,rfl,hfz,hnd⟩:=hW
 have hA:DataW.TrodAll enc Tryz.prog W 0 (fun _=>true) true Tryz.f5.params.toList args.toList ds p:=hA0
 have hAk:=hA
 rw [Tryz.params5] at hA hval hwt
 obtain ⟨v0,a0,d0,b0,p0,s0,hargs,rfl,hpp0,h0,hA⟩:=trodAll_cons hA
 obtain ⟨v1,a1,d1,b1,p1,s1,rfl,rfl,hpp1,h1,hA⟩:=trodAll_cons hA
 obtain ⟨v2,a2,d2,b2,p2,s2,rfl,rfl,hpp2,h2,hA⟩:=trodAll_cons hA
 obtain ⟨v3,a3,d3,b3,p3,s3,rfl,rfl,hpp3,h3,hA⟩:=trodAll_cons hA
 obtain ⟨rfl,rfl,_⟩:=trodAll_nil hA
 obtain rfl:args=#[v0,v1,v2,v3]:=by cases args;simp_all
 obtain ⟨rfl,rfl⟩:=trodVars_none hV
 simp only [List.append_nil] at hW' hwt
 have oN:=opens_num (enc:=enc) (w:=W) Tryz.underlying41 (by kernel_rfl) rfl rfl rfl (by kernel_rfl) (by kernel_rfl) (by kernel_rfl) Tryz.underlying4 Tryz.underlying2 Tryz.underlying29 Tryz.underlying46 (by kernel_rfl) bytes64
 have oM:Opens enc Tryz.prog W 45 4 eM (fun m=>B64 m.c.w):=(opens_struct2 (s0:=3) (s1:=1) Tryz.underlying45 (by kernel_rfl) rfl rfl (by kernel_rfl) (by kernel_rfl) oN (opens_ints (k:=.i64) Tryz.underlying43 Tryz.underlying3 (by kernel_rfl) (by kernel_rfl))).to (fun x hx=>⟨⟨x.1,x.2⟩,rfl,hx.1.1⟩)
 have oMs:=opens_rows Tryz.underlying22 (by kernel_rfl) (by decide) (of_decide_eq_true (by kernel_rfl)) oM
 obtain ⟨x0,hx0,hq0⟩:=open_rowF Tryz.underlying22 oMs h0 (hval 0 22 v0 rfl rfl) (lt_param hwt (j:=0) rfl rfl)
 obtain ⟨x1,hx1,hq1⟩:=open_rowF Tryz.underlying22 oMs h1 (hval 1 22 v1 rfl rfl) (lt_param hwt (j:=1) rfl rfl)
 obtain ⟨x2,rfl,hx2⟩:=open_int Tryz.underlying3 h2 (hval 2 3 v2 rfl rfl)
 obtain ⟨x3,rfl,hx3⟩:=open_int Tryz.underlying3 h3 (hval 3 3 v3 rfl rfl)
 refine (calls_of_pc Tryz.func5 rfl (by kernel_rfl) (p_PolyReckons hq0 hq1) hL (.cons hx0 (.cons hx1 (.cons (.g (.lit _ rfl)) (.cons (.g (.lit _ rfl)) .nil))))).mono ?_
 rintro e W' ⟨rfl,hE⟩
 refine ⟨_,rfl,?_⟩
 refine post_below (pa:=p) (pv:=[]) hW' (fun _ _ _=>trodAll_mk1 (shut_bool Tryz.underlying4 _)) (fun sp hs=>?_) (fun _ _=>rfl) (by simp) hE (ok_one (by kernel_rfl) rfl (okWide_bool_mk Tryz.underlying4 _))
 exact trodAll_stays laidOut hE (by rw [Tryz.params5];intro t ht;simp at ht;rcases ht with rfl|rfl<;>exact ⟨by kernel_rfl,of_decide_eq_true (by kernel_rfl)⟩) hAk (fun x hx=>hW'.lt x hx) hs
theorem polyReckons_row:Rows.PolyReckonsSaid :=
 OpenClaim.holds_of_wide 5 Tryz.f5 rfl rfl rfl rfl rfl rfl rfl ⟨rfl,rfl,rfl,rfl,rfl⟩ rfl rfl rfl rfl rfl (by kernel_rfl) Tryz.func5 (by kernel_rfl)
  (of_decide_eq_true (by kernel_rfl)) (by unfold Func.isWrapper;first|(rw [if_pos (by decide +kernel)];kernel_rfl)|(rw [if_neg (by decide +kernel)];exact ⟨rfl,rfl⟩))
  (fun os started H enc _=>polyReckons_lifted os started H enc)
theorem polyReckons_holds:Rows.PolyReckonsCardSaid :=
 Claim7.holds_tied_plain_at .later [] [.data] true (true, "16bbb1c3cb50256856a36b4a46284ab0b342408bab08bb354e8b01ac7b1ac621") false
  polyReckons_row (fun _ h=>by cases h) (by kernel_rfl) (fun _ h=>by cases h) polyReckons_row_tie rfl ⟨rfl,rfl⟩ (by kernel_rfl) rfl
  (fun f fn hf hfn=>by
    obtain rfl:f=5:=Option.some.inj ((show Tryz.prog.funcNamed "fathomline/fathomlinelaw10.PolyReckons" = some 5 by kernel_rfl).symm.trans hf) |>.symm
    obtain rfl:fn=Tryz.f5:=(Option.some.inj (Tryz.func5.symm.trans hfn)).symm
    exact ⟨by kernel_rfl,fun j t ht=>by
     rw [Tryz.params5] at ht
     have hm:t ∈ [22,22,3,3]:=by simpa using Array.mem_of_getElem? ht
     have hall:([22,22,3,3].all fun u => !Tryz.prog.wantsStandIn u)=true:=by kernel_rfl
     exact (show Tryz.prog.wantsStandIn t=false by simpa using List.all_eq_true.1 hall t hm)⟩)
  (by kernel_rfl)
end Go.Proofs.YtgapammfekmihaaGreatDoor

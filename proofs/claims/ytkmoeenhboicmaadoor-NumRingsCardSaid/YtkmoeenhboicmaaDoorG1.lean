/- For every list of words, Right, Trim, Bits and Zeros of package nat answer what the document's numbers say, and the argument is left as it was; the one table at package level is tied to the program's text. -/
import Derived.Test.YtkmoeenhboicmaaDoorF
set_option linter.unusedSimpArgs false
set_option linter.unusedVariables false
set_option maxRecDepth 100000
namespace Go.Proofs.YtkmoeenhboicmaaDoor
open Go Go.RowKit Go.Proofs Go.V Go.WideShapes Go.ChangeShapes Go.ChangeAt Go.WideElems

theorem own : ownKnob Tryd.prog.godebug = Option.none := by kernel_rfl
theorem laidOut : laidOutB Tryd.prog = true := by kernel_rfl
theorem gTab : Tryd.prog.globalNamed "math/bits.deBruijn64tab" = some 0 := by kernel_rfl
theorem tTab : (Tryd.prog.globals[(0 : Nat)]?).map (·.type) = some 84 := by kernel_rfl
theorem cTab : Tryd.prog.cellsOf 5 = 1 := by kernel_rfl
theorem words64 : Tryd.prog.cellsOf 54 = 1 := by kernel_rfl
theorem bytes64 : Tryd.prog.bytesOf 54 = 8 := by kernel_rfl

abbrev laidL {H : Type} : List (String × DataW H) := [("math/bits.deBruijn64tab", Rows.laid_math_bits_deBruijn64tab)]

theorem tab_data {H : Type} : (Rows.laid_math_bits_deBruijn64tab : DataW H) = .agg ((List.range 64).map fun i => .lit (.int .u8 ((Lib.deBruijn64tab.getD i 0 : Nat) : Int))) := by
  unfold Rows.laid_math_bits_deBruijn64tab
  rfl

/-- The table, as the calculus wants it. -/
theorem tab_rd {W : World} (h : laidMetH Tryd.prog laidL W) : ∀ p ∈ gtabs, RdD (oldI W) W.heap (.ip p.2) (.pointer (some ⟨p.1, 0, Option.none⟩)) := by
  rw [MakeChecks.laidMetH_plain _ _ _ (by kernel_rfl)] at h
  obtain ⟨ps, ⟨g0, t0, cs0, f0, p0, q0, hg0, ht0, hv0, hd0, _, _⟩, _, _⟩ := h
  obtain rfl := Option.some.inj (gTab.symm.trans hg0)
  obtain rfl := Option.some.inj (tTab.symm.trans ht0)
  obtain ⟨xs, m1, rfl, hx1, hlen, hn3, hel⟩ := DataW.trod_array Tryd.underlying84 hd0
  rw [tab_data] at hx1
  simp only [Prod.mk.injEq, DataW.agg.injEq] at hx1
  have hcell : ∀ i, i < 64 → W.cell? ⟨0, i, Option.none⟩ = some (.int .u8 ((Lib.deBruijn64tab.getD i 0 : Nat) : Int)) := by
    intro i hi
    have h1 := hel i hi
    have hxi : xs[i]? = some (xs[i]'(by omega)) := List.getElem?_eq_getElem (by omega)
    rw [hxi, cTab] at h1
    obtain ⟨k, e1, e2, _⟩ := DataW.trod_int Tryd.underlying5 h1
    have h2 := congrArg (fun l => l[i]?) hx1.1
    simp only [List.getElem?_map, hxi, Option.map_some, List.getElem?_range hi] at h2
    rw [e2] at h2
    simp only [Option.some.injEq] at h2
    have h3 := World.var?_cell hg0 hv0 i
    rw [h3]
    have h4 : cs0.toList[i]? = some (.int .u8 k) := by
      have := congrArg (fun l => l[0]?) e1
      simpa using this
    have h5 : k = ((Lib.deBruijn64tab.getD i 0 : Nat) : Int) := by
      simp at h2
      exact h2.symm
    rw [← h5]
    simpa using h4
  intro p hp
  obtain rfl := List.mem_singleton.1 hp
  have h0 := hcell 0 (by decide)
  have hb : ∃ cur el fr, W.heap[(0 : Nat)]? = some (.cells cur el fr) := by
    unfold World.cell? at h0
    split at h0
    · rename_i c el fr hh; exact ⟨c, el, fr, hh⟩
    · cases h0
  obtain ⟨cur, el, fr, hb⟩ := hb
  have hat : ∀ (j : Nat) (g : G), ((List.range 64).map fun i => G.lit (.int .u8 ((Lib.deBruijn64tab.getD i 0 : Nat) : Int)))[j]? = some g → j < 64 ∧ g = .lit (.int .u8 ((Lib.deBruijn64tab.getD j 0 : Nat) : Int)) := by
    intro j g hg
    have hj : j < 64 := by have := (List.getElem?_eq_some_iff.1 hg).1; simpa using this
    refine ⟨hj, ?_⟩
    simp [hj] at hg
    exact hg.symm
  refine .ip _ _ 0 cur el fr (fun j => .int .u8 ((Lib.deBruijn64tab.getD j 0 : Nat) : Int)) hb (fun j g hg => ?_) (fun j g hg => ?_)
  · obtain ⟨hj, rfl⟩ := hat j g hg
    have h6 := hcell j hj
    simp [World.cell?, hb] at h6
    exact ⟨(Array.getElem?_eq_some_iff.1 hb).1, by simpa using h6⟩
  · obtain ⟨hj, rfl⟩ := hat j g hg
    exact .lit _ rfl

theorem gi_old {W : World} (h : laidMetH Tryd.prog laidL W) : GI (oldI W) W := ⟨fun b j h => h, tab_rd h⟩

theorem door_met (os : Os) (args : Array Value) : laidMetH Tryd.prog laidL ((World.doorLaid Tryd.prog 400 os).forCall (fun _ _ => 0) ⟨#[], args, []⟩).memory :=
  laidMetH_of_parts3 (fuel := 8) (laidMet_of_run' 8 (by kernel_rfl) (by kernel_rfl)) (by kernel_rfl) (by kernel_rfl)

/-- Out of the contract of a law: what its call comes to. -/
theorem calls_of_pc {f : FuncId} {fn : Func} {ds : List D} {args : Array Value} {W : World} (hfn : Tryd.prog.funcs[f]? = some fn) (hb : fn.body.isSome = true) (hn : (fn.name == "runtime.NumGoroutine") = false)
    (h : PC Tryd.prog f ds fun d => d = bl true) (hL : laidMetH Tryd.prog laidL W) (hd : RdL (oldI W) W.heap ds args.toList) : Calls Tryd.prog f args W fun e W' => e = .returned (.bool true) ∧ Below W.heap.size W W' := by
  have := h W (oldI W) args.toList (gi_old hL) hd
  unfold FC at this
  have hc : (callFunc f args.toList.toArray).run Tryd.prog W = .ok (.enter f args.toList.toArray) W := by
    unfold callFunc
    have hn' : ¬ fn.name = "runtime.NumGoroutine" := fun h => by rw [h] at hn; simp at hn
    obtain ⟨c, hc⟩ := Option.isSome_iff_exists.1 hb
    simp [hfn, hn', hc]
  rw [hc] at this
  refine Calls.mono this ?_
  rintro e w' ⟨v, rfl, I', d, hE, _, _, _, hd, rfl⟩
  exact ⟨by rw [hd.lit_inv], hE⟩

end Go.Proofs.YtkmoeenhboicmaaDoor

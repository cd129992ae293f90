/- The row's frame: what comes in as data, what is left. For every list of words, Right, Trim, Bits and Zeros of package nat answer what the document's numbers say, and the argument is left as it was; the one table at package level is tied to the program's text. -/
import Derived.Test.YtilnmcabjkpohaaDoorPT
import Derived.Test.YtilnmcabjkpohaaDoorTie
import Derived.Test.YtilnmcabjkpohaaDoorCards
import Derived.ProofKit
import Derived.LaidMore
import Derived.OpenShut
import Derived.Stop.Joined
import Derived.SizedLaws
import Derived.Carry
import Derived.ChangeSame
import Derived.SevenTiedAt
set_option linter.unusedSimpArgs false
set_option linter.unusedVariables false
set_option maxRecDepth 100000
namespace Go.V
open Go Go.RowKit Go.Proofs Go.WideShapes Go.ChangeShapes Go.ChangeAt Go.WideElems

section
variable {H : Type} {enc : TypeId × Value → H} {P : Program}

theorem post_below {f : Func} {s : ChangeSpec} {apart fresh handsOn again : Bool} {W W' : World} {args : Array Value} {v : Value} {ds gs : List (DataW H)} {before pa pv : List MemPlace}
    (hW : DataW.Whole enc P f.params.toList s.vars apart W args.toList ds gs before)
    (hres : ∀ (b : Nat) (sp : Nat → Bool) (hd : Bool), DataW.TrodAll enc P W' b sp hd f.resultTypes.toList (v.resultList f.resultTypes.size) (s.fn H (ds ++ gs)).results [])
    (hargs : ∀ sp : Nat → Bool, (∀ p ∈ before, sp p.block = true) → DataW.TrodAll enc P W' 0 sp true f.params.toList args.toList (s.fn H (ds ++ gs)).args pa)
    (hvars : ∀ sp : Nat → Bool, (∀ p ∈ before, sp p.block = true) → DataW.TrodVars enc P W' sp s.vars (s.fn H (ds ++ gs)).vars pv)
    (hps : before = pa ++ pv) (hb : Below W.heap.size W W')
    (hok : ∀ (j : Nat) (t : TypeId) (r : Value), f.resultTypes[j]? = some t → (v.resultList f.resultTypes.size)[j]? = some r → Value.okWide P W' .any 0 t r) :
    s.post enc P f apart fresh handsOn again W args v W' := by
  have hlt : ∀ p ∈ before, p.block < W.heap.size := fun p hp => hW.lt p hp
  have hold : ∀ p ∈ before, (fun b => decide (b < W.heap.size)) p.block = true := fun p hp => by simpa using hlt p hp
  refine ⟨ds, gs, before, [], pa, pv, hW, hres _ _ _, hargs _ hold, hvars _ hold, World.keptBut_mono (fun p hp => ⟨hp, ?_⟩) (hb.frame (· ∈ before)), fun _ => ?_⟩
  · rw [hps, List.mem_append] at hp
    exact Or.inr hp
  · obtain ⟨_, _, _, _, _, hz, hn⟩ := hW
    refine ⟨hok, _, _, ([] ++ pa) ++ pv, ⟨[] ++ pa, pv, trodAll_append (hargs _ (fun _ _ => rfl)) (hres _ _ _), hvars _ (fun _ _ => rfl), rfl, ?_, ?_⟩, ?_⟩
    · intro b off hp
      have hin : MemPlace.cell b off ∈ before := by rw [hps]; simpa using hp
      rw [hb.frozen (hlt _ hin)]
      exact hz b off hin
    · intro ha
      have := hn ha
      rw [hps] at this
      simpa using this
    · intro p hp _
      rw [hps]
      simpa using hp

/-- Arguments whose memory nothing turned read as they did. -/
theorem trodAll_stays {W W' : World} {sp : Nat → Bool} (hl : laidOutB P = true) (hb : Below W.heap.size W W') : ∀ {ts : List TypeId} {vs : List Value} {ds : List (DataW H)} {ps : List MemPlace},
    (∀ t ∈ ts, P.readableRec t = true ∧ t < P.types.size) → DataW.TrodAll enc P W 0 (fun _ => true) true ts vs ds ps → (∀ p ∈ ps, p.block < W.heap.size) → (∀ p ∈ ps, sp p.block = true) → DataW.TrodAll enc P W' 0 sp true ts vs ds ps
  | [], [], [], ps, _, h, _, _ => h
  | t :: ts, v :: vs, d :: ds, ps, ht, ⟨p, q, h1, h2, h3⟩, hlt, hs => by
    subst h3
    refine ⟨p, q, ?_, ?_, rfl⟩
    · exact WideElems.Trod_stays hl (ht t (by simp)).1 (ht t (by simp)).2 h1 (fun x hx => hb.same (hlt x (by simp [hx]))) (fun x hx => hs x (by simp [hx]))
    · exact trodAll_stays hl hb (fun t h => ht t (by simp [h])) h2 (fun x hx => hlt x (by simp [hx])) (fun x hx => hs x (by simp [hx]))
end

/-- All that is there when the call begins. -/
def oldI (w : World) : CI := fun b _ => b < w.heap.size

theorem open_int {H : Type} {enc : TypeId × Value → H} {P : Program} {w : World} {base : Nat} {T : TypeId} {k : IntKind} {v : Value} {d : DataW H} {ps : List MemPlace} (hu : P.underlying T = some (.int k))
    (h : DataW.Trod enc P w 0 (fun _ => true) true T v d ps) (hv : Value.okWide P w .any base T v) : ∃ n : Int, v = .int k n ∧ (Lit.int k n).wf = true := by
  obtain ⟨m, hn⟩ := h
  obtain ⟨n, hcs, _, hwf⟩ := DataW.trod_int hu hn
  refine ⟨n, ?_, hwf⟩
  cases v <;> simp [Value.cells] at hcs
  · obtain ⟨rfl, rfl⟩ := hcs; rfl
  · have hv' := hv
    simp [Value.okWide, hcs, *] at hv'
    try simp only [Cell.okWide, Cell.ok] at hv'
    try simp_all

theorem open_words {H : Type} {enc : TypeId × Value → H} {P : Program} {w : World} {base : Nat} {T E : TypeId} {k : IntKind} {v : Value} {d : DataW H} {ps : List MemPlace} (hu : P.underlying T = some (.slice E)) (he : P.underlying E = some (.int k)) (hc : P.cellsOf E = 1)
    (h : DataW.Trod enc P w 0 (fun _ => true) true T v d ps) (hv : Value.okWide P w .any base T v) (hk : k = .u64 ∨ k = .u32) (hlen : ∀ el sp, d = .slice el sp → el.length + sp.length ≤ 140737488355328) :
    ∃ xs : List Nat, RdG (oldI w) w.heap (eS (eK k) xs) v ∧ (∀ x ∈ xs, (x : Int) ≤ k.max) := by
  obtain ⟨n, hn⟩ := h
  have hvc : ∀ u, v.cells.toList = [u] → v = u := by
    intro u hu
    cases v <;> simp [Value.cells] at hu <;> first | exact hu | skip
    rename_i cs
    have hv' := hv
    simp [Value.okWide, hu, *] at hv'
    simp only [Cell.okWide, Cell.ok] at hv'
    simp_all
  rcases open_ints hu he hc hn with ⟨hcs, hx⟩ | ⟨a, len, cap, zs, hcs, _, hle, hmax, hzl, hx, hcell, hwf⟩
  · obtain rfl := hvc _ hcs
    exact ⟨[], .nil, by simp⟩
  · obtain rfl := hvc _ hcs
    simp only [Value.okWide, hu] at hv
    simp only [Cell.okWide, hu, Cell.ok] at hv
    obtain ⟨_, _, _, hspot, row, cells, hsh, _⟩ := hv
    obtain ⟨b, off, spot⟩ := a
    simp only at hspot
    subst hspot
    have hb : ∃ cur el fr, w.heap[b]? = some (.cells cur el fr) := by
      unfold World.shape? at hsh
      simp only at hsh
      split at hsh
      · rename_i c el fr hh; exact ⟨c, el, fr, hh⟩
      · cases hsh
    obtain ⟨cur, el, fr, hb⟩ := hb
    have hnn : ∀ z ∈ zs, 0 ≤ z ∧ z ≤ k.max := by
      intro z hz
      have := hwf z hz
      rcases hk with rfl | rfl <;> simp [Lit.wf, IntKind.min, IntKind.max, IntKind.signed, IntKind.bits] at this ⊢ <;> omega
    simp only [Prod.mk.injEq] at hx
    have hl := hlen _ _ hx.1
    have hzl' : zs.length = cap := by simpa using hzl
    have hlen47 : len ≤ 140737488355328 := by simp [lits] at hl; omega
    have hcur : ∀ i, i < len → cur[off + i]? = some (.int k (zs.getD i 0)) := by
      intro i hi
      have h1 := hcell i (by omega)
      rw [addr_add] at h1
      simpa [World.cell?, hb] using h1
    have hbl : b < w.heap.size := (Array.getElem?_eq_some_iff.1 hb).1
    refine ⟨(zs.take len).map Int.toNat, ?_, ?_⟩
    · have hat : ∀ (i : Nat) (es : List G), (((zs.take len).map Int.toNat).map (eK k))[i]? = some es → i < len ∧ es = [.lit (.int k (zs.getD i 0))] := by
        intro i es hi
        simp only [List.getElem?_map, List.getElem?_take] at hi
        split at hi
        · rename_i hil
          have hz : zs[i]? = some (zs.getD i 0) := by simp [List.getD, List.getElem?_eq_getElem (show i < zs.length by omega)]
          rw [hz] at hi
          simp only [Option.map_some] at hi
          injection hi with hi
          refine ⟨hil, ?_⟩
          rw [← hi]
          have := (hnn _ (List.mem_of_getElem? hz)).1
          simp only [eK]
          rw [Int.toNat_of_nonneg this]
        · simp at hi
      unfold eS
      refine .sl _ b off len cap 1 cur el fr (fun i _ => .int k (zs.getD i 0)) (by simp; omega) (by simp; omega) (by simp; omega) hb (fun es he' => ?_) (fun i es j g hi hg => ?_) (fun i es j g hi hg => ?_)
      · obtain ⟨x, _, rfl⟩ := List.mem_map.1 he'; rfl
      · obtain ⟨hil, rfl⟩ := hat i es hi
        cases j with
        | zero => exact ⟨hbl, by simpa using hcur i hil⟩
        | succ j => simp at hg
      · obtain ⟨hil, rfl⟩ := hat i es hi
        cases j with
        | zero => simp at hg; subst hg; exact .lit _ rfl
        | succ j => simp at hg
    · intro x hx'
      obtain ⟨z, hz, rfl⟩ := List.mem_map.1 hx'
      have := hnn z (List.mem_of_mem_take hz)
      rw [Int.toNat_of_nonneg this.1]
      exact this.2

end Go.V
namespace Go.Proofs.YtilnmcabjkpohaaDoor
open Go Go.RowKit Go.Proofs Go.V Go.WideShapes Go.ChangeShapes Go.ChangeAt Go.WideElems

theorem own : ownKnob Tryd.prog.godebug = Option.none := by kernel_rfl
theorem laidOut : laidOutB Tryd.prog = true := by kernel_rfl
theorem gTab : Tryd.prog.globalNamed "math/bits.deBruijn64tab" = some 0 := by kernel_rfl
theorem tTab : (Tryd.prog.globals[(0 : Nat)]?).map (·.type) = some 67 := by kernel_rfl
theorem cTab : Tryd.prog.cellsOf 5 = 1 := by kernel_rfl
theorem words64 : Tryd.prog.cellsOf 27 = 1 := by kernel_rfl
theorem bytes64 : Tryd.prog.bytesOf 27 = 8 := by kernel_rfl

abbrev laidL {H : Type} : List (String × DataW H) := [("math/bits.deBruijn64tab", Rows.laid_math_bits_deBruijn64tab)]

theorem tab_data {H : Type} : (Rows.laid_math_bits_deBruijn64tab : DataW H) = .agg ((List.range 64).map fun i => .lit (.int .u8 ((Lib.deBruijn64tab.getD i 0 : Nat) : Int))) := by
  unfold Rows.laid_math_bits_deBruijn64tab
  rfl

/-- The table, as the calculus wants it. -/
theorem tab_rd {W : World} (h : laidMetH Tryd.prog laidL W) : ∀ p ∈ gtabs, RdD (oldI W) W.heap (.ip p.2) (.pointer (some ⟨p.1, 0, Option.none⟩)) := by
  rw [MakeChecks.laidMetH_plain _ _ _ (by kernel_rfl)] at h
  obtain ⟨ps, ⟨g0, t0, cs0, f0, p0, q0, hg0, ht0, hv0, hd0, _, _⟩, _, _⟩ := h
  obtain rfl := Option.some.inj (gTab.symm.trans hg0)
  obtain rfl := Option.some.inj (tTab.symm.trans ht0)
  obtain ⟨xs, m1, rfl, hx1, hlen, hn3, hel⟩ := DataW.trod_array Tryd.underlying67 hd0
  rw [tab_data] at hx1
  simp only [Prod.mk.injEq, DataW.agg.injEq] at hx1
  have hcell : ∀ i, i < 64 → W.cell? ⟨0, i, Option.none⟩ = some (.int .u8 ((Lib.deBruijn64tab.getD i 0 : Nat) : Int)) := by
    intro i hi
    have h1 := hel i hi
    have hxi : xs[i]? = some (xs[i]'(by omega)) := List.getElem?_eq_getElem (by omega)
    rw [hxi, cTab] at h1
    obtain ⟨k, e1, e2, _⟩ := DataW.trod_int Tryd.underlying5 h1
    have h2 := congrArg (fun l => l[i]?) hx1.1
    simp only [List.getElem?_map, hxi, Option.map_some, List.getElem?_range hi] at h2
    rw [e2] at h2
    simp only [Option.some.injEq] at h2
    have h3 := World.var?_cell hg0 hv0 i
    rw [h3]
    have h4 : cs0.toList[i]? = some (.int .u8 k) := by
      have := congrArg (fun l => l[0]?) e1
      simpa using this
    have h5 : k = ((Lib.deBruijn64tab.getD i 0 : Nat) : Int) := by
      simp at h2
      exact h2.symm
    rw [← h5]
    simpa using h4
  intro p hp
  obtain rfl := List.mem_singleton.1 hp
  have h0 := hcell 0 (by decide)
  have hb : ∃ cur el fr, W.heap[(0 : Nat)]? = some (.cells cur el fr) := by
    unfold World.cell? at h0
    split at h0
    · rename_i c el fr hh; exact ⟨c, el, fr, hh⟩
    · cases h0
  obtain ⟨cur, el, fr, hb⟩ := hb
  have hat : ∀ (j : Nat) (g : G), ((List.range 64).map fun i => G.lit (.int .u8 ((Lib.deBruijn64tab.getD i 0 : Nat) : Int)))[j]? = some g → j < 64 ∧ g = .lit (.int .u8 ((Lib.deBruijn64tab.getD j 0 : Nat) : Int)) := by
    intro j g hg
    have hj : j < 64 := by have := (List.getElem?_eq_some_iff.1 hg).1; simpa using this
    refine ⟨hj, ?_⟩
    simp [hj] at hg
    exact hg.symm
  refine .ip _ _ 0 cur el fr (fun j => .int .u8 ((Lib.deBruijn64tab.getD j 0 : Nat) : Int)) hb (fun j g hg => ?_) (fun j g hg => ?_)
  · obtain ⟨hj, rfl⟩ := hat j g hg
    have h6 := hcell j hj
    simp [World.cell?, hb] at h6
    exact ⟨(Array.getElem?_eq_some_iff.1 hb).1, by simpa using h6⟩
  · obtain ⟨hj, rfl⟩ := hat j g hg
    exact .lit _ rfl


theorem gi_old {W : World} (h : laidMetH Tryd.prog laidL W) : GI (oldI W) W := ⟨fun b j h => h, tab_rd h⟩

theorem door_met (os : Os) (args : Array Value) : laidMetH Tryd.prog laidL ((World.doorLaid Tryd.prog 400 os).forCall (fun _ _ => 0) ⟨#[], args, []⟩).memory :=
  laidMetH_of_parts3 (fuel := 8) (laidMet_of_run' 8 (by kernel_rfl) (by kernel_rfl)) (by kernel_rfl) (by kernel_rfl)

/-- Out of the contract of a law: what its call comes to. -/
theorem calls_of_pc {f : FuncId} {fn : Func} {ds : List D} {args : Array Value} {W : World} (hfn : Tryd.prog.funcs[f]? = some fn) (hb : fn.body.isSome = true) (hn : (fn.name == "runtime.NumGoroutine") = false)
    (h : PC Tryd.prog f ds fun d => d = bl true) (hL : laidMetH Tryd.prog laidL W) (hd : RdL (oldI W) W.heap ds args.toList) : Calls Tryd.prog f args W fun e W' => e = .returned (.bool true) ∧ Below W.heap.size W W' := by
  have := h W (oldI W) args.toList (gi_old hL) hd
  unfold FC at this
  have hc : (callFunc f args.toList.toArray).run Tryd.prog W = .ok (.enter f args.toList.toArray) W := by
    unfold callFunc
    have hn' : ¬ fn.name = "runtime.NumGoroutine" := fun h => by rw [h] at hn; simp at hn
    obtain ⟨c, hc⟩ := Option.isSome_iff_exists.1 hb
    simp [hfn, hn', hc]
  rw [hc] at this
  refine Calls.mono this ?_
  rintro e w' ⟨v, rfl, I', d, hE, _, _, _, hd, rfl⟩
  exact ⟨by rw [hd.lit_inv], hE.toBelow⟩

end Go.Proofs.YtilnmcabjkpohaaDoor

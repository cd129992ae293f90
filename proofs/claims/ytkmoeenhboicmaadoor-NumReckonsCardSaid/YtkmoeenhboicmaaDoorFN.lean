/- The row's frame: a number (api.Num) that comes in. -/
import Derived.Test.YtkmoeenhboicmaaDoorF
import Derived.Test.YtkmoeenhboicmaaDoorC1
import Derived.Deep.Strs
set_option linter.unusedSimpArgs false
set_option linter.unusedVariables false
set_option maxRecDepth 100000
namespace Go.V
open Go Go.RowKit Go.Proofs Go.WideShapes Go.ChangeShapes Go.ChangeAt Go.WideElems

theorem cells_cell {P : Program} {w : World} {base : Nat} {t e : TypeId} {v : Value} (hu : P.underlying t = some (.slice e)) (hv : Cell.okWide P w .any base t v) : v.cells.toList = [v] := by
  cases v <;> simp [Value.cells]
  simp only [Cell.okWide, hu, Cell.ok] at hv

theorem open_num {H : Type} {enc : TypeId × Value → H} {P : Program} {w : World} {base : Nat} {T tw te : TypeId} {f0 f1 f2 : Field} {v : Value} {d : DataW H} {ps : List MemPlace} (hu : P.underlying T = some (.struct #[f0, f1, f2])) (hc : P.cellsOf T = 3)
    (o0 : f0.offset = 0) (o1 : f1.offset = 1) (o2 : f2.offset = 2) (c0 : P.cellsOf f0.type = 1) (c1 : P.cellsOf f1.type = 1) (c2 : P.cellsOf f2.type = 1) (u0 : P.underlying f0.type = some .bool) (u1 : P.underlying f1.type = some (.int .i64)) (t2 : f2.type = tw) (u2 : P.underlying tw = some (.slice te)) (ue : P.underlying te = some (.int .u64)) (ce : P.cellsOf te = 1)
    (hct : P.cellTypes P.depth T = some [f0.type, f1.type, f2.type])
    (h : DataW.Trod enc P w 0 (fun _ => true) true T v d ps) (hv : Value.okWide P w .any base T v) (hlen : ∀ a b el sp, d = .agg [a, b, .slice el sp] → el.length + sp.length ≤ 140737488355328) :
    ∃ x : Nu, RdD (oldI w) w.heap (NU x) v ∧ B64 x.w ∧ (Lit.int .i64 x.exp).wf = true := by
  subst t2
  obtain ⟨m, hn⟩ := h
  simp only [Value.okWide, hu] at hv
  obtain ⟨cs, rfl, hsz, ts, hts, _, hcell⟩ := hv
  obtain rfl := Option.some.inj (hct.symm.trans hts)
  rw [hc] at hsz
  obtain ⟨y0, y1, y2, n, hx, _, h0, h1, h2⟩ := Deep.trod_struct3 hu hn
  obtain ⟨l⟩ := cs
  match l, hsz with
  | [a, b, c], _ =>
    rw [o0, c0] at h0; rw [o1, c1] at h1; rw [o2, c2] at h2
    simp only [Value.cells, List.drop_zero, List.drop_succ_cons, List.take_succ_cons, List.take_zero] at h0 h1 h2
    obtain ⟨s, hs, e0⟩ := DataW.trod_bool u0 h0
    obtain ⟨k, hk, e1, hwf⟩ := DataW.trod_int u1 h1
    obtain rfl : a = .bool s := by simpa using hs
    obtain rfl : b = .int .i64 k := by simpa using hk
    obtain ⟨u, hu2, hok⟩ := hcell 2 c rfl
    obtain rfl : f2.type = u := by simpa using hu2
    have hcc := cells_cell u2 hok
    have hT : DataW.Trod enc P w 0 (fun _ => true) true f2.type c y2.1 y2.2 := ⟨n, by rw [hcc]; exact h2⟩
    obtain ⟨xs, hr, hb⟩ := open_words (base := base) u2 ue ce hT (by simp only [Value.okWide, u2]; exact hok) (.inl rfl) (fun el sp hd => by
      have hx1 := congrArg Prod.fst hx
      simp only at hx1
      exact hlen y0.1 y1.1 el sp (by rw [hx1, hd]))
    refine ⟨⟨s, k, xs⟩, ?_, fun x hx => by have := hb x hx; simp [IntKind.max, IntKind.signed, IntKind.bits] at this; omega, hwf⟩
    refine .agg _ [_, _, _] rfl fun j d u hd hu => ?_
    match j with
    | 0 => cases hd; cases hu; exact .g (.lit _ rfl)
    | 1 => cases hd; cases hu; exact .g (.lit _ rfl)
    | 2 => cases hd; cases hu; exact .g hr
    | j + 3 => simp at hd

theorem sized_num {H : Type} {P : Program} {ts : List TypeId} {ds : List (DataW H)} (h : (DataW.weightsEach P ts ds).all (· ≤ reachBytes) = true) {j : Nat} {t e : TypeId} {f0 f1 f2 : Field} {a b : DataW H} {elems spare : List (DataW H)} (ht : ts[j]? = some t) (hd : ds[j]? = some (.agg [a, b, .slice elems spare])) (hu : P.underlying t = some (.struct #[f0, f1, f2])) (hu2 : P.underlying f2.type = some (.slice e)) (hb : P.bytesOf e = 8) :
    elems.length + spare.length ≤ 140737488355328 := by
  have := List.all_eq_true.1 h _ (DataW.weights_mem_each ht hd ((elems.length + spare.length) * P.bytesOf e) (by simp [DataW.weights, DataW.weightsEach, hu, hu2]))
  rw [hb] at this
  have h2 := reachBytes_lt
  simp at this
  omega
end Go.V

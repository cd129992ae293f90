/- The row's frame: an interval (api.Iv) that comes in. -/
import Derived.Test.YtkjjmhdlcebnnaaGreatDoorZPF
import Derived.Test.YtkjjmhdlcebnnaaGreatDoorZI25
set_option linter.unusedSimpArgs false
set_option linter.unusedVariables false
set_option maxRecDepth 100000
namespace Go.V
open Go Go.RowKit Go.Proofs Go.WideShapes Go.ChangeShapes Go.ChangeAt Go.WideElems

theorem open_num_cells {H : Type} {enc : TypeId × Value → H} {P : Program} {w : World} {base n : Nat} {T tw te : TypeId} {f0 f1 f2 : Field} {a b c : Value} {y : DataW H × List MemPlace} (hu : P.underlying T = some (.struct #[f0, f1, f2]))
    (o0 : f0.offset = 0) (o1 : f1.offset = 1) (o2 : f2.offset = 2) (c0 : P.cellsOf f0.type = 1) (c1 : P.cellsOf f1.type = 1) (c2 : P.cellsOf f2.type = 1) (u0 : P.underlying f0.type = some .bool) (u1 : P.underlying f1.type = some (.int .i64)) (t2 : f2.type = tw) (u2 : P.underlying tw = some (.slice te)) (ue : P.underlying te = some (.int .u64)) (ce : P.cellsOf te = 1)
    (h : DataW.trod enc P w 0 (fun _ => true) true n T [a, b, c] = some y) (hok : Cell.okWide P w .any base tw c) (hlen : ∀ a b el sp, y.1 = .agg [a, b, .slice el sp] → el.length + sp.length ≤ 140737488355328) :
    ∃ x : Nu, a = .bool x.neg ∧ b = .int .i64 x.exp ∧ RdG (oldI w) w.heap (eS (eK .u64) x.w) c ∧ B64 x.w ∧ (Lit.int .i64 x.exp).wf = true := by
  subst t2
  obtain ⟨y0, y1, y2, m, hx, _, h0, h1, h2⟩ := Deep.trod_struct3 hu h
  rw [o0, c0] at h0; rw [o1, c1] at h1; rw [o2, c2] at h2
  simp only [List.drop_zero, List.drop_succ_cons, List.take_succ_cons, List.take_zero] at h0 h1 h2
  obtain ⟨s, hs, e0⟩ := DataW.trod_bool u0 h0
  obtain ⟨k, hk, e1, hwf⟩ := DataW.trod_int u1 h1
  obtain rfl : a = .bool s := by simpa using hs
  obtain rfl : b = .int .i64 k := by simpa using hk
  have hcc := cells_cell u2 hok
  have hT : DataW.Trod enc P w 0 (fun _ => true) true f2.type c y2.1 y2.2 := ⟨m, by rw [hcc]; exact h2⟩
  obtain ⟨xs, hr, hb⟩ := open_words (base := base) u2 ue ce hT (by simp only [Value.okWide, u2]; exact hok) (.inl rfl) (fun el sp hd => by
    have hx1 := congrArg Prod.fst hx
    simp only at hx1
    exact hlen y0.1 y1.1 el sp (by rw [hx1, hd]))
  exact ⟨⟨s, k, xs⟩, rfl, rfl, hr, fun x hx => by have := hb x hx; simp [IntKind.max, IntKind.signed, IntKind.bits] at this; omega, hwf⟩

theorem open_iv {H : Type} {enc : TypeId × Value → H} {P : Program} {w : World} {base : Nat} {R T tw te : TypeId} {g0 g1 f0 f1 f2 : Field} {v : Value} {d : DataW H} {ps : List MemPlace} (hU : P.underlying R = some (.struct #[g0, g1])) (hC : P.cellsOf R = 6) (q0 : g0.offset = 0) (q1 : g1.offset = 3) (r0 : g0.type = T) (r1 : g1.type = T)
    (hu : P.underlying T = some (.struct #[f0, f1, f2])) (hc : P.cellsOf T = 3)
    (o0 : f0.offset = 0) (o1 : f1.offset = 1) (o2 : f2.offset = 2) (c0 : P.cellsOf f0.type = 1) (c1 : P.cellsOf f1.type = 1) (c2 : P.cellsOf f2.type = 1) (u0 : P.underlying f0.type = some .bool) (u1 : P.underlying f1.type = some (.int .i64)) (t2 : f2.type = tw) (u2 : P.underlying tw = some (.slice te)) (ue : P.underlying te = some (.int .u64)) (ce : P.cellsOf te = 1)
    (hct : P.cellTypes P.depth R = some [f0.type, f1.type, f2.type, f0.type, f1.type, f2.type])
    (h : DataW.Trod enc P w 0 (fun _ => true) true R v d ps) (hv : Value.okWide P w .any base R v) (hlen : ∀ x y, d = .agg [x, y] → ∀ a b el sp, (x = .agg [a, b, .slice el sp] ∨ y = .agg [a, b, .slice el sp]) → el.length + sp.length ≤ 140737488355328) :
    ∃ x : Iv, RdD (oldI w) w.heap (IV x) v ∧ Bi x ∧ (Lit.int .i64 x.lo.exp).wf = true ∧ (Lit.int .i64 x.hi.exp).wf = true := by
  obtain ⟨m, hn⟩ := h
  simp only [Value.okWide, hU] at hv
  obtain ⟨cs, rfl, hsz, ts, hts, _, hcell⟩ := hv
  obtain rfl := Option.some.inj (hct.symm.trans hts)
  rw [hC] at hsz
  obtain ⟨y0, y1, n, hx, _, h0, h1⟩ := trod_struct2 hU hn
  obtain ⟨l⟩ := cs
  match l, hsz with
  | [a, b, c, a', b', c'], _ =>
    rw [q0, r0, hc] at h0; rw [q1, r1, hc] at h1
    simp only [Value.cells, List.drop_zero, List.drop_succ_cons, List.take_succ_cons, List.take_zero] at h0 h1
    have hx1 := congrArg Prod.fst hx
    simp only at hx1
    obtain ⟨u, hu2, hok⟩ := hcell 2 c rfl
    obtain rfl : f2.type = u := by simpa using hu2
    obtain ⟨u', hu2', hok'⟩ := hcell 5 c' rfl
    obtain rfl : f2.type = u' := by simpa using hu2'
    obtain ⟨x, rfl, rfl, hr, hb, hwf⟩ := open_num_cells (base := base) hu o0 o1 o2 c0 c1 c2 u0 u1 t2 u2 ue ce h0 (by rw [← t2]; exact hok) (fun a b el sp hd => hlen _ _ hx1 a b el sp (.inl hd))
    obtain ⟨z, rfl, rfl, hr', hb', hwf'⟩ := open_num_cells (base := base) hu o0 o1 o2 c0 c1 c2 u0 u1 t2 u2 ue ce h1 (by rw [← t2]; exact hok') (fun a b el sp hd => hlen _ _ hx1 a b el sp (.inr hd))
    refine ⟨⟨x, z⟩, ?_, ⟨hb, hb'⟩, hwf, hwf'⟩
    refine .agg _ [_, _, _, _, _, _] rfl fun j d u hd hu => ?_
    match j with
    | 0 => cases hd; cases hu; exact .g (.lit _ rfl)
    | 1 => cases hd; cases hu; exact .g (.lit _ rfl)
    | 2 => cases hd; cases hu; exact .g hr
    | 3 => cases hd; cases hu; exact .g (.lit _ rfl)
    | 4 => cases hd; cases hu; exact .g (.lit _ rfl)
    | 5 => cases hd; cases hu; exact .g hr'
    | j + 6 => simp at hd

theorem sized_iv {H : Type} {P : Program} {ts : List TypeId} {ds : List (DataW H)} (h : (DataW.weightsEach P ts ds).all (· ≤ reachBytes) = true) {j : Nat} {t T e : TypeId} {g0 g1 f0 f1 f2 : Field} {x y a b : DataW H} {elems spare : List (DataW H)} (ht : ts[j]? = some t) (hd : ds[j]? = some (.agg [x, y])) (hxy : x = .agg [a, b, .slice elems spare] ∨ y = .agg [a, b, .slice elems spare])
    (hU : P.underlying t = some (.struct #[g0, g1])) (r0 : g0.type = T) (r1 : g1.type = T) (hu : P.underlying T = some (.struct #[f0, f1, f2])) (hu2 : P.underlying f2.type = some (.slice e)) (hb : P.bytesOf e = 8) :
    elems.length + spare.length ≤ 140737488355328 := by
  have := List.all_eq_true.1 h _ (DataW.weights_mem_each ht hd ((elems.length + spare.length) * P.bytesOf e) (by
    rcases hxy with rfl | rfl
    · simp [DataW.weights, DataW.weightsEach, hU, r0, hu, hu2]
    · simp [DataW.weights, DataW.weightsEach, hU, r1, hu, hu2]))
  rw [hb] at this
  have h2 := reachBytes_lt
  simp at this
  omega
end Go.V

/- Intervals that are points, exactly; the statements' own known series. The seat's deck: boxes of small intervals, points in boxes, boxes in boxes; is a value within an interval? Terms gathered by their powers, plainly: the greater powers first, one term for each. The document's gathering of terms over values as data. The document's polynomials of monomials over values as data; the seat's deck: powers, monomials, polynomials. What the statements of layer 14 tell of all of it; the statement SeriesDrawn. The statement SeriesAny of layer 14: light. The statement SeriesAny of layer 14. -/
import Derived.Test.YtklilekbokialaaGreatDoorZI1
set_option linter.unusedSimpArgs false
set_option linter.unusedVariables false
set_option maxRecDepth 100000
namespace Go.V
open Go Go.RowKit Go.Proofs

def pt (d : Dyadic) : Iv := ivD d d
theorem minP_pt {x y : Dyadic} : minP x x y y = x * y := by rcases (minP_spec x x y y).2 with e | e | e | e <;> exact e
theorem maxP_pt {x y : Dyadic} : maxP x x y y = x * y := by rcases (maxP_spec x x y y).2 with e | e | e | e <;> exact e
theorem Sm.pb {k q p : Nat} {d : Dyadic} (h : Sm k q d) (hk : k ≤ p) : Pb p d := Nat.lt_of_lt_of_le h.bx.n (Nat.pow_le_pow_right (by decide) hk)
theorem Sm.ok2 {k q : Nat} {d : Dyadic} (h : Sm k q d) (hk : k ≤ 4000) (hq : q ≤ 4000) : OkD d := (h.bx).ok (by omega) (by omega)
theorem pt0 : iv0 = pt 0 := by unfold pt ivD; rw [nuOf_zero]; rfl
theorem mulI_pt {p k q m r : Nat} {x y : Dyadic} (hx : Sm k q x) (hy : Sm m r y) (h8 : 8 ≤ p) (h256 : p ≤ 256) (hp : k + m ≤ p) (hq : q + r ≤ 2000) : mulI p (pt x) (pt y) = (pt (x * y), 0) := by
  have o1 := hx.ok2 (by omega) (by omega)
  have o2 := hy.ok2 (by omega) (by omega)
  have s := hx.mul hy
  have o3 := s.ok2 (by omega) (by omega)
  have b := s.pb hp
  unfold mulI pt
  rw [ivD_l, ivD_h, ivD_l, ivD_h, minP_pt, maxP_pt, opI_ok o1 o1 o2 o2 (Dyadic.le_refl _) (Dyadic.le_refl _) h8 h256 (by rw [rd_fix b]; exact o3) (by rw [rd_fix b]; exact o3), rd_fix b, rd_fix b]
theorem addI_pt {p k q : Nat} {x y : Dyadic} (hx : Sm k q x) (hy : Sm k q y) (h8 : 8 ≤ p) (h256 : p ≤ 256) (hp : k + 1 ≤ p) (hq : q ≤ 2000) : addI p (pt x) (pt y) = (pt (x + y), 0) := by
  have o1 := hx.ok2 (by omega) (by omega)
  have o2 := hy.ok2 (by omega) (by omega)
  have s := hx.add hy
  have o3 := s.ok2 (by omega) (by omega)
  have b := s.pb hp
  unfold addI pt
  rw [ivD_l, ivD_h, ivD_l, ivD_h, opI_ok o1 o1 o2 o2 (Dyadic.le_refl _) (Dyadic.le_refl _) h8 h256 (by rw [rd_fix b]; exact o3) (by rw [rd_fix b]; exact o3), rd_fix b, rd_fix b]

/-- The first coefficients of a series are points. -/
structure Pts (k q n : Nat) (a : List Iv) (x : Nat → Dyadic) : Prop where
  len : n < a.length
  at_ : ∀ i, i < n + 1 → gI a i = pt (x i)
  sm : ∀ i, i < n + 1 → Sm k q (x i)
def convD (x y : Nat → Dyadic) (n : Nat) : Dyadic := sumD (fun i => x i * y (n - i)) (n + 1)
theorem coefN_pt {p k q m r n : Nat} {a b : List Iv} {x y : Nat → Dyadic} (ha : Pts k q n a x) (hb : Pts m r n b y) (h8 : 8 ≤ p) (h256 : p ≤ 256) (hp : k + m + n + 2 ≤ p) (hq : q + r ≤ 2000) :
    ∀ i, i ≤ n + 1 → coefN p a b n i = (pt (sumD (fun i => x i * y (n - i)) i), 0) ∧ Sm (k + m + i) (q + r) (sumD (fun i => x i * y (n - i)) i)
  | 0 => fun _ => ⟨by show (iv0, 0) = (pt 0, 0); rw [pt0], Sm.zero⟩
  | i + 1 => fun hi => by
    obtain ⟨e, s⟩ := coefN_pt ha hb h8 h256 hp hq i (by omega)
    have sx := ha.sm i (by omega)
    have sy := hb.sm (n - i) (by omega)
    have e1 := mulI_pt sx sy h8 h256 (by omega) hq
    have sm := sx.mul sy
    have e2 := addI_pt s (sm.mono (show k + m ≤ k + m + i by omega)) h8 h256 (by omega) hq
    unfold coefN
    rw [e, ha.at_ i (by omega), hb.at_ (n - i) (by omega), e1]
    refine ⟨?_, ?_⟩
    · rw [if_pos rfl, if_pos rfl]
      by_cases h0 : i = 0
      · rw [if_pos h0]
        subst h0
        show (pt (x 0 * y (n - 0)), 0) = (pt (0 + x 0 * y (n - 0)), 0)
        rw [show (0 : Dyadic) + x 0 * y (n - 0) = x 0 * y (n - 0) by grind]
      · rw [if_neg h0, e2]; rfl
    · have := s.add (sm.mono (show k + m ≤ k + m + i by omega))
      exact this
theorem Pts.right {k q n : Nat} {a : List Iv} {x : Nat → Dyadic} (h : Pts k q n a x) {j : Nat} (hj : j ≤ n) (hk : k ≤ 4000) (hq : q ≤ 4000) : rightTo a j = true := by
  refine rightTo_yes (by have := h.len; omega) fun i hi => ?_
  rw [h.at_ i (by omega)]
  have := (h.sm i (by omega)).ok2 hk hq
  exact rightI_yes this this (Dyadic.le_refl _)
theorem Pts.le {k q n j : Nat} {a : List Iv} {x : Nat → Dyadic} (h : Pts k q n a x) (hj : j ≤ n) : Pts k q j a x := ⟨by have := h.len; omega, fun i hi => h.at_ i (by omega), fun i hi => h.sm i (by omega)⟩
theorem coefR_pt {p k q m r n : Nat} {a b : List Iv} {x y : Nat → Dyadic} (ha : Pts k q n a x) (hb : Pts m r n b y) (h8 : 8 ≤ p) (h256 : p ≤ 256) (hp : k + m + n + 2 ≤ p) (hq : q + r ≤ 2000) (hn : n ≤ 10) :
    coefR p a b (n : Nat) = (pt (convD x y n), 0) ∧ Sm (k + m + n + 1) (q + r) (convD x y n) := by
  obtain ⟨e, s⟩ := coefN_pt ha hb h8 h256 hp hq (n + 1) (Nat.le_refl _)
  refine ⟨?_, s⟩
  unfold coefR okK
  rw [Int.toNat_natCast, ha.right (Nat.le_refl _) (by omega) (by omega), hb.right (Nat.le_refl _) (by omega) (by omega), okP_of h8 h256, decide_eq_true (by omega), decide_eq_true (by omega)]
  exact e
theorem timesN_pt {p k q m r n : Nat} {a b : List Iv} {x y : Nat → Dyadic} (ha : Pts k q n a x) (hb : Pts m r n b y) (h8 : 8 ≤ p) (h256 : p ≤ 256) (hp : k + m + n + 2 ≤ p) (hq : q + r ≤ 2000) (hn : n ≤ 10) :
    ∀ j, j ≤ n + 1 → timesN p a b j = ((List.range j).map fun i => pt (convD x y i), 0)
  | 0 => fun _ => rfl
  | j + 1 => fun hj => by
    have e := timesN_pt ha hb h8 h256 hp hq hn j (by omega)
    have e1 := (coefR_pt (n := j) (ha.le (by omega)) (hb.le (by omega)) h8 h256 (by omega) hq (by omega)).1
    unfold timesN
    rw [e, e1, if_pos rfl, if_pos rfl, List.range_succ, List.map_append]; rfl
theorem times_pt {p k q m r n : Nat} {a b : List Iv} {x y : Nat → Dyadic} (ha : Pts k q n a x) (hb : Pts m r n b y) (h8 : 8 ≤ p) (h256 : p ≤ 256) (hp : k + m + n + 2 ≤ p) (hq : q + r ≤ 2000) (hn : n ≤ 10) :
    ∃ l, timesN p a b (n + 1) = (l, 0) ∧ Pts (k + m + n + 1) (q + r) n l (convD x y) := by
  refine ⟨_, timesN_pt ha hb h8 h256 hp hq hn (n + 1) (Nat.le_refl _), by simp, fun i hi => ?_, fun i hi => ?_⟩
  · unfold gI
    simp [List.getD, hi]
  · exact (coefR_pt (n := i) (ha.le (by omega)) (hb.le (by omega)) h8 h256 (by omega) hq (by omega)).2.mono (by omega)
theorem on_pts {k q n : Nat} {d : Dyadic} (h : Sm k q d) : Pts k q n (onS (nuOf d) n).1 (fun i => if i = 0 then d else 0) := by
  refine ⟨by simp [onS], fun i hi => ?_, fun i hi => ?_⟩
  · cases i with
    | zero => rfl
    | succ i =>
      show gI (List.replicate n iv0) i = pt 0
      unfold gI
      rw [← pt0]
      simp [List.getD, List.getElem?_replicate, show i < n by omega]
  · split
    · exact h
    · exact Sm.zero

/-! ### The known ones -/
def kO : Nu := ⟨false, 0, [1]⟩
theorem kNu14 {s : Bool} {n : Nat} {e : Int} (ho : n % 2 = 1) (hn : n < 18446744073709551616) (h1 : -60000 ≤ e) (h2 : e ≤ 60000) : nuOf (dy s n e) = ⟨s, e, [n]⟩ := ((w1 ho hn h1 h2).1).symm
theorem kO_eq : kO = nuOf 1 := by rw [show (1 : Dyadic) = dy false 1 0 by decide, kNu14 (by decide) (by decide) (by decide) (by decide)]; rfl
theorem pts_11 : Pts 1 0 1 [⟨kO, kO⟩, ⟨kO, kO⟩] (fun _ => 1) := by
  refine ⟨by decide, fun i hi => ?_, fun i hi => Sm.one⟩
  rw [kO_eq]
  match i, hi with
  | 0, _ => rfl
  | 1, _ => rfl
theorem sm_3 : Sm 2 0 3 := ⟨3, by decide, by decide⟩
theorem k3_eq : (⟨false, 0, [3]⟩ : Nu) = nuOf 3 := by rw [show (3 : Dyadic) = dy false 3 0 by decide, kNu14 (by decide) (by decide) (by decide) (by decide)]
theorem pt2_eq : pt 2 = ⟨⟨false, 1, [1]⟩, ⟨false, 1, [1]⟩⟩ := by unfold pt ivD; rw [show (2 : Dyadic) = dy false 1 1 by decide, kNu14 (by decide) (by decide) (by decide) (by decide)]
theorem pt6_eq : pt 6 = ⟨⟨false, 1, [3]⟩, ⟨false, 1, [3]⟩⟩ := by unfold pt ivD; rw [show (6 : Dyadic) = dy false 3 1 by decide, kNu14 (by decide) (by decide) (by decide) (by decide)]
theorem known_coef : coefR 16 [⟨kO, kO⟩, ⟨kO, kO⟩] [⟨kO, kO⟩, ⟨kO, kO⟩] 1 = (pt 2, 0) := by
  have := (coefR_pt (p := 16) pts_11 pts_11 (by decide) (by decide) (by decide) (by decide) (by decide)).1
  rw [show convD (fun _ => 1) (fun _ => 1) 1 = 2 by decide +kernel] at this
  exact this
theorem known_over : ∃ l, overR 16 [[⟨kO, kO⟩, ⟨kO, kO⟩]] 1 ⟨⟨false, 0, [3]⟩, [2]⟩ = (l, 0) ∧ gI l 1 = pt 6 := by
  rw [k3_eq]
  obtain ⟨l1, e1, p1⟩ := times_pt (p := 16) (on_pts (n := 1) sm_3) pts_11 (by decide) (by decide) (by decide) (by decide) (by decide)
  obtain ⟨l2, e2, p2⟩ := times_pt (p := 16) p1 pts_11 (by decide) (by decide) (by decide) (by decide) (by decide)
  refine ⟨l2, ?_, ?_⟩
  · show mulS 16 _ 1 (onS (nuOf 3) 1) 2 = _
    have h1 : mulS 16 [⟨kO, kO⟩, ⟨kO, kO⟩] 1 (onS (nuOf 3) 1) 1 = (l1, 0) := by rw [mulS_succ rfl]; exact e1
    rw [mulS_succ (by rw [show ([[⟨kO, kO⟩, ⟨kO, kO⟩]] : List (List Iv)).getD 0 [] = [⟨kO, kO⟩, ⟨kO, kO⟩] from rfl, h1]), show ([[⟨kO, kO⟩, ⟨kO, kO⟩]] : List (List Iv)).getD 0 [] = [⟨kO, kO⟩, ⟨kO, kO⟩] from rfl, h1]
    exact e2
  · rw [p2.at_ 1 (by decide)]
    rw [show convD (convD (fun i => if i = 0 then 3 else 0) fun x => 1) (fun x => 1) 1 = 6 by decide +kernel]
theorem k3_r : rightB ⟨false, 0, [3]⟩ = true := by rw [k3_eq, rightB_nuOf]; exact decide_eq_true (sm_3.ok2 (by decide) (by decide))
theorem known_of : ofR 16 [⟨⟨false, 0, [3]⟩, [2]⟩] [[⟨kO, kO⟩, ⟨kO, kO⟩]] 1 = (pt 6, 0) := by
  have hp : polyB [⟨⟨false, 0, [3]⟩, [2]⟩] 1 = true := by
    unfold polyB
    rw [monosB_yes fun i hi => ?_]
    · rfl
    · obtain rfl : i = 0 := by simp at hi; exact hi
      refine ⟨?_, by decide, fun h => absurd h (by decide)⟩
      show monoB ⟨⟨false, 0, [3]⟩, [2]⟩ 1 = true
      unfold monoB
      rw [k3_r]; rfl
  have hr : rightTo [⟨kO, kO⟩, ⟨kO, kO⟩] 1 = true := pts_11.right (Nat.le_refl _) (by decide) (by decide)
  unfold ofR okK
  obtain ⟨l, e, h⟩ := known_over
  have h0 : ofN 16 [⟨⟨false, 0, [3]⟩, [2]⟩] [[⟨kO, kO⟩, ⟨kO, kO⟩]] 1 1 = (pt 6, 0) := by
    rw [ofN_succ rfl]
    rw [show gM [⟨⟨false, 0, [3]⟩, [2]⟩] 0 = ⟨⟨false, 0, [3]⟩, [2]⟩ from rfl, e, if_pos rfl, h]
    show addI 16 iv0 (pt 6) = _
    have e3 : addI 16 (pt 0) (pt 6) = (pt (0 + 6), 0) := addI_pt (p := 16) (k := 3) (q := 0) Sm.zero ⟨6, by decide, by decide⟩ (by decide) (by decide) (by decide) (by decide)
    rw [pt0, e3, show (0 : Dyadic) + 6 = 6 by decide]
  have hx : decide (∀ x ∈ [[(⟨kO, kO⟩ : Iv), ⟨kO, kO⟩]], rightTo x (1 : Int).toNat = true) = true := decide_eq_true fun x hx => by rw [List.mem_singleton.1 hx]; exact hr
  rw [show (([[⟨kO, kO⟩, ⟨kO, kO⟩]] : List (List Iv)).length : Int) = 1 from rfl, hp, hx, show (1 : Int).toNat = 1 from rfl]
  exact h0
theorem known_sum : sumR 16 [⟨kO, kO⟩, ⟨kO, kO⟩] ⟨kO, kO⟩ = (pt 2, 0) := by
  have hr : rightTo [⟨kO, kO⟩, ⟨kO, kO⟩] 1 = true := pts_11.right (Nat.le_refl _) (by decide) (by decide)
  have e1 : (⟨kO, kO⟩ : Iv) = pt 1 := by rw [kO_eq]; rfl
  have hi : rightI ⟨kO, kO⟩ = true := by
    rw [e1]
    have := (Sm.one).ok2 (by decide) (by decide)
    exact rightI_yes this this (Dyadic.le_refl _)
  unfold sumR
  rw [show ([(⟨kO, kO⟩ : Iv), ⟨kO, kO⟩]).length = 2 from rfl, show 2 - 1 = 1 from rfl, hr, hi]
  show sumN 16 _ _ 1 = _
  rw [sumN_succ rfl]
  show plusR 16 ⟨kO, kO⟩ ⟨kO, kO⟩ ⟨kO, kO⟩ = _
  rw [e1]
  unfold plusR
  have e2 : mulI 16 (pt 1) (pt 1) = (pt (1 * 1), 0) := mulI_pt (p := 16) Sm.one Sm.one (by decide) (by decide) (by decide) (by decide)
  have e3 : addI 16 (pt 1) (pt 1) = (pt (1 + 1), 0) := addI_pt (p := 16) Sm.one Sm.one (by decide) (by decide) (by decide) (by decide)
  rw [e2, if_pos rfl, show (1 : Dyadic) * 1 = 1 by decide, e3, show (1 : Dyadic) + 1 = 2 by decide]
theorem known_wf : WfL [⟨kO, kO⟩, ⟨kO, kO⟩] := ⟨by decide, fun x hx => by
  have hw : Wi 65536 ⟨kO, kO⟩ := by
    have h : Wl 65536 kO := by rw [kO_eq]; exact (((Sm.one).ok2 (by decide) (by decide)).sz).wl
    exact ⟨h, h⟩
  simp only [List.mem_cons, List.not_mem_nil, or_false, or_self] at hx
  rw [hx]; exact hw⟩
set_option maxHeartbeats 2000000 in
theorem p_known14 : PC Tryz.prog 7 [] fun d => d = bl true := by
  have pA := p_OfI (x := kO) (by decide)
  have pC := p_Coef (k := 1) (p := 16) known_wf known_wf
  rw [known_coef, pt2_eq] at pC
  have hm : WfM [⟨⟨false, 0, [3]⟩, [2]⟩] := ⟨by decide, fun m hm => by
    rw [List.mem_singleton.1 hm]
    exact ⟨⟨fun y hy => by rw [List.mem_singleton.1 hy]; decide, by decide⟩, by decide⟩⟩
  have pD := p_sOf (k := 1) (p := 16) hm (xs := [[⟨kO, kO⟩, ⟨kO, kO⟩]]) ⟨by decide, fun l hl => by rw [List.mem_singleton.1 hl]; exact known_wf⟩
  rw [known_of, pt6_eq] at pD
  have pS := p_sSum (p := 16) known_wf (known_wf.w ⟨kO, kO⟩ (by simp))
  rw [known_sum, pt2_eq] at pS
  have pW := p_hWords (xs := [3]) (ys := [3]) (by decide) (by decide) (by decide) (by decide)
  rw [decide_eq_true rfl] at pW
  unfold kO at pA pC pS pD
  unfold II at pC pS
  refine PB (rs := [.tmp 0]) Tryz.func7 ?_
  repeat (first | with_reducible refine pv_stop 2 ?_ | with_reducible refine pv_seq fun K hK => ?_ | ((with_reducible first | refine hK _ _ ?_ | (clear hK; refine hK _ _ ?_) | (clear hK; clear hK; refine hK _ _ ?_)); clear hK; try clear K) | refine W ?_ | exact Z | with_reducible intro b)
  refine ⟨fun K q hC => ?_⟩
  repeat (first | with_reducible refine pv_seq fun K hK => ?_ | ((with_reducible first | refine hK _ _ ?_ | (clear hK; refine hK _ _ ?_) | (clear hK; clear hK; refine hK _ _ ?_)); clear hK; try clear K) | refine W0 ?_ | exact Z | with_reducible intro b)
  refine hC _ _ (Recast.frzSlot 2 (k := .l 14) rfl rfl (gs := [eI ⟨kO, kO⟩, eI ⟨kO, kO⟩]) rfl (by decide) ?_)
  rw [show G.sl [eI ⟨kO, kO⟩, eI ⟨kO, kO⟩] = eS eI [⟨kO, kO⟩, ⟨kO, kO⟩] from rfl]
  refine q _ _ ?_
  clear q hC
  unfold kO
  repeat (first | with_reducible refine pv_seq fun K hK => ?_ | ((with_reducible first | refine hK _ _ ?_ | (clear hK; refine hK _ _ ?_) | (clear hK; clear hK; refine hK _ _ ?_)); clear hK; try clear K) | refine W ?_ | exact Z | with_reducible intro b)
  refine PFC.frzCell (k2 := .l 26) (k := .l 22) (by repeat first | exact updS_at | refine (updS_ne (by decide)).trans ?_) 0 2 rfl rfl (by decide) (by repeat first | exact updS_at | refine (updS_ne (by decide)).trans ?_) (gs := [[.lit (.int .u64 3)]]) rfl (by decide) ?_
  refine PFC.frzCell (k2 := .l 26) (k := .l 24) (by repeat first | exact updS_at | refine (updS_ne (by decide)).trans ?_) 0 3 rfl rfl (by decide) (by repeat first | exact updS_at | refine (updS_ne (by decide)).trans ?_) (gs := [[.lit (.int .i64 2)]]) rfl (by decide) ?_
  refine PFC.coe ?_
  try simp -implicitDefEqProofs only [ft, go_sem, seval]
  exact Wk
end Go.V
namespace Go.V
open Go Go.RowKit Go.Proofs
end Go.V
namespace Go.V
open Go Go.RowKit Go.Proofs

/-! ### Sizes -/
/-! ### Orders of powers -/
/-! ### What is gathered is in order -/
/-! ### Polynomials of numbers that fit -/
end Go.V
namespace Go.V
open Go Go.RowKit Go.Proofs
/-! ### Rows under one of some names -/
/-! ### Terms as data -/
end Go.V
namespace Go.V
open Go Go.RowKit Go.Proofs
/-! ### The deck -/
end Go.V
namespace Go.V
open Go Go.RowKit Go.Proofs
theorem same_wi {a : Iv} (h : Wi 65536 a) : PC Tryz.prog 36 [IV a, IV a] fun d => d = bl true := same_iv (by have := h.lo.len; omega) (by have := h.hi.len; omega)
theorem ofR_wi {p : Int} {q : List Mo} {xs : List (List Iv)} {k : Int} : Wi 65536 (ofR p q xs k).1 := by
  unfold ofR; split
  · exact ofN_wi _
  · exact wi0
theorem sumR_wi {p : Int} {a : List Iv} {h : Iv} (ha : WfL a) : Wi 65536 (sumR p a h).1 := by
  unfold sumR; split
  · exact sumN_wi ha.w _
  · exact wi0
set_option maxHeartbeats 2000000 in
theorem p_told14 {q : List Mo} {xs : List (List Iv)} {a v : List Iv} {h : Iv} {k p : Int} (hq : WfM q) (hx : WfX xs) (ha : WfL a) (hv : WfL v) (hh : Wi 65536 h) : PC Tryz.prog 9 [MM q, LL xs, II a, II v, IV h, i64 k, i64 p] fun d => d = bl true := by
  have c1 := p_Coef (k := k) (p := p) ha hv
  have c2 := p_rCoef (k := k) (p := p) ha hv
  have d1 := p_sOf (k := k) (p := p) hq hx
  have d2 := p_rOf14 (k := k) (p := p) hq hx
  have s1 := p_sSum (p := p) ha hh
  have s2 := p_rSum14 (p := p) ha hh
  have w1 := same_wi (coefR_wi (p := p) (a := a) (b := v) (k := k))
  have w2 := same_wi (ofR_wi (p := p) (q := q) (xs := xs) (k := k))
  have w3 := same_wi (sumR_wi (p := p) (h := h) ha)
  clear hq hx ha hv hh
  generalize coefR p a v k = x at *
  generalize ofR p q xs k = y at *
  generalize sumR p a h = z at *
  obtain ⟨⟨⟨n1, e1, z1⟩, ⟨n2, e2, z2⟩⟩, r1⟩ := x
  obtain ⟨⟨⟨n3, e3, z3⟩, ⟨n4, e4, z4⟩⟩, r2⟩ := y
  obtain ⟨⟨⟨n5, e5, z5⟩, ⟨n6, e6, z6⟩⟩, r3⟩ := z
  obtain ⟨⟨n7, e7, z7⟩, ⟨n8, e8, z8⟩⟩ := h
  have k1 : (r1 = r1) = True := eq_true rfl
  have k2 : (r2 = r2) = True := eq_true rfl
  have k3 : (r3 = r3) = True := eq_true rfl
  unfold II MM LL at *
  refine PB (rs := [.tmp 14]) Tryz.func9 ?_
  have ft := And.intro k1 (And.intro k2 k3)
  exact Wk

end Go.V
namespace Go.V
open Go Go.RowKit Go.Proofs

def lightV (a : Iv) : Prop := a.lo.w.length ≤ 10 ∧ a.hi.w.length ≤ 10
instance (a : Iv) : Decidable (lightV a) := inferInstanceAs (Decidable (_ ∧ _))
def lightS (l : List Iv) : Prop := l.length ≤ 14 ∧ ∀ x ∈ l, lightV x
instance (l : List Iv) : Decidable (lightS l) := inferInstanceAs (Decidable (_ ∧ _))
def lightL (ls : List (List Iv)) : Prop := ∀ l ∈ ls, lightS l
instance (ls : List (List Iv)) : Decidable (lightL ls) := inferInstanceAs (Decidable (∀ l ∈ ls, lightS l))
set_option maxHeartbeats 2000000 in
theorem p_light14 {ls : List (List Iv)} (hl : ls.length ≤ 1000) : PC Tryz.prog 8 [LL ls] fun d => d = bl (decide (lightL ls)) := by
  unfold LL
  refine PB (rs := [.tmp 2]) Tryz.func8 ?_
  repeat (first | with_reducible refine pv_seq fun K hK => ?_ | ((with_reducible first | refine hK _ _ ?_ | (clear hK; refine hK _ _ ?_) | (clear hK; clear hK; refine hK _ _ ?_)); clear hK; try clear K) | refine W0 ?_ | exact Z | with_reducible intro b)
  have J : ∀ (e : DEnv) (S : Store), lightL ls → K e S := by
    intro e S h
    repeat (first | with_reducible refine pv_seq fun K hK => ?_ | ((with_reducible first | refine hK _ _ ?_ | (clear hK; refine hK _ _ ?_) | (clear hK; clear hK; refine hK _ _ ?_)); clear hK; try clear K) | refine W0 ?_ | exact Z | with_reducible intro b)
    rw [decide_eq_true h]
  clear hK
  obtain ⟨I, mk, el⟩ := hide fun e S => ∃ (i : Nat), i ≤ ls.length ∧ e 0 = .g (eS eL ls) ∧ e 3 = i64 i ∧ ∀ j, j < i → lightS (ls.getD j [])
  refine pv_loop I (fun e _ => ls.length - (intD (e 3)).toNat) ?_ ?_
  · exact mk _ _ ⟨0, Nat.zero_le _, Zr, Zr, fun j hj => by omega⟩
  · intro e S hI
    obtain ⟨i, hi, g0, g3, hz⟩ := el e S hI
    clear el hI
    have ft := And.intro g0 g3
    repeat (first | with_reducible refine pv_seq fun K hK => ?_ | ((with_reducible first | refine hK _ _ ?_ | (clear hK; refine hK _ _ ?_) | (clear hK; clear hK; refine hK _ _ ?_)); clear hK; try clear K) | refine W0 ?_ | exact Z | with_reducible intro b)
    refine pv_cdD (fun ht => ?_) (fun ht => ?_)
    · have hil : i < ls.length := by omega
      have hm0 : (intD (e 3)).toNat = i := by rw [g3]; exact Int.toNat_natCast i
      have q1 := xget hil
      have hbad : ¬ lightS (ls.getD i []) → decide (lightL ls) = false := fun h => decide_eq_false fun h2 => h (h2 _ (List.mem_of_getElem? q1))
      have mk3 : ∀ (e : DEnv) (S : Store), lightS (ls.getD i []) → e 0 = .g (eS eL ls) → e 3 = i64 ((i + 1 : Nat) : Int) → I e S := fun e S h a1 a2 => mk e S ⟨i + 1, by omega, a1, a2, fun j hj => by
        rcases Nat.lt_or_ge j i with h3 | h3
        · exact hz j h3
        · obtain rfl : j = i := by omega
          exact h⟩
      clear mk J hz
      generalize ls.getD i [] = l at *
      have ft := And.intro g0 (And.intro g3 q1)
      repeat (first | with_reducible refine pv_seq fun K hK => ?_ | ((with_reducible first | refine hK _ _ ?_ | (clear hK; refine hK _ _ ?_) | (clear hK; clear hK; refine hK _ _ ?_)); clear hK; try clear K) | refine W0 ?_ | exact Z | with_reducible intro b)
      refine pv_cdD (fun h14 => ?_) (fun h14 => ?_)
      · repeat (first | with_reducible refine pv_seq fun K hK => ?_ | ((with_reducible first | refine hK _ _ ?_ | (clear hK; refine hK _ _ ?_) | (clear hK; clear hK; refine hK _ _ ?_)); clear hK; try clear K) | refine W0 ?_ | exact Z | with_reducible intro b)
        rw [hbad (fun h => by have := h.1; omega)]
      · repeat (first | with_reducible refine pv_seq fun K hK => ?_ | ((with_reducible first | refine hK _ _ ?_ | (clear hK; refine hK _ _ ?_) | (clear hK; clear hK; refine hK _ _ ?_)); clear hK; try clear K) | refine W0 ?_ | exact Z | with_reducible intro b)
        obtain ⟨I2, mk2, el2⟩ := hide fun e S => ∃ (j : Nat), j ≤ l.length ∧ e 0 = .g (eS eL ls) ∧ e 3 = i64 i ∧ e 4 = i64 j ∧ ∀ t, t < j → lightV (gI l t)
        refine pv_loop I2 (fun e _ => l.length - (intD (e 4)).toNat) ?_ ?_
        · exact mk2 _ _ ⟨0, Nat.zero_le _, Zr, Zr, Zr, fun j hj => by omega⟩
        · intro e S hI
          obtain ⟨j, hj, g0, g3, g4, hz2⟩ := el2 e S hI
          clear el2 hI
          have ft := And.intro g0 (And.intro g3 (And.intro g4 q1))
          repeat (first | with_reducible refine pv_seq fun K hK => ?_ | ((with_reducible first | refine hK _ _ ?_ | (clear hK; refine hK _ _ ?_) | (clear hK; clear hK; refine hK _ _ ?_)); clear hK; try clear K) | refine W0 ?_ | exact Z | with_reducible intro b)
          refine pv_cdD (fun ht2 => ?_) (fun ht2 => ?_)
          · have hjl : j < l.length := by omega
            have q2 := gI_at hjl
            have hbad2 : ¬ lightV (gI l j) → decide (lightL ls) = false := fun h => hbad fun h2 => h (h2.2 _ (gI_mem hjl))
            have mk4 : ∀ (e : DEnv) (S : Store), lightV (gI l j) → e 0 = .g (eS eL ls) → e 3 = i64 i → e 4 = i64 ((j + 1 : Nat) : Int) → I2 e S := fun e S h a1 a2 a3 => mk2 e S ⟨j + 1, by omega, a1, a2, a3, fun t ht => by
              rcases Nat.lt_or_ge t j with h3 | h3
              · exact hz2 t h3
              · obtain rfl : t = j := by omega
                exact h⟩
            clear mk2 mk3 hz2 hbad
            generalize gI l j = x at *
            obtain ⟨⟨n1, e1, w1⟩, ⟨n2, e2, w2⟩⟩ := x
            by_cases h1 : w1.length ≤ 10
            · have k1 : ((10 : Int) < (w1.length : Int)) = False := eq_false (by omega)
              by_cases h2 : w2.length ≤ 10
              · have k2 : ((10 : Int) < (w2.length : Int)) = False := eq_false (by omega)
                have ft := And.intro g0 (And.intro g3 (And.intro g4 (And.intro q1 (And.intro q2 (And.intro k1 k2)))))
                repeat (first | with_reducible refine pv_seq fun K hK => ?_ | ((with_reducible first | refine hK _ _ ?_ | (clear hK; refine hK _ _ ?_) | (clear hK; clear hK; refine hK _ _ ?_)); clear hK; try clear K) | refine W0 ?_ | exact Z | with_reducible intro b)
                refine ⟨mk4 _ _ ⟨h1, h2⟩ Zr Zr Zr, by simp only [intD]; omega⟩
              · have k2 : ((10 : Int) < (w2.length : Int)) = True := eq_true (by omega)
                have ft := And.intro g0 (And.intro g3 (And.intro g4 (And.intro q1 (And.intro q2 (And.intro k2 k1)))))
                repeat (first | with_reducible refine pv_seq fun K hK => ?_ | ((with_reducible first | refine hK _ _ ?_ | (clear hK; refine hK _ _ ?_) | (clear hK; clear hK; refine hK _ _ ?_)); clear hK; try clear K) | refine W0 ?_ | exact Z | with_reducible intro b)
                rw [hbad2 fun h => h2 h.2]
            · have k1 : ((10 : Int) < (w1.length : Int)) = True := eq_true (by omega)
              have ft := And.intro g0 (And.intro g3 (And.intro g4 (And.intro q1 (And.intro q2 k1))))
              repeat (first | with_reducible refine pv_seq fun K hK => ?_ | ((with_reducible first | refine hK _ _ ?_ | (clear hK; refine hK _ _ ?_) | (clear hK; clear hK; refine hK _ _ ?_)); clear hK; try clear K) | refine W0 ?_ | exact Z | with_reducible intro b)
              rw [hbad2 fun h => h1 h.1]
          · obtain rfl : j = l.length := by omega
            have ft := And.intro g0 (And.intro g4 (And.intro g3 q1))
            repeat (first | with_reducible refine pv_seq fun K hK => ?_ | ((with_reducible first | refine hK _ _ ?_ | (clear hK; refine hK _ _ ?_) | (clear hK; clear hK; refine hK _ _ ?_)); clear hK; try clear K) | refine W0 ?_ | exact Z | with_reducible intro b)
            refine ⟨mk3 _ _ ⟨by omega, fun x hx => ?_⟩ Zr Zr, by rw [hm0]; simp only [intD]; omega⟩
            obtain ⟨t, ht2⟩ := List.getElem?_of_mem hx
            have htl : t < l.length := (List.getElem?_eq_some_iff.1 ht2).1
            have := hz2 t htl
            simpa [gI, List.getD, ht2] using this
    · obtain rfl : i = ls.length := by omega
      have ft := And.intro g3 g0
      repeat (first | with_reducible refine pv_seq fun K hK => ?_ | ((with_reducible first | refine hK _ _ ?_ | (clear hK; refine hK _ _ ?_) | (clear hK; clear hK; refine hK _ _ ?_)); clear hK; try clear K) | refine W0 ?_ | exact Z | with_reducible intro b)
      refine J _ _ fun l hx => ?_
      obtain ⟨t, ht2⟩ := List.getElem?_of_mem hx
      have htl : t < ls.length := (List.getElem?_eq_some_iff.1 ht2).1
      have := hz t htl
      simpa [List.getD, ht2] using this
end Go.V
namespace Go.V
open Go Go.RowKit Go.Proofs

theorem wfL_light {a : List Iv} (hb : ∀ x ∈ a, B64 x.lo.w ∧ B64 x.hi.w) (h : lightS a) : WfL a := ⟨by have := h.1; omega, fun x hx => ⟨⟨(hb x hx).1, by have := (h.2 x hx).1; omega⟩, ⟨(hb x hx).2, by have := (h.2 x hx).2; omega⟩⟩⟩
set_option maxHeartbeats 4000000 in
theorem p_SeriesAny {q : List Mo} {a v : List Iv} {h : Iv} {k p : Int} (hq : ∀ m ∈ q, B64 m.c.w) (ha : ∀ x ∈ a, B64 x.lo.w ∧ B64 x.hi.w) (hv : ∀ x ∈ v, B64 x.lo.w ∧ B64 x.hi.w) (hh : B64 h.lo.w ∧ B64 h.hi.w) : PC Tryz.prog 3 [MM q, II a, II v, IV h, i64 k, i64 p] fun d => d = bl true := by
  have pK := p_known14
  have pL := p_light14 (ls := [a, v, [h]]) (by simp)
  have wl : decide (lightL [a, v, [h]]) = true → WfL a ∧ WfL v ∧ Wi 65536 h := fun e => by
    have e := of_decide_eq_true e
    have h3 := wfL_light (a := [h]) (fun x hx => by rw [List.mem_singleton.1 hx]; exact hh) (e [h] (by simp))
    exact ⟨wfL_light ha (e a (by simp)), wfL_light hv (e v (by simp)), h3.w h (by simp)⟩
  have pT : WfM q → WfL a ∧ WfL v ∧ Wi 65536 h → _ := fun w1 w2 => p_told14 (k := k) (p := p) w1 (xs := [a, v]) ⟨by simp, fun l hl => by
    simp only [List.mem_cons, List.not_mem_nil, or_false] at hl
    rcases hl with rfl | rfl
    · exact w2.1
    · exact w2.2.1⟩ w2.1 w2.2.1 w2.2.2
  clear ha hv hh
  generalize decide (lightL [a, v, [h]]) = r at *
  obtain ⟨⟨n1, e1, w1⟩, ⟨n2, e2, w2⟩⟩ := h
  unfold MM II LL at *
  refine PB (rs := [.tmp 12]) Tryz.func3 ?_
  repeat (first | with_reducible refine pv_seq fun K hK => ?_ | ((with_reducible first | refine hK _ _ ?_ | (clear hK; refine hK _ _ ?_) | (clear hK; clear hK; refine hK _ _ ?_)); clear hK; try clear K) | refine W ?_ | exact Z | with_reducible intro b)
  refine PFC.frzCell (k2 := .l 20) (k := .l 19) (by repeat first | exact updS_at | refine (updS_ne (by decide)).trans ?_) 2 0 rfl rfl (by decide) (by repeat first | exact updS_at | refine (updS_ne (by decide)).trans ?_) (gs := [eI ⟨⟨n1, e1, w1⟩, ⟨n2, e2, w2⟩⟩]) rfl (Nat.le_refl 1) ?_
  refine PFC.coe ?_
  try simp -implicitDefEqProofs only [ft, go_sem, seval]
  refine call_is pL ?_
  cases r
  · exact Wk
  · have wl := wl rfl
    repeat (first | with_reducible refine pv_seq fun K hK => ?_ | ((with_reducible first | refine hK _ _ ?_ | (clear hK; refine hK _ _ ?_) | (clear hK; clear hK; refine hK _ _ ?_)); clear hK; try clear K) | refine W0 ?_ | exact Z | with_reducible intro b)
    refine pv_cdD (fun h30 => ?_) (fun h30 => ?_)
    · exact Wk
    · repeat (first | with_reducible refine pv_seq fun K hK => ?_ | ((with_reducible first | refine hK _ _ ?_ | (clear hK; refine hK _ _ ?_) | (clear hK; clear hK; refine hK _ _ ?_)); clear hK; try clear K) | refine W0 ?_ | exact Z | with_reducible intro b)
      have J : ∀ (e : DEnv) (S : Store) (b9 : Nat), (∀ j, j < q.length → (gM q j).c.w.length ≤ 10 ∧ (gM q j).e.length ≤ 6) → e 0 = .g (eS eM q) → e 1 = .g (eS eI a) → e 2 = .g (eS eI v) → e 4 = i64 k → e 5 = i64 p → e 9 = .ptr (.l 9) b9 0 0 6 → S (.l 9) = some ⟨b9, 6, 0, [cI ⟨⟨n1, e1, w1⟩, ⟨n2, e2, w2⟩⟩]⟩ → K e S := by
        intro e S b9 hm g0 g1 g2 g4 g5 g9 s9
        have pT := pT ⟨by omega, fun m hx => by
          obtain ⟨t, ht⟩ := List.getElem?_of_mem hx
          have htl : t < q.length := (List.getElem?_eq_some_iff.1 ht).1
          have hg : gM q t = m := by simp [gM, List.getD, ht]
          have := hm t htl
          rw [hg] at this
          exact ⟨⟨hq m hx, by omega⟩, by omega⟩⟩ wl
        unfold cI at s9
        simp only at s9
        have ft := And.intro g0 (And.intro g1 (And.intro g2 (And.intro g4 (And.intro g5 (And.intro g9 s9)))))
        exact Wk
      clear hK
      obtain ⟨I, mk, el⟩ := hide fun e S => ∃ (i b9 : Nat), i ≤ q.length ∧ (∀ j, j < i → (gM q j).c.w.length ≤ 10 ∧ (gM q j).e.length ≤ 6) ∧ e 0 = .g (eS eM q) ∧ e 1 = .g (eS eI a) ∧ e 2 = .g (eS eI v) ∧ e 4 = i64 k ∧ e 5 = i64 p ∧ e 9 = .ptr (.l 9) b9 0 0 6 ∧ e 13 = i64 i ∧ S (.l 9) = some ⟨b9, 6, 0, [cI ⟨⟨n1, e1, w1⟩, ⟨n2, e2, w2⟩⟩]⟩
      repeat (first | with_reducible refine pv_seq fun K hK => ?_ | ((with_reducible first | refine hK _ _ ?_ | (clear hK; refine hK _ _ ?_) | (clear hK; clear hK; refine hK _ _ ?_)); clear hK; try clear K) | refine W0 ?_ | exact Z | with_reducible intro b)
      refine pv_loop I (fun e _ => q.length - (intD (e 13)).toNat) ?_ ?_
      · exact mk _ _ ⟨0, _, Nat.zero_le _, fun j hj => by omega, Zr, Zr, Zr, Zr, Zr, Zr, Zr, by simp only [updS_apply]; rfl⟩
      · intro e S hI
        obtain ⟨i, b9, hi, hm, g0, g1, g2, g4, g5, g9, g13, s9⟩ := el e S hI
        clear el hI
        have ft := And.intro g0 (And.intro g1 (And.intro g2 (And.intro g4 (And.intro g5 (And.intro g9 g13)))))
        repeat (first | with_reducible refine pv_seq fun K hK => ?_ | ((with_reducible first | refine hK _ _ ?_ | (clear hK; refine hK _ _ ?_) | (clear hK; clear hK; refine hK _ _ ?_)); clear hK; try clear K) | refine W0 ?_ | exact Z | with_reducible intro b)
        refine pv_cdD (fun ht => ?_) (fun ht => ?_)
        · have hil : i < q.length := by omega
          have q1 := gM_at hil
          have mk3 : ∀ (e : DEnv) (S : Store), ((gM q i).c.w.length ≤ 10 ∧ (gM q i).e.length ≤ 6) → e 0 = .g (eS eM q) → e 1 = .g (eS eI a) → e 2 = .g (eS eI v) → e 4 = i64 k → e 5 = i64 p → e 9 = .ptr (.l 9) b9 0 0 6 → e 13 = i64 ((i + 1 : Nat) : Int) → S (.l 9) = some ⟨b9, 6, 0, [cI ⟨⟨n1, e1, w1⟩, ⟨n2, e2, w2⟩⟩]⟩ → I e S := fun e S h a1 a2 a3 a4 a5 a6 a7 a8 => mk e S ⟨i + 1, b9, by omega, fun t ht => by
            rcases Nat.lt_or_ge t i with h3 | h3
            · exact hm t h3
            · obtain rfl : t = i := by omega
              exact h, a1, a2, a3, a4, a5, a6, a7, a8⟩
          clear mk J hm pT
          generalize gM q i = m at *
          obtain ⟨⟨nm, em, wm⟩, zm⟩ := m
          by_cases h1 : wm.length ≤ 10
          · have k1 : ((10 : Int) < (wm.length : Int)) = False := eq_false (by omega)
            by_cases h2 : zm.length ≤ 6
            · have k2 : ((6 : Int) < (zm.length : Int)) = False := eq_false (by omega)
              have ft := And.intro g0 (And.intro g1 (And.intro g2 (And.intro g4 (And.intro g5 (And.intro g9 (And.intro g13 (And.intro q1 (And.intro k1 k2))))))))
              repeat (first | with_reducible refine pv_seq fun K hK => ?_ | ((with_reducible first | refine hK _ _ ?_ | (clear hK; refine hK _ _ ?_) | (clear hK; clear hK; refine hK _ _ ?_)); clear hK; try clear K) | refine W0 ?_ | exact Z | with_reducible intro b)
              refine ⟨mk3 _ _ ⟨h1, h2⟩ Zr Zr Zr Zr Zr Zr Zr s9, by simp only [intD]; omega⟩
            · have k2 : ((6 : Int) < (zm.length : Int)) = True := eq_true (by omega)
              have ft := And.intro g0 (And.intro g1 (And.intro g2 (And.intro g4 (And.intro g5 (And.intro g9 (And.intro g13 (And.intro q1 (And.intro k2 k1))))))))
              exact Wk
          · have k1 : ((10 : Int) < (wm.length : Int)) = True := eq_true (by omega)
            have ft := And.intro g0 (And.intro g1 (And.intro g2 (And.intro g4 (And.intro g5 (And.intro g9 (And.intro g13 (And.intro q1 k1)))))))
            exact Wk
        · obtain rfl : i = q.length := by omega
          have ft := And.intro g0 (And.intro g1 (And.intro g2 (And.intro g4 (And.intro g5 (And.intro g13 g9)))))
          repeat (first | with_reducible refine pv_seq fun K hK => ?_ | ((with_reducible first | refine hK _ _ ?_ | (clear hK; refine hK _ _ ?_) | (clear hK; clear hK; refine hK _ _ ?_)); clear hK; try clear K) | refine W0 ?_ | exact Z | with_reducible intro b)
          exact J _ _ b9 hm Zr Zr Zr Zr Zr Zr s9
end Go.V

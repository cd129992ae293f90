/- Intervals that are points, exactly; the statements' own known series. The seat's deck: boxes of small intervals, points in boxes, boxes in boxes; is a value within an interval? The statement SeriesHolds of layer 14. Terms gathered by their powers, plainly: the greater powers first, one term for each. The document's gathering of terms over values as data. The document's polynomials of monomials over values as data; the seat's deck: powers, monomials, polynomials. What the statements of layer 14 tell of all of it; the statement SeriesDrawn. -/
import Derived.Test.YtklilekbokialaaGreatDoorZI1
import Derived.Test.YtklilekbokialaaGreatDoorZI0
set_option linter.unusedSimpArgs false
set_option linter.unusedVariables false
set_option maxRecDepth 100000
namespace Go.V
open Go Go.RowKit Go.Proofs

def pt (d : Dyadic) : Iv := ivD d d
theorem minP_pt {x y : Dyadic} : minP x x y y = x * y := by rcases (minP_spec x x y y).2 with e | e | e | e <;> exact e
theorem maxP_pt {x y : Dyadic} : maxP x x y y = x * y := by rcases (maxP_spec x x y y).2 with e | e | e | e <;> exact e
theorem Sm.pb {k q p : Nat} {d : Dyadic} (h : Sm k q d) (hk : k ≤ p) : Pb p d := Nat.lt_of_lt_of_le h.bx.n (Nat.pow_le_pow_right (by decide) hk)
theorem Sm.ok2 {k q : Nat} {d : Dyadic} (h : Sm k q d) (hk : k ≤ 4000) (hq : q ≤ 4000) : OkD d := (h.bx).ok (by omega) (by omega)
theorem pt0 : iv0 = pt 0 := by unfold pt ivD; rw [nuOf_zero]; rfl
theorem mulI_pt {p k q m r : Nat} {x y : Dyadic} (hx : Sm k q x) (hy : Sm m r y) (h8 : 8 ≤ p) (h256 : p ≤ 256) (hp : k + m ≤ p) (hq : q + r ≤ 2000) : mulI p (pt x) (pt y) = (pt (x * y), 0) := by
  have o1 := hx.ok2 (by omega) (by omega)
  have o2 := hy.ok2 (by omega) (by omega)
  have s := hx.mul hy
  have o3 := s.ok2 (by omega) (by omega)
  have b := s.pb hp
  unfold mulI pt
  rw [ivD_l, ivD_h, ivD_l, ivD_h, minP_pt, maxP_pt, opI_ok o1 o1 o2 o2 (Dyadic.le_refl _) (Dyadic.le_refl _) h8 h256 (by rw [rd_fix b]; exact o3) (by rw [rd_fix b]; exact o3), rd_fix b, rd_fix b]
theorem addI_pt {p k q : Nat} {x y : Dyadic} (hx : Sm k q x) (hy : Sm k q y) (h8 : 8 ≤ p) (h256 : p ≤ 256) (hp : k + 1 ≤ p) (hq : q ≤ 2000) : addI p (pt x) (pt y) = (pt (x + y), 0) := by
  have o1 := hx.ok2 (by omega) (by omega)
  have o2 := hy.ok2 (by omega) (by omega)
  have s := hx.add hy
  have o3 := s.ok2 (by omega) (by omega)
  have b := s.pb hp
  unfold addI pt
  rw [ivD_l, ivD_h, ivD_l, ivD_h, opI_ok o1 o1 o2 o2 (Dyadic.le_refl _) (Dyadic.le_refl _) h8 h256 (by rw [rd_fix b]; exact o3) (by rw [rd_fix b]; exact o3), rd_fix b, rd_fix b]

/-- The first coefficients of a series are points. -/
structure Pts (k q n : Nat) (a : List Iv) (x : Nat → Dyadic) : Prop where
  len : n < a.length
  at_ : ∀ i, i < n + 1 → gI a i = pt (x i)
  sm : ∀ i, i < n + 1 → Sm k q (x i)
def convD (x y : Nat → Dyadic) (n : Nat) : Dyadic := sumD (fun i => x i * y (n - i)) (n + 1)
theorem coefN_pt {p k q m r n : Nat} {a b : List Iv} {x y : Nat → Dyadic} (ha : Pts k q n a x) (hb : Pts m r n b y) (h8 : 8 ≤ p) (h256 : p ≤ 256) (hp : k + m + n + 2 ≤ p) (hq : q + r ≤ 2000) :
    ∀ i, i ≤ n + 1 → coefN p a b n i = (pt (sumD (fun i => x i * y (n - i)) i), 0) ∧ Sm (k + m + i) (q + r) (sumD (fun i => x i * y (n - i)) i)
  | 0 => fun _ => ⟨by show (iv0, 0) = (pt 0, 0); rw [pt0], Sm.zero⟩
  | i + 1 => fun hi => by
    obtain ⟨e, s⟩ := coefN_pt ha hb h8 h256 hp hq i (by omega)
    have sx := ha.sm i (by omega)
    have sy := hb.sm (n - i) (by omega)
    have e1 := mulI_pt sx sy h8 h256 (by omega) hq
    have sm := sx.mul sy
    have e2 := addI_pt s (sm.mono (show k + m ≤ k + m + i by omega)) h8 h256 (by omega) hq
    unfold coefN
    rw [e, ha.at_ i (by omega), hb.at_ (n - i) (by omega), e1]
    refine ⟨?_, ?_⟩
    · rw [if_pos rfl, if_pos rfl]
      by_cases h0 : i = 0
      · rw [if_pos h0]
        subst h0
        show (pt (x 0 * y (n - 0)), 0) = (pt (0 + x 0 * y (n - 0)), 0)
        rw [show (0 : Dyadic) + x 0 * y (n - 0) = x 0 * y (n - 0) by grind]
      · rw [if_neg h0, e2]; rfl
    · have := s.add (sm.mono (show k + m ≤ k + m + i by omega))
      exact this
theorem Pts.right {k q n : Nat} {a : List Iv} {x : Nat → Dyadic} (h : Pts k q n a x) {j : Nat} (hj : j ≤ n) (hk : k ≤ 4000) (hq : q ≤ 4000) : rightTo a j = true := by
  refine rightTo_yes (by have := h.len; omega) fun i hi => ?_
  rw [h.at_ i (by omega)]
  have := (h.sm i (by omega)).ok2 hk hq
  exact rightI_yes this this (Dyadic.le_refl _)
theorem Pts.le {k q n j : Nat} {a : List Iv} {x : Nat → Dyadic} (h : Pts k q n a x) (hj : j ≤ n) : Pts k q j a x := ⟨by have := h.len; omega, fun i hi => h.at_ i (by omega), fun i hi => h.sm i (by omega)⟩
theorem coefR_pt {p k q m r n : Nat} {a b : List Iv} {x y : Nat → Dyadic} (ha : Pts k q n a x) (hb : Pts m r n b y) (h8 : 8 ≤ p) (h256 : p ≤ 256) (hp : k + m + n + 2 ≤ p) (hq : q + r ≤ 2000) (hn : n ≤ 10) :
    coefR p a b (n : Nat) = (pt (convD x y n), 0) ∧ Sm (k + m + n + 1) (q + r) (convD x y n) := by
  obtain ⟨e, s⟩ := coefN_pt ha hb h8 h256 hp hq (n + 1) (Nat.le_refl _)
  refine ⟨?_, s⟩
  unfold coefR okK
  rw [Int.toNat_natCast, ha.right (Nat.le_refl _) (by omega) (by omega), hb.right (Nat.le_refl _) (by omega) (by omega), okP_of h8 h256, decide_eq_true (by omega), decide_eq_true (by omega)]
  exact e
theorem timesN_pt {p k q m r n : Nat} {a b : List Iv} {x y : Nat → Dyadic} (ha : Pts k q n a x) (hb : Pts m r n b y) (h8 : 8 ≤ p) (h256 : p ≤ 256) (hp : k + m + n + 2 ≤ p) (hq : q + r ≤ 2000) (hn : n ≤ 10) :
    ∀ j, j ≤ n + 1 → timesN p a b j = ((List.range j).map fun i => pt (convD x y i), 0)
  | 0 => fun _ => rfl
  | j + 1 => fun hj => by
    have e := timesN_pt ha hb h8 h256 hp hq hn j (by omega)
    have e1 := (coefR_pt (n := j) (ha.le (by omega)) (hb.le (by omega)) h8 h256 (by omega) hq (by omega)).1
    unfold timesN
    rw [e, e1, if_pos rfl, if_pos rfl, List.range_succ, List.map_append]; rfl
theorem times_pt {p k q m r n : Nat} {a b : List Iv} {x y : Nat → Dyadic} (ha : Pts k q n a x) (hb : Pts m r n b y) (h8 : 8 ≤ p) (h256 : p ≤ 256) (hp : k + m + n + 2 ≤ p) (hq : q + r ≤ 2000) (hn : n ≤ 10) :
    ∃ l, timesN p a b (n + 1) = (l, 0) ∧ Pts (k + m + n + 1) (q + r) n l (convD x y) := by
  refine ⟨_, timesN_pt ha hb h8 h256 hp hq hn (n + 1) (Nat.le_refl _), by simp, fun i hi => ?_, fun i hi => ?_⟩
  · unfold gI
    simp [List.getD, hi]
  · exact (coefR_pt (n := i) (ha.le (by omega)) (hb.le (by omega)) h8 h256 (by omega) hq (by omega)).2.mono (by omega)
theorem on_pts {k q n : Nat} {d : Dyadic} (h : Sm k q d) : Pts k q n (onS (nuOf d) n).1 (fun i => if i = 0 then d else 0) := by
  refine ⟨by simp [onS], fun i hi => ?_, fun i hi => ?_⟩
  · cases i with
    | zero => rfl
    | succ i =>
      show gI (List.replicate n iv0) i = pt 0
      unfold gI
      rw [← pt0]
      simp [List.getD, List.getElem?_replicate, show i < n by omega]
  · split
    · exact h
    · exact Sm.zero

/-! ### The known ones -/
def kO : Nu := ⟨false, 0, [1]⟩
theorem kNu14 {s : Bool} {n : Nat} {e : Int} (ho : n % 2 = 1) (hn : n < 18446744073709551616) (h1 : -60000 ≤ e) (h2 : e ≤ 60000) : nuOf (dy s n e) = ⟨s, e, [n]⟩ := ((w1 ho hn h1 h2).1).symm
theorem kO_eq : kO = nuOf 1 := by rw [show (1 : Dyadic) = dy false 1 0 by decide, kNu14 (by decide) (by decide) (by decide) (by decide)]; rfl
theorem pts_11 : Pts 1 0 1 [⟨kO, kO⟩, ⟨kO, kO⟩] (fun _ => 1) := by
  refine ⟨by decide, fun i hi => ?_, fun i hi => Sm.one⟩
  rw [kO_eq]
  match i, hi with
  | 0, _ => rfl
  | 1, _ => rfl
theorem sm_3 : Sm 2 0 3 := ⟨3, by decide, by decide⟩
theorem k3_eq : (⟨false, 0, [3]⟩ : Nu) = nuOf 3 := by rw [show (3 : Dyadic) = dy false 3 0 by decide, kNu14 (by decide) (by decide) (by decide) (by decide)]
theorem pt2_eq : pt 2 = ⟨⟨false, 1, [1]⟩, ⟨false, 1, [1]⟩⟩ := by unfold pt ivD; rw [show (2 : Dyadic) = dy false 1 1 by decide, kNu14 (by decide) (by decide) (by decide) (by decide)]
theorem pt6_eq : pt 6 = ⟨⟨false, 1, [3]⟩, ⟨false, 1, [3]⟩⟩ := by unfold pt ivD; rw [show (6 : Dyadic) = dy false 3 1 by decide, kNu14 (by decide) (by decide) (by decide) (by decide)]
theorem known_coef : coefR 16 [⟨kO, kO⟩, ⟨kO, kO⟩] [⟨kO, kO⟩, ⟨kO, kO⟩] 1 = (pt 2, 0) := by
  have := (coefR_pt (p := 16) pts_11 pts_11 (by decide) (by decide) (by decide) (by decide) (by decide)).1
  rw [show convD (fun _ => 1) (fun _ => 1) 1 = 2 by decide +kernel] at this
  exact this
theorem known_over : ∃ l, overR 16 [[⟨kO, kO⟩, ⟨kO, kO⟩]] 1 ⟨⟨false, 0, [3]⟩, [2]⟩ = (l, 0) ∧ gI l 1 = pt 6 := by
  rw [k3_eq]
  obtain ⟨l1, e1, p1⟩ := times_pt (p := 16) (on_pts (n := 1) sm_3) pts_11 (by decide) (by decide) (by decide) (by decide) (by decide)
  obtain ⟨l2, e2, p2⟩ := times_pt (p := 16) p1 pts_11 (by decide) (by decide) (by decide) (by decide) (by decide)
  refine ⟨l2, ?_, ?_⟩
  · show mulS 16 _ 1 (onS (nuOf 3) 1) 2 = _
    have h1 : mulS 16 [⟨kO, kO⟩, ⟨kO, kO⟩] 1 (onS (nuOf 3) 1) 1 = (l1, 0) := by rw [mulS_succ rfl]; exact e1
    rw [mulS_succ (by rw [show ([[⟨kO, kO⟩, ⟨kO, kO⟩]] : List (List Iv)).getD 0 [] = [⟨kO, kO⟩, ⟨kO, kO⟩] from rfl, h1]), show ([[⟨kO, kO⟩, ⟨kO, kO⟩]] : List (List Iv)).getD 0 [] = [⟨kO, kO⟩, ⟨kO, kO⟩] from rfl, h1]
    exact e2
  · rw [p2.at_ 1 (by decide)]
    rw [show convD (convD (fun i => if i = 0 then 3 else 0) fun x => 1) (fun x => 1) 1 = 6 by decide +kernel]
theorem k3_r : rightB ⟨false, 0, [3]⟩ = true := by rw [k3_eq, rightB_nuOf]; exact decide_eq_true (sm_3.ok2 (by decide) (by decide))
theorem known_of : ofR 16 [⟨⟨false, 0, [3]⟩, [2]⟩] [[⟨kO, kO⟩, ⟨kO, kO⟩]] 1 = (pt 6, 0) := by
  have hp : polyB [⟨⟨false, 0, [3]⟩, [2]⟩] 1 = true := by
    unfold polyB
    rw [monosB_yes fun i hi => ?_]
    · rfl
    · obtain rfl : i = 0 := by simp at hi; exact hi
      refine ⟨?_, by decide, fun h => absurd h (by decide)⟩
      show monoB ⟨⟨false, 0, [3]⟩, [2]⟩ 1 = true
      unfold monoB
      rw [k3_r]; rfl
  have hr : rightTo [⟨kO, kO⟩, ⟨kO, kO⟩] 1 = true := pts_11.right (Nat.le_refl _) (by decide) (by decide)
  unfold ofR okK
  obtain ⟨l, e, h⟩ := known_over
  have h0 : ofN 16 [⟨⟨false, 0, [3]⟩, [2]⟩] [[⟨kO, kO⟩, ⟨kO, kO⟩]] 1 1 = (pt 6, 0) := by
    rw [ofN_succ rfl]
    rw [show gM [⟨⟨false, 0, [3]⟩, [2]⟩] 0 = ⟨⟨false, 0, [3]⟩, [2]⟩ from rfl, e, if_pos rfl, h]
    show addI 16 iv0 (pt 6) = _
    have e3 : addI 16 (pt 0) (pt 6) = (pt (0 + 6), 0) := addI_pt (p := 16) (k := 3) (q := 0) Sm.zero ⟨6, by decide, by decide⟩ (by decide) (by decide) (by decide) (by decide)
    rw [pt0, e3, show (0 : Dyadic) + 6 = 6 by decide]
  have hx : decide (∀ x ∈ [[(⟨kO, kO⟩ : Iv), ⟨kO, kO⟩]], rightTo x (1 : Int).toNat = true) = true := decide_eq_true fun x hx => by rw [List.mem_singleton.1 hx]; exact hr
  rw [show (([[⟨kO, kO⟩, ⟨kO, kO⟩]] : List (List Iv)).length : Int) = 1 from rfl, hp, hx, show (1 : Int).toNat = 1 from rfl]
  exact h0
theorem known_sum : sumR 16 [⟨kO, kO⟩, ⟨kO, kO⟩] ⟨kO, kO⟩ = (pt 2, 0) := by
  have hr : rightTo [⟨kO, kO⟩, ⟨kO, kO⟩] 1 = true := pts_11.right (Nat.le_refl _) (by decide) (by decide)
  have e1 : (⟨kO, kO⟩ : Iv) = pt 1 := by rw [kO_eq]; rfl
  have hi : rightI ⟨kO, kO⟩ = true := by
    rw [e1]
    have := (Sm.one).ok2 (by decide) (by decide)
    exact rightI_yes this this (Dyadic.le_refl _)
  unfold sumR
  rw [show ([(⟨kO, kO⟩ : Iv), ⟨kO, kO⟩]).length = 2 from rfl, show 2 - 1 = 1 from rfl, hr, hi]
  show sumN 16 _ _ 1 = _
  rw [sumN_succ rfl]
  show plusR 16 ⟨kO, kO⟩ ⟨kO, kO⟩ ⟨kO, kO⟩ = _
  rw [e1]
  unfold plusR
  have e2 : mulI 16 (pt 1) (pt 1) = (pt (1 * 1), 0) := mulI_pt (p := 16) Sm.one Sm.one (by decide) (by decide) (by decide) (by decide)
  have e3 : addI 16 (pt 1) (pt 1) = (pt (1 + 1), 0) := addI_pt (p := 16) Sm.one Sm.one (by decide) (by decide) (by decide) (by decide)
  rw [e2, if_pos rfl, show (1 : Dyadic) * 1 = 1 by decide, e3, show (1 : Dyadic) + 1 = 2 by decide]
theorem known_wf : WfL [⟨kO, kO⟩, ⟨kO, kO⟩] := ⟨by decide, fun x hx => by
  have hw : Wi 65536 ⟨kO, kO⟩ := by
    have h : Wl 65536 kO := by rw [kO_eq]; exact (((Sm.one).ok2 (by decide) (by decide)).sz).wl
    exact ⟨h, h⟩
  simp only [List.mem_cons, List.not_mem_nil, or_false, or_self] at hx
  rw [hx]; exact hw⟩
set_option maxHeartbeats 2000000 in
theorem p_known14 : PC Tryz.prog 7 [] fun d => d = bl true := by
  have pA := p_OfI (x := kO) (by decide)
  have pC := p_Coef (k := 1) (p := 16) known_wf known_wf
  rw [known_coef, pt2_eq] at pC
  have hm : WfM [⟨⟨false, 0, [3]⟩, [2]⟩] := ⟨by decide, fun m hm => by
    rw [List.mem_singleton.1 hm]
    exact ⟨⟨fun y hy => by rw [List.mem_singleton.1 hy]; decide, by decide⟩, by decide⟩⟩
  have pD := p_sOf (k := 1) (p := 16) hm (xs := [[⟨kO, kO⟩, ⟨kO, kO⟩]]) ⟨by decide, fun l hl => by rw [List.mem_singleton.1 hl]; exact known_wf⟩
  rw [known_of, pt6_eq] at pD
  have pS := p_sSum (p := 16) known_wf (known_wf.w ⟨kO, kO⟩ (by simp))
  rw [known_sum, pt2_eq] at pS
  have pW := p_hWords (xs := [3]) (ys := [3]) (by decide) (by decide) (by decide) (by decide)
  rw [decide_eq_true rfl] at pW
  unfold kO at pA pC pS pD
  unfold II at pC pS
  refine PB (rs := [.tmp 0]) Tryz.func7 ?_
  repeat (first | with_reducible refine pv_stop 2 ?_ | with_reducible refine pv_seq fun K hK => ?_ | ((with_reducible first | refine hK _ _ ?_ | (clear hK; refine hK _ _ ?_) | (clear hK; clear hK; refine hK _ _ ?_)); clear hK; try clear K) | refine W ?_ | exact Z | with_reducible intro b)
  refine ⟨fun K q hC => ?_⟩
  repeat (first | with_reducible refine pv_seq fun K hK => ?_ | ((with_reducible first | refine hK _ _ ?_ | (clear hK; refine hK _ _ ?_) | (clear hK; clear hK; refine hK _ _ ?_)); clear hK; try clear K) | refine W0 ?_ | exact Z | with_reducible intro b)
  refine hC _ _ (Recast.frzSlot 2 (k := .l 14) rfl rfl (gs := [eI ⟨kO, kO⟩, eI ⟨kO, kO⟩]) rfl (by decide) ?_)
  rw [show G.sl [eI ⟨kO, kO⟩, eI ⟨kO, kO⟩] = eS eI [⟨kO, kO⟩, ⟨kO, kO⟩] from rfl]
  refine q _ _ ?_
  clear q hC
  unfold kO
  repeat (first | with_reducible refine pv_seq fun K hK => ?_ | ((with_reducible first | refine hK _ _ ?_ | (clear hK; refine hK _ _ ?_) | (clear hK; clear hK; refine hK _ _ ?_)); clear hK; try clear K) | refine W ?_ | exact Z | with_reducible intro b)
  refine PFC.frzCell (k2 := .l 26) (k := .l 22) (by repeat first | exact updS_at | refine (updS_ne (by decide)).trans ?_) 0 2 rfl rfl (by decide) (by repeat first | exact updS_at | refine (updS_ne (by decide)).trans ?_) (gs := [[.lit (.int .u64 3)]]) rfl (by decide) ?_
  refine PFC.frzCell (k2 := .l 26) (k := .l 24) (by repeat first | exact updS_at | refine (updS_ne (by decide)).trans ?_) 0 3 rfl rfl (by decide) (by repeat first | exact updS_at | refine (updS_ne (by decide)).trans ?_) (gs := [[.lit (.int .i64 2)]]) rfl (by decide) ?_
  refine PFC.coe ?_
  try simp -implicitDefEqProofs only [ft, go_sem, seval]
  exact Wk
end Go.V
namespace Go.V
open Go Go.RowKit Go.Proofs
set_option maxHeartbeats 1000000 in
theorem p_dSmallBox {k : Nm} {S : Store} {Q : D → Store → Prop} {b i n : Nat} {w : List Nat} (hS : S k = some ⟨b, 2, 0, [[W64 w, i64 i]]⟩) (hb : B64 w) (hn : n ≤ 1000) (hi : i + 3 * n ≤ 900000000)
    (hQ : ∀ (l : List Iv) (j : Nat), l.length = n → (∀ a ∈ l, SmV 14 6 a) → j ≤ i + 3 * n → Q (II l) (updS S k (some ⟨b, 2, 0, [[W64 w, i64 j]]⟩))) :
    PFC Tryz.prog 13 [.ptr k b 0 0 2, i64 n] S Q := by
  refine PFB (rs := [.tmp 4]) Tryz.func13 ?_
  repeat (first | with_reducible refine pv_seq fun K hK => ?_ | ((with_reducible first | refine hK _ _ ?_ | (clear hK; refine hK _ _ ?_) | (clear hK; clear hK; refine hK _ _ ?_)); clear hK; try clear K) | refine W0 ?_ | exact Z | with_reducible intro b)
  have J : ∀ (e : DEnv) (T : Store) (l : List Iv) (j : Nat), l.length = n → (∀ a ∈ l, SmV 14 6 a) → j ≤ i + 3 * n → RowD T (.l 16) 6 (e 5) (rS eI l) → Dk S k T (some ⟨b, 2, 0, [[W64 w, i64 j]]⟩) → K e T := by
    intro e T l j hl hm hj hw hd
    repeat (first | with_reducible refine pv_seq fun K hK => ?_ | ((with_reducible first | refine hK _ _ ?_ | (clear hK; refine hK _ _ ?_) | (clear hK; clear hK; refine hK _ _ ?_)); clear hK; try clear K) | refine W0 ?_ | exact Z | with_reducible intro b)
    exact hw.coeD fun T2 _ hT2 => by rw [(hd.of hT2).dn]; exact hQ l j hl hm hj
  clear hK
  refine pv_loop (fun e T => ∃ (t j : Nat) (l : List Iv), t ≤ n ∧ l.length = t ∧ (∀ a ∈ l, SmV 14 6 a) ∧ j ≤ i + 3 * t ∧ e 0 = .ptr (.up k) b 0 0 2 ∧ e 1 = i64 n ∧ e 6 = i64 t ∧ RowD T (.l 16) 6 (e 5) (rS eI l) ∧ Dk S k T (some ⟨b, 2, 0, [[W64 w, i64 j]]⟩)) (fun e _ => n - (intD (e 6)).toNat) ?_ ?_
  · exact ⟨0, i, [], Nat.zero_le _, rfl, fun a ha => (by cases ha), by omega, Zr, Zr, Zr, .inl ⟨Zr, rfl⟩, Dk.up hS⟩
  · rintro e T ⟨t, j, l, htn, hl, hm, hj, g0, g1, g6, hw, hd⟩
    have ft := And.intro g0 (And.intro g1 g6)
    repeat (first | with_reducible refine pv_seq fun K hK => ?_ | ((with_reducible first | refine hK _ _ ?_ | (clear hK; refine hK _ _ ?_) | (clear hK; clear hK; refine hK _ _ ?_)); clear hK; try clear K) | refine W0 ?_ | exact Z | with_reducible intro b)
    refine pv_cdD (fun ht => ?_) (fun ht => ?_)
    · repeat (first | with_reducible refine pv_seq fun K hK => ?_ | ((with_reducible first | refine hK _ _ ?_ | (clear hK; refine hK _ _ ?_) | (clear hK; clear hK; refine hK _ _ ?_)); clear hK; try clear K) | refine W0 ?_ | exact Z | with_reducible intro b)
      refine p_dSmallIv hd.at_ hb (by omega) fun x y j2 sx sy hxy hj2 => ?_
      have hnew := rS_iv (l := l) (a := ivD x y)
      have hsm : SmV 14 6 (ivD x y) := ⟨x, y, rfl, sx, sy, hxy⟩
      generalize ivD x y = q at *
      obtain ⟨⟨n1, e1, w1⟩, ⟨n2, e2, w2⟩⟩ := q
      repeat (first | with_reducible refine pv_seq fun K hK => ?_ | ((with_reducible first | refine hK _ _ ?_ | (clear hK; refine hK _ _ ?_) | (clear hK; clear hK; refine hK _ _ ?_)); clear hK; try clear K) | refine W0 ?_ | exact Z | with_reducible intro b)
      refine RowD.appL (hw.up (updS_ne (by simp))) (by decide) rfl (by simp [D.one, W64]) ?_ ?_ fun d' S3 hr3 hS3 => ?_
      · rw [rS_len]; simp; omega
      · rw [rS_len]; simp; omega
      repeat (first | with_reducible refine pv_seq fun K hK => ?_ | ((with_reducible first | refine hK _ _ ?_ | (clear hK; refine hK _ _ ?_) | (clear hK; clear hK; refine hK _ _ ?_)); clear hK; try clear K) | refine W0 ?_ | exact Z | with_reducible intro b)
      refine ⟨⟨t + 1, j2, l ++ [⟨⟨n1, e1, w1⟩, ⟨n2, e2, w2⟩⟩], by omega, by simp [hl], fun a ha => ?_, by omega, Zr, by rw [← hnew]; exact hr3, (hd.set.l).of hS3⟩, by simp only [intD]; omega⟩
      rcases List.mem_append.1 ha with h | h
      · exact hm a h
      · rw [List.mem_singleton.1 h]; exact hsm
    · obtain rfl : t = n := by omega
      repeat (first | with_reducible refine pv_seq fun K hK => ?_ | ((with_reducible first | refine hK _ _ ?_ | (clear hK; refine hK _ _ ?_) | (clear hK; clear hK; refine hK _ _ ?_)); clear hK; try clear K) | refine W0 ?_ | exact Z | with_reducible intro b)
      exact J _ _ l j hl hm hj hw hd

end Go.V
namespace Go.V
open Go Go.RowKit Go.Proofs
end Go.V
namespace Go.V
open Go Go.RowKit Go.Proofs

/-- A value by powers. -/
structure Te where
  v : Dyadic
  e : List Int
def te0 : Te := ⟨0, []⟩
def gT (l : List Te) (i : Nat) : Te := l.getD i te0
theorem gT_at {l : List Te} {i : Nat} (h : i < l.length) : l[i]? = some (gT l i) := by simp [gT, List.getD, List.getElem?_eq_getElem h]
theorem gT_mem {l : List Te} {i : Nat} (h : i < l.length) : gT l i ∈ l := List.mem_of_getElem? (gT_at h)
def posT : List Te → List Int → Nat
  | [], _ => 0
  | x :: r, e => if 0 < ordE x.e e then posT r e + 1 else 0
def insT (out : List Te) (t : Te) : List Te :=
  if posT out t.e < out.length ∧ ordE (gT out (posT out t.e)).e t.e = 0 then out.set (posT out t.e) ⟨(gT out (posT out t.e)).v + t.v, (gT out (posT out t.e)).e⟩
  else out.take (posT out t.e) ++ t :: out.drop (posT out t.e)
theorem posT_le : ∀ (out : List Te) (e : List Int), posT out e ≤ out.length
  | [], _ => Nat.le_refl _
  | x :: r, e => by
    unfold posT
    split
    · have := posT_le r e; simp only [List.length_cons]; omega
    · exact Nat.zero_le _
theorem posT_all : ∀ {out : List Te} {e : List Int} {j : Nat}, j < posT out e → 0 < ordE (gT out j).e e
  | [], e, j, h => by exact absurd h (Nat.not_lt_zero _)
  | x :: r, e, j, h => by
    unfold posT at h
    split at h
    · rename_i hp
      cases j with
      | zero => exact hp
      | succ j => exact posT_all (out := r) (j := j) (by omega)
    · omega
theorem posT_max : ∀ {out : List Te} {e : List Int}, posT out e < out.length → ¬ 0 < ordE (gT out (posT out e)).e e
  | [], e, h => by exact absurd h (Nat.not_lt_zero _)
  | x :: r, e, h => by
    by_cases hp : 0 < ordE x.e e
    · have hq : posT (x :: r) e = posT r e + 1 := by
        show (if 0 < ordE x.e e then posT r e + 1 else 0) = _
        rw [if_pos hp]
      rw [hq] at h ⊢
      exact posT_max (out := r) (by simpa using h)
    · have hq : posT (x :: r) e = 0 := by unfold posT; rw [if_neg hp]
      rw [hq]; exact hp
theorem insT_nil (t : Te) : insT [] t = [t] := rfl
theorem insT_cons (x : Te) (r : List Te) (t : Te) : insT (x :: r) t = if 0 < ordE x.e t.e then x :: insT r t else if ordE x.e t.e = 0 then ⟨x.v + t.v, x.e⟩ :: r else t :: x :: r := by
  by_cases h : 0 < ordE x.e t.e
  · have hp : posT (x :: r) t.e = posT r t.e + 1 := by
      show (if 0 < ordE x.e t.e then posT r t.e + 1 else 0) = _
      rw [if_pos h]
    have hg : gT (x :: r) (posT r t.e + 1) = gT r (posT r t.e) := rfl
    rw [if_pos h]
    unfold insT
    rw [hp, hg]
    by_cases h2 : posT r t.e < r.length ∧ ordE (gT r (posT r t.e)).e t.e = 0
    · rw [if_pos h2, if_pos ⟨by simpa using h2.1, h2.2⟩]; rfl
    · rw [if_neg h2, if_neg (fun h3 => h2 ⟨by simpa using h3.1, h3.2⟩)]; rfl
  · have hp : posT (x :: r) t.e = 0 := by unfold posT; rw [if_neg h]
    rw [if_neg h]
    unfold insT
    rw [hp]
    by_cases h2 : ordE x.e t.e = 0
    · rw [if_pos h2, if_pos ⟨by simp, h2⟩]; rfl
    · rw [if_neg h2, if_neg (fun h3 => h2 h3.2)]; rfl
theorem insT_len (out : List Te) (t : Te) : (insT out t).length ≤ out.length + 1 := by
  have := posT_le out t.e
  unfold insT
  split
  · simp
  · simp; omega
def gathN (l : List Te) : Nat → List Te
  | 0 => []
  | i + 1 => insT (gathN l i) (gT l i)
theorem gathN_len (l : List Te) : ∀ i, (gathN l i).length ≤ i
  | 0 => Nat.le_refl _
  | i + 1 => by have := gathN_len l i; have := insT_len (gathN l i) (gT l i); show (insT _ _).length ≤ _; omega
def monoN (out : List Te) : Nat → List Mo × Int
  | 0 => ([], 0)
  | i + 1 => if (monoN out i).2 = 0 then (if (gT out i).v = 0 then monoN out i else if (numR (gT out i).v).2 = 0 then ((monoN out i).1 ++ [⟨(numR (gT out i).v).1, (gT out i).e⟩], 0) else ([], 2)) else monoN out i
theorem monoN_stuck {out : List Te} {i n : Nat} (h : (monoN out i).2 ≠ 0) (hn : i ≤ n) : monoN out n = monoN out i := by
  induction n with
  | zero => obtain rfl : i = 0 := by omega
            rfl
  | succ n ih =>
    by_cases hi : i = n + 1
    · rw [hi]
    · have e := ih (by omega)
      show (if (monoN out n).2 = 0 then _ else monoN out n) = _
      rw [e, if_neg h]
theorem monoN_len (out : List Te) : ∀ i, (monoN out i).1.length ≤ i
  | 0 => Nat.le_refl _
  | i + 1 => by
    have := monoN_len out i
    unfold monoN
    split
    · split
      · omega
      · split
        · simp only [List.length_append, List.length_singleton]; omega
        · exact Nat.zero_le _
    · omega
def gathR (l : List Te) : List Mo × Int :=
  if (monoN (gathN l l.length) (gathN l l.length).length).2 = 0 then (if (monoN (gathN l l.length) (gathN l l.length).length).1.length ≤ 24 then monoN (gathN l l.length) (gathN l l.length).length else ([], 6)) else monoN (gathN l l.length) (gathN l l.length).length
/-- The document's polynomial of monomials. -/
def teM (m : Mo) : Te := ⟨m.c.val, m.e⟩
def allM (q : List Mo) (n : Int) : Bool := decide (∀ m ∈ q, monoB m n = true)
def pmkR (q : List Mo) (n : Int) : List Mo × Int := if decide (1 ≤ n) && decide (n ≤ 4) && allM q n then gathR (q.map teM) else ([], 1)

/-! ### Sizes -/
theorem okD_sm {d : Dyadic} (h : OkD d) : Sm 135168 65536 d := by
  have h1 := h.lo
  have h2 := h.hi
  have h3 := h.len
  rw [nuOf_f] at h1 h2 h3
  simp only at h1 h2 h3
  obtain ⟨m, hm, h5⟩ := okD_fN h
  have e := dy_f d
  obtain ⟨j, hj⟩ : ∃ j : Nat, fE d = j - 65536 := ⟨(fE d + 65536).toNat, by omega⟩
  have hj2 : j ≤ 131072 := by omega
  have h6 := owp_shl (sg (fS d) (fN d)) (65536 - j) j
  rw [show ((65536 : Int) - j + j) = ((65536 : Nat) : Int) by omega] at h6
  refine ⟨sg (fS d) (fN d) * 2 ^ j, e.symm.trans ?_, ?_⟩
  · unfold dy
    rw [show -(fE d) = (65536 : Int) - j by omega]
    exact h6.symm
  · rw [Int.natAbs_mul, sg_abs, Int.natAbs_pow]
    calc fN d * (2 : Int).natAbs ^ j < 2 ^ m * 2 ^ j := Nat.mul_lt_mul_of_pos_right h5 (Nat.two_pow_pos j)
      _ = 2 ^ (m + j) := (Nat.pow_add _ _ _).symm
      _ ≤ 2 ^ 135168 := Nat.pow_le_pow_right (by decide) (by omega)
theorem Sm.bd {k q : Nat} {d : Dyadic} (h : Sm k q d) : Bd (k + q) d := by
  have b := h.bx
  exact ⟨Nat.lt_of_lt_of_le b.n (Nat.pow_le_pow_right (by decide) (by omega)), b.lo, b.hi⟩

/-! ### Orders of powers -/
theorem ordE_cases : ∀ (a b : List Int), ordE a b = -1 ∨ ordE a b = 0 ∨ ordE a b = 1
  | [], _ => .inr (.inl (by unfold ordE; rfl))
  | _ :: _, [] => .inr (.inl rfl)
  | x :: a, y :: b => by
    unfold ordE
    split
    · exact .inr (.inr rfl)
    · split
      · exact .inl rfl
      · exact ordE_cases a b
theorem ordE_neg : ∀ {a b : List Int}, ordE b a = - ordE a b
  | [], [] => rfl
  | [], _ :: _ => rfl
  | _ :: _, [] => rfl
  | x :: a, y :: b => by
    have ih := ordE_neg (a := a) (b := b)
    unfold ordE
    by_cases h1 : y < x
    · rw [if_neg (by omega), if_pos h1, if_pos h1]
    · by_cases h2 : x < y
      · rw [if_pos h2, if_neg h1, if_pos h2]; rfl
      · rw [if_neg h2, if_neg h1, if_neg h1, if_neg h2]; exact ih
theorem ordE_trans : ∀ {a b c : List Int}, a.length = b.length → b.length = c.length → 0 < ordE a b → 0 < ordE b c → 0 < ordE a c
  | [], [], [], _, _, h, _ => by exact absurd h (by decide)
  | x :: a, y :: b, z :: c, h1, h2, p, q => by
    unfold ordE at *
    by_cases a1 : y < x
    · by_cases a2 : z < y
      · rw [if_pos (by omega)]; decide
      · rw [if_neg a2] at q
        by_cases a3 : y < z
        · rw [if_pos a3] at q; exact absurd q (by decide)
        · rw [if_pos (by omega)]; decide
    · rw [if_neg a1] at p
      by_cases a2 : x < y
      · rw [if_pos a2] at p; exact absurd p (by decide)
      · rw [if_neg a2] at p
        obtain rfl : x = y := by omega
        by_cases a3 : z < x
        · rw [if_pos a3]; decide
        · rw [if_neg a3] at q ⊢
          by_cases a4 : x < z
          · rw [if_pos a4] at q; exact absurd q (by decide)
          · rw [if_neg a4] at q ⊢
            exact ordE_trans (by simpa using h1) (by simpa using h2) p q

/-! ### What is gathered is in order -/
structure SortT (n : Nat) (out : List Te) : Prop where
  len : ∀ t ∈ out, t.e.length = n
  ord : out.Pairwise fun a b => 0 < ordE a.e b.e
theorem insT_mem {t y : Te} : ∀ {out : List Te}, y ∈ insT out t → y = t ∨ ∃ z ∈ out, y.e = z.e ∧ (y = z ∨ y.v = z.v + t.v ∧ z.e.length = t.e.length → True)
  | [], h => by rw [insT_nil] at h; exact .inl (List.mem_singleton.1 h)
  | x :: r, h => by
    rw [insT_cons] at h
    split at h
    · rcases List.mem_cons.1 h with rfl | h
      · exact .inr ⟨_, List.mem_cons_self, rfl, by simp⟩
      · rcases insT_mem h with h | ⟨z, hz, he, _⟩
        · exact .inl h
        · exact .inr ⟨z, List.mem_cons_of_mem _ hz, he, by simp⟩
    · split at h
      · rcases List.mem_cons.1 h with rfl | h
        · exact .inr ⟨x, List.mem_cons_self, rfl, by simp⟩
        · exact .inr ⟨y, List.mem_cons_of_mem _ h, rfl, by simp⟩
      · rcases List.mem_cons.1 h with rfl | h
        · exact .inl rfl
        · exact .inr ⟨y, h, rfl, by simp⟩
theorem insT_e {t y : Te} {out : List Te} (h : y ∈ insT out t) : y.e = t.e ∨ ∃ z ∈ out, y.e = z.e := by
  rcases insT_mem h with rfl | ⟨z, hz, he, _⟩
  · exact .inl rfl
  · exact .inr ⟨z, hz, he⟩
theorem insT_sort {n : Nat} {t : Te} (ht : t.e.length = n) : ∀ {out : List Te}, SortT n out → SortT n (insT out t)
  | [], _ => ⟨fun y hy => by rw [insT_nil] at hy; rw [List.mem_singleton.1 hy]; exact ht, by rw [insT_nil]; exact List.pairwise_singleton _ _⟩
  | x :: r, h => by
    have hx := h.len x List.mem_cons_self
    have hr : SortT n r := ⟨fun y hy => h.len y (List.mem_cons_of_mem _ hy), (List.pairwise_cons.1 h.ord).2⟩
    have ih := insT_sort ht hr
    have hxr := (List.pairwise_cons.1 h.ord).1
    rw [insT_cons]
    split
    · rename_i hp
      refine ⟨fun y hy => ?_, List.pairwise_cons.2 ⟨fun y hy => ?_, ih.ord⟩⟩
      · rcases List.mem_cons.1 hy with rfl | hy
        · exact hx
        · exact ih.len y hy
      · rcases insT_e hy with he | ⟨z, hz, he⟩
        · rw [he]; exact hp
        · rw [he]; exact hxr z hz
    · rename_i hp
      split
      · refine ⟨fun y hy => ?_, List.pairwise_cons.2 ⟨fun y hy => hxr y hy, hr.ord⟩⟩
        rcases List.mem_cons.1 hy with rfl | hy
        · exact hx
        · exact hr.len y hy
      · rename_i h0
        have hneg : 0 < ordE t.e x.e := by
          rw [ordE_neg]
          rcases ordE_cases x.e t.e with h1 | h1 | h1 <;> omega
        refine ⟨fun y hy => ?_, List.pairwise_cons.2 ⟨fun y hy => ?_, h.ord⟩⟩
        · rcases List.mem_cons.1 hy with rfl | hy
          · exact ht
          · exact h.len y hy
        · rcases List.mem_cons.1 hy with rfl | hy
          · exact hneg
          · exact ordE_trans (by rw [ht, hx]) (by rw [hx, hr.len y hy]) hneg (hxr y hy)
theorem gathN_sort {n : Nat} {l : List Te} (h : ∀ t ∈ l, t.e.length = n) : ∀ i, i ≤ l.length → SortT n (gathN l i)
  | 0 => fun _ => ⟨fun t ht => (by cases ht), List.Pairwise.nil⟩
  | i + 1 => fun hi => insT_sort (h _ (gT_mem (by omega))) (gathN_sort h i (by omega))
theorem insT_all {P : List Int → Prop} {t : Te} (ht : P t.e) {out : List Te} (h : ∀ y ∈ out, P y.e) : ∀ y ∈ insT out t, P y.e := fun y hy => by
  rcases insT_e hy with he | ⟨z, hz, he⟩
  · rw [he]; exact ht
  · rw [he]; exact h z hz
theorem gathN_all {P : List Int → Prop} {l : List Te} (h : ∀ t ∈ l, P t.e) : ∀ i, i ≤ l.length → ∀ y ∈ gathN l i, P y.e
  | 0 => fun _ y hy => by cases hy
  | i + 1 => fun hi => insT_all (h _ (gT_mem (by omega))) (gathN_all h i (by omega))
theorem insT_sm {k q : Nat} {t : Te} (ht : Sm k q t.v) : ∀ {out : List Te}, (∀ y ∈ out, Sm k q y.v) → ∀ y ∈ insT out t, Sm (k + 1) q y.v
  | [], _ => fun y hy => by rw [insT_nil] at hy; rw [List.mem_singleton.1 hy]; exact ht.mono (by omega)
  | x :: r, h => fun y hy => by
    have hx := h x List.mem_cons_self
    rw [insT_cons] at hy
    split at hy
    · rcases List.mem_cons.1 hy with rfl | hy
      · exact hx.mono (by omega)
      · exact insT_sm ht (fun z hz => h z (List.mem_cons_of_mem _ hz)) y hy
    · split at hy
      · rcases List.mem_cons.1 hy with rfl | hy
        · exact hx.add ht
        · exact (h y (List.mem_cons_of_mem _ hy)).mono (by omega)
      · rcases List.mem_cons.1 hy with rfl | hy
        · exact ht.mono (by omega)
        · exact (h y hy).mono (by omega)
theorem gathN_sm {k q : Nat} {l : List Te} (h : ∀ t ∈ l, Sm k q t.v) : ∀ i, i ≤ l.length → ∀ y ∈ gathN l i, Sm (k + i) q y.v
  | 0 => fun _ y hy => by cases hy
  | i + 1 => fun hi => insT_sm (k := k + i) ((h _ (gT_mem (by omega))).mono (Nat.le_add_right k i)) (gathN_sm h i (by omega))

/-! ### Polynomials of numbers that fit -/
def moT (t : Te) : Mo := ⟨nuOf t.v, t.e⟩
theorem monoN_ok {out : List Te} (h : ∀ y ∈ out, OkD y.v) : ∀ i, i ≤ out.length → monoN out i = (((out.take i).filter fun t => decide (t.v ≠ 0)).map moT, 0)
  | 0 => fun _ => rfl
  | i + 1 => fun hi => by
    have ih := monoN_ok h i (by omega)
    have ho := h _ (gT_mem (l := out) (i := i) (by omega))
    have ht : out.take (i + 1) = out.take i ++ [gT out i] := by rw [List.take_add_one, gT_at (by omega)]; rfl
    unfold monoN
    rw [ih, if_pos rfl, ht, List.filter_append, List.map_append]
    by_cases h0 : (gT out i).v = 0
    · rw [if_pos h0]
      simp [h0]
    · rw [if_neg h0, numR_ok ho, if_pos rfl]
      simp [h0, moT]
theorem monosB_of {q : List Mo} {n : Int} (h1 : ∀ m ∈ q, monoB m n = true ∧ m.c.w ≠ []) (h2 : q.Pairwise fun a b => cmpE b.e a.e < 0) : monosB q n = true := by
  refine monosB_yes fun i hi => ?_
  obtain ⟨a, b⟩ := h1 _ (gM_mem hi)
  refine ⟨a, b, fun h0 => ?_⟩
  have := List.pairwise_iff_getElem.1 h2 (i - 1) i (by omega) hi (by omega)
  have e1 := gM_at hi
  have e2 := gM_at (l := q) (i := i - 1) (by omega)
  rw [List.getElem?_eq_getElem hi] at e1
  rw [List.getElem?_eq_getElem (show i - 1 < q.length by omega)] at e2
  injection e1 with e1
  injection e2 with e2
  rw [e1, e2] at this
  exact this
theorem nuOf_w {d : Dyadic} (h : d ≠ 0) : (nuOf d).w ≠ [] := by
  rw [nuOf_f]
  exact fun h2 => h (fN_eq_zero.1 ((digs_eq_nil (by decide)).1 h2))
/-- The polynomial of terms whose values fit, of right powers. -/
theorem gathR_ok {n : Nat} {l : List Te} (h1 : 1 ≤ n) (h4 : n ≤ 4) (hl : l.length ≤ 24) (he : ∀ t ∈ l, t.e.length = n ∧ (∀ x ∈ t.e, 0 ≤ x) ∧ t.e.sum ≤ 8) (ho : ∀ y ∈ gathN l l.length, OkD y.v) :
    ∃ q, gathR l = (q, 0) ∧ q = ((gathN l l.length).filter fun t => decide (t.v ≠ 0)).map moT ∧ polyB q (n : Int) = true := by
  unfold gathR
  have e := monoN_ok ho (gathN l l.length).length (Nat.le_refl _)
  rw [List.take_length] at e
  have hs := gathN_sort (n := n) (fun t ht => (he t ht).1) l.length (Nat.le_refl _)
  have ha := gathN_all (P := fun e => (∀ x ∈ e, 0 ≤ x) ∧ e.sum ≤ 8) (fun t ht => (he t ht).2) l.length (Nat.le_refl _)
  have hln := gathN_len l l.length
  generalize gathN l l.length = out at *
  have hq : (((out.filter fun t => decide (t.v ≠ 0)).map moT)).length ≤ 24 := by
    rw [List.length_map]
    exact Nat.le_trans (List.length_filter_le _ _) (by omega)
  refine ⟨_, ?_, rfl, ?_⟩
  · rw [e, if_pos rfl, if_pos hq]
  · unfold polyB
    rw [decide_eq_true (show (1 : Int) ≤ n by omega), decide_eq_true (show (n : Int) ≤ 4 by omega), decide_eq_true hq]
    refine monosB_of (fun m hm => ?_) ?_
    · obtain ⟨t, ht, rfl⟩ := List.mem_map.1 hm
      obtain ⟨ht, h0⟩ := List.mem_filter.1 ht
      have h0 : t.v ≠ 0 := of_decide_eq_true h0
      refine ⟨?_, nuOf_w h0⟩
      unfold monoB moT
      rw [decide_eq_true (show ((t.e.length : Nat) : Int) = n by rw [hs.len t ht]), decide_eq_true (ha t ht).1, decide_eq_true (ha t ht).2, rightB_nuOf, decide_eq_true (ho t ht)]; rfl
    · refine List.Pairwise.map _ (fun a b h => ?_) (List.Pairwise.filter _ (hs.ord.imp_of_mem (S := fun a b => a.e.length = b.e.length ∧ 0 < ordE a.e b.e) fun ha hb h => ⟨by rw [hs.len _ ha, hs.len _ hb], h⟩))
      have := ordE_cmpE h.1
      show cmpE b.e a.e < 0
      omega
end Go.V
namespace Go.V
open Go Go.RowKit Go.Proofs
def qT15_78_6 : List (Nat × Nat) := [(0, 0), (1, 0), (2, 0), (3, 0), (4, 0), (5, 0), (6, 0), (7, 0), (8, 0), (9, 1), (10, 0), (11, 0), (12, 0), (13, 0), (14, 1), (15, 3), (16, 0), (17, 0)]
def qT15_78_8 : List (Nat × Nat) := [(0, 0), (1, 0), (2, 0), (3, 0), (4, 0), (5, 0), (6, 0), (7, 0), (8, 0), (9, 1), (10, 0), (11, 0), (12, 0), (13, 0), (14, 1), (15, 3), (16, 0), (17, 0)]
def qT15_78_9 : List (Nat × Nat) := [(0, 0), (1, 0), (2, 0), (3, 0), (4, 0), (5, 0), (6, 1), (7, 0), (8, 0), (9, 0), (10, 0), (11, 1), (12, 3), (13, 0), (14, 0), (15, 3)]
def qT15_78_22 : PT := (.lin [(0, 0), (3, 0), (4, 0), (5, 0), (6, 0), (7, 2)] (.fork 1 4 (.lin [(2, 4), (8, 3), (9, 0), (10, 3), (11, 3), (12, 0)] .nil) 2 4 (.lin [] (.fork 1 4 (.lin [(8, 3), (9, 0), (10, 3), (11, 3), (12, 0)] .nil) 8 3 (.lin [(1, 4), (9, 0), (10, 3), (11, 3), (12, 0)] .nil)))))
attribute [go_sem] qT15_78_6 qT15_78_8 qT15_78_9 qT15_78_22
/-! ### Rows under one of some names -/
def RowP (P : Nm → Prop) (S : Store) (s : Nat) (d : D) (els : List (List D)) : Prop := (d = .nil ∧ els = []) ∨ ∃ k b cap, P k ∧ d = .own k b 0 els.length cap s ∧ S k = some ⟨b, s, 0, els⟩
theorem RowP.nil {P : Nm → Prop} {S : Store} {s : Nat} : RowP P S s .nil [] := .inl ⟨rfl, rfl⟩
theorem RowP.up {P : Nm → Prop} {S S' : Store} {s : Nat} {d : D} {els : List (List D)} (h : RowP P S s d els) (hS : ∀ k, P k → S' k = S k) : RowP P S' s d els :=
  h.imp id fun ⟨k, b, cap, h0, h1, h2⟩ => ⟨k, b, cap, h0, h1, (hS k h0).trans h2⟩
theorem RowP.app {P : Nm → Prop} {S : Store} {K : D → Store → Prop} {q : SlZ} {kd : Nm} {d src : D} {els new : List (List D)} (h : RowP P S q.s d els) (hp : P kd) (hs : ∀ K, K new → srcD S q.s src K) (hl : els.length + new.length ≤ 140737488355328)
    (hb : (els.length + new.length) * q.bytes ≤ 140737488355328) (hk : ∀ d' S', RowP P S' q.s d' (els ++ new) → (∀ j, ¬ P j → S' j = S j) → S'.g = S.g → K d' S') : appD q S kd d src K := by
  rcases h with ⟨rfl, rfl⟩ | ⟨k, b, cap, h0, rfl, hS⟩
  · rw [appD_nil]
    refine hs _ ⟨by simpa using hl, by simpa using hb, fun h1 => ?_, fun h1 b' cap' => ?_⟩
    · subst h1; exact hk _ _ .nil (fun _ _ => rfl) rfl
    · exact hk _ _ (.inr ⟨kd, b', cap', hp, rfl, updS_at⟩) (fun j hj => updS_ne (fun e => hj (by rw [e]; exact hp))) rfl
  · rw [appD_own, hS]
    refine ⟨rfl, rfl, rfl, rfl, rfl, hs _ ⟨hl, hb, fun b' cap' => ?_⟩⟩
    exact hk _ _ (.inr ⟨k, b', cap', h0, by simp, updS_at⟩) (fun j hj => updS_ne (fun e => hj (by rw [e]; exact h0))) rfl
/-- Such a row gets one name for good. -/
theorem RowP.move {P : Nm → Prop} {N : DEnv → Store → Prop} {e : DEnv} {S : Store} {s : Nat} {els : List (List D)} (i : Nat) (k' : Nm) (hk : ¬ P k') (h : RowP P S s (e i) els) (hN : ∀ d S', RowZ S' k' s d els → (∀ j, ¬ P j → j ≠ k' → S' j = S j) → S'.g = S.g → N (updD e i d) S') : Recast N e S := by
  rcases h with ⟨h1, h2⟩ | ⟨k, b, cap, h0, h1, h2⟩
  · subst h2
    refine Recast.slot i (d := .nil) (fun I w v _ hv => by rw [← h1]; exact hv) ?_
    exact hN _ _ .nil (fun _ _ _ => rfl) rfl
  · have hne : k ≠ k' := fun e => hk (by rw [← e]; exact h0)
    refine Recast.join (Recast.move k k' hne (Recast.slot i (d := .own k' b 0 els.length cap s) (fun I w v _ hv => own_name k' (by rw [← h1]; exact hv)) ?_))
    refine hN _ _ (.inr ⟨b, cap, rfl, by rw [updS_at]; exact h2⟩) (fun j hj hj2 => ?_) rfl
    rw [updS_ne hj2, updS_ne (fun e => hj (by rw [e]; exact h0))]

theorem RowP.appL {P : Nm → Prop} {S : Store} {K : D → Store → Prop} {q : SlZ} {kd k2 : Nm} {dd : D} {els new : List (List D)} {b n cap p : Nat} (h : RowP P S q.s dd els) (hk2 : ¬ P k2) (hp : P kd) (hn : n = new.length) (h1 : ∀ es ∈ new, es.all D.one = true) (hl : els.length + new.length ≤ 140737488355328)
    (hb : (els.length + new.length) * q.bytes ≤ 140737488355328) (hK : ∀ d' S', RowP P S' q.s d' (els ++ new) → (∀ j, ¬ P j → S' j = updS S k2 (some ⟨b, q.s, p, new⟩) j) → S'.g = S.g → K d' S') :
    appD q (updS S k2 (some ⟨b, q.s, p, new⟩)) kd dd (.own k2 b 0 n cap q.s) K := by
  subst hn
  refine RowP.app (h.up fun k hk => updS_ne fun e => hk2 (by rw [← e]; exact hk)) hp (fun K hK => ?_) hl hb hK
  rw [srcD_own, updS_at]
  exact ⟨rfl, rfl, rfl, by simp, h1, by simpa using hK⟩
/-- The last row's cell, a row of the call's own, is frozen. -/
theorem RowZ.frz {N : DEnv → Store → Prop} {e : DEnv} {S : Store} {k k3 : Nm} {s : Nat} {d : D} {els : List (List D)} {es : List D} {b3 n3 cap3 s3 p3 : Nat} {els3 : List (List D)} {gs : List (List G)} (j : Nat) (h : RowZ S k s d (els ++ [es])) (hj : es[j]? = some (.own k3 b3 0 n3 cap3 s3)) (hne : k ≠ k3)
    (hk : S k3 = some ⟨b3, s3, p3, els3⟩) (hg : pureLL ((els3.drop 0).take n3) = some gs) (hn : 0 + n3 ≤ els3.length) (hN : ∀ S', RowZ S' k s d (els ++ [es.set j (.g (.sl gs))]) → (∀ q, q ≠ k → q ≠ k3 → S' q = S q) → S'.g = S.g → N e S') : Recast N e S := by
  rcases h with ⟨_, h2⟩ | ⟨b, cap, h1, h2⟩
  · simp at h2
  · refine Recast.frzCell h2 els.length j (by simp) hj hne hk hg hn (hN _ (.inr ⟨b, cap, ?_, ?_⟩) (fun q h3 h4 => ?_) rfl)
    · rw [h1]; simp
    · rw [updS_at]; simp
    · rw [updS_ne h3, updS_ne h4]

/-! ### Terms as data -/
def eT (t : Te) : List G := [.lit (.bool (fS t.v)), eS (eK .u32) (D32 (fN t.v)), .lit (.int .i64 (fE t.v)), eS eZ t.e]
def TT (l : List Te) : D := .g (eS eT l)
theorem eT_0 {t : Te} : eT t = [.lit (.bool (fS t.v)), eS (eK .u32) (D32 (fN t.v)), .lit (.int .i64 (fE t.v)), eS eZ t.e] := rfl
attribute [go_sem] eT_0
def cT (t : Te) : List D := [bl (fS t.v), W32 (D32 (fN t.v)), i64 (fE t.v), .g (eS eZ t.e)]
theorem rT_at {out : List Te} {k : Nat} (h : k < out.length) : (rS eT out)[k]? = some (cT (gT out k)) := by
  unfold rS gl
  rw [List.getElem?_map, List.getElem?_map, gT_at h]; rfl
theorem rT_set {out : List Te} {k : Nat} {t : Te} : (rS eT out).set k (cT t) = rS eT (out.set k t) := by
  unfold rS gl
  rw [List.map_set, List.map_set]; rfl
theorem rT_all {out : List Te} : ∀ es ∈ rS eT out, es.all D.one = true := by
  intro es h
  unfold rS gl at h
  obtain ⟨x, hx, rfl⟩ := List.mem_map.1 h
  obtain ⟨t, ht, rfl⟩ := List.mem_map.1 hx
  rfl
theorem rT_take {out : List Te} {k : Nat} : (rS eT out).take k = rS eT (out.take k) := by unfold rS gl; rw [List.map_take, List.map_take]
theorem rT_drop {out : List Te} {k : Nat} : (rS eT out).drop k = rS eT (out.drop k) := by unfold rS gl; rw [List.map_drop, List.map_drop]
def LM (s : List Mo × Int) : D := .tup [.g (eS eM s.1), i64 s.2]
def P3 (k : Nm) : Prop := k = .l 75 ∨ k = .l 82 ∨ k = .l 87
theorem P3_r : ¬ P3 (.r 0 0) := by unfold P3; simp
theorem P3_81 : ¬ P3 (.l 81) := by unfold P3; simp
theorem srcD_ZI {S : Store} {xs : List Int} {K : List (List D) → Prop} : srcD S 1 (.g (eS eZ xs)) K = K (rS eZ xs) := srcD_eS fun _ _ => rfl
theorem slD_nilZ {s : Nat} {lo hi mx : Option D} {K : D → Prop} : slD s .nil lo hi mx K = bndD lo 0 fun l => bndD hi 0 fun h => l = 0 ∧ h = 0 ∧ (mx.isSome = true → mx = hi) ∧ K .nil := rfl
theorem litsD_0 {S : Store} {q : SlZ} {k : Nm} {K : D → Store → Prop} : litsD q k S 0 [] [] K = ∀ b, K (.own k b 0 0 0 q.s) (updS S k (some ⟨b, q.s, 0, []⟩)) := by
  simp [litsD]
attribute [go_sem ↓] srcD_ZI slD_nilZ litsD_0
theorem rS_m {l : List Mo} {m : Mo} : rS eM l ++ [[bl m.c.neg, i64 m.c.exp, W64 m.c.w, .g (eS eZ m.e)]] = rS eM (l ++ [m]) := by rw [← rS_app]; rfl
set_option maxHeartbeats 8000000 in
theorem p_gather {l : List Te} {M Q : Nat} (hl : l.length ≤ 10000) (hs : ∀ t ∈ l, Sm M Q t.v) (he : ∀ t ∈ l, t.e.length ≤ 100000) (hk : M + Q + l.length ≤ 60000000) : PC Tryz.prog 78 [TT l] fun d => d = LM (gathR l) := by
  generalize hr : gathR l = r
  have hsm := gathN_sm hs
  have hel := gathN_all (P := fun e => e.length ≤ 100000) he
  have hln := gathN_len l
  unfold TT
  have d1 := @dl 6 qT15_78_6
  have d2 := @dl 8 qT15_78_8
  have d3 := @dl 9 qT15_78_9
  have d4 := @dr 22 qT15_78_22
  refine PB (rs := [.tmp 2, .tmp 3]) Tryz.func78 ?_
  repeat (first | with_reducible refine pv_seq fun K hK => ?_ | ((with_reducible first | refine hK _ _ ?_ | (clear hK; refine hK _ _ ?_) | (clear hK; clear hK; refine hK _ _ ?_)); clear hK; try clear K) | refine W0 ?_ | exact Z | with_reducible intro b)
  have J : ∀ (e : DEnv) (S : Store), RowZ S (.r 0 0) 4 (e 4) (rS eT (gathN l l.length)) → K e S := by
    as_aux_lemma =>
    intro e S hw
    have ho := hsm l.length (Nat.le_refl _)
    have hoe := hel l.length (Nat.le_refl _)
    have hon := hln l.length
    unfold gathR at hr
    generalize gathN l l.length = out at *
    clear hsm hel hln hs he
    rcases hw with ⟨g4, h4⟩ | ⟨b4, cap, g4, s4⟩
    · obtain rfl : out = [] := by have := congrArg List.length h4; rw [rS_len] at this; exact List.eq_nil_of_length_eq_zero this
      have hr2 : r = ([], 0) := by rw [← hr]; rfl
      subst hr2
      have ft := g4
      repeat (first | with_reducible refine pv_seq fun K hK => ?_ | ((with_reducible first | refine hK _ _ ?_ | (clear hK; refine hK _ _ ?_) | (clear hK; clear hK; refine hK _ _ ?_)); clear hK; try clear K) | refine W0 ?_ | exact Z | with_reducible intro b)
      refine pv_loop (fun e T => Hid (e 4 = .nil ∧ e 8 = .nil ∧ e 9 = i64 0)) (fun _ _ => 0) ?_ ?_
      · exact ⟨Zr, Zr, Zr⟩
      · rintro e2 T ⟨g4, g8, g9⟩
        have ft := And.intro g4 (And.intro g8 g9)
        exact Wk
    · rw [rS_len] at g4
      have k4 : ∀ k : Nat, k < out.length → (rS eT out)[k]? = some (cT (gT out k)) := fun k => rT_at
      have hml := monoN_len out
      have ft := g4
      repeat (first | with_reducible refine pv_seq fun K hK => ?_ | ((with_reducible first | refine hK _ _ ?_ | (clear hK; refine hK _ _ ?_) | (clear hK; clear hK; refine hK _ _ ?_)); clear hK; try clear K) | refine W0 ?_ | exact Z | with_reducible intro b)
      have JF : ∀ (e : DEnv) (S : Store), (monoN out out.length).2 = 0 → RowZ S (.l 123) 4 (e 8) (rS eM (monoN out out.length).1) → K e S := by
        intro e S h0 hw
        rw [if_pos h0] at hr
        have hl2 := hml out.length
        generalize monoN out out.length = mm at *
        obtain ⟨mm, em⟩ := mm
        simp only at h0
        subst h0
        simp only at hr hl2 hw
        by_cases h24 : mm.length ≤ 24
        · rw [if_pos h24] at hr
          subst hr
          have k24 : ((24 : Int) < (mm.length : Int)) = False := eq_false (by omega)
          have ft := k24
          repeat (first | with_reducible refine pv_seq fun K hK => ?_ | ((with_reducible first | refine hK _ _ ?_ | (clear hK; refine hK _ _ ?_) | (clear hK; clear hK; refine hK _ _ ?_)); clear hK; try clear K) | refine W0 ?_ | exact Z | with_reducible intro b)
          refine hw.toD.len ?_
          rw [rS_len]
          repeat (first | with_reducible refine pv_seq fun K hK => ?_ | ((with_reducible first | refine hK _ _ ?_ | (clear hK; refine hK _ _ ?_) | (clear hK; clear hK; refine hK _ _ ?_)); clear hK; try clear K) | refine W0 ?_ | exact Z | with_reducible intro b)
          exact hw.toD.coeD fun S' _ _ => rfl
        · rw [if_neg h24] at hr
          subst hr
          have k24 : ((24 : Int) < (mm.length : Int)) = True := eq_true (by omega)
          have ft := k24
          repeat (first | with_reducible refine pv_seq fun K hK => ?_ | ((with_reducible first | refine hK _ _ ?_ | (clear hK; refine hK _ _ ?_) | (clear hK; clear hK; refine hK _ _ ?_)); clear hK; try clear K) | refine W0 ?_ | exact Z | with_reducible intro b)
          refine hw.toD.len ?_
          rw [rS_len]
          exact Wk
      clear hK
      obtain ⟨I, mk, el⟩ := hide fun e S => ∃ i : Nat, i ≤ out.length ∧ e 4 = .own (.r 0 0) b4 0 out.length cap 4 ∧ e 9 = i64 i ∧ S (.r 0 0) = some ⟨b4, 4, 0, rS eT out⟩ ∧ (monoN out i).2 = 0 ∧ RowZ S (.l 123) 4 (e 8) (rS eM (monoN out i).1)
      refine pv_loop I (fun e _ => out.length - (intD (e 9)).toNat) ?_ ?_
      · exact mk _ _ ⟨0, Nat.zero_le _, Zr, Zr, s4, rfl, .inl ⟨Zr, rfl⟩⟩
      · intro e S hI
        obtain ⟨i, hi, g4, g9, s4, hm2, hw⟩ := el e S hI
        clear el hI
        have ft := And.intro g4 g9
        repeat (first | with_reducible refine pv_seq fun K hK => ?_ | ((with_reducible first | refine hK _ _ ?_ | (clear hK; refine hK _ _ ?_) | (clear hK; clear hK; refine hK _ _ ?_)); clear hK; try clear K) | refine W0 ?_ | exact Z | with_reducible intro b)
        refine pv_cdD (fun ht => ?_) (fun ht => ?_)
        · have hil : i < out.length := by omega
          have q1 := k4 i hil
          have wv := ho _ (gT_mem hil)
          have we := hoe _ (gT_mem hil)
          have hst : (monoN out (i + 1)).2 ≠ 0 → r = monoN out (i + 1) := fun h => by
            have e1 := monoN_stuck (n := out.length) h (by omega)
            rw [e1, if_neg h] at hr
            exact hr.symm
          have hsu : monoN out (i + 1) = if (gT out i).v = 0 then monoN out i else if (numR (gT out i).v).2 = 0 then ((monoN out i).1 ++ [⟨(numR (gT out i).v).1, (gT out i).e⟩], 0) else ([], 2) := by
            conv => lhs; unfold monoN
            rw [if_pos hm2]
          have hle := hml i
          have mk2 : ∀ (e : DEnv) (S : Store), e 4 = .own (.r 0 0) b4 0 out.length cap 4 → e 9 = i64 ((i + 1 : Nat) : Int) → S (.r 0 0) = some ⟨b4, 4, 0, rS eT out⟩ → (monoN out (i + 1)).2 = 0 → RowZ S (.l 123) 4 (e 8) (rS eM (monoN out (i + 1)).1) → I e S := fun e S a1 a2 a3 a4 a5 => mk e S ⟨i + 1, by omega, a1, a2, a3, a4, a5⟩
          clear mk hml JF hr k4
          generalize monoN out (i + 1) = m1 at *
          generalize monoN out i = m0 at *
          have pS := p_rSign (d := (gT out i).v)
          have pN := p_rNum wv.bd (by omega)
          have kz : (sgnD (gT out i).v = 0) = ((gT out i).v = 0) := propext sgnD_zero
          repeat (first | with_reducible refine pv_stopB 5 ?_ | with_reducible refine pv_seq fun K hK => ?_ | ((with_reducible first | refine hK _ _ ?_ | (clear hK; refine hK _ _ ?_) | (clear hK; clear hK; refine hK _ _ ?_)); clear hK; try clear K) | refine W ?_ | exact Z | with_reducible intro b)
          refine ⟨fun K1 q1' hC => ?_⟩
          have JE : ∀ (e2 : DEnv) (S : Store), e2 4 = .own (.r 0 0) b4 0 out.length cap 4 → e2 9 = i64 i → S (.r 0 0) = some ⟨b4, 4, 0, rS eT out⟩ → m1.2 = 0 → RowZ S (.l 123) 4 (e2 8) (rS eM m1.1) → K1 e2 S := by
            intro e2 S g4 g9 s4 h0 hw
            refine q1' _ _ ?_
            clear q1' hC
            have ft := And.intro g9 g4
            repeat (first | with_reducible refine pv_seq fun K hK => ?_ | ((with_reducible first | refine hK _ _ ?_ | (clear hK; refine hK _ _ ?_) | (clear hK; clear hK; refine hK _ _ ?_)); clear hK; try clear K) | refine W0 ?_ | exact Z | with_reducible intro b)
            exact ⟨mk2 _ _ Zr Zr s4 h0 hw, by simp only [intD]; omega⟩
          clear q1' mk2
          generalize gT out i = t at *
          obtain ⟨tv, te⟩ := t
          unfold cT at q1
          unfold VA at pS pN
          simp only at *
          generalize hnr : numR tv = nr at *
          obtain ⟨⟨n1, e1, w1⟩, er⟩ := nr
          by_cases h0 : tv = 0
          · rw [if_pos h0] at hsu
            subst hsu
            rw [eq_true h0] at kz
            have ft := And.intro g4 (And.intro g9 (And.intro s4 (And.intro q1 kz)))
            repeat (first | with_reducible refine pv_seq fun K hK => ?_ | ((with_reducible first | refine hK _ _ ?_ | (clear hK; refine hK _ _ ?_) | (clear hK; clear hK; refine hK _ _ ?_)); clear hK; try clear K) | refine W ?_ | exact Z | with_reducible intro b)
            exact JE _ _ Zr Zr s4 hm2 hw
          · rw [if_neg h0] at hsu
            rw [eq_false h0] at kz
            by_cases h1 : er = 0
            · subst h1
              rw [if_pos rfl] at hsu
              subst hsu
              have hnew := rS_m (l := m0.1) (m := ⟨⟨n1, e1, w1⟩, te⟩)
              have ft := And.intro g4 (And.intro g9 (And.intro s4 (And.intro q1 kz)))
              repeat (first | with_reducible refine pv_seq fun K hK => ?_ | ((with_reducible first | refine hK _ _ ?_ | (clear hK; refine hK _ _ ?_) | (clear hK; clear hK; refine hK _ _ ?_)); clear hK; try clear K) | refine W0 ?_ | exact Z | with_reducible intro b)
              repeat' (first | with_reducible refine pv_seq fun K hK => ?_ | ((with_reducible first | refine hK _ _ ?_ | (clear hK; refine hK _ _ ?_) | (clear hK; clear hK; refine hK _ _ ?_)); clear hK; try clear K) | refine W ?_ | exact Z | with_reducible intro b | with_reducible refine And.intro ?_ ?_ | (refine ⟨by rw [rS_len]; omega, by rw [rS_len]; omega, fun b' cap' => ?_⟩) | (refine RowZ.appL (hw.up (by rfl)) (by decide) rfl (by simp [D.one, W64]) ?_ ?_ fun d' S' hr' hS' => ?_))
              all_goals first | (rw [rS_len]; omega) | exact hC _ _ (RowZ.frz (k3 := .l 114) 3 hr' rfl (by decide) ((hS' _ (by decide)).trans (by simp only [updS_apply]; rfl)) (gs := te.map eZ) (by rw [List.drop_zero, List.take_length]; exact pureLL_rS) (by omega) fun S2 hz hf hg2 => JE _ _ Zr Zr ((hf (.r 0 0) (by decide) (by decide)).trans ((hS' _ (by decide)).trans (by simp only [updS_apply]; exact s4))) rfl (by rw [← hnew]; exact hz))
            · rw [if_neg h1] at hsu
              subst hsu
              have hr1 := hst (by decide)
              subst hr1
              have k1 := eq_false h1
              have ft := And.intro g4 (And.intro g9 (And.intro s4 (And.intro q1 (And.intro kz k1))))
              exact Wk
        · obtain rfl : i = out.length := by omega
          repeat (first | with_reducible refine pv_seq fun K hK => ?_ | ((with_reducible first | refine hK _ _ ?_ | (clear hK; refine hK _ _ ?_) | (clear hK; clear hK; refine hK _ _ ?_)); clear hK; try clear K) | refine W0 ?_ | exact Z | with_reducible intro b)
          exact JF _ _ hm2 hw
  clear hK
  obtain ⟨I, mk, el⟩ := hide fun e S => ∃ i : Nat, i ≤ l.length ∧ e 0 = .g (eS eT l) ∧ e 5 = i64 i ∧ RowZ S (.r 0 0) 4 (e 4) (rS eT (gathN l i))
  refine pv_loop I (fun e _ => l.length - (intD (e 5)).toNat) ?_ ?_
  · exact mk _ _ ⟨0, Nat.zero_le _, Zr, Zr, .inl ⟨Zr, rfl⟩⟩
  · intro e S hI
    obtain ⟨i, hi, g0, g5, hw⟩ := el e S hI
    clear el hI
    have hm0 : (intD (e 5)).toNat = i := by rw [g5]; exact Int.toNat_natCast i
    have ft := And.intro g0 g5
    repeat (first | with_reducible refine pv_seq fun K hK => ?_ | ((with_reducible first | refine hK _ _ ?_ | (clear hK; refine hK _ _ ?_) | (clear hK; clear hK; refine hK _ _ ?_)); clear hK; try clear K) | refine W0 ?_ | exact Z | with_reducible intro b)
    refine pv_cdD (fun ht => ?_) (fun ht => ?_)
    · have hil : i < l.length := by omega
      have q2 := gT_at hil
      have wm := he _ (gT_mem hil)
      have ws := hs _ (gT_mem hil)
      have hins : gathN l (i + 1) = insT (gathN l i) (gT l i) := rfl
      have hsi := hsm i hi
      have hei := hel i hi
      have hni := hln i
      have mk2 : ∀ (e2 : DEnv) (S2 : Store), e2 0 = .g (eS eT l) → e2 5 = i64 ((i + 1 : Nat) : Int) → RowZ S2 (.r 0 0) 4 (e2 4) (rS eT (gathN l (i + 1))) → I e2 S2 := fun e2 S2 a1 a2 a3 => mk _ _ ⟨i + 1, by omega, a1, a2, a3⟩
      clear J hsm hel hln mk hs he hr
      generalize gathN l (i + 1) = out1 at *
      generalize gathN l i = out at *
      generalize gT l i = t at *
      repeat (first | with_reducible refine pv_stopB 1 ?_ | with_reducible refine pv_seq fun K hK => ?_ | ((with_reducible first | refine hK _ _ ?_ | (clear hK; refine hK _ _ ?_) | (clear hK; clear hK; refine hK _ _ ?_)); clear hK; try clear K) | refine W ?_ | exact Z | with_reducible intro b)
      refine ⟨fun K1 q1 hC => ?_⟩
      have JE : ∀ (e2 : DEnv) (S : Store), e2 0 = .g (eS eT l) → e2 5 = i64 i → RowZ S (.r 0 0) 4 (e2 4) (rS eT out1) → K1 e2 S := by
        intro e2 S g0 g5 hw
        refine q1 _ _ ?_
        clear q1 hC
        have ft := And.intro g5 g0
        repeat (first | with_reducible refine pv_seq fun K hK => ?_ | ((with_reducible first | refine hK _ _ ?_ | (clear hK; refine hK _ _ ?_) | (clear hK; clear hK; refine hK _ _ ?_)); clear hK; try clear K) | refine W0 ?_ | exact Z | with_reducible intro b)
        exact ⟨mk2 _ _ Zr Zr hw, by simp only [intD]; omega⟩
      have JM : ∀ (e2 : DEnv) (S : Store), e2 0 = .g (eS eT l) → e2 5 = i64 i → RowP P3 S 4 (e2 4) (rS eT out1) → K1 e2 S := by
        intro e2 S g0 g5 hw
        exact hC _ _ (RowP.move 4 (.r 0 0) P3_r hw fun d S' hz _ _ => JE _ _ g0 g5 hz)
      clear q1 hC mk2
      obtain ⟨tv, te⟩ := t
      simp only at *
      rcases hw with ⟨g4, h4⟩ | ⟨b4, cap, g4, s4⟩
      · obtain rfl : out = [] := by have := congrArg List.length h4; rw [rS_len] at this; exact List.eq_nil_of_length_eq_zero this
        rw [insT_nil] at hins
        subst hins
        have ft := And.intro g0 (And.intro g4 g5)
        repeat (first | with_reducible refine pv_seq fun K hK => ?_ | ((with_reducible first | refine hK _ _ ?_ | (clear hK; refine hK _ _ ?_) | (clear hK; clear hK; refine hK _ _ ?_)); clear hK; try clear K) | refine W0 ?_ | exact Z | with_reducible intro b)
        refine pv_loop (fun e T => Hid (e 0 = .g (eS eT l) ∧ e 4 = .nil ∧ e 5 = i64 i ∧ e 6 = i64 0)) (fun _ _ => 0) ?_ ?_
        · exact ⟨Zr, Zr, Zr, Zr⟩
        · rintro e2 T ⟨g0, g4, g5, g6⟩
          have k0 : ((0 : Int) < 0) = False := eq_false (by decide)
          have ft := And.intro g0 (And.intro g4 (And.intro g5 (And.intro g6 q2)))
          repeat (first | with_reducible refine pv_seq fun K hK => ?_ | ((with_reducible first | refine hK _ _ ?_ | (clear hK; refine hK _ _ ?_) | (clear hK; clear hK; refine hK _ _ ?_)); clear hK; try clear K) | refine W0 ?_ | exact Z | with_reducible intro b)
          refine ⟨fun _ => ?_, fun h => absurd h (by decide)⟩
          repeat (first | with_reducible refine pv_seq fun K hK => ?_ | ((with_reducible first | refine hK _ _ ?_ | (clear hK; refine hK _ _ ?_) | (clear hK; clear hK; refine hK _ _ ?_)); clear hK; try clear K) | refine W0 ?_ | exact Z | with_reducible intro b)
          refine ⟨by simp [D.one], fun h => h.elim, fun _ b' cap' => ?_⟩
          repeat (first | with_reducible refine pv_seq fun K hK => ?_ | ((with_reducible first | refine hK _ _ ?_ | (clear hK; refine hK _ _ ?_) | (clear hK; clear hK; refine hK _ _ ?_)); clear hK; try clear K) | refine W0 ?_ | exact Z | with_reducible intro b)
          exact JM _ _ Zr Zr (.inr ⟨.l 82, _, _, .inr (.inl rfl), Zr, by simp only [updS_apply]; rfl⟩)
      · rw [rS_len] at g4
        have k4 : ∀ k : Nat, k < out.length → (rS eT out)[k]? = some (cT (gT out k)) := fun k => rT_at
        have hmx := posT_max (out := out) (e := te)
        have hal := fun j => posT_all (out := out) (e := te) (j := j)
        have hpl := posT_le out te
        unfold insT at hins
        simp only at hins
        generalize hp : posT out te = m at *
        have ft := And.intro g0 (And.intro g4 g5)
        repeat (first | with_reducible refine pv_seq fun K hK => ?_ | ((with_reducible first | refine hK _ _ ?_ | (clear hK; refine hK _ _ ?_) | (clear hK; clear hK; refine hK _ _ ?_)); clear hK; try clear K) | refine W0 ?_ | exact Z | with_reducible intro b)
        refine pv_loop (fun e T => Hid (∃ k : Nat, k ≤ m ∧ e 0 = .g (eS eT l) ∧ e 4 = .own (.r 0 0) b4 0 out.length cap 4 ∧ e 5 = i64 i ∧ e 6 = i64 k ∧ T (.r 0 0) = some ⟨b4, 4, 0, rS eT out⟩)) (fun e _ => m - (intD (e 6)).toNat) ?_ ?_
        · exact ⟨0, Nat.zero_le _, Zr, Zr, Zr, Zr, s4⟩
        · rintro e2 T ⟨k, hkm, g0, g4, g5, g6, s4⟩
          have JX : ∀ (e : DEnv) (S : Store), True := fun _ _ => trivial
          by_cases hk1 : k < out.length
          · have k1 : (k < out.length) = True := eq_true hk1
            have q1 := k4 k hk1
            have hek := hei _ (gT_mem hk1)
            have pC := p_rOrdE (a := (gT out k).e) (b := te) hek wm
            by_cases hkm2 : k < m
            · have h9 := hal k hkm2
              have h9' := eq_true h9
              clear hmx hal hins JE JM hsi hei
              generalize gT out k = x at *
              obtain ⟨xv, xe⟩ := x
              unfold ZI at pC
              unfold cT at q1
              simp only at *
              generalize ordE xe te = o at *
              have ft := And.intro g0 (And.intro g4 (And.intro g5 (And.intro g6 (And.intro s4 (And.intro q1 (And.intro q2 (And.intro k1 h9')))))))
              repeat (first | with_reducible refine pv_seq fun K hK => ?_ | ((with_reducible first | refine hK _ _ ?_ | (clear hK; refine hK _ _ ?_) | (clear hK; clear hK; refine hK _ _ ?_)); clear hK; try clear K) | refine W ?_ | exact Z | with_reducible intro b)
              exact ⟨⟨k + 1, by omega, Zr, Zr, Zr, Zr, s4⟩, by simp only [intD]; omega⟩
            · obtain rfl : k = m := by omega
              have h9 := hmx hk1
              have h9' := eq_false h9
              by_cases h0 : ordE (gT out k).e te = 0
              · rw [if_pos ⟨hk1, h0⟩] at hins
                have h0' := eq_true h0
                have pP := p_rPlus (hsi _ (gT_mem hk1)).bd (ws.mono (show M ≤ M + i by omega)).bd (by omega)
                have hset := rT_set (out := out) (k := k) (t := ⟨(gT out k).v + tv, (gT out k).e⟩)
                clear hmx hal JM hsi hei
                generalize gT out k = x at *
                obtain ⟨xv, xe⟩ := x
                unfold ZI at pC
                unfold cT at q1 hset
                unfold VA at pP
                simp only at *
                generalize ordE xe te = o at *
                have ft := And.intro g0 (And.intro g4 (And.intro g5 (And.intro g6 (And.intro s4 (And.intro q1 (And.intro q2 (And.intro k1 (And.intro h9' h0'))))))))
                repeat (first | with_reducible refine pv_seq fun K hK => ?_ | ((with_reducible first | refine hK _ _ ?_ | (clear hK; refine hK _ _ ?_) | (clear hK; clear hK; refine hK _ _ ?_)); clear hK; try clear K) | refine W ?_ | exact Z | with_reducible intro b)
                exact JE _ _ Zr Zr (.inr ⟨b4, cap, by rw [hins, rS_len, List.length_set]; exact Zr, by rw [hins, ← hset]; simp only [updS_apply]; rfl⟩)
              · rw [if_neg (fun h => h0 h.2)] at hins
                have h0' := eq_false h0
                clear hmx hal hsi hei JE
                generalize gT out k = x at *
                obtain ⟨xv, xe⟩ := x
                unfold ZI at pC
                unfold cT at q1
                simp only at *
                generalize ordE xe te = o at *
                have ft := And.intro g0 (And.intro g4 (And.intro g5 (And.intro g6 (And.intro s4 (And.intro q1 (And.intro q2 (And.intro k1 (And.intro h9' h0'))))))))
                repeat (first | with_reducible refine pv_stop 11 ?_ | with_reducible refine pv_seq fun K hK => ?_ | ((with_reducible first | refine hK _ _ ?_ | (clear hK; refine hK _ _ ?_) | (clear hK; clear hK; refine hK _ _ ?_)); clear hK; try clear K) | refine W ?_ | exact Z | with_reducible intro b)
                refine ⟨fun K2 q2' hC2 => ?_⟩
                have JR : ∀ (e : DEnv) (S : Store), e 0 = .g (eS eT l) → e 4 = .own (.r 0 0) b4 0 out.length cap 4 → e 5 = i64 i → e 6 = i64 k → S (.r 0 0) = some ⟨b4, 4, 0, rS eT out⟩ → RowP P3 S 4 (e 7) (rS eT (out.take k)) → K2 e S := by
                  intro e S g0 g4 g5 g6 s4 hr
                  refine q2' _ _ ?_
                  clear q2' hC2
                  have ft := And.intro g4 (And.intro g0 (And.intro g5 (And.intro g6 q2)))
                  repeat (first | with_reducible refine pv_seq fun K hK => ?_ | ((with_reducible first | refine hK _ _ ?_ | (clear hK; refine hK _ _ ?_) | (clear hK; clear hK; refine hK _ _ ?_)); clear hK; try clear K) | refine W0 ?_ | exact Z | with_reducible intro b)
                  refine RowP.appL (P := P3) hr P3_81 (.inr (.inl rfl)) rfl ?_ ?_ ?_ fun d2 S2 hr2 hf2 hg2 => ?_
                  · simp [D.one]
                  · rw [rS_len, List.length_take]; simp only [List.length_singleton]; omega
                  · rw [rS_len, List.length_take]; simp only [List.length_singleton]; omega
                  have s4'' : S2 (.r 0 0) = some ⟨b4, 4, 0, rS eT out⟩ := (hf2 (.r 0 0) P3_r).trans ((updS_ne (by simp)).trans s4)
                  repeat (first | with_reducible refine pv_seq fun K hK => ?_ | ((with_reducible first | refine hK _ _ ?_ | (clear hK; refine hK _ _ ?_) | (clear hK; clear hK; refine hK _ _ ?_)); clear hK; try clear K) | refine W0 ?_ | exact Z | with_reducible intro b)
                  refine RowP.app (new := rS eT (out.drop k)) hr2 (.inr (.inr rfl)) (fun K hK => ?_) ?_ ?_ fun d3 S3 hr3 hf3 hg3 => ?_
                  · rw [srcD_own, s4'']; exact ⟨rfl, rfl, rfl, by rw [rS_len]; omega, rT_all, by rw [rT_drop, List.take_of_length_le (by rw [rS_len, List.length_drop]; omega)]; exact hK⟩
                  · simp only [List.length_append, rS_len, List.length_take, List.length_drop, List.length_singleton, List.length_nil]; omega
                  · simp only [List.length_append, rS_len, List.length_take, List.length_drop, List.length_singleton, List.length_nil]; omega
                  repeat (first | with_reducible refine pv_seq fun K hK => ?_ | ((with_reducible first | refine hK _ _ ?_ | (clear hK; refine hK _ _ ?_) | (clear hK; clear hK; refine hK _ _ ?_)); clear hK; try clear K) | refine W0 ?_ | exact Z | with_reducible intro b)
                  exact JM _ _ Zr Zr (by rw [hins, show out.take k ++ (⟨tv, te⟩ : Te) :: out.drop k = out.take k ++ [⟨tv, te⟩] ++ out.drop k by simp, ← rS_app, ← rS_app]; exact hr3)
                repeat (first | with_reducible refine pv_seq fun K hK => ?_ | ((with_reducible first | refine hK _ _ ?_ | (clear hK; refine hK _ _ ?_) | (clear hK; clear hK; refine hK _ _ ?_)); clear hK; try clear K) | refine W0 ?_ | exact Z | with_reducible intro b)
                refine ⟨by rw [rS_len]; omega, rT_all, by rw [rT_take, rS_len, List.length_take]; omega, by rw [rT_take, rS_len, List.length_take]; omega, fun h => JR _ _ Zr Zr Zr Zr s4 (.inl ⟨Zr, by rw [← rT_take]; exact h⟩), fun h b' cap' => JR _ _ Zr Zr Zr Zr (by rw [updS_ne (by simp)]; exact s4) (.inr ⟨.l 75, b', cap', .inl rfl, by rw [← rT_take]; exact Zr, by rw [← rT_take]; exact updS_at⟩)⟩
          · obtain rfl : k = m := by omega
            have k1 : (k < out.length) = False := eq_false hk1
            rw [if_neg (fun h => hk1 h.1)] at hins
            clear hmx hal hsi hei JE
            have ft := And.intro g0 (And.intro g4 (And.intro g5 (And.intro g6 (And.intro s4 (And.intro q2 k1)))))
            repeat (first | with_reducible refine pv_stop 11 ?_ | with_reducible refine pv_seq fun K hK => ?_ | ((with_reducible first | refine hK _ _ ?_ | (clear hK; refine hK _ _ ?_) | (clear hK; clear hK; refine hK _ _ ?_)); clear hK; try clear K) | refine W ?_ | exact Z | with_reducible intro b)
            refine ⟨fun K2 q2' hC2 => ?_⟩
            have JR : ∀ (e : DEnv) (S : Store), e 0 = .g (eS eT l) → e 4 = .own (.r 0 0) b4 0 out.length cap 4 → e 5 = i64 i → e 6 = i64 k → S (.r 0 0) = some ⟨b4, 4, 0, rS eT out⟩ → RowP P3 S 4 (e 7) (rS eT (out.take k)) → K2 e S := by
              intro e S g0 g4 g5 g6 s4 hr
              refine q2' _ _ ?_
              clear q2' hC2
              have ft := And.intro g4 (And.intro g0 (And.intro g5 (And.intro g6 q2)))
              repeat (first | with_reducible refine pv_seq fun K hK => ?_ | ((with_reducible first | refine hK _ _ ?_ | (clear hK; refine hK _ _ ?_) | (clear hK; clear hK; refine hK _ _ ?_)); clear hK; try clear K) | refine W0 ?_ | exact Z | with_reducible intro b)
              refine RowP.appL (P := P3) hr P3_81 (.inr (.inl rfl)) rfl ?_ ?_ ?_ fun d2 S2 hr2 hf2 hg2 => ?_
              · simp [D.one]
              · rw [rS_len, List.length_take]; simp only [List.length_singleton]; omega
              · rw [rS_len, List.length_take]; simp only [List.length_singleton]; omega
              have s4'' : S2 (.r 0 0) = some ⟨b4, 4, 0, rS eT out⟩ := (hf2 (.r 0 0) P3_r).trans ((updS_ne (by simp)).trans s4)
              repeat (first | with_reducible refine pv_seq fun K hK => ?_ | ((with_reducible first | refine hK _ _ ?_ | (clear hK; refine hK _ _ ?_) | (clear hK; clear hK; refine hK _ _ ?_)); clear hK; try clear K) | refine W0 ?_ | exact Z | with_reducible intro b)
              refine ⟨fun _ => ?_, ?_⟩
              · refine RowP.app (new := []) hr2 (.inr (.inr rfl)) (fun K hK => ?_) ?_ ?_ fun d3 S3 hr3 hf3 hg3 => ?_
                · rw [srcD_own, s4'']; exact ⟨rfl, rfl, rfl, by rw [rS_len]; omega, rT_all, hK⟩
                · simp only [List.length_append, rS_len, List.length_take, List.length_drop, List.length_singleton, List.length_nil]; omega
                · simp only [List.length_append, rS_len, List.length_take, List.length_drop, List.length_singleton, List.length_nil]; omega
                repeat (first | with_reducible refine pv_seq fun K hK => ?_ | ((with_reducible first | refine hK _ _ ?_ | (clear hK; refine hK _ _ ?_) | (clear hK; clear hK; refine hK _ _ ?_)); clear hK; try clear K) | refine W0 ?_ | exact Z | with_reducible intro b)
                exact JM _ _ Zr Zr (by rw [hins, show out.take k ++ (⟨tv, te⟩ : Te) :: out.drop k = out.take k ++ [⟨tv, te⟩] ++ out.drop k by simp, ← rS_app, ← rS_app]; rw [show out.drop k = [] from List.drop_eq_nil_of_le (by omega)]; exact hr3)
              · refine RowP.app (new := rS eT (out.drop k)) hr2 (.inr (.inr rfl)) (fun K hK => ?_) ?_ ?_ fun d3 S3 hr3 hf3 hg3 => ?_
                · rw [srcD_own, s4'']; exact ⟨rfl, rfl, rfl, by rw [rS_len]; omega, rT_all, by rw [rT_drop, List.take_of_length_le (by rw [rS_len, List.length_drop]; omega)]; exact hK⟩
                · simp only [List.length_append, rS_len, List.length_take, List.length_drop, List.length_singleton, List.length_nil]; omega
                · simp only [List.length_append, rS_len, List.length_take, List.length_drop, List.length_singleton, List.length_nil]; omega
                repeat (first | with_reducible refine pv_seq fun K hK => ?_ | ((with_reducible first | refine hK _ _ ?_ | (clear hK; refine hK _ _ ?_) | (clear hK; clear hK; refine hK _ _ ?_)); clear hK; try clear K) | refine W0 ?_ | exact Z | with_reducible intro b)
                exact JM _ _ Zr Zr (by rw [hins, show out.take k ++ (⟨tv, te⟩ : Te) :: out.drop k = out.take k ++ [⟨tv, te⟩] ++ out.drop k by simp, ← rS_app, ← rS_app]; exact hr3)
            repeat (first | with_reducible refine pv_seq fun K hK => ?_ | ((with_reducible first | refine hK _ _ ?_ | (clear hK; refine hK _ _ ?_) | (clear hK; clear hK; refine hK _ _ ?_)); clear hK; try clear K) | refine W0 ?_ | exact Z | with_reducible intro b)
            refine ⟨by rw [rS_len]; omega, rT_all, by rw [rT_take, rS_len, List.length_take]; omega, by rw [rT_take, rS_len, List.length_take]; omega, fun h => JR _ _ Zr Zr Zr Zr s4 (.inl ⟨Zr, by rw [← rT_take]; exact h⟩), fun h b' cap' => JR _ _ Zr Zr Zr Zr (by rw [updS_ne (by simp)]; exact s4) (.inr ⟨.l 75, b', cap', .inl rfl, by rw [← rT_take]; exact Zr, by rw [← rT_take]; exact updS_at⟩)⟩
    · obtain rfl : i = l.length := by omega
      repeat (first | with_reducible refine pv_seq fun K hK => ?_ | ((with_reducible first | refine hK _ _ ?_ | (clear hK; refine hK _ _ ?_) | (clear hK; clear hK; refine hK _ _ ?_)); clear hK; try clear K) | refine W0 ?_ | exact Z | with_reducible intro b)
      exact J _ _ hw
end Go.V
namespace Go.V
open Go Go.RowKit Go.Proofs
def qT16_41_9 : List (Nat × Nat) := [(0, 0), (1, 0), (2, 0), (3, 0), (4, 0), (5, 1), (7, 0), (8, 0), (9, 0), (10, 0), (11, 2), (6, 4), (12, 0), (13, 3), (14, 3), (15, 0)]
attribute [go_sem] qT16_41_9
theorem rS_t {l : List Te} {t : Te} : rS eT l ++ [[bl (fS t.v), W32 (D32 (fN t.v)), i64 (fE t.v), .g (eS eZ t.e)]] = rS eT (l ++ [t]) := by rw [← rS_app]; rfl
theorem allM_no {q : List Mo} {n : Int} {i : Nat} (hi : i < q.length) (h : monoB (gM q i) n = false) : allM q n = false := decide_eq_false fun h2 => by rw [h2 _ (gM_mem hi)] at h; cases h
theorem allM_yes {q : List Mo} {n : Int} (h : ∀ i, i < q.length → monoB (gM q i) n = true) : allM q n = true := decide_eq_true fun m hm => by
  obtain ⟨i, hi⟩ := List.mem_iff_getElem?.1 hm
  have hil : i < q.length := (List.getElem?_eq_some_iff.1 hi).1
  have := h i hil
  rw [gM_at hil] at hi
  injection hi with hi
  rwa [hi] at this
theorem monoB_right {m : Mo} {n : Int} (h : monoB m n = true) : rightB m.c = true := by
  unfold monoB at h
  rw [Bool.and_eq_true] at h
  exact h.2
set_option maxHeartbeats 2000000 in
theorem p_rPMake {q : List Mo} {n : Int} (hq : WfM q) (hl : q.length ≤ 10000) : PC Tryz.prog 41 [MM q, i64 n] fun d => d = LM (pmkR q n) := by
  unfold MM
  by_cases h1 : 1 ≤ n
  · by_cases h4 : n ≤ 4
    · have k1 : (n < 1) = False := eq_false (by omega)
      have k2 : (4 < n) = False := eq_false (by omega)
      generalize hr : pmkR q n = r
      have hno : allM q n = false → r = ([], 1) := fun h => by rw [← hr]; unfold pmkR; rw [h, Bool.and_false]; rfl
      have hyes : allM q n = true → r = gathR (q.map teM) := fun h => by rw [← hr]; unfold pmkR; rw [h, decide_eq_true h1, decide_eq_true h4]; rfl
      clear hr
      have d1 := @dl 9 qT16_41_9
      refine PB (rs := [.tmp 4, .tmp 5]) Tryz.func41 ?_
      have ft := And.intro k1 k2
      repeat (first | with_reducible refine pv_seq fun K hK => ?_ | ((with_reducible first | refine hK _ _ ?_ | (clear hK; refine hK _ _ ?_) | (clear hK; clear hK; refine hK _ _ ?_)); clear hK; try clear K) | refine W0 ?_ | exact Z | with_reducible intro b)
      have J : ∀ (e : DEnv) (S : Store), (∀ j, j < q.length → monoB (gM q j) n = true) → RowZ S (.l 41) 4 (e 6) (rS eT (q.map teM)) → K e S := by
        intro e S hz hw
        have hry := hyes (allM_yes hz)
        have pG := p_gather (l := q.map teM) (M := 135168) (Q := 65536) (by rw [List.length_map]; omega) (fun t ht => by
          obtain ⟨m, hm, rfl⟩ := List.mem_map.1 ht
          obtain ⟨i, hi⟩ := List.mem_iff_getElem?.1 hm
          have hil : i < q.length := (List.getElem?_eq_some_iff.1 hi).1
          have h5 := hz i hil
          rw [gM_at hil] at hi
          injection hi with hi
          rw [hi] at h5
          obtain ⟨d, hd, e⟩ := right_is (hq.w m hm).c.b (monoB_right h5)
          show Sm _ _ m.c.val
          rw [e, val_nuOf]
          exact okD_sm hd) (fun t ht => by
          obtain ⟨m, hm, rfl⟩ := List.mem_map.1 ht
          exact (hq.w m hm).n) (by rw [List.length_map]; omega)
        rw [← hry] at pG
        unfold TT LM at pG
        obtain ⟨r1, r2⟩ := r
        have ft := true_and
        repeat (first | with_reducible refine pv_seq fun K hK => ?_ | ((with_reducible first | refine hK _ _ ?_ | (clear hK; refine hK _ _ ?_) | (clear hK; clear hK; refine hK _ _ ?_)); clear hK; try clear K) | refine W0 ?_ | exact Z | with_reducible intro b)
        refine PFC.coe ?_
        refine hw.toD.coe1 fun S' _ _ => ?_
        exact Wk
      clear hK
      obtain ⟨I, mk, el⟩ := hide fun e S => ∃ i : Nat, i ≤ q.length ∧ e 0 = .g (eS eM q) ∧ e 1 = i64 n ∧ e 7 = i64 i ∧ (∀ j, j < i → monoB (gM q j) n = true) ∧ RowZ S (.l 41) 4 (e 6) (rS eT ((q.take i).map teM))
      refine pv_loop I (fun e _ => q.length - (intD (e 7)).toNat) ?_ ?_
      · have ft := true_and
        exact mk _ _ ⟨0, Nat.zero_le _, Zr, Zr, Zr, fun j hj => by omega, .inl ⟨Zr, rfl⟩⟩
      · intro e S hI
        obtain ⟨i, hi, g0, g1, g7, hz, hw⟩ := el e S hI
        clear el hI
        have ft := And.intro g0 (And.intro g1 g7)
        repeat (first | with_reducible refine pv_seq fun K hK => ?_ | ((with_reducible first | refine hK _ _ ?_ | (clear hK; refine hK _ _ ?_) | (clear hK; clear hK; refine hK _ _ ?_)); clear hK; try clear K) | refine W0 ?_ | exact Z | with_reducible intro b)
        refine pv_cdD (fun ht => ?_) (fun ht => ?_)
        · have hil : i < q.length := by omega
          have q1 := gM_at hil
          have wm := hq.at_ hil
          have pM := p_rMono (n := n) wm h4
          have hno := fun h => hno (allM_no hil h)
          have hz2 : monoB (gM q i) n = true → ∀ j, j < i + 1 → monoB (gM q j) n = true := fun h j hj => by
            rcases Nat.lt_or_ge j i with h1 | h1
            · exact hz j h1
            · obtain rfl : j = i := by omega
              exact h
          have hrt := fun (h : monoB (gM q i) n = true) => right_is wm.c.b (monoB_right h)
          have htk : (q.take (i + 1)).map teM = (q.take i).map teM ++ [teM (gM q i)] := by rw [List.take_add_one, q1, List.map_append]; rfl
          have hlt : ((q.take i).map teM).length = i := by rw [List.length_map, List.length_take]; omega
          clear hyes J
          generalize monoB (gM q i) n = t at *
          generalize gM q i = m at *
          obtain ⟨⟨n1, e1, w1⟩, z⟩ := m
          cases t
          · have h := hno rfl
            subst h
            have ft := And.intro g0 (And.intro g1 (And.intro g7 q1))
            exact Wk
          · obtain ⟨d, hd, hc⟩ := hrt rfl
            have pO := p_rOf hd
            simp only at hc
            rw [← hc] at pO
            have hv : teM ⟨⟨n1, e1, w1⟩, z⟩ = ⟨d, z⟩ := by unfold teM; simp only; rw [hc, val_nuOf]
            rw [hv] at htk
            have hnew := rS_t (l := (q.take i).map teM) (t := ⟨d, z⟩)
            unfold VA at pO
            simp only at hnew
            have ft := And.intro g0 (And.intro g1 (And.intro g7 q1))
            repeat' (first | with_reducible refine pv_seq fun K hK => ?_ | ((with_reducible first | refine hK _ _ ?_ | (clear hK; refine hK _ _ ?_) | (clear hK; clear hK; refine hK _ _ ?_)); clear hK; try clear K) | refine W ?_ | exact Z | with_reducible intro b | with_reducible refine And.intro ?_ ?_ | (refine RowZ.appL (hw.up (by rfl)) (by decide) rfl (by simp [D.one, W32]) ?_ ?_ fun d' S' hr' hS' => ?_))
            all_goals first | (rw [rS_len, hlt]; omega) | (simp only [intD]; omega) | exact mk _ _ ⟨i + 1, by omega, Zr, Zr, Zr, hz2 rfl, by rw [htk, ← hnew]; exact hr'⟩
        · obtain rfl : i = q.length := by omega
          rw [List.take_length] at hw
          repeat (first | with_reducible refine pv_seq fun K hK => ?_ | ((with_reducible first | refine hK _ _ ?_ | (clear hK; refine hK _ _ ?_) | (clear hK; clear hK; refine hK _ _ ?_)); clear hK; try clear K) | refine W0 ?_ | exact Z | with_reducible intro b)
          exact J _ _ hz hw
    · have k1 : (n < 1) = False := eq_false (by omega)
      have k2 : (4 < n) = True := eq_true (by omega)
      have hr : pmkR q n = ([], 1) := by unfold pmkR; rw [decide_eq_false h4, Bool.and_false]; rfl
      rw [hr]
      have d1 := @dl 9 qT16_41_9
      refine PB (rs := [.tmp 4, .tmp 5]) Tryz.func41 ?_
      have ft := And.intro k1 k2
      exact Wk
  · have k1 : (n < 1) = True := eq_true (by omega)
    have hr : pmkR q n = ([], 1) := by unfold pmkR; rw [decide_eq_false h1]; rfl
    rw [hr]
    have d1 := @dl 9 qT16_41_9
    refine PB (rs := [.tmp 4, .tmp 5]) Tryz.func41 ?_
    have ft := k1
    exact Wk

/-! ### The deck -/
theorem rZ_at {z : List Int} {k : Nat} (h : k < z.length) : (rS eZ z)[k]? = some [i64 (z.getD k 0)] := by
  rw [rS_get, zget h]; rfl
theorem rZ_set {z : List Int} {k : Nat} {x : Int} : (rS eZ z).set k [i64 x] = rS eZ (z.set k x) := by
  unfold rS gl
  rw [List.map_set, List.map_set]; rfl
theorem rZ_rep {n : Nat} : List.replicate n [i64 0] = rS eZ (List.replicate n 0) := by
  unfold rS gl
  rw [List.map_replicate, List.map_replicate]; rfl
theorem sum_inc : ∀ {z : List Int} {k : Nat}, k < z.length → (z.set k (z.getD k 0 + 1)).sum = z.sum + 1
  | x :: z, 0, _ => by show (x + 1) + z.sum = x + z.sum + 1; omega
  | x :: z, k + 1, h => by
    have := sum_inc (z := z) (k := k) (by simpa using h)
    show x + (z.set k (z.getD k 0 + 1)).sum = x + z.sum + 1
    omega
theorem nn_inc {z : List Int} {k : Nat} (hk : k < z.length) (h : ∀ x ∈ z, 0 ≤ x) : ∀ x ∈ z.set k (z.getD k 0 + 1), 0 ≤ x := fun x hx => by
  rcases List.mem_or_eq_of_mem_set hx with h1 | h1
  · exact h x h1
  · have := h _ (List.mem_of_getElem? (zget hk)); omega
/-- Powers of n variables, together deg at most. -/
structure Pw (n deg : Nat) (z : List Int) : Prop where
  len : z.length = n
  nn : ∀ x ∈ z, 0 ≤ x
  sum : z.sum ≤ deg
set_option maxHeartbeats 2000000 in
theorem p_dPowers {k : Nm} {S : Store} {Q : D → Store → Prop} {bd i n deg : Nat} {w : List Nat} (hS : S k = some ⟨bd, 2, 0, [[W64 w, i64 i]]⟩) (hb : B64 w) (hi : i ≤ 700000000) (h1 : 1 ≤ n) (h4 : n ≤ 4) (h8 : deg ≤ 8)
    (hQ : ∀ (z : List Int) (j : Nat), Pw n deg z → j ≤ i + 9 → Q (.g (eS eZ z)) (updS S k (some ⟨bd, 2, 0, [[W64 w, i64 j]]⟩))) :
    PFC Tryz.prog 79 [.ptr k bd 0 0 2, i64 n, i64 deg] S Q := by
  refine PFB (rs := [.tmp 6]) Tryz.func79 ?_
  repeat (first | with_reducible refine pv_seq fun K hK => ?_ | ((with_reducible first | refine hK _ _ ?_ | (clear hK; refine hK _ _ ?_) | (clear hK; clear hK; refine hK _ _ ?_)); clear hK; try clear K) | refine W0 ?_ | exact Z | with_reducible intro b)
  refine p_dN (n := deg + 1) (i := i) (by simp -implicitDefEqProofs only [updS, upS]; exact hS) hb (by omega) (by omega) (by omega) (fun r hr => ?_)
  repeat (first | with_reducible refine pv_seq fun K hK => ?_ | ((with_reducible first | refine hK _ _ ?_ | (clear hK; refine hK _ _ ?_) | (clear hK; clear hK; refine hK _ _ ?_)); clear hK; try clear K) | refine W0 ?_ | exact Z | with_reducible intro b)
  have J : ∀ (e : DEnv) (T : Store) (z : List Int) (j b7 : Nat), Pw n deg z → j ≤ i + 9 → e 7 = .own (.l 10) b7 0 n n 1 → T (.l 10) = some ⟨b7, 1, 0, rS eZ z⟩ → Dk S k T (some ⟨bd, 2, 0, [[W64 w, i64 j]]⟩) → K e T := by
    intro e T z j b7 hz hj g7 s7 hd
    have hw : RowD T (.l 10) 1 (e 7) (rS eZ z) := by rw [g7]; exact RowD.own (by rw [rS_len, hz.len]) s7
    repeat (first | with_reducible refine pv_seq fun K hK => ?_ | ((with_reducible first | refine hK _ _ ?_ | (clear hK; refine hK _ _ ?_) | (clear hK; clear hK; refine hK _ _ ?_)); clear hK; try clear K) | refine W0 ?_ | exact Z | with_reducible intro b)
    exact hw.coeD fun T2 _ hT2 => by rw [(hd.of hT2).dn]; exact hQ z j hz hj
  clear hK
  obtain ⟨I, mk, el⟩ := hide fun e T => ∃ (t j b7 : Nat) (z : List Int), t + z.sum.toNat ≤ deg ∧ z.length = n ∧ (∀ x ∈ z, 0 ≤ x) ∧ 0 ≤ z.sum ∧ j ≤ i + 1 + z.sum.toNat ∧ e 0 = .ptr (.up k) bd 0 0 2 ∧ e 1 = i64 n ∧ e 8 = i64 t ∧ e 7 = .own (.l 10) b7 0 n n 1 ∧ T (.l 10) = some ⟨b7, 1, 0, rS eZ z⟩ ∧ Dk S k T (some ⟨bd, 2, 0, [[W64 w, i64 j]]⟩)
  refine pv_loop I (fun e _ => (intD (e 8)).toNat) ?_ ?_
  · have hsum : (List.replicate n (0 : Int)).sum = 0 := by simp
    refine mk _ _ ⟨r, i + 1, _, List.replicate n 0, by rw [hsum]; simp; omega, by simp, fun x hx => by rw [(List.mem_replicate.1 hx).2]; decide, by rw [hsum]; decide, by omega, Zr, Zr, Zr, Zr, ?_, ?_⟩
    · rw [← rZ_rep]; simp only [updS_apply]; rfl
    · exact ((Dk.up hS).l).set
  · intro e T hI
    obtain ⟨t, j, b7, z, htz, hzl, hnn, hs0, hj, g0, g1, g8, g7, s7, hd⟩ := el e T hI
    clear el hI
    have ft := And.intro g0 (And.intro g1 (And.intro g8 g7))
    repeat (first | with_reducible refine pv_seq fun K hK => ?_ | ((with_reducible first | refine hK _ _ ?_ | (clear hK; refine hK _ _ ?_) | (clear hK; clear hK; refine hK _ _ ?_)); clear hK; try clear K) | refine W0 ?_ | exact Z | with_reducible intro b)
    refine pv_cdD (fun ht => ?_) (fun ht => ?_)
    · obtain ⟨t, rfl⟩ : ∃ t2, t = t2 + 1 := ⟨t - 1, by omega⟩
      have hm0 : (intD (e 8)).toNat = t + 1 := by rw [g8]; exact Int.toNat_natCast _
      repeat (first | with_reducible refine pv_seq fun K hK => ?_ | ((with_reducible first | refine hK _ _ ?_ | (clear hK; refine hK _ _ ?_) | (clear hK; clear hK; refine hK _ _ ?_)); clear hK; try clear K) | refine W0 ?_ | exact Z | with_reducible intro b)
      refine p_dN (n := n) hd.at_ hb (by omega) (by omega) (by omega) (fun c hc => ?_)
      have q1 := rZ_at (z := z) (k := c) (by omega)
      have hset := rZ_set (z := z) (k := c) (x := z.getD c 0 + 1)
      have hsi := sum_inc (z := z) (k := c) (by omega)
      have hni := nn_inc (z := z) (k := c) (by omega) hnn
      have hsub : (((t + 1 : Nat) : Int) - 1) = (t : Int) := by omega
      have hx8 : z.getD c 0 ≤ 8 := by
        have := le_sum hnn c (by omega)
        omega
      have hx0 : 0 ≤ z.getD c 0 := hnn _ (List.mem_of_getElem? (zget (by omega)))
      generalize z.getD c 0 = x at *
      have hc2 : (c : Int).toNat = c := by omega
      have ft := And.intro g0 (And.intro g1 (And.intro g8 (And.intro g7 (And.intro s7 (And.intro q1 hsub)))))
      repeat (first | with_reducible refine pv_seq fun K hK => ?_ | ((with_reducible first | refine hK _ _ ?_ | (clear hK; refine hK _ _ ?_) | (clear hK; clear hK; refine hK _ _ ?_)); clear hK; try clear K) | refine W0 ?_ | exact Z | with_reducible intro b)
      exact ⟨mk _ _ ⟨t, j + 1, b7, z.set c (x + 1), by rw [hsi]; omega, by rw [List.length_set]; exact hzl, hni, by rw [hsi]; omega, by rw [hsi]; omega, Zr, Zr, Zr, Zr, by rw [← hset]; simp only [updS_apply]; rfl, (hd.set).l⟩, by simp only [intD]; omega⟩
    · obtain rfl : t = 0 := by omega
      have ft := And.intro g0 (And.intro g1 (And.intro g7 g8))
      repeat (first | with_reducible refine pv_seq fun K hK => ?_ | ((with_reducible first | refine hK _ _ ?_ | (clear hK; refine hK _ _ ?_) | (clear hK; clear hK; refine hK _ _ ?_)); clear hK; try clear K) | refine W0 ?_ | exact Z | with_reducible intro b)
      exact J _ _ z j b7 ⟨hzl, hnn, by omega⟩ (by omega) g7 s7 hd

/-- Monomials that the deck draws. -/
structure DrM (n deg : Nat) (m : Mo) : Prop where
  c : ∃ d, m.c = nuOf d ∧ Sm 14 6 d
  e : Pw n deg m.e
theorem DrM.wm {n deg : Nat} {m : Mo} (h : DrM n deg m) (hn : n ≤ 100000) : Wm m := by
  obtain ⟨d, hd, hs⟩ := h.c
  exact ⟨by rw [hd]; exact ((hs.ok (by decide) (by decide)).sz).wl, by rw [h.e.len]; exact hn⟩
set_option maxHeartbeats 2000000 in
theorem p_dMonos {k : Nm} {S : Store} {Q : D → Store → Prop} {bd i n most deg : Nat} {w : List Nat} (hS : S k = some ⟨bd, 2, 0, [[W64 w, i64 i]]⟩) (hb : B64 w) (hi : i ≤ 500000000) (h1 : 1 ≤ n) (h4 : n ≤ 4) (h8 : deg ≤ 8) (hm : most ≤ 1000)
    (hQ : ∀ (q : List Mo) (j : Nat), q.length ≤ most → (∀ m ∈ q, DrM n deg m) → j ≤ i + 1 + 10 * most → Q (MM q) (updS S k (some ⟨bd, 2, 0, [[W64 w, i64 j]]⟩))) :
    PFC Tryz.prog 42 [.ptr k bd 0 0 2, i64 n, i64 most, i64 deg] S Q := by
  refine PFB (rs := [.tmp 8]) Tryz.func42 ?_
  repeat (first | with_reducible refine pv_seq fun K hK => ?_ | ((with_reducible first | refine hK _ _ ?_ | (clear hK; refine hK _ _ ?_) | (clear hK; clear hK; refine hK _ _ ?_)); clear hK; try clear K) | refine W0 ?_ | exact Z | with_reducible intro b)
  refine p_dN (n := most + 1) (i := i) (by simp -implicitDefEqProofs only [updS, upS]; exact hS) hb (by omega) (by omega) (by omega) (fun r hr => ?_)
  repeat (first | with_reducible refine pv_seq fun K hK => ?_ | ((with_reducible first | refine hK _ _ ?_ | (clear hK; refine hK _ _ ?_) | (clear hK; clear hK; refine hK _ _ ?_)); clear hK; try clear K) | refine W0 ?_ | exact Z | with_reducible intro b)
  have J : ∀ (e : DEnv) (T : Store) (q : List Mo) (j : Nat), q.length ≤ most → (∀ m ∈ q, DrM n deg m) → j ≤ i + 1 + 10 * most → RowZ T (.l 28) 4 (e 9) (rS eM q) → Dk S k T (some ⟨bd, 2, 0, [[W64 w, i64 j]]⟩) → K e T := by
    intro e T q j hq hd hj hw hk
    repeat (first | with_reducible refine pv_seq fun K hK => ?_ | ((with_reducible first | refine hK _ _ ?_ | (clear hK; refine hK _ _ ?_) | (clear hK; clear hK; refine hK _ _ ?_)); clear hK; try clear K) | refine W0 ?_ | exact Z | with_reducible intro b)
    exact hw.toD.coeD fun T2 _ hT2 => by rw [(hk.of hT2).dn]; exact hQ q j hq hd hj
  clear hK
  obtain ⟨I, mk, el⟩ := hide fun e T => ∃ (t j : Nat) (q : List Mo), t + q.length ≤ most ∧ (∀ m ∈ q, DrM n deg m) ∧ j ≤ i + 1 + 10 * q.length ∧ e 0 = .ptr (.up k) bd 0 0 2 ∧ e 1 = i64 n ∧ e 3 = i64 deg ∧ e 10 = i64 t ∧ RowZ T (.l 28) 4 (e 9) (rS eM q) ∧ Dk S k T (some ⟨bd, 2, 0, [[W64 w, i64 j]]⟩)
  refine pv_loop I (fun e _ => (intD (e 10)).toNat) ?_ ?_
  · exact mk _ _ ⟨r, i + 1, [], by simp; omega, fun m hm => (by cases hm), by simp, Zr, Zr, Zr, Zr, .inl ⟨Zr, rfl⟩, (Dk.up hS).set⟩
  · intro e T hI
    obtain ⟨t, j, q, htq, hd, hj, g0, g1, g3, g10, hw, hk⟩ := el e T hI
    clear el hI
    have ft := And.intro g0 (And.intro g1 (And.intro g3 g10))
    repeat (first | with_reducible refine pv_seq fun K hK => ?_ | ((with_reducible first | refine hK _ _ ?_ | (clear hK; refine hK _ _ ?_) | (clear hK; clear hK; refine hK _ _ ?_)); clear hK; try clear K) | refine W0 ?_ | exact Z | with_reducible intro b)
    refine pv_cdD (fun ht => ?_) (fun ht => ?_)
    · obtain ⟨t, rfl⟩ : ∃ t2, t = t2 + 1 := ⟨t - 1, by omega⟩
      have hsub : (((t + 1 : Nat) : Int) - 1) = (t : Int) := by omega
      have ft := And.intro g0 (And.intro g1 (And.intro g10 (And.intro g3 hsub)))
      repeat (first | with_reducible refine pv_seq fun K hK => ?_ | ((with_reducible first | refine hK _ _ ?_ | (clear hK; refine hK _ _ ?_) | (clear hK; clear hK; refine hK _ _ ?_)); clear hK; try clear K) | refine W0 ?_ | exact Z | with_reducible intro b)
      refine p_smallD hk.at_ hb (by omega) fun x sx _ => ?_
      repeat (first | with_reducible refine pv_seq fun K hK => ?_ | ((with_reducible first | refine hK _ _ ?_ | (clear hK; refine hK _ _ ?_) | (clear hK; clear hK; refine hK _ _ ?_)); clear hK; try clear K) | refine W0 ?_ | exact Z | with_reducible intro b)
      refine p_dPowers (i := j + 1) (n := n) (deg := deg) (by (try simp -implicitDefEqProofs only [updS_apply, if_true, eq_self]); try rfl) hb (by omega) h1 h4 h8 fun z j2 hz hj2 => ?_
      have hnew := rS_m (l := q) (m := ⟨nuOf x, z⟩)
      have hdr : DrM n deg ⟨nuOf x, z⟩ := ⟨⟨x, rfl, sx⟩, hz⟩
      simp only at hnew
      generalize nuOf x = X at *
      obtain ⟨n1, e1, w1⟩ := X
      repeat (first | with_reducible refine pv_seq fun K hK => ?_ | ((with_reducible first | refine hK _ _ ?_ | (clear hK; refine hK _ _ ?_) | (clear hK; clear hK; refine hK _ _ ?_)); clear hK; try clear K) | refine W0 ?_ | exact Z | with_reducible intro b)
      refine RowZ.appL (hw.up ?_) (by decide) rfl (by simp [D.one, W64]) ?_ ?_ fun d' S3 hr3 hS3 => ?_
      · simp only [updS_apply, reduceCtorEq, if_false]
      · rw [rS_len]; simp only [List.length_singleton]; omega
      · rw [rS_len]; simp only [List.length_singleton]; omega
      repeat (first | with_reducible refine pv_seq fun K hK => ?_ | ((with_reducible first | refine hK _ _ ?_ | (clear hK; refine hK _ _ ?_) | (clear hK; clear hK; refine hK _ _ ?_)); clear hK; try clear K) | refine W0 ?_ | exact Z | with_reducible intro b)
      refine ⟨mk _ _ ⟨t, j2, q ++ [⟨⟨n1, e1, w1⟩, z⟩], by simp; omega, fun m hm => ?_, by simp; omega, Zr, Zr, Zr, Zr, by rw [← hnew]; exact hr3, ?_⟩, by simp only [intD]; omega⟩
      · rcases List.mem_append.1 hm with h | h
        · exact hd m h
        · rw [List.mem_singleton.1 h]; exact hdr
      · exact ((hk.set.set).l).of hS3
    · obtain rfl : t = 0 := by omega
      repeat (first | with_reducible refine pv_seq fun K hK => ?_ | ((with_reducible first | refine hK _ _ ?_ | (clear hK; refine hK _ _ ?_) | (clear hK; clear hK; refine hK _ _ ?_)); clear hK; try clear K) | refine W0 ?_ | exact Z | with_reducible intro b)
      exact J _ _ q j (by omega) hd (by omega) hw hk

/-- A polynomial that the deck draws. -/
structure DrP (n most deg : Nat) (q : List Mo) : Prop where
  right : polyB q (n : Int) = true
  len : q.length ≤ most
  c : ∀ m ∈ q, ∃ d, m.c = nuOf d ∧ d ≠ 0 ∧ Sm (14 + most) 6 d
  e : ∀ m ∈ q, Pw n deg m.e
theorem DrP.wf {n most deg : Nat} {q : List Mo} (h : DrP n most deg q) (hn : n ≤ 100000) (hm : most ≤ 1000) : WfM q := ⟨by have := h.len; omega, fun m hm2 => by
  obtain ⟨d, hd, _, hs⟩ := h.c m hm2
  exact ⟨by rw [hd]; exact (((hs.ok2 (by omega) (by decide))).sz).wl, by rw [(h.e m hm2).len]; exact hn⟩⟩
theorem drP_of {n most deg : Nat} {q : List Mo} (h1 : 1 ≤ n) (h4 : n ≤ 4) (h8 : deg ≤ 8) (hm : most ≤ 24) (hl : q.length ≤ most) (h : ∀ m ∈ q, DrM n deg m) : ∃ p, pmkR q (n : Int) = (p, 0) ∧ DrP n most deg p := by
  have hall : allM q (n : Int) = true := decide_eq_true fun m hm => by
    obtain ⟨d, hd, hs⟩ := (h m hm).c
    have he := (h m hm).e
    unfold monoB
    have hsum := he.sum
    rw [decide_eq_true (show ((m.e.length : Nat) : Int) = n by rw [he.len]), decide_eq_true he.nn, decide_eq_true (show m.e.sum ≤ 8 by omega), hd, rightB_nuOf, decide_eq_true (hs.ok (by decide) (by decide))]; rfl
  have hv : ∀ t ∈ q.map teM, Sm 14 6 t.v := fun t ht => by
    obtain ⟨m, hm, rfl⟩ := List.mem_map.1 ht
    obtain ⟨d, hd, hs⟩ := (h m hm).c
    show Sm 14 6 m.c.val
    rw [hd, val_nuOf]; exact hs
  have he : ∀ t ∈ q.map teM, Pw n deg t.e := fun t ht => by
    obtain ⟨m, hm, rfl⟩ := List.mem_map.1 ht
    exact (h m hm).e
  have hlm : (q.map teM).length = q.length := List.length_map _
  have hsm := gathN_sm hv (q.map teM).length (Nat.le_refl _)
  have hel := gathN_all (P := Pw n deg) he (q.map teM).length (Nat.le_refl _)
  have hsm2 : ∀ y ∈ gathN (q.map teM) (q.map teM).length, Sm (14 + most) 6 y.v := fun y hy => (hsm y hy).mono (by omega)
  have hlen := gathN_len (q.map teM) (q.map teM).length
  obtain ⟨p, e1, e2, e3⟩ := gathR_ok (n := n) (l := q.map teM) h1 h4 (by omega) (fun t ht => ⟨(he t ht).len, (he t ht).nn, by have := (he t ht).sum; omega⟩) (fun y hy => (hsm2 y hy).ok2 (by omega) (by decide))
  refine ⟨p, ?_, e3, ?_, ?_, ?_⟩
  · unfold pmkR
    rw [hall, decide_eq_true (show (1 : Int) ≤ n by omega), decide_eq_true (show (n : Int) ≤ 4 by omega)]
    exact e1
  · rw [e2, List.length_map]
    exact Nat.le_trans (List.length_filter_le _ _) (by omega)
  · intro m hm
    rw [e2] at hm
    obtain ⟨t, ht, rfl⟩ := List.mem_map.1 hm
    obtain ⟨ht, h0⟩ := List.mem_filter.1 ht
    exact ⟨t.v, rfl, of_decide_eq_true h0, hsm2 t ht⟩
  · intro m hm
    rw [e2] at hm
    obtain ⟨t, ht, rfl⟩ := List.mem_map.1 hm
    exact hel t (List.mem_filter.1 ht).1
set_option maxHeartbeats 1000000 in
theorem p_dPoly {k : Nm} {S : Store} {Q : D → Store → Prop} {bd i n most deg : Nat} {w : List Nat} (hS : S k = some ⟨bd, 2, 0, [[W64 w, i64 i]]⟩) (hb : B64 w) (hi : i ≤ 500000000) (h1 : 1 ≤ n) (h4 : n ≤ 4) (h8 : deg ≤ 8) (hm : most ≤ 24)
    (hQ : ∀ (q : List Mo) (j : Nat), DrP n most deg q → j ≤ i + 1 + 10 * most → Q (MM q) (updS S k (some ⟨bd, 2, 0, [[W64 w, i64 j]]⟩))) :
    PFC Tryz.prog 16 [.ptr k bd 0 0 2, i64 n, i64 most, i64 deg] S Q := by
  refine PFB (rs := [.tmp 8]) Tryz.func16 ?_
  repeat (first | with_reducible refine pv_seq fun K hK => ?_ | ((with_reducible first | refine hK _ _ ?_ | (clear hK; refine hK _ _ ?_) | (clear hK; clear hK; refine hK _ _ ?_)); clear hK; try clear K) | refine W0 ?_ | exact Z | with_reducible intro b)
  refine p_dMonos (i := i) (n := n) (most := most) (deg := deg) (by simp -implicitDefEqProofs only [updS, upS]; exact hS) hb hi h1 h4 h8 (by omega) fun q j hq hd hj => ?_
  have pM := p_rPMake (n := (n : Int)) (q := q) ⟨by omega, fun m hm => (hd m hm).wm (by omega)⟩ (by omega)
  obtain ⟨p, e1, e2⟩ := drP_of h1 h4 h8 hm hq hd
  rw [e1] at pM
  have hq2 := hQ p j e2 hj
  unfold MM LM at *
  repeat (first | with_reducible refine pv_seq fun K hK => ?_ | ((with_reducible first | refine hK _ _ ?_ | (clear hK; refine hK _ _ ?_) | (clear hK; clear hK; refine hK _ _ ?_)); clear hK; try clear K) | refine W ?_ | exact Z | with_reducible intro b)
  exact hq2
end Go.V
namespace Go.V
open Go Go.RowKit Go.Proofs
def qT17_4_13_0 : PT := (.lin [(0, 0), (1, 0), (3, 0), (4, 0), (5, 0), (7, 0), (8, 0), (9, 0), (10, 0), (13, 0), (14, 0)] (.fork4 2 3 (.lin [] (.fork3 6 3 (.lin [] (.fork 11 3 (.lin [(12, 3)] .nil) 12 3 (.lin [(11, 3)] .nil))) 11 3 (.lin [] (.fork 6 3 (.lin [(12, 3)] .nil) 12 3 (.lin [(6, 3)] .nil))) 12 3 (.lin [] (.fork 6 3 (.lin [(11, 3)] .nil) 11 3 (.lin [(6, 3)] .nil))))) 6 3 (.lin [] (.fork3 2 3 (.lin [] (.fork 11 3 (.lin [(12, 3)] .nil) 12 3 (.lin [(11, 3)] .nil))) 11 3 (.lin [] (.fork 2 3 (.lin [(12, 3)] .nil) 12 3 (.lin [(2, 3)] .nil))) 12 3 (.lin [] (.fork 2 3 (.lin [(11, 3)] .nil) 11 3 (.lin [(2, 3)] .nil))))) 11 3 (.lin [] (.fork3 2 3 (.lin [] (.fork 6 3 (.lin [(12, 3)] .nil) 12 3 (.lin [(6, 3)] .nil))) 6 3 (.lin [] (.fork 2 3 (.lin [(12, 3)] .nil) 12 3 (.lin [(2, 3)] .nil))) 12 3 (.lin [] (.fork 2 3 (.lin [(6, 3)] .nil) 6 3 (.lin [(2, 3)] .nil))))) 12 3 (.lin [] (.fork3 2 3 (.lin [] (.fork 6 3 (.lin [(11, 3)] .nil) 11 3 (.lin [(6, 3)] .nil))) 6 3 (.lin [] (.fork 2 3 (.lin [(11, 3)] .nil) 11 3 (.lin [(2, 3)] .nil))) 11 3 (.lin [] (.fork 2 3 (.lin [(6, 3)] .nil) 6 3 (.lin [(2, 3)] .nil)))))))
def qT17_4_13_1 : PT := (.lin [(15, 3), (16, 0)] .nil)
attribute [go_sem] qT17_4_13_0 qT17_4_13_1
theorem same_wi {a : Iv} (h : Wi 65536 a) : PC Tryz.prog 36 [IV a, IV a] fun d => d = bl true := same_iv (by have := h.lo.len; omega) (by have := h.hi.len; omega)
theorem ofR_wi {p : Int} {q : List Mo} {xs : List (List Iv)} {k : Int} : Wi 65536 (ofR p q xs k).1 := by
  unfold ofR; split
  · exact ofN_wi _
  · exact wi0
theorem sumR_wi {p : Int} {a : List Iv} {h : Iv} (ha : WfL a) : Wi 65536 (sumR p a h).1 := by
  unfold sumR; split
  · exact sumN_wi ha.w _
  · exact wi0
set_option maxHeartbeats 2000000 in
theorem p_told14 {q : List Mo} {xs : List (List Iv)} {a v : List Iv} {h : Iv} {k p : Int} (hq : WfM q) (hx : WfX xs) (ha : WfL a) (hv : WfL v) (hh : Wi 65536 h) : PC Tryz.prog 9 [MM q, LL xs, II a, II v, IV h, i64 k, i64 p] fun d => d = bl true := by
  have c1 := p_Coef (k := k) (p := p) ha hv
  have c2 := p_rCoef (k := k) (p := p) ha hv
  have d1 := p_sOf (k := k) (p := p) hq hx
  have d2 := p_rOf14 (k := k) (p := p) hq hx
  have s1 := p_sSum (p := p) ha hh
  have s2 := p_rSum14 (p := p) ha hh
  have w1 := same_wi (coefR_wi (p := p) (a := a) (b := v) (k := k))
  have w2 := same_wi (ofR_wi (p := p) (q := q) (xs := xs) (k := k))
  have w3 := same_wi (sumR_wi (p := p) (h := h) ha)
  clear hq hx ha hv hh
  generalize coefR p a v k = x at *
  generalize ofR p q xs k = y at *
  generalize sumR p a h = z at *
  obtain ⟨⟨⟨n1, e1, z1⟩, ⟨n2, e2, z2⟩⟩, r1⟩ := x
  obtain ⟨⟨⟨n3, e3, z3⟩, ⟨n4, e4, z4⟩⟩, r2⟩ := y
  obtain ⟨⟨⟨n5, e5, z5⟩, ⟨n6, e6, z6⟩⟩, r3⟩ := z
  obtain ⟨⟨n7, e7, z7⟩, ⟨n8, e8, z8⟩⟩ := h
  have k1 : (r1 = r1) = True := eq_true rfl
  have k2 : (r2 = r2) = True := eq_true rfl
  have k3 : (r3 = r3) = True := eq_true rfl
  unfold II MM LL at *
  refine PB (rs := [.tmp 14]) Tryz.func9 ?_
  have ft := And.intro k1 (And.intro k2 k3)
  exact Wk

theorem rS_l {l : List (List Iv)} {a : List Iv} : rS eL l ++ [[.g (eS eI a)]] = rS eL (l ++ [a]) := by rw [← rS_app]; rfl
set_option maxHeartbeats 8000000 in
theorem p_SeriesDrawn {w : List Nat} (hb : B64 w) : PC Tryz.prog 4 [W64 w] fun d => d = bl true := by
  have pK := p_known14
  have d1 := @dj Tryz.prog 13 [qT17_4_13_0, qT17_4_13_1]
  refine PB (rs := [.tmp 2]) Tryz.func4 ?_
  repeat (first | with_reducible refine pv_seq fun K hK => ?_ | ((with_reducible first | refine hK _ _ ?_ | (clear hK; refine hK _ _ ?_) | (clear hK; clear hK; refine hK _ _ ?_)); clear hK; try clear K) | refine W ?_ | exact Z | with_reducible intro b)
  refine p_Of (fun b0 => ?_)
  repeat (first | with_reducible refine pv_seq fun K hK => ?_ | ((with_reducible first | refine hK _ _ ?_ | (clear hK; refine hK _ _ ?_) | (clear hK; clear hK; refine hK _ _ ?_)); clear hK; try clear K) | refine W0 ?_ | exact Z | with_reducible intro b)
  refine p_dN (n := 3) (i := 0) (by simp -implicitDefEqProofs only [updS, upS, if_true]; rfl) hb (by omega) (by decide) (by decide) (fun r hr => ?_)
  repeat (first | with_reducible refine pv_seq fun K hK => ?_ | ((with_reducible first | refine hK _ _ ?_ | (clear hK; refine hK _ _ ?_) | (clear hK; clear hK; refine hK _ _ ?_)); clear hK; try clear K) | refine W0 ?_ | exact Z | with_reducible intro b)
  refine p_dN (n := 5) (i := 1) (by simp -implicitDefEqProofs only [updS, upS, if_true]; rfl) hb (by omega) (by decide) (by decide) (fun k hk => ?_)
  repeat (first | with_reducible refine pv_seq fun K hK => ?_ | ((with_reducible first | refine hK _ _ ?_ | (clear hK; refine hK _ _ ?_) | (clear hK; clear hK; refine hK _ _ ?_)); clear hK; try clear K) | refine W0 ?_ | exact Z | with_reducible intro b)
  refine p_dPrec (i := 2) (by simp -implicitDefEqProofs only [updS, upS, if_true]; rfl) hb (by omega) (fun p j1 h8 h256 l1 => ?_)
  repeat (first | with_reducible refine pv_stopQ 6 ?_ | with_reducible refine pv_seq fun K hK => ?_ | ((with_reducible first | refine hK _ _ ?_ | (clear hK; refine hK _ _ ?_) | (clear hK; clear hK; refine hK _ _ ?_)); clear hK; try clear K) | refine W ?_ | exact Z | with_reducible intro b)
  refine ⟨fun K q0 hC => ?_⟩
  have hn1 : (1 + (r : Int)) = ((r + 1 : Nat) : Int) := by omega
  have J : ∀ (e : DEnv) (S : Store) (j : Nat) (xs : List (List Iv)), xs.length = r + 1 → (∀ l ∈ xs, l.length ≤ k + 2 ∧ ∀ a ∈ l, SmV 14 6 a) → j ≤ 1000 → e 3 = .ptr (.r 0 0) b0 0 0 2 → e 4 = i64 ((r + 1 : Nat) : Int) → e 5 = i64 k → e 6 = i64 p → e 7 = .g (eS eL xs) → S (.r 0 0) = some ⟨b0, 2, 0, [[W64 w, i64 j]]⟩ → K e S := by
    as_aux_lemma =>
    intro e S j xs hx hs hj g3 g4 g5 g6 g7 s0
    refine q0 _ _ ?_
    clear q0 hC
    have wx : WfX xs := ⟨by omega, fun l hl => ⟨by have := (hs l hl).1; omega, fun a ha => (((hs l hl).2 a ha).v (by decide) (by decide)).ok.1⟩⟩
    have q1 := xget (xs := xs) (i := 0) (by omega)
    have q2 := xget (xs := xs) (i := r) (by omega)
    have w1 := wx.at_ (i := 0) (by omega)
    have w2 := wx.at_ (i := r) (by omega)
    generalize xs.getD 0 [] = a at *
    generalize xs.getD r [] = v at *
    have ft := And.intro g3 (And.intro g4 (And.intro g5 (And.intro g6 (And.intro g7 s0))))
    repeat (first | with_reducible refine pv_seq fun K hK => ?_ | ((with_reducible first | refine hK _ _ ?_ | (clear hK; refine hK _ _ ?_) | (clear hK; clear hK; refine hK _ _ ?_)); clear hK; try clear K) | refine W0 ?_ | exact Z | with_reducible intro b)
    refine p_dSmallIv (i := j) s0 hb (by omega) (fun hx hy j4 sx sy hxy l4 => ?_)
    have wh : Wi 65536 (ivD hx hy) := wi_D (sx.ok (by decide) (by decide)) (sy.ok (by decide) (by decide))
    generalize ivD hx hy = h at *
    obtain ⟨⟨n1, e1, z1⟩, ⟨n2, e2, z2⟩⟩ := h
    repeat (first | with_reducible refine pv_seq fun K hK => ?_ | ((with_reducible first | refine hK _ _ ?_ | (clear hK; refine hK _ _ ?_) | (clear hK; clear hK; refine hK _ _ ?_)); clear hK; try clear K) | refine W0 ?_ | exact Z | with_reducible intro b)
    refine p_dYes (n := 6) (i := j4) (by simp -implicitDefEqProofs only [updS_apply, if_true, eq_self]; try rfl) hb (by omega) (by decide) (by decide) (fun t => ?_)
    have hr1 : (((r + 1 : Nat) : Int) - 1) = (r : Int) := by omega
    cases t
    · have ft := And.intro g3 (And.intro g4 (And.intro g5 (And.intro g6 (And.intro g7 (And.intro s0 (And.intro q1 (And.intro q2 hr1)))))))
      repeat (first | with_reducible refine pv_seq fun K hK => ?_ | ((with_reducible first | refine hK _ _ ?_ | (clear hK; refine hK _ _ ?_) | (clear hK; clear hK; refine hK _ _ ?_)); clear hK; try clear K) | refine W0 ?_ | exact Z | with_reducible intro b)
      refine cj fun K2 hK2 => ?_
      have J2 : ∀ (e : DEnv) (S : Store) (q : List Mo), DrP (r + 1) 3 4 q → e 44 = .g (eS eM q) → e 45 = .g (eS eL xs) → e 48 = .g (eS eI a) → e 53 = .g (eS eI v) → e 54 = .agg [bl n1, i64 e1, W64 z1, bl n2, i64 e2, W64 z2] → e 55 = i64 (k : Int) → e 56 = i64 p → K2 e S := by
        intro e S q hq g44 g45 g48 g53 g54 g55 g56
        refine hK2 _ _ ?_
        clear hK2
        have pT := p_told14 (k := (k : Int)) (p := p) (hq.wf (by omega) (by decide)) wx w1 w2 wh
        unfold MM LL II at pT
        refine cj fun K hK => ?_
        have ft := And.intro g44 (And.intro g45 (And.intro g48 (And.intro g53 (And.intro g54 (And.intro g55 g56)))))
        exact Wk
      clear hK2
      have ft := And.intro g3 (And.intro g4 (And.intro g5 (And.intro g6 (And.intro g7 (And.intro s0 (And.intro q2 (And.intro q1 hr1)))))))
      repeat' (first | with_reducible refine pv_seq fun K hK => ?_ | ((with_reducible first | refine hK _ _ ?_ | (clear hK; refine hK _ _ ?_) | (clear hK; clear hK; refine hK _ _ ?_)); clear hK; try clear K) | refine W ?_ | exact Z | with_reducible intro b | with_reducible refine And.intro ?_ ?_ | (refine p_dPoly (n := r + 1) (most := 3) (deg := 4) (i := j4 + 1) (by simp -implicitDefEqProofs only [updS_apply, if_true, eq_self]; try rfl) hb (by omega) (by omega) (by omega) (by decide) (by decide) fun q j5 hq l5 => ?_) | exact J2 _ _ q hq Zr Z Z Z Z Z Z)
    · have ft := And.intro g3 (And.intro g4 (And.intro g5 (And.intro g6 (And.intro g7 (And.intro q1 (And.intro s0 (And.intro q2 hr1)))))))
      repeat (first | with_reducible refine pv_seq fun K hK => ?_ | ((with_reducible first | refine hK _ _ ?_ | (clear hK; refine hK _ _ ?_) | (clear hK; clear hK; refine hK _ _ ?_)); clear hK; try clear K) | refine W0 ?_ | exact Z | with_reducible intro b)
      refine cj fun K2 hK2 => ?_
      have J2 : ∀ (e : DEnv) (S : Store) (q : List Mo), DrP (r + 1) 3 4 q → e 44 = .g (eS eM q) → e 45 = .g (eS eL xs) → e 48 = .g (eS eI a) → e 53 = .g (eS eI v) → e 54 = .agg [bl n1, i64 e1, W64 z1, bl n2, i64 e2, W64 z2] → e 55 = i64 ((k + 1 : Nat) : Int) → e 56 = i64 p → K2 e S := by
        intro e S q hq g44 g45 g48 g53 g54 g55 g56
        refine hK2 _ _ ?_
        clear hK2
        have pT := p_told14 (k := ((k + 1 : Nat) : Int)) (p := p) (hq.wf (by omega) (by decide)) wx w1 w2 wh
        unfold MM LL II at pT
        refine cj fun K hK => ?_
        have ft := And.intro g44 (And.intro g45 (And.intro g48 (And.intro g53 (And.intro g54 (And.intro g55 g56)))))
        exact Wk
      clear hK2
      have ft := And.intro g3 (And.intro g4 (And.intro g5 (And.intro g6 (And.intro g7 (And.intro q2 (And.intro s0 (And.intro q1 hr1)))))))
      repeat' (first | with_reducible refine pv_seq fun K hK => ?_ | ((with_reducible first | refine hK _ _ ?_ | (clear hK; refine hK _ _ ?_) | (clear hK; clear hK; refine hK _ _ ?_)); clear hK; try clear K) | refine W ?_ | exact Z | with_reducible intro b | with_reducible refine And.intro ?_ ?_ | (refine p_dPoly (n := r + 1) (most := 3) (deg := 4) (i := j4 + 1) (by simp -implicitDefEqProofs only [updS_apply, if_true, eq_self]; try rfl) hb (by omega) (by omega) (by omega) (by decide) (by decide) fun q j5 hq l5 => ?_) | exact J2 _ _ q hq Zr Z Z Z Z Z Z)
  clear q0
  obtain ⟨I, mk, el⟩ := hide fun e S => ∃ (t j : Nat) (xs : List (List Iv)), t ≤ r + 1 ∧ xs.length = t ∧ (∀ l ∈ xs, l.length ≤ k + 2 ∧ ∀ a ∈ l, SmV 14 6 a) ∧ j ≤ 10 + 30 * t ∧ e 3 = .ptr (.r 0 0) b0 0 0 2 ∧ e 4 = i64 ((r + 1 : Nat) : Int) ∧ e 5 = i64 k ∧ e 6 = i64 p ∧ e 8 = i64 t ∧ S (.r 0 0) = some ⟨b0, 2, 0, [[W64 w, i64 j]]⟩ ∧ RowZ S (.l 35) 1 (e 7) (rS eL xs)
  repeat (first | with_reducible refine pv_seq fun K hK => ?_ | ((with_reducible first | refine hK _ _ ?_ | (clear hK; refine hK _ _ ?_) | (clear hK; clear hK; refine hK _ _ ?_)); clear hK; try clear K) | refine W0 ?_ | exact Z | with_reducible intro b)
  refine pv_loop I (fun e _ => r + 1 - (intD (e 8)).toNat) ?_ ?_
  · exact mk _ _ ⟨0, j1, [], Nat.zero_le _, rfl, fun l hl => (by cases hl), by omega, Zr, by rw [← hn1]; exact Zr, Zr, Zr, Zr, by simp only [updS_apply]; rfl, .inl ⟨Zr, rfl⟩⟩
  · intro e S hI
    obtain ⟨t, j, xs, ht, hx, hs, hj, g3, g4, g5, g6, g8, s0, hw⟩ := el e S hI
    clear el hI
    have ft := And.intro g3 (And.intro g4 (And.intro g5 (And.intro g6 g8)))
    repeat (first | with_reducible refine pv_seq fun K hK => ?_ | ((with_reducible first | refine hK _ _ ?_ | (clear hK; refine hK _ _ ?_) | (clear hK; clear hK; refine hK _ _ ?_)); clear hK; try clear K) | refine W0 ?_ | exact Z | with_reducible intro b)
    refine pv_cdD (fun ht1 => ?_) (fun ht1 => ?_)
    · have htl : t < r + 1 := by omega
      repeat (first | with_reducible refine pv_seq fun K hK => ?_ | ((with_reducible first | refine hK _ _ ?_ | (clear hK; refine hK _ _ ?_) | (clear hK; clear hK; refine hK _ _ ?_)); clear hK; try clear K) | refine W0 ?_ | exact Z | with_reducible intro b)
      refine p_dN (n := 2) (i := j) s0 hb (by omega) (by decide) (by decide) (fun c hc => ?_)
      repeat (first | with_reducible refine pv_seq fun K hK => ?_ | ((with_reducible first | refine hK _ _ ?_ | (clear hK; refine hK _ _ ?_) | (clear hK; clear hK; refine hK _ _ ?_)); clear hK; try clear K) | refine W0 ?_ | exact Z | with_reducible intro b)
      refine p_dSmallBox (n := k + 1 + c) (i := j + 1) (by simp -implicitDefEqProofs only [updS_apply, if_true, eq_self]; try rfl) hb (by omega) (by omega) (fun a j2 la sa l2 => ?_)
      unfold II
      have hnew := rS_l (l := xs) (a := a)
      repeat (first | with_reducible refine pv_seq fun K hK => ?_ | ((with_reducible first | refine hK _ _ ?_ | (clear hK; refine hK _ _ ?_) | (clear hK; clear hK; refine hK _ _ ?_)); clear hK; try clear K) | refine W0 ?_ | exact Z | with_reducible intro b)
      refine RowZ.appL (hw.up ?_) (by decide) rfl (by simp [D.one]) ?_ ?_ fun d' S3 hr3 hS3 => ?_
      · simp only [updS_apply, reduceCtorEq, if_false]
      · rw [rS_len]; simp only [List.length_singleton]; omega
      · rw [rS_len]; simp only [List.length_singleton]; omega
      repeat (first | with_reducible refine pv_seq fun K hK => ?_ | ((with_reducible first | refine hK _ _ ?_ | (clear hK; refine hK _ _ ?_) | (clear hK; clear hK; refine hK _ _ ?_)); clear hK; try clear K) | refine W0 ?_ | exact Z | with_reducible intro b)
      refine ⟨mk _ _ ⟨t + 1, j2, xs ++ [a], by omega, by simp [hx], fun l hl => ?_, by omega, Zr, Zr, Zr, Zr, Zr, ?_, by rw [← hnew]; exact hr3⟩, by simp only [intD]; omega⟩
      · rcases List.mem_append.1 hl with h | h
        · exact hs l h
        · rw [List.mem_singleton.1 h]; exact ⟨by omega, sa⟩
      · rw [hS3 _ (by decide)]; simp only [updS_apply]; rfl
    · obtain rfl : t = r + 1 := by omega
      have ft := And.intro g3 (And.intro g4 (And.intro g5 (And.intro g8 g6)))
      repeat (first | with_reducible refine pv_seq fun K hK => ?_ | ((with_reducible first | refine hK _ _ ?_ | (clear hK; refine hK _ _ ?_) | (clear hK; clear hK; refine hK _ _ ?_)); clear hK; try clear K) | refine W0 ?_ | exact Z | with_reducible intro b)
      refine hC _ _ (Recast.rowSlot 7 hw.toD fun S' hk' => ?_)
      exact J _ _ j xs hx hs (by omega) g3 g4 g5 g6 rfl (by rw [hk' _ (by decide)]; exact s0)
end Go.V

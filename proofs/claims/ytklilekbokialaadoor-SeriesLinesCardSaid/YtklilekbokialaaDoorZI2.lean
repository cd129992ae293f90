/- The document's polynomials of monomials over values as data; the seat's deck: powers, monomials, polynomials. Plain laws: a polynomial of the series that is time itself has its own coefficients. The statement SeriesLines of layer 14. -/
import Derived.Test.YtklilekbokialaaDoorZI1
set_option linter.unusedSimpArgs false
set_option linter.unusedVariables false
set_option maxRecDepth 100000
namespace Go.V
open Go Go.RowKit Go.Proofs
def qT16_15_9 : List (Nat × Nat) := [(0, 0), (1, 0), (2, 0), (3, 0), (4, 0), (5, 1), (7, 0), (8, 0), (9, 0), (10, 0), (11, 2), (6, 4), (12, 0), (13, 3), (14, 3), (15, 0)]
attribute [go_sem] qT16_15_9
theorem rS_t {l : List Te} {t : Te} : rS eT l ++ [[bl (fS t.v), W32 (D32 (fN t.v)), i64 (fE t.v), .g (eS eZ t.e)]] = rS eT (l ++ [t]) := by rw [← rS_app]; rfl
theorem allM_no {q : List Mo} {n : Int} {i : Nat} (hi : i < q.length) (h : monoB (gM q i) n = false) : allM q n = false := decide_eq_false fun h2 => by rw [h2 _ (gM_mem hi)] at h; cases h
theorem allM_yes {q : List Mo} {n : Int} (h : ∀ i, i < q.length → monoB (gM q i) n = true) : allM q n = true := decide_eq_true fun m hm => by
  obtain ⟨i, hi⟩ := List.mem_iff_getElem?.1 hm
  have hil : i < q.length := (List.getElem?_eq_some_iff.1 hi).1
  have := h i hil
  rw [gM_at hil] at hi
  injection hi with hi
  rwa [hi] at this
theorem monoB_right {m : Mo} {n : Int} (h : monoB m n = true) : rightB m.c = true := by
  unfold monoB at h
  rw [Bool.and_eq_true] at h
  exact h.2
set_option maxHeartbeats 2000000 in
theorem p_rPMake {q : List Mo} {n : Int} (hq : WfM q) (hl : q.length ≤ 10000) : PC Tryd.prog 15 [MM q, i64 n] fun d => d = LM (pmkR q n) := by
  unfold MM
  by_cases h1 : 1 ≤ n
  · by_cases h4 : n ≤ 4
    · have k1 : (n < 1) = False := eq_false (by omega)
      have k2 : (4 < n) = False := eq_false (by omega)
      generalize hr : pmkR q n = r
      have hno : allM q n = false → r = ([], 1) := fun h => by rw [← hr]; unfold pmkR; rw [h, Bool.and_false]; rfl
      have hyes : allM q n = true → r = gathR (q.map teM) := fun h => by rw [← hr]; unfold pmkR; rw [h, decide_eq_true h1, decide_eq_true h4]; rfl
      clear hr
      have d1 := @dl 9 qT16_15_9
      refine PB (rs := [.tmp 4, .tmp 5]) Tryd.func15 ?_
      have ft := And.intro k1 k2
      repeat (first | with_reducible refine pv_seq fun K hK => ?_ | ((with_reducible first | refine hK _ _ ?_ | (clear hK; refine hK _ _ ?_) | (clear hK; clear hK; refine hK _ _ ?_)); clear hK; try clear K) | refine W0 ?_ | exact Z | with_reducible intro b)
      have J : ∀ (e : DEnv) (S : Store), (∀ j, j < q.length → monoB (gM q j) n = true) → RowZ S (.l 41) 4 (e 6) (rS eT (q.map teM)) → K e S := by
        intro e S hz hw
        have hry := hyes (allM_yes hz)
        have pG := p_gather (l := q.map teM) (M := 135168) (Q := 65536) (by rw [List.length_map]; omega) (fun t ht => by
          obtain ⟨m, hm, rfl⟩ := List.mem_map.1 ht
          obtain ⟨i, hi⟩ := List.mem_iff_getElem?.1 hm
          have hil : i < q.length := (List.getElem?_eq_some_iff.1 hi).1
          have h5 := hz i hil
          rw [gM_at hil] at hi
          injection hi with hi
          rw [hi] at h5
          obtain ⟨d, hd, e⟩ := right_is (hq.w m hm).c.b (monoB_right h5)
          show Sm _ _ m.c.val
          rw [e, val_nuOf]
          exact okD_sm hd) (fun t ht => by
          obtain ⟨m, hm, rfl⟩ := List.mem_map.1 ht
          exact (hq.w m hm).n) (by rw [List.length_map]; omega)
        rw [← hry] at pG
        unfold TT LM at pG
        obtain ⟨r1, r2⟩ := r
        have ft := true_and
        repeat (first | with_reducible refine pv_seq fun K hK => ?_ | ((with_reducible first | refine hK _ _ ?_ | (clear hK; refine hK _ _ ?_) | (clear hK; clear hK; refine hK _ _ ?_)); clear hK; try clear K) | refine W0 ?_ | exact Z | with_reducible intro b)
        refine PFC.coe ?_
        refine hw.toD.coe1 fun S' _ _ => ?_
        exact Wk
      clear hK
      obtain ⟨I, mk, el⟩ := hide fun e S => ∃ i : Nat, i ≤ q.length ∧ e 0 = .g (eS eM q) ∧ e 1 = i64 n ∧ e 7 = i64 i ∧ (∀ j, j < i → monoB (gM q j) n = true) ∧ RowZ S (.l 41) 4 (e 6) (rS eT ((q.take i).map teM))
      refine pv_loop I (fun e _ => q.length - (intD (e 7)).toNat) ?_ ?_
      · have ft := true_and
        exact mk _ _ ⟨0, Nat.zero_le _, Zr, Zr, Zr, fun j hj => by omega, .inl ⟨Zr, rfl⟩⟩
      · intro e S hI
        obtain ⟨i, hi, g0, g1, g7, hz, hw⟩ := el e S hI
        clear el hI
        have ft := And.intro g0 (And.intro g1 g7)
        repeat (first | with_reducible refine pv_seq fun K hK => ?_ | ((with_reducible first | refine hK _ _ ?_ | (clear hK; refine hK _ _ ?_) | (clear hK; clear hK; refine hK _ _ ?_)); clear hK; try clear K) | refine W0 ?_ | exact Z | with_reducible intro b)
        refine pv_cdD (fun ht => ?_) (fun ht => ?_)
        · have hil : i < q.length := by omega
          have q1 := gM_at hil
          have wm := hq.at_ hil
          have pM := p_rMono (n := n) wm h4
          have hno := fun h => hno (allM_no hil h)
          have hz2 : monoB (gM q i) n = true → ∀ j, j < i + 1 → monoB (gM q j) n = true := fun h j hj => by
            rcases Nat.lt_or_ge j i with h1 | h1
            · exact hz j h1
            · obtain rfl : j = i := by omega
              exact h
          have hrt := fun (h : monoB (gM q i) n = true) => right_is wm.c.b (monoB_right h)
          have htk : (q.take (i + 1)).map teM = (q.take i).map teM ++ [teM (gM q i)] := by rw [List.take_add_one, q1, List.map_append]; rfl
          have hlt : ((q.take i).map teM).length = i := by rw [List.length_map, List.length_take]; omega
          clear hyes J
          generalize monoB (gM q i) n = t at *
          generalize gM q i = m at *
          obtain ⟨⟨n1, e1, w1⟩, z⟩ := m
          cases t
          · have h := hno rfl
            subst h
            have ft := And.intro g0 (And.intro g1 (And.intro g7 q1))
            exact Wk
          · obtain ⟨d, hd, hc⟩ := hrt rfl
            have pO := p_rOf hd
            simp only at hc
            rw [← hc] at pO
            have hv : teM ⟨⟨n1, e1, w1⟩, z⟩ = ⟨d, z⟩ := by unfold teM; simp only; rw [hc, val_nuOf]
            rw [hv] at htk
            have hnew := rS_t (l := (q.take i).map teM) (t := ⟨d, z⟩)
            unfold VA at pO
            simp only at hnew
            have ft := And.intro g0 (And.intro g1 (And.intro g7 q1))
            repeat' (first | with_reducible refine pv_seq fun K hK => ?_ | ((with_reducible first | refine hK _ _ ?_ | (clear hK; refine hK _ _ ?_) | (clear hK; clear hK; refine hK _ _ ?_)); clear hK; try clear K) | refine W ?_ | exact Z | with_reducible intro b | with_reducible refine And.intro ?_ ?_ | (refine RowZ.appL (hw.up (by rfl)) (by decide) rfl (by simp [D.one, W32]) ?_ ?_ fun d' S' hr' hS' => ?_))
            all_goals first | (rw [rS_len, hlt]; omega) | (simp only [intD]; omega) | exact mk _ _ ⟨i + 1, by omega, Zr, Zr, Zr, hz2 rfl, by rw [htk, ← hnew]; exact hr'⟩
        · obtain rfl : i = q.length := by omega
          rw [List.take_length] at hw
          repeat (first | with_reducible refine pv_seq fun K hK => ?_ | ((with_reducible first | refine hK _ _ ?_ | (clear hK; refine hK _ _ ?_) | (clear hK; clear hK; refine hK _ _ ?_)); clear hK; try clear K) | refine W0 ?_ | exact Z | with_reducible intro b)
          exact J _ _ hz hw
    · have k1 : (n < 1) = False := eq_false (by omega)
      have k2 : (4 < n) = True := eq_true (by omega)
      have hr : pmkR q n = ([], 1) := by unfold pmkR; rw [decide_eq_false h4, Bool.and_false]; rfl
      rw [hr]
      have d1 := @dl 9 qT16_15_9
      refine PB (rs := [.tmp 4, .tmp 5]) Tryd.func15 ?_
      have ft := And.intro k1 k2
      exact Wk
  · have k1 : (n < 1) = True := eq_true (by omega)
    have hr : pmkR q n = ([], 1) := by unfold pmkR; rw [decide_eq_false h1]; rfl
    rw [hr]
    have d1 := @dl 9 qT16_15_9
    refine PB (rs := [.tmp 4, .tmp 5]) Tryd.func15 ?_
    have ft := k1
    exact Wk

/-! ### The deck -/
theorem rZ_at {z : List Int} {k : Nat} (h : k < z.length) : (rS eZ z)[k]? = some [i64 (z.getD k 0)] := by
  rw [rS_get, zget h]; rfl
theorem rZ_set {z : List Int} {k : Nat} {x : Int} : (rS eZ z).set k [i64 x] = rS eZ (z.set k x) := by
  unfold rS gl
  rw [List.map_set, List.map_set]; rfl
theorem rZ_rep {n : Nat} : List.replicate n [i64 0] = rS eZ (List.replicate n 0) := by
  unfold rS gl
  rw [List.map_replicate, List.map_replicate]; rfl
theorem sum_inc : ∀ {z : List Int} {k : Nat}, k < z.length → (z.set k (z.getD k 0 + 1)).sum = z.sum + 1
  | x :: z, 0, _ => by show (x + 1) + z.sum = x + z.sum + 1; omega
  | x :: z, k + 1, h => by
    have := sum_inc (z := z) (k := k) (by simpa using h)
    show x + (z.set k (z.getD k 0 + 1)).sum = x + z.sum + 1
    omega
theorem nn_inc {z : List Int} {k : Nat} (hk : k < z.length) (h : ∀ x ∈ z, 0 ≤ x) : ∀ x ∈ z.set k (z.getD k 0 + 1), 0 ≤ x := fun x hx => by
  rcases List.mem_or_eq_of_mem_set hx with h1 | h1
  · exact h x h1
  · have := h _ (List.mem_of_getElem? (zget hk)); omega
/-- Powers of n variables, together deg at most. -/
structure Pw (n deg : Nat) (z : List Int) : Prop where
  len : z.length = n
  nn : ∀ x ∈ z, 0 ≤ x
  sum : z.sum ≤ deg
set_option maxHeartbeats 2000000 in
theorem p_dPowers {k : Nm} {S : Store} {Q : D → Store → Prop} {bd i n deg : Nat} {w : List Nat} (hS : S k = some ⟨bd, 2, 0, [[W64 w, i64 i]]⟩) (hb : B64 w) (hi : i ≤ 700000000) (h1 : 1 ≤ n) (h4 : n ≤ 4) (h8 : deg ≤ 8)
    (hQ : ∀ (z : List Int) (j : Nat), Pw n deg z → j ≤ i + 9 → Q (.g (eS eZ z)) (updS S k (some ⟨bd, 2, 0, [[W64 w, i64 j]]⟩))) :
    PFC Tryd.prog 35 [.ptr k bd 0 0 2, i64 n, i64 deg] S Q := by
  refine PFB (rs := [.tmp 6]) Tryd.func35 ?_
  repeat (first | with_reducible refine pv_seq fun K hK => ?_ | ((with_reducible first | refine hK _ _ ?_ | (clear hK; refine hK _ _ ?_) | (clear hK; clear hK; refine hK _ _ ?_)); clear hK; try clear K) | refine W0 ?_ | exact Z | with_reducible intro b)
  refine p_dN (n := deg + 1) (i := i) (by simp -implicitDefEqProofs only [updS, upS]; exact hS) hb (by omega) (by omega) (by omega) (fun r hr => ?_)
  repeat (first | with_reducible refine pv_seq fun K hK => ?_ | ((with_reducible first | refine hK _ _ ?_ | (clear hK; refine hK _ _ ?_) | (clear hK; clear hK; refine hK _ _ ?_)); clear hK; try clear K) | refine W0 ?_ | exact Z | with_reducible intro b)
  have J : ∀ (e : DEnv) (T : Store) (z : List Int) (j b7 : Nat), Pw n deg z → j ≤ i + 9 → e 7 = .own (.l 10) b7 0 n n 1 → T (.l 10) = some ⟨b7, 1, 0, rS eZ z⟩ → Dk S k T (some ⟨bd, 2, 0, [[W64 w, i64 j]]⟩) → K e T := by
    intro e T z j b7 hz hj g7 s7 hd
    have hw : RowD T (.l 10) 1 (e 7) (rS eZ z) := by rw [g7]; exact RowD.own (by rw [rS_len, hz.len]) s7
    repeat (first | with_reducible refine pv_seq fun K hK => ?_ | ((with_reducible first | refine hK _ _ ?_ | (clear hK; refine hK _ _ ?_) | (clear hK; clear hK; refine hK _ _ ?_)); clear hK; try clear K) | refine W0 ?_ | exact Z | with_reducible intro b)
    exact hw.coeD fun T2 _ hT2 => by rw [(hd.of hT2).dn]; exact hQ z j hz hj
  clear hK
  obtain ⟨I, mk, el⟩ := hide fun e T => ∃ (t j b7 : Nat) (z : List Int), t + z.sum.toNat ≤ deg ∧ z.length = n ∧ (∀ x ∈ z, 0 ≤ x) ∧ 0 ≤ z.sum ∧ j ≤ i + 1 + z.sum.toNat ∧ e 0 = .ptr (.up k) bd 0 0 2 ∧ e 1 = i64 n ∧ e 8 = i64 t ∧ e 7 = .own (.l 10) b7 0 n n 1 ∧ T (.l 10) = some ⟨b7, 1, 0, rS eZ z⟩ ∧ Dk S k T (some ⟨bd, 2, 0, [[W64 w, i64 j]]⟩)
  refine pv_loop I (fun e _ => (intD (e 8)).toNat) ?_ ?_
  · have hsum : (List.replicate n (0 : Int)).sum = 0 := by simp
    refine mk _ _ ⟨r, i + 1, _, List.replicate n 0, by rw [hsum]; simp; omega, by simp, fun x hx => by rw [(List.mem_replicate.1 hx).2]; decide, by rw [hsum]; decide, by omega, Zr, Zr, Zr, Zr, ?_, ?_⟩
    · rw [← rZ_rep]; simp only [updS_apply]; rfl
    · exact ((Dk.up hS).l).set
  · intro e T hI
    obtain ⟨t, j, b7, z, htz, hzl, hnn, hs0, hj, g0, g1, g8, g7, s7, hd⟩ := el e T hI
    clear el hI
    have ft := And.intro g0 (And.intro g1 (And.intro g8 g7))
    repeat (first | with_reducible refine pv_seq fun K hK => ?_ | ((with_reducible first | refine hK _ _ ?_ | (clear hK; refine hK _ _ ?_) | (clear hK; clear hK; refine hK _ _ ?_)); clear hK; try clear K) | refine W0 ?_ | exact Z | with_reducible intro b)
    refine pv_cdD (fun ht => ?_) (fun ht => ?_)
    · obtain ⟨t, rfl⟩ : ∃ t2, t = t2 + 1 := ⟨t - 1, by omega⟩
      have hm0 : (intD (e 8)).toNat = t + 1 := by rw [g8]; exact Int.toNat_natCast _
      repeat (first | with_reducible refine pv_seq fun K hK => ?_ | ((with_reducible first | refine hK _ _ ?_ | (clear hK; refine hK _ _ ?_) | (clear hK; clear hK; refine hK _ _ ?_)); clear hK; try clear K) | refine W0 ?_ | exact Z | with_reducible intro b)
      refine p_dN (n := n) hd.at_ hb (by omega) (by omega) (by omega) (fun c hc => ?_)
      have q1 := rZ_at (z := z) (k := c) (by omega)
      have hset := rZ_set (z := z) (k := c) (x := z.getD c 0 + 1)
      have hsi := sum_inc (z := z) (k := c) (by omega)
      have hni := nn_inc (z := z) (k := c) (by omega) hnn
      have hsub : (((t + 1 : Nat) : Int) - 1) = (t : Int) := by omega
      have hx8 : z.getD c 0 ≤ 8 := by
        have := le_sum hnn c (by omega)
        omega
      have hx0 : 0 ≤ z.getD c 0 := hnn _ (List.mem_of_getElem? (zget (by omega)))
      generalize z.getD c 0 = x at *
      have hc2 : (c : Int).toNat = c := by omega
      have ft := And.intro g0 (And.intro g1 (And.intro g8 (And.intro g7 (And.intro s7 (And.intro q1 hsub)))))
      repeat (first | with_reducible refine pv_seq fun K hK => ?_ | ((with_reducible first | refine hK _ _ ?_ | (clear hK; refine hK _ _ ?_) | (clear hK; clear hK; refine hK _ _ ?_)); clear hK; try clear K) | refine W0 ?_ | exact Z | with_reducible intro b)
      exact ⟨mk _ _ ⟨t, j + 1, b7, z.set c (x + 1), by rw [hsi]; omega, by rw [List.length_set]; exact hzl, hni, by rw [hsi]; omega, by rw [hsi]; omega, Zr, Zr, Zr, Zr, by rw [← hset]; simp only [updS_apply]; rfl, (hd.set).l⟩, by simp only [intD]; omega⟩
    · obtain rfl : t = 0 := by omega
      have ft := And.intro g0 (And.intro g1 (And.intro g7 g8))
      repeat (first | with_reducible refine pv_seq fun K hK => ?_ | ((with_reducible first | refine hK _ _ ?_ | (clear hK; refine hK _ _ ?_) | (clear hK; clear hK; refine hK _ _ ?_)); clear hK; try clear K) | refine W0 ?_ | exact Z | with_reducible intro b)
      exact J _ _ z j b7 ⟨hzl, hnn, by omega⟩ (by omega) g7 s7 hd

/-- Monomials that the deck draws. -/
structure DrM (n deg : Nat) (m : Mo) : Prop where
  c : ∃ d, m.c = nuOf d ∧ Sm 14 6 d
  e : Pw n deg m.e
theorem DrM.wm {n deg : Nat} {m : Mo} (h : DrM n deg m) (hn : n ≤ 100000) : Wm m := by
  obtain ⟨d, hd, hs⟩ := h.c
  exact ⟨by rw [hd]; exact ((hs.ok (by decide) (by decide)).sz).wl, by rw [h.e.len]; exact hn⟩
set_option maxHeartbeats 2000000 in
theorem p_dMonos {k : Nm} {S : Store} {Q : D → Store → Prop} {bd i n most deg : Nat} {w : List Nat} (hS : S k = some ⟨bd, 2, 0, [[W64 w, i64 i]]⟩) (hb : B64 w) (hi : i ≤ 500000000) (h1 : 1 ≤ n) (h4 : n ≤ 4) (h8 : deg ≤ 8) (hm : most ≤ 1000)
    (hQ : ∀ (q : List Mo) (j : Nat), q.length ≤ most → (∀ m ∈ q, DrM n deg m) → j ≤ i + 1 + 10 * most → Q (MM q) (updS S k (some ⟨bd, 2, 0, [[W64 w, i64 j]]⟩))) :
    PFC Tryd.prog 16 [.ptr k bd 0 0 2, i64 n, i64 most, i64 deg] S Q := by
  refine PFB (rs := [.tmp 8]) Tryd.func16 ?_
  repeat (first | with_reducible refine pv_seq fun K hK => ?_ | ((with_reducible first | refine hK _ _ ?_ | (clear hK; refine hK _ _ ?_) | (clear hK; clear hK; refine hK _ _ ?_)); clear hK; try clear K) | refine W0 ?_ | exact Z | with_reducible intro b)
  refine p_dN (n := most + 1) (i := i) (by simp -implicitDefEqProofs only [updS, upS]; exact hS) hb (by omega) (by omega) (by omega) (fun r hr => ?_)
  repeat (first | with_reducible refine pv_seq fun K hK => ?_ | ((with_reducible first | refine hK _ _ ?_ | (clear hK; refine hK _ _ ?_) | (clear hK; clear hK; refine hK _ _ ?_)); clear hK; try clear K) | refine W0 ?_ | exact Z | with_reducible intro b)
  have J : ∀ (e : DEnv) (T : Store) (q : List Mo) (j : Nat), q.length ≤ most → (∀ m ∈ q, DrM n deg m) → j ≤ i + 1 + 10 * most → RowZ T (.l 28) 4 (e 9) (rS eM q) → Dk S k T (some ⟨bd, 2, 0, [[W64 w, i64 j]]⟩) → K e T := by
    intro e T q j hq hd hj hw hk
    repeat (first | with_reducible refine pv_seq fun K hK => ?_ | ((with_reducible first | refine hK _ _ ?_ | (clear hK; refine hK _ _ ?_) | (clear hK; clear hK; refine hK _ _ ?_)); clear hK; try clear K) | refine W0 ?_ | exact Z | with_reducible intro b)
    exact hw.toD.coeD fun T2 _ hT2 => by rw [(hk.of hT2).dn]; exact hQ q j hq hd hj
  clear hK
  obtain ⟨I, mk, el⟩ := hide fun e T => ∃ (t j : Nat) (q : List Mo), t + q.length ≤ most ∧ (∀ m ∈ q, DrM n deg m) ∧ j ≤ i + 1 + 10 * q.length ∧ e 0 = .ptr (.up k) bd 0 0 2 ∧ e 1 = i64 n ∧ e 3 = i64 deg ∧ e 10 = i64 t ∧ RowZ T (.l 28) 4 (e 9) (rS eM q) ∧ Dk S k T (some ⟨bd, 2, 0, [[W64 w, i64 j]]⟩)
  refine pv_loop I (fun e _ => (intD (e 10)).toNat) ?_ ?_
  · exact mk _ _ ⟨r, i + 1, [], by simp; omega, fun m hm => (by cases hm), by simp, Zr, Zr, Zr, Zr, .inl ⟨Zr, rfl⟩, (Dk.up hS).set⟩
  · intro e T hI
    obtain ⟨t, j, q, htq, hd, hj, g0, g1, g3, g10, hw, hk⟩ := el e T hI
    clear el hI
    have ft := And.intro g0 (And.intro g1 (And.intro g3 g10))
    repeat (first | with_reducible refine pv_seq fun K hK => ?_ | ((with_reducible first | refine hK _ _ ?_ | (clear hK; refine hK _ _ ?_) | (clear hK; clear hK; refine hK _ _ ?_)); clear hK; try clear K) | refine W0 ?_ | exact Z | with_reducible intro b)
    refine pv_cdD (fun ht => ?_) (fun ht => ?_)
    · obtain ⟨t, rfl⟩ : ∃ t2, t = t2 + 1 := ⟨t - 1, by omega⟩
      have hsub : (((t + 1 : Nat) : Int) - 1) = (t : Int) := by omega
      have ft := And.intro g0 (And.intro g1 (And.intro g10 (And.intro g3 hsub)))
      repeat (first | with_reducible refine pv_seq fun K hK => ?_ | ((with_reducible first | refine hK _ _ ?_ | (clear hK; refine hK _ _ ?_) | (clear hK; clear hK; refine hK _ _ ?_)); clear hK; try clear K) | refine W0 ?_ | exact Z | with_reducible intro b)
      refine p_smallD hk.at_ hb (by omega) fun x sx _ => ?_
      repeat (first | with_reducible refine pv_seq fun K hK => ?_ | ((with_reducible first | refine hK _ _ ?_ | (clear hK; refine hK _ _ ?_) | (clear hK; clear hK; refine hK _ _ ?_)); clear hK; try clear K) | refine W0 ?_ | exact Z | with_reducible intro b)
      refine p_dPowers (i := j + 1) (n := n) (deg := deg) (by (try simp -implicitDefEqProofs only [updS_apply, if_true, eq_self]); try rfl) hb (by omega) h1 h4 h8 fun z j2 hz hj2 => ?_
      have hnew := rS_m (l := q) (m := ⟨nuOf x, z⟩)
      have hdr : DrM n deg ⟨nuOf x, z⟩ := ⟨⟨x, rfl, sx⟩, hz⟩
      simp only at hnew
      generalize nuOf x = X at *
      obtain ⟨n1, e1, w1⟩ := X
      repeat (first | with_reducible refine pv_seq fun K hK => ?_ | ((with_reducible first | refine hK _ _ ?_ | (clear hK; refine hK _ _ ?_) | (clear hK; clear hK; refine hK _ _ ?_)); clear hK; try clear K) | refine W0 ?_ | exact Z | with_reducible intro b)
      refine RowZ.appL (hw.up ?_) (by decide) rfl (by simp [D.one, W64]) ?_ ?_ fun d' S3 hr3 hS3 => ?_
      · simp only [updS_apply, reduceCtorEq, if_false]
      · rw [rS_len]; simp only [List.length_singleton]; omega
      · rw [rS_len]; simp only [List.length_singleton]; omega
      repeat (first | with_reducible refine pv_seq fun K hK => ?_ | ((with_reducible first | refine hK _ _ ?_ | (clear hK; refine hK _ _ ?_) | (clear hK; clear hK; refine hK _ _ ?_)); clear hK; try clear K) | refine W0 ?_ | exact Z | with_reducible intro b)
      refine ⟨mk _ _ ⟨t, j2, q ++ [⟨⟨n1, e1, w1⟩, z⟩], by simp; omega, fun m hm => ?_, by simp; omega, Zr, Zr, Zr, Zr, by rw [← hnew]; exact hr3, ?_⟩, by simp only [intD]; omega⟩
      · rcases List.mem_append.1 hm with h | h
        · exact hd m h
        · rw [List.mem_singleton.1 h]; exact hdr
      · exact ((hk.set.set).l).of hS3
    · obtain rfl : t = 0 := by omega
      repeat (first | with_reducible refine pv_seq fun K hK => ?_ | ((with_reducible first | refine hK _ _ ?_ | (clear hK; refine hK _ _ ?_) | (clear hK; clear hK; refine hK _ _ ?_)); clear hK; try clear K) | refine W0 ?_ | exact Z | with_reducible intro b)
      exact J _ _ q j (by omega) hd (by omega) hw hk

/-- A polynomial that the deck draws. -/
structure DrP (n most deg : Nat) (q : List Mo) : Prop where
  right : polyB q (n : Int) = true
  len : q.length ≤ most
  c : ∀ m ∈ q, ∃ d, m.c = nuOf d ∧ d ≠ 0 ∧ Sm (14 + most) 6 d
  e : ∀ m ∈ q, Pw n deg m.e
theorem DrP.wf {n most deg : Nat} {q : List Mo} (h : DrP n most deg q) (hn : n ≤ 100000) (hm : most ≤ 1000) : WfM q := ⟨by have := h.len; omega, fun m hm2 => by
  obtain ⟨d, hd, _, hs⟩ := h.c m hm2
  exact ⟨by rw [hd]; exact (((hs.ok2 (by omega) (by decide))).sz).wl, by rw [(h.e m hm2).len]; exact hn⟩⟩
theorem drP_of {n most deg : Nat} {q : List Mo} (h1 : 1 ≤ n) (h4 : n ≤ 4) (h8 : deg ≤ 8) (hm : most ≤ 24) (hl : q.length ≤ most) (h : ∀ m ∈ q, DrM n deg m) : ∃ p, pmkR q (n : Int) = (p, 0) ∧ DrP n most deg p := by
  have hall : allM q (n : Int) = true := decide_eq_true fun m hm => by
    obtain ⟨d, hd, hs⟩ := (h m hm).c
    have he := (h m hm).e
    unfold monoB
    have hsum := he.sum
    rw [decide_eq_true (show ((m.e.length : Nat) : Int) = n by rw [he.len]), decide_eq_true he.nn, decide_eq_true (show m.e.sum ≤ 8 by omega), hd, rightB_nuOf, decide_eq_true (hs.ok (by decide) (by decide))]; rfl
  have hv : ∀ t ∈ q.map teM, Sm 14 6 t.v := fun t ht => by
    obtain ⟨m, hm, rfl⟩ := List.mem_map.1 ht
    obtain ⟨d, hd, hs⟩ := (h m hm).c
    show Sm 14 6 m.c.val
    rw [hd, val_nuOf]; exact hs
  have he : ∀ t ∈ q.map teM, Pw n deg t.e := fun t ht => by
    obtain ⟨m, hm, rfl⟩ := List.mem_map.1 ht
    exact (h m hm).e
  have hlm : (q.map teM).length = q.length := List.length_map _
  have hsm := gathN_sm hv (q.map teM).length (Nat.le_refl _)
  have hel := gathN_all (P := Pw n deg) he (q.map teM).length (Nat.le_refl _)
  have hsm2 : ∀ y ∈ gathN (q.map teM) (q.map teM).length, Sm (14 + most) 6 y.v := fun y hy => (hsm y hy).mono (by omega)
  have hlen := gathN_len (q.map teM) (q.map teM).length
  obtain ⟨p, e1, e2, e3⟩ := gathR_ok (n := n) (l := q.map teM) h1 h4 (by omega) (fun t ht => ⟨(he t ht).len, (he t ht).nn, by have := (he t ht).sum; omega⟩) (fun y hy => (hsm2 y hy).ok2 (by omega) (by decide))
  refine ⟨p, ?_, e3, ?_, ?_, ?_⟩
  · unfold pmkR
    rw [hall, decide_eq_true (show (1 : Int) ≤ n by omega), decide_eq_true (show (n : Int) ≤ 4 by omega)]
    exact e1
  · rw [e2, List.length_map]
    exact Nat.le_trans (List.length_filter_le _ _) (by omega)
  · intro m hm
    rw [e2] at hm
    obtain ⟨t, ht, rfl⟩ := List.mem_map.1 hm
    obtain ⟨ht, h0⟩ := List.mem_filter.1 ht
    exact ⟨t.v, rfl, of_decide_eq_true h0, hsm2 t ht⟩
  · intro m hm
    rw [e2] at hm
    obtain ⟨t, ht, rfl⟩ := List.mem_map.1 hm
    exact hel t (List.mem_filter.1 ht).1
set_option maxHeartbeats 1000000 in
theorem p_dPoly {k : Nm} {S : Store} {Q : D → Store → Prop} {bd i n most deg : Nat} {w : List Nat} (hS : S k = some ⟨bd, 2, 0, [[W64 w, i64 i]]⟩) (hb : B64 w) (hi : i ≤ 500000000) (h1 : 1 ≤ n) (h4 : n ≤ 4) (h8 : deg ≤ 8) (hm : most ≤ 24)
    (hQ : ∀ (q : List Mo) (j : Nat), DrP n most deg q → j ≤ i + 1 + 10 * most → Q (MM q) (updS S k (some ⟨bd, 2, 0, [[W64 w, i64 j]]⟩))) :
    PFC Tryd.prog 7 [.ptr k bd 0 0 2, i64 n, i64 most, i64 deg] S Q := by
  refine PFB (rs := [.tmp 8]) Tryd.func7 ?_
  repeat (first | with_reducible refine pv_seq fun K hK => ?_ | ((with_reducible first | refine hK _ _ ?_ | (clear hK; refine hK _ _ ?_) | (clear hK; clear hK; refine hK _ _ ?_)); clear hK; try clear K) | refine W0 ?_ | exact Z | with_reducible intro b)
  refine p_dMonos (i := i) (n := n) (most := most) (deg := deg) (by simp -implicitDefEqProofs only [updS, upS]; exact hS) hb hi h1 h4 h8 (by omega) fun q j hq hd hj => ?_
  have pM := p_rPMake (n := (n : Int)) (q := q) ⟨by omega, fun m hm => (hd m hm).wm (by omega)⟩ (by omega)
  obtain ⟨p, e1, e2⟩ := drP_of h1 h4 h8 hm hq hd
  rw [e1] at pM
  have hq2 := hQ p j e2 hj
  unfold MM LM at *
  repeat (first | with_reducible refine pv_seq fun K hK => ?_ | ((with_reducible first | refine hK _ _ ?_ | (clear hK; refine hK _ _ ?_) | (clear hK; clear hK; refine hK _ _ ?_)); clear hK; try clear K) | refine W ?_ | exact Z | with_reducible intro b)
  exact hq2
end Go.V
namespace Go.V
open Go Go.RowKit Go.Proofs

theorem sumD_one {j : Nat} {c : Dyadic} : ∀ n, sumD (fun i => if i = j then c else 0) n = if j < n then c else 0
  | 0 => rfl
  | n + 1 => by
    show sumD _ n + (if n = j then c else 0) = _
    rw [sumD_one n]
    by_cases h1 : j < n
    · rw [if_pos h1, if_neg (by omega), if_pos (by omega)]; grind
    · rw [if_neg h1]
      by_cases h2 : n = j
      · rw [if_pos h2, if_pos (by omega)]; grind
      · rw [if_neg h2, if_neg (by omega)]; grind
/-- A series with one coefficient. -/
def oneAt (j : Nat) (d : Dyadic) (i : Nat) : Dyadic := if i = j then d else 0
theorem oneAt_sm {k q j i : Nat} {d : Dyadic} (h : Sm k q d) : Sm k q (oneAt j d i) := by
  unfold oneAt; split
  · exact h
  · exact Sm.zero
theorem conv_one {j n : Nat} {d : Dyadic} : convD (oneAt j d) (oneAt 1 1) n = oneAt (j + 1) d n := by
  unfold convD
  rw [sumD_congr (g := fun i => if i = j then (if n = j + 1 then d else 0) else 0) (n + 1) (fun i hi => by
    unfold oneAt
    by_cases h1 : i = j
    · rw [if_pos h1, if_pos h1]
      by_cases h2 : n = j + 1
      · rw [if_pos (by omega), if_pos h2]; grind
      · rw [if_neg (by omega), if_neg h2]; grind
    · rw [if_neg h1, if_neg h1]; grind), sumD_one]
  unfold oneAt
  by_cases h2 : n = j + 1
  · rw [if_pos (by omega), if_pos h2]
  · rw [if_neg h2]; split <;> rfl
theorem Pts.to {k q m r n : Nat} {a : List Iv} {x y : Nat → Dyadic} (h : Pts k q n a x) (he : ∀ i, x i = y i) (hs : ∀ i, Sm m r (y i)) : Pts m r n a y := ⟨h.len, fun i hi => by rw [← he]; exact h.at_ i hi, fun i _ => hs i⟩
/-- Time itself. -/
def tS : List Iv := [iv0, ⟨kO, kO⟩, iv0, iv0, iv0, iv0, iv0, iv0]
theorem pts_t {n : Nat} (hn : n ≤ 7) : Pts 1 0 n tS (oneAt 1 1) := by
  refine ⟨by show n < 8; omega, fun i hi => ?_, fun i hi => oneAt_sm Sm.one⟩
  have h0 : iv0 = pt 0 := pt0
  have h1 : (⟨kO, kO⟩ : Iv) = pt 1 := by rw [kO_eq]; rfl
  match i, (show i < 8 by omega) with
  | 0, _ => exact h0
  | 1, _ => exact h1
  | 2, _ => exact h0
  | 3, _ => exact h0
  | 4, _ => exact h0
  | 5, _ => exact h0
  | 6, _ => exact h0
  | 7, _ => exact h0
theorem mulS_t {p n : Nat} {d : Dyadic} (hd : Sm 18 6 d) (h40 : 40 ≤ p) (h256 : p ≤ 256) (hn : n ≤ 7) : ∀ j, ∃ l, mulS (p : Int) tS n (onS (nuOf d) n) j = (l, 0) ∧ Pts 18 6 n l (oneAt j d)
  | 0 => ⟨_, rfl, (on_pts hd).to (fun i => rfl) (fun i => oneAt_sm hd)⟩
  | j + 1 => by
    obtain ⟨l, e, h⟩ := mulS_t hd h40 h256 hn j
    obtain ⟨l2, e2, h2⟩ := times_pt (p := p) h (pts_t hn) (by omega) h256 (by omega) (by omega) (by omega)
    refine ⟨l2, ?_, h2.to (fun i => conv_one) (fun i => oneAt_sm hd)⟩
    rw [mulS_succ (by rw [e]), e]
    exact e2
theorem over_t {p n : Nat} {d : Dyadic} {m : Mo} (hc : m.c = nuOf d) (hd : Sm 18 6 d) (hl : m.e.length = 1) (h40 : 40 ≤ p) (h256 : p ≤ 256) (hn : n ≤ 7) : (overR (p : Int) [tS] n m).2 = 0 ∧ gI (overR (p : Int) [tS] n m).1 n = pt (oneAt (m.e.getD 0 0).toNat d n) := by
  obtain ⟨l, e, h⟩ := mulS_t hd h40 h256 hn (m.e.getD 0 0).toNat
  have u : overR (p : Int) [tS] n m = (l, 0) := by
    unfold overR
    rw [hl, hc]
    exact e
  rw [u]
  exact ⟨rfl, h.at_ n (by omega)⟩
/-- What the statement wants. -/
def wantI (q : List Mo) (n : Nat) : Nat → Iv
  | 0 => iv0
  | i + 1 => if (gM q i).e.getD 0 0 = (n : Int) then ⟨(gM q i).c, (gM q i).c⟩ else wantI q n i
theorem wantI_0 {q : List Mo} {n : Nat} : ∀ i, (∀ j, j < i → (gM q j).e.getD 0 0 ≠ (n : Int)) → wantI q n i = iv0
  | 0 => fun _ => rfl
  | i + 1 => fun h => by
    rw [wantI, if_neg (h i (by omega))]
    exact wantI_0 i fun j hj => h j (by omega)
theorem cmp_one {a b : List Int} (ha : a.length = 1) (hb : b.length = 1) (h : cmpE a b < 0) : a.getD 0 0 < b.getD 0 0 := by
  obtain ⟨x, rfl⟩ := List.length_eq_one_iff.1 ha
  obtain ⟨y, rfl⟩ := List.length_eq_one_iff.1 hb
  show x < y
  unfold cmpE at h
  split at h
  · assumption
  · split at h
    · omega
    · exact absurd h (by unfold cmpE; omega)
theorem dec_one {q : List Mo} (hq : DrP 1 4 6 q) {i : Nat} : ∀ d, i + d < q.length → 0 < d → (gM q (i + d)).e.getD 0 0 < (gM q i).e.getD 0 0
  | 0 => fun _ h => by omega
  | d + 1 => fun h _ => by
    have ha := (poly_at hq.right (i := i + (d + 1)) h).2.2 (by omega)
    have l1 := (hq.e _ (gM_mem (l := q) (i := i + (d + 1)) h)).len
    have l2 := (hq.e _ (gM_mem (l := q) (i := i + d) (by omega))).len
    rw [show i + (d + 1) - 1 = i + d by omega] at ha
    have h1 := cmp_one l1 l2 ha
    by_cases h0 : d = 0
    · subst h0; exact h1
    · have := dec_one hq (i := i) d (by omega) (by omega)
      omega
theorem ofN_t {p n : Nat} {q : List Mo} (hq : DrP 1 4 6 q) (h40 : 40 ≤ p) (h256 : p ≤ 256) (hn : n ≤ 7) : ∀ i, i ≤ q.length → ofN (p : Int) q [tS] n i = (wantI q n i, 0) ∧ ∃ d, wantI q n i = pt d ∧ Sm 18 6 d
  | 0 => fun _ => ⟨rfl, 0, pt0, Sm.zero⟩
  | i + 1 => fun hi => by
    obtain ⟨e, d, ed, sd⟩ := ofN_t hq h40 h256 hn i (by omega)
    have hm := gM_mem (l := q) (i := i) (by omega)
    obtain ⟨c, hc, _, sc⟩ := hq.c _ hm
    have pw := hq.e _ hm
    obtain ⟨o1, o2⟩ := over_t (p := p) (n := n) hc sc pw.len h40 h256 hn
    have hz := zget (l := (gM q i).e) (i := 0) (by rw [pw.len]; decide)
    have h0 : 0 ≤ (gM q i).e.getD 0 0 := pw.nn _ (List.mem_of_getElem? hz)
    rw [ofN_succ (by rw [e]), if_pos o1, e, o2, wantI]
    by_cases hk : (gM q i).e.getD 0 0 = (n : Int)
    · have hw := wantI_0 (q := q) (n := n) i fun j hj => by
        have := dec_one hq (i := j) (i - j) (by omega) (by omega)
        rw [show j + (i - j) = i by omega] at this
        omega
      rw [if_pos hk, hw, hc]
      have e1 : oneAt ((gM q i).e.getD 0 0).toNat c n = c := by unfold oneAt; rw [if_pos (by omega)]
      have e2 : addI (p : Int) (pt 0) (pt c) = (pt (0 + c), 0) := addI_pt (p := p) (k := 18) (q := 6) Sm.zero sc (by omega) h256 (by omega) (by omega)
      rw [e1, pt0]
      refine ⟨?_, c, rfl, sc⟩
      rw [e2, show (0 : Dyadic) + c = c by grind]; rfl
    · rw [if_neg hk, ed]
      have e1 : oneAt ((gM q i).e.getD 0 0).toNat c n = 0 := by unfold oneAt; rw [if_neg (by omega)]
      have e2 : addI (p : Int) (pt d) (pt 0) = (pt (d + 0), 0) := addI_pt (p := p) (k := 18) (q := 6) sd Sm.zero (by omega) h256 (by omega) (by omega)
      rw [e1]
      refine ⟨?_, d, rfl, sd⟩
      rw [e2, show d + (0 : Dyadic) = d by grind]
theorem ofR_t {p n : Nat} {q : List Mo} (hq : DrP 1 4 6 q) (h40 : 40 ≤ p) (h256 : p ≤ 256) (hn : n ≤ 6) : ofR (p : Int) q [tS] (n : Int) = (wantI q n q.length, 0) := by
  have hr : decide (∀ x ∈ [tS], rightTo x (n : Int).toNat = true) = true := decide_eq_true fun x hx => by
    rw [List.mem_singleton.1 hx, Int.toNat_natCast]
    exact (pts_t (n := n) (by omega)).right (Nat.le_refl _) (by decide) (by decide)
  unfold ofR okK
  rw [hr, show (([tS] : List (List Iv)).length : Int) = ((1 : Nat) : Int) from rfl, hq.right, okP_of (show 8 ≤ p by omega) h256, decide_eq_true (by omega), decide_eq_true (by omega), Int.toNat_natCast]
  exact (ofN_t hq h40 h256 (by omega) q.length (Nat.le_refl _)).1
theorem wantI_w {n : Nat} {q : List Mo} (hq : DrP 1 4 6 q) (hn : n ≤ 6) {i : Nat} (hi : i ≤ q.length) : Wi 65536 (wantI q n i) := by
  obtain ⟨_, d, e, s⟩ := ofN_t (p := 40) hq (by decide) (by decide) (show n ≤ 7 by omega) i hi
  rw [e]
  exact wi_D (s.ok2 (by decide) (by decide)) (s.ok2 (by decide) (by decide))
end Go.V
namespace Go.V
open Go Go.RowKit Go.Proofs

theorem Recast.z6i {N : DEnv → Store → Prop} {e : DEnv} {S : Store} {k : Nm} {b p : Nat} {els : List (List D)} (i : Nat) (hk : S k = some ⟨b, 6, p, els⟩) (hi : els[i]? = some V.z6) (h : N e (updS S k (some ⟨b, 6, p, els.set i (cI iv0)⟩))) : Recast N e S := by
  have hl : i < els.length := (List.getElem?_eq_some_iff.1 hi).1
  refine Recast.join (Recast.cell (i := i) (j := 2) (es := V.z6) (d := .nil) (d' := W64 []) hk hi rfl (fun I H v hv => nil_row hv) ?_)
  refine Recast.cell (i := i) (j := 5) (es := V.z6.set 2 (W64 [])) (d := .nil) (d' := W64 []) updS_at (by rw [List.getElem?_set_self hl]) rfl (fun I H v hv => nil_row hv) ?_
  rw [updS_updS, List.set_set]; exact h
theorem same_yes {a : Iv} (h : Wi 65536 a) : PC Tryd.prog 10 [IV a, IV a] fun d => d = bl true := by
  have p := p_SameI (a := a) (b := a) (by have := h.lo.len; omega) (by have := h.hi.len; omega)
  rw [decide_eq_true rfl, decide_eq_true rfl] at p
  exact p
theorem wf_t : WfL tS := ⟨by decide, fun x hx => by
  obtain ⟨i, hi⟩ := List.getElem?_of_mem hx
  have h8 : i < 8 := (List.getElem?_eq_some_iff.1 hi).1
  have hg : gI tS i = x := by simp [gI, List.getD, hi]
  have h := pts_t (n := 7) (Nat.le_refl _)
  rw [← hg, h.at_ i h8]
  have o := (h.sm i h8).ok2 (by decide) (by decide)
  exact wi_D o o⟩
set_option maxHeartbeats 8000000 in
theorem p_SeriesLines {w : List Nat} (hb : B64 w) : PC Tryd.prog 3 [W64 w] fun d => d = bl true := by
  have pK := p_known14
  have pA := p_OfI (x := kO) (by decide)
  unfold kO at pA
  refine PB (rs := [.tmp 2]) Tryd.func3 ?_
  repeat (first | with_reducible refine pv_seq fun K hK => ?_ | ((with_reducible first | refine hK _ _ ?_ | (clear hK; refine hK _ _ ?_) | (clear hK; clear hK; refine hK _ _ ?_)); clear hK; try clear K) | refine W ?_ | exact Z | with_reducible intro b)
  refine p_Of (fun b0 => ?_)
  repeat (first | with_reducible refine pv_seq fun K hK => ?_ | ((with_reducible first | refine hK _ _ ?_ | (clear hK; refine hK _ _ ?_) | (clear hK; clear hK; refine hK _ _ ?_)); clear hK; try clear K) | refine W0 ?_ | exact Z | with_reducible intro b)
  refine p_dPrec (i := 0) (by simp -implicitDefEqProofs only [updS, upS, if_true]; rfl) hb (by omega) (fun p0 j1 h8 h256 l1 => ?_)
  obtain ⟨p, hp, h40, hp256⟩ : ∃ p : Nat, (if (p0 : Int) < 40 then (40 : Int) else (p0 : Int)) = (p : Int) ∧ 40 ≤ p ∧ p ≤ 256 := by
    by_cases h : (p0 : Int) < 40
    · exact ⟨40, by rw [if_pos h]; rfl, by omega, by omega⟩
    · exact ⟨p0, by rw [if_neg h], by omega, by omega⟩
  have ft := hp
  repeat (first | with_reducible refine pv_seq fun K hK => ?_ | ((with_reducible first | refine hK _ _ ?_ | (clear hK; refine hK _ _ ?_) | (clear hK; clear hK; refine hK _ _ ?_)); clear hK; try clear K) | refine W0 ?_ | exact Z | with_reducible intro b)
  refine p_dPoly (n := 1) (most := 4) (deg := 6) (i := j1) (by simp -implicitDefEqProofs only [updS, upS, if_true]; rfl) hb (by omega) (by decide) (by decide) (by decide) (by decide) fun q j5 hq l5 => ?_
  unfold MM
  repeat (first | with_reducible refine pv_stop 8 ?_ | with_reducible refine pv_seq fun K hK => ?_ | ((with_reducible first | refine hK _ _ ?_ | (clear hK; refine hK _ _ ?_) | (clear hK; clear hK; refine hK _ _ ?_)); clear hK; try clear K) | refine W ?_ | exact Z | with_reducible intro b)
  refine ⟨rfl, by decide, by decide, by decide, fun b7 => ?_⟩
  rw [show (8 : Int).toNat = 8 from rfl]
  repeat (first | with_reducible refine pv_stop 8 ?_ | with_reducible refine pv_seq fun K hK => ?_ | ((with_reducible first | refine hK _ _ ?_ | (clear hK; refine hK _ _ ?_) | (clear hK; clear hK; refine hK _ _ ?_)); clear hK; try clear K) | refine W ?_ | exact Z | with_reducible intro b)
  refine ⟨fun K q0 hC => ?_⟩
  repeat (first | with_reducible refine pv_seq fun K hK => ?_ | ((with_reducible first | refine hK _ _ ?_ | (clear hK; refine hK _ _ ?_) | (clear hK; clear hK; refine hK _ _ ?_)); clear hK; try clear K) | refine W0 ?_ | exact Z | with_reducible intro b)
  refine hC _ _ (Recast.join (Recast.z6i 0 (k := .l 25) rfl rfl ?_))
  refine Recast.join (Recast.z6i 2 (k := .l 25) updS_at rfl ?_)
  refine Recast.join (Recast.z6i 3 (k := .l 25) updS_at rfl ?_)
  refine Recast.join (Recast.z6i 4 (k := .l 25) updS_at rfl ?_)
  refine Recast.join (Recast.z6i 5 (k := .l 25) updS_at rfl ?_)
  refine Recast.join (Recast.z6i 6 (k := .l 25) updS_at rfl ?_)
  refine Recast.join (Recast.z6i 7 (k := .l 25) updS_at rfl ?_)
  refine Recast.frzSlot 7 (k := .l 25) rfl updS_at (gs := tS.map eI) rfl (by decide) ?_
  rw [show G.sl (tS.map eI) = eS eI tS from rfl]
  generalize updS _ (Nm.l 25) _ = S1
  have wq := hq.wf (by decide) (by decide)
  have hx1 : WfX [tS] := ⟨by decide, fun l hl => by rw [List.mem_singleton.1 hl]; exact wf_t⟩
  obtain ⟨I, mk, el⟩ := hide fun e S => ∃ (k : Nat), k ≤ 7 ∧ e 4 = i64 p ∧ e 5 = .g (eS eM q) ∧ e 7 = .g (eS eI tS) ∧ e 8 = i64 k
  refine q0 _ _ ?_
  clear q0 hC pA pK
  have ft := true_and
  repeat (first | with_reducible refine pv_seq fun K hK => ?_ | ((with_reducible first | refine hK _ _ ?_ | (clear hK; refine hK _ _ ?_) | (clear hK; clear hK; refine hK _ _ ?_)); clear hK; try clear K) | refine W0 ?_ | exact Z | with_reducible intro b)
  refine pv_loop I (fun e _ => 7 - (intD (e 8)).toNat) ?_ ?_
  · exact mk _ _ ⟨0, by decide, Zr, Zr, Zr, Zr⟩
  · intro e S hI
    obtain ⟨k, hk, g4, g5, g7, g8⟩ := el e S hI
    clear el hI
    have ft := And.intro g4 (And.intro g5 (And.intro g7 g8))
    repeat (first | with_reducible refine pv_seq fun K hK => ?_ | ((with_reducible first | refine hK _ _ ?_ | (clear hK; refine hK _ _ ?_) | (clear hK; clear hK; refine hK _ _ ?_)); clear hK; try clear K) | refine W0 ?_ | exact Z | with_reducible intro b)
    refine pv_cdD (fun ht => ?_) (fun ht => ?_)
    · have hk6 : k ≤ 6 := by omega
      have hm0 : (intD (e 8)).toNat = k := by rw [g8]; exact Int.toNat_natCast k
      have pD := p_sOf (k := (k : Int)) (p := (p : Int)) wq hx1
      rw [ofR_t hq h40 hp256 hk6] at pD
      have wc := wantI_w hq hk6 (Nat.le_refl q.length)
      have pS := same_yes wc
      have hwant : ∀ i, wantI q k (i + 1) = if (gM q i).e.getD 0 0 = (k : Int) then ⟨(gM q i).c, (gM q i).c⟩ else wantI q k i := fun _ => rfl
      have hw0 : wantI q k 0 = iv0 := rfl
      generalize wantI q k = ww at *
      unfold MM LL at pD
      repeat (first | with_reducible refine pv_stop 13 ?_ | with_reducible refine pv_seq fun K hK => ?_ | ((with_reducible first | refine hK _ _ ?_ | (clear hK; refine hK _ _ ?_) | (clear hK; clear hK; refine hK _ _ ?_)); clear hK; try clear K) | refine W ?_ | exact Z | with_reducible intro b)
      refine ⟨fun K q0 hC => ?_⟩
      repeat (first | with_reducible refine pv_seq fun K hK => ?_ | ((with_reducible first | refine hK _ _ ?_ | (clear hK; refine hK _ _ ?_) | (clear hK; clear hK; refine hK _ _ ?_)); clear hK; try clear K) | refine W0 ?_ | exact Z | with_reducible intro b)
      refine hC _ _ (Recast.z6 (k := .l 11) rfl ?_)
      refine q0 _ _ ?_
      clear q0 hC pD
      obtain ⟨I2, mk2, el2⟩ := hide fun e S => ∃ (i b9 b11 : Nat), i ≤ q.length ∧ e 4 = i64 p ∧ e 5 = .g (eS eM q) ∧ e 7 = .g (eS eI tS) ∧ e 8 = i64 k ∧ e 9 = .ptr (.l 9) b9 0 0 6 ∧ e 10 = i64 0 ∧ e 11 = .ptr (.l 11) b11 0 0 6 ∧ e 12 = i64 i ∧ S (.l 9) = some ⟨b9, 6, 0, [cI (ww q.length)]⟩ ∧ S (.l 11) = some ⟨b11, 6, 0, [cI (ww i)]⟩
      repeat (first | with_reducible refine pv_seq fun K hK => ?_ | ((with_reducible first | refine hK _ _ ?_ | (clear hK; refine hK _ _ ?_) | (clear hK; clear hK; refine hK _ _ ?_)); clear hK; try clear K) | refine W0 ?_ | exact Z | with_reducible intro b)
      refine pv_loop I2 (fun e _ => q.length - (intD (e 12)).toNat) ?_ ?_
      · exact mk2 _ _ ⟨0, _, _, Nat.zero_le _, Zr, Zr, Zr, Zr, Zr, Zr, Zr, Zr, by simp only [updS_apply]; rfl, by rw [hw0]; simp only [updS_apply]; rfl⟩
      · intro e S hI
        obtain ⟨i, b9, b11, hi, g4, g5, g7, g8, g9, g10, g11, g12, s9, s11⟩ := el2 e S hI
        clear el2 hI
        have ft := And.intro g4 (And.intro g5 (And.intro g7 (And.intro g8 (And.intro g9 (And.intro g10 (And.intro g11 g12))))))
        repeat (first | with_reducible refine pv_seq fun K hK => ?_ | ((with_reducible first | refine hK _ _ ?_ | (clear hK; refine hK _ _ ?_) | (clear hK; clear hK; refine hK _ _ ?_)); clear hK; try clear K) | refine W0 ?_ | exact Z | with_reducible intro b)
        refine pv_cdD (fun ht2 => ?_) (fun ht2 => ?_)
        · have hil : i < q.length := by omega
          have hql := hq.len
          have q1 := gM_at hil
          have hm := gM_mem hil
          have pw := hq.e _ hm
          have wm := wq.w _ hm
          have pO := p_OfI (x := (gM q i).c) (by have := wm.c.len; omega)
          have q2 := zget (l := (gM q i).e) (i := 0) (by rw [pw.len]; decide)
          have hw1 := hwant i
          have hzl := pw.len
          have mk3 : ∀ (e : DEnv) (S : Store), e 4 = i64 p → e 5 = .g (eS eM q) → e 7 = .g (eS eI tS) → e 8 = i64 k → e 9 = .ptr (.l 9) b9 0 0 6 → e 10 = i64 0 → e 11 = .ptr (.l 11) b11 0 0 6 → e 12 = i64 ((i + 1 : Nat) : Int) → S (.l 9) = some ⟨b9, 6, 0, [cI (ww q.length)]⟩ → S (.l 11) = some ⟨b11, 6, 0, [cI (ww (i + 1))]⟩ → I2 e S := fun e S a1 a2 a3 a4 a5 a6 a7 a8 a9 a10 => mk2 e S ⟨i + 1, b9, b11, by omega, a1, a2, a3, a4, a5, a6, a7, a8, a9, a10⟩
          clear mk2 hwant pw wm hm
          generalize ww (i + 1) = w1 at *
          generalize ww i = w0 at *
          generalize gM q i = m at *
          obtain ⟨⟨nm, em, vm⟩, zm⟩ := m
          simp only at q2 hw1 pO hzl
          generalize zm.getD 0 0 = x0 at *
          have ft := And.intro g4 (And.intro g5 (And.intro g7 (And.intro g8 (And.intro g9 (And.intro g10 (And.intro g11 (And.intro g12 (And.intro q1 q2))))))))
          repeat (first | with_reducible refine pv_seq fun K hK => ?_ | ((with_reducible first | refine hK _ _ ?_ | (clear hK; refine hK _ _ ?_) | (clear hK; clear hK; refine hK _ _ ?_)); clear hK; try clear K) | refine W0 ?_ | exact Z | with_reducible intro b)
          refine pv_cdD (fun ht3 => ?_) (fun ht3 => ?_)
          · rw [if_pos ht3] at hw1
            subst hw1
            unfold cI at s11
            have ft := And.intro g4 (And.intro g5 (And.intro g7 (And.intro g8 (And.intro g9 (And.intro g10 (And.intro g11 (And.intro g12 (And.intro q1 (And.intro q2 s11)))))))))
            repeat (first | with_reducible refine pv_seq fun K hK => ?_ | ((with_reducible first | refine hK _ _ ?_ | (clear hK; refine hK _ _ ?_) | (clear hK; clear hK; refine hK _ _ ?_)); clear hK; try clear K) | refine W ?_ | exact Z | with_reducible intro b)
            refine ⟨mk3 _ _ Zr Zr Zr Zr Zr Zr Zr Zr (by simp only [updS_apply]; exact s9) (by simp only [updS_apply]; rfl), by simp only [intD]; omega⟩
          · rw [if_neg ht3] at hw1
            subst hw1
            have ft := And.intro g5 (And.intro g4 (And.intro g7 (And.intro g8 (And.intro g9 (And.intro g10 (And.intro g11 (And.intro g12 (And.intro q1 q2))))))))
            repeat (first | with_reducible refine pv_seq fun K hK => ?_ | ((with_reducible first | refine hK _ _ ?_ | (clear hK; refine hK _ _ ?_) | (clear hK; clear hK; refine hK _ _ ?_)); clear hK; try clear K) | refine W0 ?_ | exact Z | with_reducible intro b)
            refine ⟨mk3 _ _ Zr Zr Zr Zr Zr Zr Zr Zr s9 s11, by simp only [intD]; omega⟩
        · obtain rfl : i = q.length := by omega
          clear mk2 hwant
          generalize ww q.length = c at *
          obtain ⟨⟨n1, e1, z1⟩, ⟨n2, e2, z2⟩⟩ := c
          unfold cI at s9 s11
          simp only at s9 s11
          have ft := And.intro g4 (And.intro g5 (And.intro g7 (And.intro g8 (And.intro g9 (And.intro g10 (And.intro g11 (And.intro g12 (And.intro s9 s11))))))))
          repeat (first | with_reducible refine pv_seq fun K hK => ?_ | ((with_reducible first | refine hK _ _ ?_ | (clear hK; refine hK _ _ ?_) | (clear hK; clear hK; refine hK _ _ ?_)); clear hK; try clear K) | refine W ?_ | exact Z | with_reducible intro b)
          refine ⟨mk _ _ ⟨k + 1, by omega, Zr, Zr, Zr, Zr⟩, by rw [hm0]; simp only [intD]; omega⟩
    · have ft := And.intro g4 (And.intro g7 (And.intro g5 g8))
      exact Wk
end Go.V

/- The statement's own known intervals of layer 5. The statement's own known intervals of layer 5: the walk. -/
import Derived.Test.YtkjjmhdlcebnnaaGreatDoorZIE
import Derived.Test.YtkjjmhdlcebnnaaGreatDoorZIC
set_option linter.unusedSimpArgs false
set_option linter.unusedVariables false
set_option maxRecDepth 100000
namespace Go.V
open Go Go.RowKit Go.Proofs

theorem kRd {up s : Bool} {n : Nat} {e : Int} (hn : bitLen n ≤ 16) : rd 16 up (dy s n e) = dy s n e := by
  rw [rd_dy]; unfold rdM; exact if_pos hn
theorem kNu {s : Bool} {n : Nat} {e : Int} (ho : n % 2 = 1) (hn : n < 18446744073709551616) (h1 : -60000 ≤ e) (h2 : e ≤ 60000) : nuOf (dy s n e) = ⟨s, e, [n]⟩ := ((w1 ho hn h1 h2).1).symm
theorem kNr {s : Bool} {n : Nat} {e : Int} (ho : n % 2 = 1) (hn : n < 18446744073709551616) (h1 : -60000 ≤ e) (h2 : e ≤ 60000) : numR (dy s n e) = (⟨s, e, [n]⟩, 0) := by
  rw [numR_ok (w1 ho hn h1 h2).2.1, kNu ho hn h1 h2]
theorem kOut {l h : Dyadic} {s t : Bool} {n m : Nat} {e f : Int} (hl : l = dy s n e) (hh : h = dy t m f) (bn : bitLen n ≤ 16) (bm : bitLen m ≤ 16) (ho : n % 2 = 1) (hn : n < 18446744073709551616) (h1 : -60000 ≤ e) (h2 : e ≤ 60000) (ho' : m % 2 = 1) (hn' : m < 18446744073709551616) (h1' : -60000 ≤ f) (h2' : f ≤ 60000) :
    outR 16 l h = (⟨⟨s, e, [n]⟩, ⟨t, f, [m]⟩⟩, 0) := by
  subst hl hh
  unfold outR
  rw [kRd bn, kRd bm, kNr ho hn h1 h2, kNr ho' hn' h1' h2']; rfl
def kA : Iv := ⟨⟨true, 0, [1]⟩, ⟨false, 1, [1]⟩⟩
def kB : Iv := ⟨⟨false, 0, [3]⟩, ⟨false, 2, [1]⟩⟩
theorem kA_eq : kA = ivD (dy true 1 0) (dy false 1 1) := by unfold kA ivD; rw [kNu (by decide) (by decide) (by decide) (by decide), kNu (by decide) (by decide) (by decide) (by decide)]
theorem kB_eq : kB = ivD (dy false 3 0) (dy false 1 2) := by unfold kB ivD; rw [kNu (by decide) (by decide) (by decide) (by decide), kNu (by decide) (by decide) (by decide) (by decide)]
theorem kOk {s : Bool} {n : Nat} {e : Int} (ho : n % 2 = 1) (hn : n < 18446744073709551616) (h1 : -60000 ≤ e) (h2 : e ≤ 60000) : OkD (dy s n e) := (w1 ho hn h1 h2).2.1
theorem kA_r : rightI kA = true := by rw [kA_eq, rightI_D (kOk (by decide) (by decide) (by decide) (by decide)) (kOk (by decide) (by decide) (by decide) (by decide))]; decide
theorem kB_r : rightI kB = true := by rw [kB_eq, rightI_D (kOk (by decide) (by decide) (by decide) (by decide)) (kOk (by decide) (by decide) (by decide) (by decide))]; decide
theorem kA_w : Wi 65536 kA := by rw [kA_eq]; exact wi_D (kOk (by decide) (by decide) (by decide) (by decide)) (kOk (by decide) (by decide) (by decide) (by decide))
theorem kB_w : Wi 65536 kB := by rw [kB_eq]; exact wi_D (kOk (by decide) (by decide) (by decide) (by decide)) (kOk (by decide) (by decide) (by decide) (by decide))
theorem kA1 : kA.lo.val = dy true 1 0 := by rw [kA_eq]; exact val_nuOf _
theorem kA2 : kA.hi.val = dy false 1 1 := by rw [kA_eq]; exact val_nuOf _
theorem kB1 : kB.lo.val = dy false 3 0 := by rw [kB_eq]; exact val_nuOf _
theorem kB2 : kB.hi.val = dy false 1 2 := by rw [kB_eq]; exact val_nuOf _
theorem k16 : okP 16 = true := by decide
theorem k_mul : opI kA kB 16 (minP kA.lo.val kA.hi.val kB.lo.val kB.hi.val) (maxP kA.lo.val kA.hi.val kB.lo.val kB.hi.val) = (⟨⟨true, 2, [1]⟩, ⟨false, 3, [1]⟩⟩, 0) := by
  unfold opI
  rw [kA_r, kB_r, k16, kA1, kA2, kB1, kB2]
  exact kOut (by decide +kernel) (by decide +kernel) (by decide) (by decide) (by decide) (by decide) (by decide) (by decide) (by decide) (by decide) (by decide) (by decide)
theorem k_add : opI kA kB 16 (kA.lo.val + kB.lo.val) (kA.hi.val + kB.hi.val) = (⟨⟨false, 1, [1]⟩, ⟨false, 1, [3]⟩⟩, 0) := by
  unfold opI
  rw [kA_r, kB_r, k16, kA1, kA2, kB1, kB2]
  exact kOut (by decide +kernel) (by decide +kernel) (by decide) (by decide) (by decide) (by decide) (by decide) (by decide) (by decide) (by decide) (by decide) (by decide)
theorem k_sub : opI kB kA 16 (kB.lo.val - kA.hi.val) (kB.hi.val - kA.lo.val) = (⟨⟨false, 0, [1]⟩, ⟨false, 0, [5]⟩⟩, 0) := by
  unfold opI
  rw [kA_r, kB_r, k16, kA1, kA2, kB1, kB2]
  exact kOut (by decide +kernel) (by decide +kernel) (by decide) (by decide) (by decide) (by decide) (by decide) (by decide) (by decide) (by decide) (by decide) (by decide)
theorem k_div : dvI kB kA 16 = (iv0, 3) := by
  unfold dvI
  rw [kA_r, kB_r, k16, kA1, kA2, if_pos (by decide), if_pos (by decide)]
theorem k_pow : pwI kA 2 16 = (⟨nu0, ⟨false, 2, [1]⟩⟩, 0) := by
  unfold pwI
  rw [kA_r, k16, kA1, kA2, if_pos (by decide)]
  unfold outR
  rw [show loP (dy true 1 0) (dy false 1 1) (2 : Int).toNat = 0 by decide +kernel, show hiP (dy true 1 0) (dy false 1 1) (2 : Int).toNat = dy false 1 2 by decide +kernel, show (16 : Int).toNat = 16 from rfl, kRd (by decide), kNr (by decide) (by decide) (by decide) (by decide), rd_zero, numR_zero]
  rfl
theorem k_mid : mdI kB 16 = (⟨false, -1, [7]⟩, 0) := by
  unfold mdI
  rw [kB_r, k16, kB1, kB2, if_pos (by decide), show hfD (dy false 3 0 + dy false 1 2) = dy false 7 (-1) by decide +kernel, show (16 : Int).toNat = 16 from rfl, kRd (by decide), show hiD (dy false 3 0) (dy false 7 (-1)) = dy false 7 (-1) by decide +kernel]
  exact kNr (by decide) (by decide) (by decide) (by decide)
theorem k_neg : negI kA = ⟨⟨true, 1, [1]⟩, ⟨false, 0, [1]⟩⟩ := by
  unfold negI
  rw [if_pos kA_r, kA1, kA2, show - dy false 1 1 = dy true 1 1 by decide +kernel, show - dy true 1 0 = dy false 1 0 by decide +kernel]
  unfold ivD
  rw [kNu (by decide) (by decide) (by decide) (by decide), kNu (by decide) (by decide) (by decide) (by decide)]
theorem k_mag : magI kA = ⟨false, 1, [1]⟩ := by
  unfold magI
  rw [if_pos kA_r, kA1, kA2, show hiD (absD (dy true 1 0)) (absD (dy false 1 1)) = dy false 1 1 by decide +kernel, kNu (by decide) (by decide) (by decide) (by decide)]
end Go.V
namespace Go.V
open Go Go.RowKit Go.Proofs
def qI20_12_10 : List (Nat × Nat) := [(0, 0), (1, 0), (2, 0), (3, 0), (4, 0), (5, 0), (6, 0), (7, 0), (8, 0), (9, 0), (10, 0), (11, 0), (12, 0), (13, 0), (14, 0), (15, 0), (16, 0), (17, 0), (18, 0), (19, 0), (20, 0), (21, 0), (22, 0), (23, 0), (24, 0), (25, 0), (26, 0), (27, 0), (28, 0), (29, 0), (30, 0), (31, 0), (32, 0), (33, 1), (34, 0), (35, 0), (36, 0), (37, 0), (38, 1), (39, 0), (40, 0), (41, 0), (42, 0), (43, 0), (44, 1), (45, 0), (46, 0), (47, 0), (48, 0), (49, 1), (50, 3), (51, 0), (52, 0), (53, 0), (54, 0), (55, 1), (56, 0), (57, 0), (58, 0), (59, 1), (60, 1), (61, 3), (62, 0), (63, 0), (64, 1), (66, 2), (65, 4), (67, 3), (68, 0), (69, 0), (70, 1), (71, 1), (72, 3), (73, 0), (74, 0), (75, 0), (76, 1), (77, 3), (78, 0), (79, 0), (80, 0), (81, 1), (82, 0), (83, 0), (84, 0), (85, 0), (86, 2), (87, 4), (88, 3), (89, 0), (90, 0), (91, 1), (94, 2), (92, 4), (93, 4), (95, 3), (96, 0), (97, 0), (98, 1), (99, 3), (100, 0), (101, 0), (102, 0), (103, 0)]
attribute [go_sem] qI20_12_10
theorem k_wi {s t : Bool} {n m : Nat} {e f : Int} (ho : n % 2 = 1) (hn : n < 18446744073709551616) (h1 : -60000 ≤ e) (h2 : e ≤ 60000) (ho' : m % 2 = 1) (hn' : m < 18446744073709551616) (h1' : -60000 ≤ f) (h2' : f ≤ 60000) :
    (⟨⟨s, e, [n]⟩, ⟨t, f, [m]⟩⟩ : Iv) = ivD (dy s n e) (dy t m f) ∧ Wi 65536 ⟨⟨s, e, [n]⟩, ⟨t, f, [m]⟩⟩ := by
  have e1 : (⟨⟨s, e, [n]⟩, ⟨t, f, [m]⟩⟩ : Iv) = ivD (dy s n e) (dy t m f) := by unfold ivD; rw [kNu ho hn h1 h2, kNu ho' hn' h1' h2']
  refine ⟨e1, ?_⟩
  rw [e1]; exact wi_D (kOk ho hn h1 h2) (kOk ho' hn' h1' h2')
set_option maxHeartbeats 8000000 in
theorem p_known5 : PC Tryz.prog 12 [] fun d => d = bl true := by
  have pA := p_MakeI (x := kA.lo) (y := kA.hi) kA_w (by decide)
  rw [makeR, if_pos kA_r] at pA
  have pB := p_MakeI (x := kB.lo) (y := kB.hi) kB_w (by decide)
  rw [makeR, if_pos kB_r] at pB
  have pC := p_iMul (p := 16) kA_w kB_w; rw [k_mul] at pC
  have pD := p_iPow (k := 2) (p := 16) kA_w; rw [k_pow] at pD
  have pS := p_iAdd (p := 16) kA_w kB_w; rw [k_add] at pS
  have pT := p_iSub (p := 16) kB_w kA_w; rw [k_sub] at pT
  have pQ := p_iDiv (p := 16) kB_w kA_w; rw [k_div] at pQ
  have pM := p_iMid (p := 16) kB_w; rw [k_mid] at pM
  have pZ := p_hZero (x := nu0) (by decide)
  rw [decide_eq_true rfl] at pZ
  obtain ⟨es, ws⟩ := k_wi (s := false) (n := 1) (e := 1) (t := false) (m := 3) (f := 1) (by decide) (by decide) (by decide) (by decide) (by decide) (by decide) (by decide) (by decide)
  have pH := p_HasI (x := ⟨false, 0, [3]⟩) ws (by decide)
  rw [show hasR ⟨⟨false, 1, [1]⟩, ⟨false, 1, [3]⟩⟩ ⟨false, 0, [3]⟩ = true by
    unfold hasR
    rw [es, rightI_D (kOk (by decide) (by decide) (by decide) (by decide)) (kOk (by decide) (by decide) (by decide) (by decide)), (w1 (by decide) (by decide) (by decide) (by decide)).2.2.1, (w1 (by decide) (by decide) (by decide) (by decide)).2.2.2]
    unfold ivD
    rw [val_nuOf, val_nuOf]
    decide] at pH
  have pO := p_OfI (x := ⟨false, 0, [1]⟩) (by decide)
  obtain ⟨eo, wo⟩ := k_wi (s := false) (n := 1) (e := 0) (t := false) (m := 1) (f := 0) (by decide) (by decide) (by decide) (by decide) (by decide) (by decide) (by decide) (by decide)
  have pI := p_InI wo kA_w
  rw [show endsR ⟨⟨false, 0, [1]⟩, ⟨false, 0, [1]⟩⟩ kA 0 = true by
    unfold endsR
    rw [kA_r, kA1, kA2, eo, rightI_D (kOk (by decide) (by decide) (by decide) (by decide)) (kOk (by decide) (by decide) (by decide) (by decide))]
    unfold ivD
    rw [val_nuOf]
    decide] at pI
  have pJ := p_InsideI kA_w kA_w
  rw [show endsR kA kA 1 = false by unfold endsR; rw [kA_r, kA1, kA2]; decide] at pJ
  obtain ⟨et, wt⟩ := k_wi (s := false) (n := 1) (e := 0) (t := false) (m := 5) (f := 0) (by decide) (by decide) (by decide) (by decide) (by decide) (by decide) (by decide) (by decide)
  have pR := p_iRight wt
  rw [show rightI ⟨⟨false, 0, [1]⟩, ⟨false, 0, [5]⟩⟩ = true by rw [et, rightI_D (kOk (by decide) (by decide) (by decide) (by decide)) (kOk (by decide) (by decide) (by decide) (by decide))]; decide] at pR
  have pW := p_hWords (xs := [7]) (ys := [7]) (by decide) (by decide) (by decide) (by decide)
  rw [decide_eq_true rfl] at pW
  have pN := p_NegI kA_w; rw [k_neg] at pN
  obtain ⟨en, wn⟩ := k_wi (s := true) (n := 1) (e := 1) (t := false) (m := 1) (f := 0) (by decide) (by decide) (by decide) (by decide) (by decide) (by decide) (by decide) (by decide)
  have pN2 := p_NegI wn
  rw [show negI ⟨⟨true, 1, [1]⟩, ⟨false, 0, [1]⟩⟩ = kA by
    rw [en]
    unfold negI
    rw [rightI_D (kOk (by decide) (by decide) (by decide) (by decide)) (kOk (by decide) (by decide) (by decide) (by decide)), if_pos (by decide), kA_eq]
    unfold ivD
    rw [val_nuOf, val_nuOf, show - dy true 1 1 = dy false 1 1 by decide +kernel, show - dy false 1 0 = dy true 1 0 by decide +kernel]] at pN2
  have pE := p_SameI (a := kA) (b := kA) (by decide) (by decide)
  rw [decide_eq_true rfl, decide_eq_true rfl] at pE
  have pG := p_MagI kA_w; rw [k_mag] at pG
  unfold kA kB iv0 nu0 at *
  clear es ws eo wo et wt en wn
  have d1 := @df Tryz.prog 10 qI20_12_10
  refine PB (rs := [.tmp 0]) Tryz.func12 ?_
  exact Wk
end Go.V

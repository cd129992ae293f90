/- The statement's own known columns of layer 9. -/
import Derived.Test.YtolccagkfobbmaaGreatDoorJ6
set_option linter.unusedSimpArgs false
set_option linter.unusedVariables false
set_option maxRecDepth 100000
namespace Go.V
open Go Go.RowKit Go.Proofs

theorem f_tw1 (j : Int) : fS (tw j) = false ∧ fN (tw j) = 1 ∧ fE (tw j) = j := ⟨fS_odd (by decide), fN_odd (by decide), fE_odd (by decide)⟩
theorem ok_tw {j : Int} (h1 : -1000 ≤ j) (h2 : j ≤ 1000) : OkD (tw j) := OkD_word (by decide) (by omega) (by omega)
theorem okO_tw {j : Int} (h1 : -1000 ≤ j) (h2 : j ≤ 1000) : okO (tw j) = .ok (tw j) := okO_ok (ok_tw h1 h2)
theorem rd_tw {p : Nat} (hp : 1 ≤ p) (j : Int) : rd p false (tw j) = tw j := rd_fix (Pb.dy (Nat.one_lt_two_pow (by omega)))
theorem tw_mul (a b : Int) : tw a * tw b = tw (a + b) := by unfold tw; rw [dy_mul]; rfl
theorem tw_add (a : Int) : tw a + tw a = tw (a + 1) := by
  have h := dy_shl false 1 1 a
  unfold tw; rw [dy_add, ← show ((1 : Nat) : Int) = 1 from rfl, ← h]
theorem tw_sub (a : Int) : tw a - tw a = 0 := by grind
theorem abD_tw1 (j : Int) : abD (tw j) = tw j := by obtain ⟨_, h2, h3⟩ := f_tw1 j; unfold abD; rw [h2, h3]; rfl
theorem szD_tw1 (j : Int) : szD (tw j) = j + 1 := by obtain ⟨_, h2, h3⟩ := f_tw1 j; unfold szD; rw [h2, h3]; rfl
theorem tw_ne (j : Int) : tw j ≠ 0 := fun e => by have := tw_pos j; rw [e] at this; grind
theorem sc_tw {j : Int} (h1 : -400 ≤ j) (h2 : j ≤ 400) : scO (tw j) (-(j + 1)) = .ok (tw (-1)) := by
  unfold scO; rw [sc_mul, tw_mul, show j + -(j + 1) = -1 by omega]; exact okO_tw (by decide) (by decide)
theorem scaled_1 {j : Int} (h1 : -400 ≤ j) (h2 : j ≤ 400) : scaledR [tw j] = .ok [tw (-1)] := by
  have hT : topD [tw j] = tw j := by
    show topA [tw j] 1 = _
    unfold topA
    rw [show topA [tw j] 0 = 0 from rfl, show gD [tw j] 0 = tw j from rfl, abD_tw1, if_pos (tw_pos j)]
  unfold scaledR
  rw [if_neg (by rw [hT]; exact tw_ne j), hT, szD_tw1]
  exact bldE_of (f := fun i => scO (gD [tw j] i) (-(j + 1))) (g := fun _ => tw (-1)) (n := 1) fun i hi => by
    obtain rfl : i = 0 := by omega
    exact sc_tw h1 h2
theorem scaled_2 {j : Int} (h1 : -400 ≤ j) (h2 : j ≤ 400) : scaledR [tw j, tw j] = .ok [tw (-1), tw (-1)] := by
  have hT : topD [tw j, tw j] = tw j := by rw [topD2, abD_tw1, if_neg (by grind)]
  unfold scaledR
  rw [if_neg (by rw [hT]; exact tw_ne j), hT, szD_tw1]
  exact bldE_of (f := fun i => scO (gD [tw j, tw j] i) (-(j + 1))) (g := fun _ => tw (-1)) (n := 2) fun i hi => by
    rcases (show i = 0 ∨ i = 1 by omega) with rfl | rfl <;> exact sc_tw h1 h2
theorem mulO_tw {a b : Int} (h1 : -1000 ≤ a + b) (h2 : a + b ≤ 1000) : mulO 16 (tw a) (tw b) = .ok (tw (a + b)) := by
  unfold mulO; rw [tw_mul, rd_tw (by decide)]; exact okO_tw h1 h2
theorem cols_1 : colsR 16 [[tw 1]] = .ok [[tw (-1)]] := by
  have : colA 16 [[tw 1]] 1 = .ok [[tw (-1)]] := by
    unfold colA
    rw [runE_step (n := 0) rfl]
    show bnd (upR 16 [tw 1] []) _ = _
    rw [show upR 16 [tw 1] [] = scaledR [tw 1] from rfl, scaled_1 (by decide) (by decide)]; rfl
  show bnd (colA 16 [[tw 1]] 1) _ = _
  rw [this]; rfl
theorem quo_tw : quo 16 (tw 1) (tw (-1)) = tw 2 := by
  have h := dy_shl false 1 18 (-16)
  unfold quo tw
  rw [fN_odd (by decide), fN_odd (by decide), fS_odd (by decide), fS_odd (by decide), fE_odd (by decide), fE_odd (by decide), show (2 : Int) = -16 + (18 : Nat) from rfl, ← h]
  rfl
theorem cols_2 : colsR 16 [[tw 1, tw 1], [tw 1, tw 1]] = .error 3 := by
  have c1 : colA 16 [[tw 1, tw 1], [tw 1, tw 1]] 1 = .ok [[tw (-1), tw (-1)]] := by
    unfold colA
    rw [runE_step (n := 0) rfl]
    show bnd (upR 16 [tw 1, tw 1] []) _ = _
    rw [show upR 16 [tw 1, tw 1] [] = scaledR [tw 1, tw 1] from rfl, scaled_2 (by decide) (by decide)]; rfl
  have dA : dotR 16 [tw (-1), tw (-1)] [tw 1, tw 1] = .ok (tw 1) := dot2 (mulO_tw (by decide) (by decide)) (mulO_tw (by decide) (by decide)) (by
    rw [tw_add, rd_tw (by decide)]; exact okO_tw (by decide) (by decide))
  have dB : dotR 16 [tw (-1), tw (-1)] [tw (-1), tw (-1)] = .ok (tw (-1)) := dot2 (mulO_tw (by decide) (by decide)) (mulO_tw (by decide) (by decide)) (by
    rw [tw_add, rd_tw (by decide)]; exact okO_tw (by decide) (by decide))
  have dC : divO 16 (tw 1) (tw (-1)) = .ok (tw 2) := by
    unfold divO; rw [if_neg (tw_ne _), quo_tw, rd_tw (by decide)]; exact okO_tw (by decide) (by decide)
  have aw : awayO 16 (tw 1) (tw 2) (tw (-1)) = .ok 0 := by
    unfold awayO; rw [mulO_tw (by decide) (by decide), bnd_ok, show (2 : Int) + -1 = 1 from rfl, tw_sub, rd_zero]; exact okO_ok OkD.zero
  have hL : lessR 16 [tw 1, tw 1] [tw (-1), tw (-1)] = .ok [0, 0] := by
    unfold lessR
    rw [dA, bnd_ok, dB, bnd_ok, dC, bnd_ok]
    exact bldE_of (f := fun i => awayO 16 (gD [tw 1, tw 1] i) (tw 2) (gD [tw (-1), tw (-1)] i)) (g := fun _ => 0) (n := 2) fun i hi => by
      rcases (show i = 0 ∨ i = 1 by omega) with rfl | rfl <;> exact aw
  have hz : scaledR [0, 0] = .error 3 := by
    unfold scaledR
    rw [if_pos (by rw [topD2, abD_zero.2 rfl]; split <;> rfl)]
  have c2 : colA 16 [[tw 1, tw 1], [tw 1, tw 1]] 2 = .error 3 := by
    unfold colA at c1 ⊢
    rw [runE_step c1]
    show bnd (upR 16 [tw 1, tw 1] [[tw (-1), tw (-1)]]) _ = _
    rw [show upR 16 [tw 1, tw 1] [[tw (-1), tw (-1)]] = bnd (lessR 16 [tw 1, tw 1] [tw (-1), tw (-1)]) scaledR from rfl, hL, bnd_ok, hz]; rfl
  show bnd (colA 16 [[tw 1, tw 1], [tw 1, tw 1]] 2) _ = _
  rw [c2]; rfl
end Go.V

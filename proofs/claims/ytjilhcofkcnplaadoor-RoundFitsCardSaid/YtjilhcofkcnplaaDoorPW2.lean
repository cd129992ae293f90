/- The statement's own known numbers of layer 3. -/
import Derived.Test.YtjilhcofkcnplaaDoorPZ
import Derived.Test.YtjilhcofkcnplaaDoorPY
set_option linter.unusedSimpArgs false
set_option linter.unusedVariables false
set_option maxRecDepth 100000
namespace Go.V
open Go Go.RowKit Go.Proofs

theorem okP8 : okP 8 = true := by decide
theorem d1_eq : quo 8 (dy false 1 0) (dy false 3 0) = dy false 1365 (-12) := by
  unfold quo
  rw [fN_odd (by decide), fN_odd (by decide), fS_odd (by decide), fS_odd (by decide), fE_odd (by decide), fE_odd (by decide)]
  rfl
theorem rdD {p : Nat} {up s : Bool} {n : Nat} {e : Int} {q : Nat} {f : Int} (h : rdM p up s n e = dy s q f) : rd p up (dy s n e) = dy s q f := by rw [rd_dy, h]
theorem v1 : (⟨false, 0, [1]⟩ : Nu).val = dy false 1 0 := (w1 (by decide) (by decide) (by decide) (by decide)).2.2.2
theorem v3 : (⟨false, 0, [3]⟩ : Nu).val = dy false 3 0 := (w1 (by decide) (by decide) (by decide) (by decide)).2.2.2
theorem b1 : rightB ⟨false, 0, [1]⟩ = true := (w1 (by decide) (by decide) (by decide) (by decide)).2.2.1
theorem b3 : rightB ⟨false, 0, [3]⟩ = true := (w1 (by decide) (by decide) (by decide) (by decide)).2.2.1
theorem v257 : (⟨false, 0, [257]⟩ : Nu).val = dy false 257 0 := (w1 (by decide) (by decide) (by decide) (by decide)).2.2.2
theorem b257 : rightB ⟨false, 0, [257]⟩ = true := (w1 (by decide) (by decide) (by decide) (by decide)).2.2.1
theorem d3_ne : dy false 3 0 ≠ 0 := by rw [Ne, dy_zero]; decide
theorem e_dn : dvR ⟨false, 0, [1]⟩ ⟨false, 0, [3]⟩ 8 false = (⟨false, -8, [85]⟩, 0) := by
  unfold dvR
  rw [b1, b3, okP8, if_pos (by rfl), v1, v3, if_neg d3_ne, show (8 : Int).toNat = 8 from rfl, d1_eq, rd_dy]
  exact numR_w (s := false) (k := -9) (n := 85) (j := 1) (by decide) (by decide) (by decide) (by decide)
theorem e_up : dvR ⟨false, 0, [1]⟩ ⟨false, 0, [3]⟩ 8 true = (⟨false, -9, [171]⟩, 0) := by
  unfold dvR
  rw [b1, b3, okP8, if_pos (by rfl), v1, v3, if_neg d3_ne, show (8 : Int).toNat = 8 from rfl, d1_eq, rd_dy]
  exact numR_w (s := false) (k := -9) (n := 171) (j := 0) (by decide) (by decide) (by decide) (by decide)
theorem e_add : opP ⟨false, 0, [1]⟩ ⟨false, 0, [3]⟩ 8 false ((⟨false, 0, [1]⟩ : Nu).val + (⟨false, 0, [3]⟩ : Nu).val) = (⟨false, 2, [1]⟩, 0) := by
  unfold opP
  rw [b1, b3, okP8, if_pos (by rfl), v1, v3, dy_add, show (8 : Int).toNat = 8 from rfl, rd_dy]
  exact numR_w (s := false) (k := 0) (n := 1) (j := 2) (by decide) (by decide) (by decide) (by decide)
theorem e_mul : opP ⟨false, 0, [3]⟩ ⟨false, 0, [3]⟩ 8 true ((⟨false, 0, [3]⟩ : Nu).val * (⟨false, 0, [3]⟩ : Nu).val) = (⟨false, 0, [9]⟩, 0) := by
  unfold opP
  rw [b3, okP8, if_pos (by rfl), v3, dy_mul, show (8 : Int).toNat = 8 from rfl, rd_dy]
  exact numR_w (s := false) (k := 0) (n := 9) (j := 0) (by decide) (by decide) (by decide) (by decide)
theorem e_sub : opP ⟨false, 0, [1]⟩ ⟨false, 0, [3]⟩ 8 true ((⟨false, 0, [1]⟩ : Nu).val - (⟨false, 0, [3]⟩ : Nu).val) = (⟨true, 1, [1]⟩, 0) := by
  unfold opP
  rw [b1, b3, okP8, if_pos (by rfl), v1, v3, show dy false 1 0 - dy false 3 0 = dy true 2 0 by
    have h := dy_sub (a := true) (b := false) (by decide) (n := 3) (m := 1) (by decide) 0
    have h2 := dy_neg false 3 0
    simp only [Bool.not_false] at h2
    rw [← h2] at h
    rw [show (2 : Nat) = 3 - 1 from rfl, ← h]; grind, show (8 : Int).toNat = 8 from rfl, rd_dy]
  exact numR_w (s := true) (k := 0) (n := 1) (j := 1) (by decide) (by decide) (by decide) (by decide)
theorem e_fit : fitR ⟨false, 0, [257]⟩ 8 true = (⟨false, 1, [129]⟩, 0) := by
  unfold fitR
  rw [b257, okP8, if_pos (by rfl), v257, show (8 : Int).toNat = 8 from rfl, rd_dy]
  exact numR_w (s := false) (k := 1) (n := 129) (j := 0) (by decide) (by decide) (by decide) (by decide)
theorem kWs {n : Nat} (h : n < 18446744073709551616) : PC Tryd.prog 32 [W64 [n], W64 [n]] fun d => d = bl true :=
  (p_hWords (by intro x hx; rw [List.mem_singleton.1 hx]; exact h) (by intro x hx; rw [List.mem_singleton.1 hx]; exact h) (by simp) (by simp)).mono fun d hd => hd.trans (by rw [decide_eq_true rfl])
set_option maxHeartbeats 8000000 in
theorem p_known3 : PC Tryd.prog 9 [] fun d => d = bl true := by
  have x1 : Wl 65536 ⟨false, 0, [1]⟩ := (sz1 (by decide) (by decide) (by decide)).wl
  have x3 : Wl 65536 ⟨false, 0, [3]⟩ := (sz1 (by decide) (by decide) (by decide)).wl
  have x257 : Wl 65536 ⟨false, 0, [257]⟩ := (sz1 (by decide) (by decide) (by decide)).wl
  have pA := p_rdDiv (p := 8) (up := false) x1 x3; rw [e_dn] at pA
  have pB := p_rdDiv (p := 8) (up := true) x1 x3; rw [e_up] at pB
  have pC := p_rdAdd (p := 8) (up := false) x1 x3; rw [e_add] at pC
  have pD := p_rdMul (p := 8) (up := true) x3 x3; rw [e_mul] at pD
  have pS := p_rdSub (p := 8) (up := true) x1 x3; rw [e_sub] at pS
  have pT := p_Fit (p := 8) (up := true) x257; rw [e_fit] at pT
  have q1 := kWs (n := 85) (by decide)
  have q2 := kWs (n := 171) (by decide)
  have q3 := kWs (n := 9) (by decide)
  have q4 := kWs (n := 129) (by decide)
  refine PC.body (args := []) (rs := [.tmp 0]) mixed Tryd.func9 rfl (by kernel_rfl) (by kernel_rfl) (Nat.le_of_ble_eq_true rfl) rfl ?_
  repeat (first | (with_reducible first | refine pv_seq fun K hK => ?_ | refine pv_reg ?_) | ((with_reducible first | refine hK _ _ ?_ | (clear hK; refine hK _ _ ?_) | (clear hK; clear hK; refine hK _ _ ?_)); clear hK; try clear K) | simp -implicitDefEqProofs only [true_and, true_and, go_sem, seval] | with_reducible intro b | (with_reducible refine And.intro ?_ ?_; · first | assumption | omega | (unfold R64; omega)) | refine call_is (by first | exact pA | exact pB | exact pC | exact pD | exact pS | exact pT | exact q1 | exact q2 | exact q3 | exact q4) ?_ | (refine ExtC_is ?_; simp -implicitDefEqProofs only [true_and, true_and, go_sem, seval]; refine ext_is (by first | exact pA | exact pB | exact pC | exact pD | exact pS | exact pT | exact q1 | exact q2 | exact q3 | exact q4) ?_) | (refine PFC.coe ?_; simp -implicitDefEqProofs only [true_and, true_and, go_sem, seval]; refine call_is (by first | exact pA | exact pB | exact pC | exact pD | exact pS | exact pT | exact q1 | exact q2 | exact q3 | exact q4) ?_))
end Go.V

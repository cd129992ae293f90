/- Package nat: long division by words, over values as data. -/
import Derived.Test.YtilnmcabjkpohaaDoorB2
import Derived.Test.YtilnmcabjkpohaaDoorDW
set_option linter.unusedSimpArgs false
set_option linter.unusedVariables false
set_option maxRecDepth 100000
namespace Go.V
open Go Go.RowKit Go.Proofs

/-- A word as data. -/
def w64 (n : Nat) : D := .g (.lit (.int .u64 (n : Int)))
theorem rnD_W64 {σ : Nm → Nm} {xs : List Nat} : rnD σ (W64 xs) = W64 xs := rfl
theorem rnD_W32 {σ : Nm → Nm} {xs : List Nat} : rnD σ (W32 xs) = W32 xs := rfl
theorem rnC_W64 {σ : Nm → Nm} {xs : List Nat} : rnC σ (W64 xs) = W64 xs := rfl
theorem rnC_W32 {σ : Nm → Nm} {xs : List Nat} : rnC σ (W32 xs) = W32 xs := rfl
attribute [go_sem] w64 rnD_W64 rnD_W32 rnC_W64 rnC_W32
theorem rS_at {k : IntKind} {xs : List Nat} {i : Nat} (h : i < xs.length) : (rS (eK k) xs)[i]? = some [.g (.lit (.int k (xs.getD i 0 : Nat)))] := by
  rw [rS_get, getD_some h]; rfl

theorem rS_setw {k : IntKind} {xs : List Nat} {i y : Nat} : (rS (eK k) xs).set i [.g (.lit (.int k (y : Int)))] = rS (eK k) (xs.set i y) := rS_set rfl
attribute [go_sem] rS_setw

theorem p_add64 {x y c : Nat} (hc : c ≤ 1) : PC Tryd.prog 41 [w64 x, w64 y, w64 c] fun d => d = .tup [w64 ((x + y + c) % 18446744073709551616), w64 ((x + y + c) / 18446744073709551616)] := pc_new fun w I vs hG hv => by
  obtain ⟨v, v', v'', rfl, h, h', h''⟩ := hv.three
  obtain rfl := h.lit_inv
  obtain rfl := h'.lit_inv
  obtain rfl := h''.lit_inv
  exact add64 x y c hc ⟨Ext.refl _, _, RdD.ofT (.cons (.g (.lit _ rfl)) (.cons (.g (.lit _ rfl)) .nil)), rfl⟩
theorem p_sub64 {x y c : Nat} (hc : c ≤ 1) : PC Tryd.prog 38 [w64 x, w64 y, w64 c] fun d => d = .tup [w64 ((x + 18446744073709551616 - y - c) % 18446744073709551616), w64 (if x < y + c then 1 else 0)] := pc_new fun w I vs hG hv => by
  obtain ⟨v, v', v'', rfl, h, h', h''⟩ := hv.three
  obtain rfl := h.lit_inv
  obtain rfl := h'.lit_inv
  obtain rfl := h''.lit_inv
  exact sub64 x y c hc ⟨Ext.refl _, _, RdD.ofT (.cons (.g (.lit _ rfl)) (.cons (.g (.lit _ rfl)) .nil)), rfl⟩
theorem p_mul64 {x y : Nat} (hx : x < 18446744073709551616) (hy : y < 18446744073709551616) : PC Tryd.prog 45 [w64 x, w64 y] fun d => d = .tup [w64 (x * y / 18446744073709551616), w64 (x * y % 18446744073709551616)] := pc_new fun w I vs hG hv => by
  obtain ⟨v, v', rfl, h, h'⟩ := hv.two
  obtain rfl := h.lit_inv
  obtain rfl := h'.lit_inv
  exact mul64 x y hx hy ⟨Ext.refl _, _, RdD.ofT (.cons (.g (.lit _ rfl)) (.cons (.g (.lit _ rfl)) .nil)), rfl⟩
theorem p_div64 {hi lo y : Nat} (hlt : hi < y) (hlo : lo < 18446744073709551616) (hy : y < 18446744073709551616) :
    PC Tryd.prog 52 [w64 hi, w64 lo, w64 y] fun d => d = .tup [w64 ((hi * 18446744073709551616 + lo) / y), w64 ((hi * 18446744073709551616 + lo) % y)] := pc_new fun w I vs hG hv => by
  obtain ⟨v, v', v'', rfl, h, h', h''⟩ := hv.three
  obtain rfl := h.lit_inv
  obtain rfl := h'.lit_inv
  obtain rfl := h''.lit_inv
  exact div64 hi lo y hlt hlo hy fun w' hE => ⟨hE, _, RdD.ofT (.cons (.g (.lit _ rfl)) (.cons (.g (.lit _ rfl)) .nil)), rfl⟩
theorem p_lz64 {x : Nat} (hx : x < 18446744073709551616) : PC Tryd.prog 53 [w64 x] fun d => d = i64 (64 - bitLen x : Nat) := pc_lit fun w I vs hG hv => by
  obtain ⟨v, rfl, h⟩ := hv.one
  obtain rfl := h.lit_inv
  exact lz64 x hx ⟨Ext.refl _, rfl, rfl⟩

set_option maxHeartbeats 4000000 in
theorem p_guess {k : Nm} {S : Store} {Q : D → Store → Prop} {b j cap p : Nat} {us V : List Nat} (hS : S k = some ⟨b, 1, p, rS (eK .u64) us⟩) (h : Gs 18446744073709551616 j us V) (hl : us.length ≤ 2199023255552)
    (hQ : ∀ q, q < 18446744073709551616 → h.q ≤ q → q ≤ h.q + 1 → Q (w64 q) S) : PFC Tryd.prog 54 [.own k b j (V.length + 1) cap 1, W64 V] S Q := by
  refine PFC.body (args := [.own k b j (V.length + 1) cap 1, W64 V]) (rs := [.tmp 4]) mixed Tryd.func54 rfl (by kernel_rfl) (by kernel_rfl) (Nat.le_of_ble_eq_true rfl) rfl ?_
  have h2 := h.n2
  have hlen := h.len
  have e1 : (V.length : Int) - 1 = ((V.length - 1 : Nat) : Int) := by omega
  have e2 : (V.length : Int) - 2 = ((V.length - 2 : Nat) : Int) := by omega
  have k1 : j + V.length - 1 = j + (V.length - 1) := by omega
  have k2 : j + V.length - 2 = j + (V.length - 2) := by omega
  have g0 := rS_at (k := .u64) (xs := us) (i := j + V.length) (by omega)
  have g1 := rS_at (k := .u64) (xs := us) (i := j + (V.length - 1)) (by omega)
  have g2 := rS_at (k := .u64) (xs := us) (i := j + (V.length - 2)) (by omega)
  have htl := h.top_le
  have hfirst := h.first
  have hdown := @Gs.down _ _ _ _ h
  have hstop := @Gs.stop _ _ _ _ h
  rw [k1] at hfirst hdown hstop
  rw [k2] at hdown hstop
  have b0 := get_lt h.ub (by decide) (j + V.length)
  have b1 := get_lt h.ub (by decide) (j + (V.length - 1))
  have b2 := get_lt h.ub (by decide) (j + (V.length - 2))
  have c1 := get_lt h.vb (by decide) (V.length - 1)
  have c2 := get_lt h.vb (by decide) (V.length - 2)
  have ht1 := h.top
  have hqW := h.q_lt
  generalize us.getD (j + V.length) 0 = top at *
  generalize us.getD (j + (V.length - 1)) 0 = next at *
  generalize us.getD (j + (V.length - 2)) 0 = low at *
  generalize hv1 : V.getD (V.length - 1) 0 = v1 at *
  generalize hv2 : V.getD (V.length - 2) 0 = v2 at *
  repeat (first
   | (with_reducible first | refine pv_seq fun K hK => ?_ | refine pv_skip ?_ | refine pv_block ?_ | refine pv_scope ?_ | refine pv_label ?_)
   | (with_reducible refine pv_reg ?_; simp -implicitDefEqProofs only [comp_nil, comp_cons, compD_nil, compD_cons, gsl_none, gsl_some, List.getElem?_cons_zero, List.getElem?_cons_succ, Option.map_some, Option.bind_some, lapp_cons, lapp_nil])
   | (with_reducible refine pv_draw (id := 2) [(0, 0), (1, 0), (2, 0), (3, 1), (4, 0), (5, 0), (6, 0), (7, 0), (8, 1), (9, 0), (10, 0), (11, 0), (12, 0), (13, 1), (14, 0), (15, 0), (16, 0)] (by kernel_rfl) ?_; simp -implicitDefEqProofs only [comp_nil, comp_cons, compD_nil, compD_cons, gsl_none, gsl_some, List.getElem?_cons_zero, List.getElem?_cons_succ, Option.map_some, Option.bind_some, lapp_cons, lapp_nil]; simp -implicitDefEqProofs only [upS_up, hS, e1, e2, g0, g1, g2, hv1, hv2, true_and, go_sem, seval])
   | (with_reducible refine pv_condT ?_ ?_; · simp -implicitDefEqProofs only [upS_up, hS, e1, e2, g0, g1, g2, hv1, hv2, true_and, go_sem, seval] <;> rfl)
   | (with_reducible refine pv_condF ?_ ?_; · simp -implicitDefEqProofs only [upS_up, hS, e1, e2, g0, g1, g2, hv1, hv2, true_and, go_sem, seval] <;> rfl)
   | (with_reducible refine pv_exit ?_; simp only [↓reduceIte, Nat.reduceEqDiff])
   | (with_reducible refine pv_ret ?_; simp -implicitDefEqProofs only [retC, retS, retR, resD, oneD, coeDs_nil, coeDs_cons, coeD_agg, coeD_g, coeD_nil, coeD_own, coeCs_nil, coeCs_cons, coeC_g, coeC_nil, coeC_own, upS_up, hS, e1, e2, g0, g1, g2, hv1, hv2, true_and, go_sem, seval])
   | ((with_reducible first | refine hK _ _ ?_ | (clear hK; refine hK _ _ ?_) | (clear hK; clear hK; refine hK _ _ ?_)); clear hK; try clear K)
   | (simp -implicitDefEqProofs only [upS_up, hS, e1, e2, g0, g1, g2, hv1, hv2, true_and, go_sem, seval])
   | (with_reducible intro b)
   | (with_reducible refine And.intro ?_ ?_; · first | assumption | omega | (unfold R64; omega)))
  have J : ∀ (e : DEnv) (q R : Nat), q * v1 + R = top * 18446744073709551616 + next → h.q ≤ q → q < 18446744073709551616 → e 1 = W64 V → e 5 = i64 V.length → e 8 = w64 low → e 9 = w64 q → e 10 = w64 (R % 18446744073709551616) → e 11 = w64 (R / 18446744073709551616) → K e (upS S) := by
    intro e q R hR hq hqw f1 f5 f8 f9 f10 f11
    repeat (first
     | (with_reducible first | refine pv_seq fun K hK => ?_ | refine pv_skip ?_ | refine pv_block ?_ | refine pv_scope ?_ | refine pv_label ?_)
     | (with_reducible refine pv_reg ?_; simp -implicitDefEqProofs only [comp_nil, comp_cons, compD_nil, compD_cons, gsl_none, gsl_some, List.getElem?_cons_zero, List.getElem?_cons_succ, Option.map_some, Option.bind_some, lapp_cons, lapp_nil])
     | (with_reducible refine pv_draw (id := 2) [(0, 0), (1, 0), (2, 0), (3, 1), (4, 0), (5, 0), (6, 0), (7, 0), (8, 1), (9, 0), (10, 0), (11, 0), (12, 0), (13, 1), (14, 0), (15, 0), (16, 0)] (by kernel_rfl) ?_; simp -implicitDefEqProofs only [comp_nil, comp_cons, compD_nil, compD_cons, gsl_none, gsl_some, List.getElem?_cons_zero, List.getElem?_cons_succ, Option.map_some, Option.bind_some, lapp_cons, lapp_nil]; simp -implicitDefEqProofs only [upS_up, hS, e1, e2, g0, g1, g2, hv1, hv2, f1, f5, f8, f9, f10, f11, true_and, go_sem, seval])
     | (with_reducible refine pv_condT ?_ ?_; · simp -implicitDefEqProofs only [upS_up, hS, e1, e2, g0, g1, g2, hv1, hv2, f1, f5, f8, f9, f10, f11, true_and, go_sem, seval] <;> rfl)
     | (with_reducible refine pv_condF ?_ ?_; · simp -implicitDefEqProofs only [upS_up, hS, e1, e2, g0, g1, g2, hv1, hv2, f1, f5, f8, f9, f10, f11, true_and, go_sem, seval] <;> rfl)
     | (with_reducible refine pv_exit ?_; simp only [↓reduceIte, Nat.reduceEqDiff])
     | (with_reducible refine pv_ret ?_; simp -implicitDefEqProofs only [retC, retS, retR, resD, oneD, coeDs_nil, coeDs_cons, coeD_agg, coeD_g, coeD_nil, coeD_own, coeCs_nil, coeCs_cons, coeC_g, coeC_nil, coeC_own, upS_up, hS, e1, e2, g0, g1, g2, hv1, hv2, f1, f5, f8, f9, f10, f11, true_and, go_sem, seval])
     | ((with_reducible first | refine hK _ _ ?_ | (clear hK; refine hK _ _ ?_) | (clear hK; clear hK; refine hK _ _ ?_)); clear hK; try clear K)
     | (simp -implicitDefEqProofs only [upS_up, hS, e1, e2, g0, g1, g2, hv1, hv2, f1, f5, f8, f9, f10, f11, true_and, go_sem, seval])
     | (with_reducible intro b)
     | (with_reducible refine And.intro ?_ ?_; · first | assumption | omega | (unfold R64; omega)))
    have J2 : ∀ (e : DEnv) (q : Nat), h.q ≤ q → q ≤ h.q + 1 → q < 18446744073709551616 → e 9 = w64 q → K e (upS S) := by
      intro e q hq1 hq2 hqw f9
      repeat (first
       | (with_reducible first | refine pv_seq fun K hK => ?_ | refine pv_skip ?_ | refine pv_block ?_ | refine pv_scope ?_ | refine pv_label ?_)
       | (with_reducible refine pv_reg ?_; simp -implicitDefEqProofs only [comp_nil, comp_cons, compD_nil, compD_cons, gsl_none, gsl_some, List.getElem?_cons_zero, List.getElem?_cons_succ, Option.map_some, Option.bind_some, lapp_cons, lapp_nil])
       | (with_reducible refine pv_draw (id := 2) [(0, 0), (1, 0), (2, 0), (3, 1), (4, 0), (5, 0), (6, 0), (7, 0), (8, 1), (9, 0), (10, 0), (11, 0), (12, 0), (13, 1), (14, 0), (15, 0), (16, 0)] (by kernel_rfl) ?_; simp -implicitDefEqProofs only [comp_nil, comp_cons, compD_nil, compD_cons, gsl_none, gsl_some, List.getElem?_cons_zero, List.getElem?_cons_succ, Option.map_some, Option.bind_some, lapp_cons, lapp_nil]; simp -implicitDefEqProofs only [f9, true_and, go_sem, seval])
       | (with_reducible refine pv_condT ?_ ?_; · simp -implicitDefEqProofs only [f9, true_and, go_sem, seval] <;> rfl)
       | (with_reducible refine pv_condF ?_ ?_; · simp -implicitDefEqProofs only [f9, true_and, go_sem, seval] <;> rfl)
       | (with_reducible refine pv_exit ?_; simp only [↓reduceIte, Nat.reduceEqDiff])
       | (with_reducible refine pv_ret ?_; simp -implicitDefEqProofs only [retC, retS, retR, resD, oneD, coeDs_nil, coeDs_cons, coeD_agg, coeD_g, coeD_nil, coeD_own, coeCs_nil, coeCs_cons, coeC_g, coeC_nil, coeC_own, f9, true_and, go_sem, seval])
       | ((with_reducible first | refine hK _ _ ?_ | (clear hK; refine hK _ _ ?_) | (clear hK; clear hK; refine hK _ _ ?_)); clear hK; try clear K)
       | (simp -implicitDefEqProofs only [f9, true_and, go_sem, seval])
       | (with_reducible intro b)
       | (with_reducible refine And.intro ?_ ?_; · first | assumption | omega | (unfold R64; omega)))
      exact hQ q hqw hq1 hq2
    clear hK
    refine pv_loop (fun e S' => S' = upS S ∧ ∃ q R, q * v1 + R = top * 18446744073709551616 + next ∧ h.q ≤ q ∧ q < 18446744073709551616 ∧ e 1 = W64 V ∧ e 5 = i64 V.length ∧ e 8 = w64 low ∧ e 9 = w64 q ∧ e 10 = w64 (R % 18446744073709551616) ∧ e 11 = w64 (R / 18446744073709551616)) (fun e _ => (intD (e 9)).toNat) ?_ ?_
    · exact ⟨rfl, q, R, hR, hq, hqw, f1, f5, f8, f9, f10, f11⟩
    · clear hR hq hqw f1 f5 f8 f9 f10 f11 e q R
      rintro e _ ⟨rfl, q, R, hR, hq, hqw, f1, f5, f8, f9, f10, f11⟩
      have hmz : (intD (e 9)).toNat = q := by rw [f9]; rfl
      by_cases hov : R < 18446744073709551616
      · have hR0 : R / 18446744073709551616 = 0 := Nat.div_eq_of_lt hov
        have hR1 : R % 18446744073709551616 = R := Nat.mod_eq_of_lt hov
        repeat (first
         | (with_reducible first | refine pv_seq fun K hK => ?_ | refine pv_skip ?_ | refine pv_block ?_ | refine pv_scope ?_ | refine pv_label ?_)
         | (with_reducible refine pv_reg ?_; simp -implicitDefEqProofs only [comp_nil, comp_cons, compD_nil, compD_cons, gsl_none, gsl_some, List.getElem?_cons_zero, List.getElem?_cons_succ, Option.map_some, Option.bind_some, lapp_cons, lapp_nil])
         | (with_reducible refine pv_draw (id := 2) [(0, 0), (1, 0), (2, 0), (3, 1), (4, 0), (5, 0), (6, 0), (7, 0), (8, 1), (9, 0), (10, 0), (11, 0), (12, 0), (13, 1), (14, 0), (15, 0), (16, 0)] (by kernel_rfl) ?_; simp -implicitDefEqProofs only [comp_nil, comp_cons, compD_nil, compD_cons, gsl_none, gsl_some, List.getElem?_cons_zero, List.getElem?_cons_succ, Option.map_some, Option.bind_some, lapp_cons, lapp_nil]; simp -implicitDefEqProofs only [e1, e2, hv1, hv2, f1, f5, f8, f9, f10, f11, hR0, hR1, true_and, go_sem, seval])
         | (with_reducible refine pv_condT ?_ ?_; · simp -implicitDefEqProofs only [e1, e2, hv1, hv2, f1, f5, f8, f9, f10, f11, hR0, hR1, true_and, go_sem, seval] <;> rfl)
         | (with_reducible refine pv_condF ?_ ?_; · simp -implicitDefEqProofs only [e1, e2, hv1, hv2, f1, f5, f8, f9, f10, f11, hR0, hR1, true_and, go_sem, seval] <;> rfl)
         | (with_reducible refine pv_exit ?_; simp only [↓reduceIte, Nat.reduceEqDiff])
         | (with_reducible refine pv_ret ?_; simp -implicitDefEqProofs only [retC, retS, retR, resD, oneD, coeDs_nil, coeDs_cons, coeD_agg, coeD_g, coeD_nil, coeD_own, coeCs_nil, coeCs_cons, coeC_g, coeC_nil, coeC_own, e1, e2, hv1, hv2, f1, f5, f8, f9, f10, f11, hR0, hR1, true_and, go_sem, seval])
         | ((with_reducible first | refine hK _ _ ?_ | (clear hK; refine hK _ _ ?_) | (clear hK; clear hK; refine hK _ _ ?_)); clear hK; try clear K)
         | (simp -implicitDefEqProofs only [e1, e2, hv1, hv2, f1, f5, f8, f9, f10, f11, hR0, hR1, true_and, go_sem, seval])
         | (with_reducible intro b)
         | (with_reducible refine And.intro ?_ ?_; · first | assumption | omega | (unfold R64; omega)))
        refine call_is (p_mul64 hqw c2) ?_
        have hdm := Nat.div_add_mod (q * v2) 18446744073709551616
        have hml := Nat.mod_lt (q * v2) (show 0 < 18446744073709551616 by decide)
        generalize q * v2 / 18446744073709551616 = hi at hdm
        generalize q * v2 % 18446744073709551616 = lo at hdm hml
        have go : R * 18446744073709551616 + low < q * v2 → h.q < q ∧ 0 < q ∧ (q - 1) * v1 + (R + v1) = top * 18446744073709551616 + next := by
          intro hlt
          have h5 := hdown hR hq hlt
          refine ⟨h5, by omega, ?_⟩
          obtain ⟨r, rfl⟩ : ∃ r, q = r + 1 := ⟨q - 1, by omega⟩
          rw [Nat.add_mul] at hR
          rw [Nat.add_sub_cancel]; omega
        have h6 : (hi < R ∨ (hi = R ∧ lo ≤ low)) ∨ (¬ hi < R ∧ hi = R ∧ ¬ lo ≤ low) ∨ (¬ hi < R ∧ ¬ hi = R) := by omega
        rcases h6 with (h6 | ⟨h6, h7⟩) | ⟨h6, h7, h8⟩ | ⟨h6, h7⟩
        · have i1 : (hi < R) = True := eq_true h6
          repeat (first
           | (with_reducible first | refine pv_seq fun K hK => ?_ | refine pv_skip ?_ | refine pv_block ?_ | refine pv_scope ?_ | refine pv_label ?_)
           | (with_reducible refine pv_reg ?_; simp -implicitDefEqProofs only [comp_nil, comp_cons, compD_nil, compD_cons, gsl_none, gsl_some, List.getElem?_cons_zero, List.getElem?_cons_succ, Option.map_some, Option.bind_some, lapp_cons, lapp_nil])
           | (with_reducible refine pv_draw (id := 2) [(0, 0), (1, 0), (2, 0), (3, 1), (4, 0), (5, 0), (6, 0), (7, 0), (8, 1), (9, 0), (10, 0), (11, 0), (12, 0), (13, 1), (14, 0), (15, 0), (16, 0)] (by kernel_rfl) ?_; simp -implicitDefEqProofs only [comp_nil, comp_cons, compD_nil, compD_cons, gsl_none, gsl_some, List.getElem?_cons_zero, List.getElem?_cons_succ, Option.map_some, Option.bind_some, lapp_cons, lapp_nil]; simp -implicitDefEqProofs only [e1, e2, hv1, hv2, f1, f5, f8, f9, f10, f11, hR0, hR1, i1, true_and, go_sem, seval])
           | (with_reducible refine pv_condT ?_ ?_; · simp -implicitDefEqProofs only [e1, e2, hv1, hv2, f1, f5, f8, f9, f10, f11, hR0, hR1, i1, true_and, go_sem, seval] <;> rfl)
           | (with_reducible refine pv_condF ?_ ?_; · simp -implicitDefEqProofs only [e1, e2, hv1, hv2, f1, f5, f8, f9, f10, f11, hR0, hR1, i1, true_and, go_sem, seval] <;> rfl)
           | (with_reducible refine pv_exit ?_; simp only [↓reduceIte, Nat.reduceEqDiff])
           | (with_reducible refine pv_ret ?_; simp -implicitDefEqProofs only [retC, retS, retR, resD, oneD, coeDs_nil, coeDs_cons, coeD_agg, coeD_g, coeD_nil, coeD_own, coeCs_nil, coeCs_cons, coeC_g, coeC_nil, coeC_own, e1, e2, hv1, hv2, f1, f5, f8, f9, f10, f11, hR0, hR1, i1, true_and, go_sem, seval])
           | ((with_reducible first | refine hK _ _ ?_ | (clear hK; refine hK _ _ ?_) | (clear hK; clear hK; refine hK _ _ ?_)); clear hK; try clear K)
           | (simp -implicitDefEqProofs only [e1, e2, hv1, hv2, f1, f5, f8, f9, f10, f11, hR0, hR1, i1, true_and, go_sem, seval])
           | (with_reducible intro b)
           | (with_reducible refine And.intro ?_ ?_; · first | assumption | omega | (unfold R64; omega)))
          exact J2 _ q hq (hstop hR hqw (by omega)) hqw (by simp -implicitDefEqProofs only [e1, e2, hv1, hv2, f1, f5, f8, f9, f10, f11, hR0, hR1, i1, true_and, go_sem, seval])
        · have i1 : (hi < R) = False := eq_false (by omega)
          have i2 : (hi = R) = True := eq_true h6
          have i3 : (lo ≤ low) = True := eq_true h7
          repeat (first
           | (with_reducible first | refine pv_seq fun K hK => ?_ | refine pv_skip ?_ | refine pv_block ?_ | refine pv_scope ?_ | refine pv_label ?_)
           | (with_reducible refine pv_reg ?_; simp -implicitDefEqProofs only [comp_nil, comp_cons, compD_nil, compD_cons, gsl_none, gsl_some, List.getElem?_cons_zero, List.getElem?_cons_succ, Option.map_some, Option.bind_some, lapp_cons, lapp_nil])
           | (with_reducible refine pv_draw (id := 2) [(0, 0), (1, 0), (2, 0), (3, 1), (4, 0), (5, 0), (6, 0), (7, 0), (8, 1), (9, 0), (10, 0), (11, 0), (12, 0), (13, 1), (14, 0), (15, 0), (16, 0)] (by kernel_rfl) ?_; simp -implicitDefEqProofs only [comp_nil, comp_cons, compD_nil, compD_cons, gsl_none, gsl_some, List.getElem?_cons_zero, List.getElem?_cons_succ, Option.map_some, Option.bind_some, lapp_cons, lapp_nil]; simp -implicitDefEqProofs only [e1, e2, hv1, hv2, f1, f5, f8, f9, f10, f11, hR0, hR1, i1, i2, i3, true_and, go_sem, seval])
           | (with_reducible refine pv_condT ?_ ?_; · simp -implicitDefEqProofs only [e1, e2, hv1, hv2, f1, f5, f8, f9, f10, f11, hR0, hR1, i1, i2, i3, true_and, go_sem, seval] <;> rfl)
           | (with_reducible refine pv_condF ?_ ?_; · simp -implicitDefEqProofs only [e1, e2, hv1, hv2, f1, f5, f8, f9, f10, f11, hR0, hR1, i1, i2, i3, true_and, go_sem, seval] <;> rfl)
           | (with_reducible refine pv_exit ?_; simp only [↓reduceIte, Nat.reduceEqDiff])
           | (with_reducible refine pv_ret ?_; simp -implicitDefEqProofs only [retC, retS, retR, resD, oneD, coeDs_nil, coeDs_cons, coeD_agg, coeD_g, coeD_nil, coeD_own, coeCs_nil, coeCs_cons, coeC_g, coeC_nil, coeC_own, e1, e2, hv1, hv2, f1, f5, f8, f9, f10, f11, hR0, hR1, i1, i2, i3, true_and, go_sem, seval])
           | ((with_reducible first | refine hK _ _ ?_ | (clear hK; refine hK _ _ ?_) | (clear hK; clear hK; refine hK _ _ ?_)); clear hK; try clear K)
           | (simp -implicitDefEqProofs only [e1, e2, hv1, hv2, f1, f5, f8, f9, f10, f11, hR0, hR1, i1, i2, i3, true_and, go_sem, seval])
           | (with_reducible intro b)
           | (with_reducible refine And.intro ?_ ?_; · first | assumption | omega | (unfold R64; omega)))
          exact J2 _ q hq (hstop hR hqw (by omega)) hqw (by simp -implicitDefEqProofs only [e1, e2, hv1, hv2, f1, f5, f8, f9, f10, f11, hR0, hR1, i1, i2, i3, true_and, go_sem, seval])
        · have i1 : (hi < R) = False := eq_false (by omega)
          have i2 : (hi = R) = True := eq_true h7
          have i3 : (lo ≤ low) = False := eq_false h8
          obtain ⟨g1, g2, g3⟩ := go (by omega)
          have hw : IntKind.u64.wrap ((q : Int) - 1) = ((q - 1 : Nat) : Int) := by rw [show (q : Int) - 1 = ((q - 1 : Nat) : Int) by omega, wrap64_nat, Nat.mod_eq_of_lt (by omega)]
          repeat (first
           | (with_reducible first | refine pv_seq fun K hK => ?_ | refine pv_skip ?_ | refine pv_block ?_ | refine pv_scope ?_ | refine pv_label ?_)
           | (with_reducible refine pv_reg ?_; simp -implicitDefEqProofs only [comp_nil, comp_cons, compD_nil, compD_cons, gsl_none, gsl_some, List.getElem?_cons_zero, List.getElem?_cons_succ, Option.map_some, Option.bind_some, lapp_cons, lapp_nil])
           | (with_reducible refine pv_draw (id := 2) [(0, 0), (1, 0), (2, 0), (3, 1), (4, 0), (5, 0), (6, 0), (7, 0), (8, 1), (9, 0), (10, 0), (11, 0), (12, 0), (13, 1), (14, 0), (15, 0), (16, 0)] (by kernel_rfl) ?_; simp -implicitDefEqProofs only [comp_nil, comp_cons, compD_nil, compD_cons, gsl_none, gsl_some, List.getElem?_cons_zero, List.getElem?_cons_succ, Option.map_some, Option.bind_some, lapp_cons, lapp_nil]; simp -implicitDefEqProofs only [e1, e2, hv1, hv2, f1, f5, f8, f9, f10, f11, hR0, hR1, i1, i2, i3, hw, true_and, go_sem, seval])
           | (with_reducible refine pv_condT ?_ ?_; · simp -implicitDefEqProofs only [e1, e2, hv1, hv2, f1, f5, f8, f9, f10, f11, hR0, hR1, i1, i2, i3, hw, true_and, go_sem, seval] <;> rfl)
           | (with_reducible refine pv_condF ?_ ?_; · simp -implicitDefEqProofs only [e1, e2, hv1, hv2, f1, f5, f8, f9, f10, f11, hR0, hR1, i1, i2, i3, hw, true_and, go_sem, seval] <;> rfl)
           | (with_reducible refine pv_exit ?_; simp only [↓reduceIte, Nat.reduceEqDiff])
           | (with_reducible refine pv_ret ?_; simp -implicitDefEqProofs only [retC, retS, retR, resD, oneD, coeDs_nil, coeDs_cons, coeD_agg, coeD_g, coeD_nil, coeD_own, coeCs_nil, coeCs_cons, coeC_g, coeC_nil, coeC_own, e1, e2, hv1, hv2, f1, f5, f8, f9, f10, f11, hR0, hR1, i1, i2, i3, hw, true_and, go_sem, seval])
           | ((with_reducible first | refine hK _ _ ?_ | (clear hK; refine hK _ _ ?_) | (clear hK; clear hK; refine hK _ _ ?_)); clear hK; try clear K)
           | (simp -implicitDefEqProofs only [e1, e2, hv1, hv2, f1, f5, f8, f9, f10, f11, hR0, hR1, i1, i2, i3, hw, true_and, go_sem, seval])
           | (with_reducible intro b)
           | (with_reducible refine And.intro ?_ ?_; · first | assumption | omega | (unfold R64; omega)))
          refine call_is (p_add64 (x := R) (y := v1) (c := 0) (by decide)) ?_
          rw [Nat.add_zero]
          repeat (first
           | (with_reducible first | refine pv_seq fun K hK => ?_ | refine pv_skip ?_ | refine pv_block ?_ | refine pv_scope ?_ | refine pv_label ?_)
           | (with_reducible refine pv_reg ?_; simp -implicitDefEqProofs only [comp_nil, comp_cons, compD_nil, compD_cons, gsl_none, gsl_some, List.getElem?_cons_zero, List.getElem?_cons_succ, Option.map_some, Option.bind_some, lapp_cons, lapp_nil])
           | (with_reducible refine pv_draw (id := 2) [(0, 0), (1, 0), (2, 0), (3, 1), (4, 0), (5, 0), (6, 0), (7, 0), (8, 1), (9, 0), (10, 0), (11, 0), (12, 0), (13, 1), (14, 0), (15, 0), (16, 0)] (by kernel_rfl) ?_; simp -implicitDefEqProofs only [comp_nil, comp_cons, compD_nil, compD_cons, gsl_none, gsl_some, List.getElem?_cons_zero, List.getElem?_cons_succ, Option.map_some, Option.bind_some, lapp_cons, lapp_nil]; simp -implicitDefEqProofs only [e1, e2, hv1, hv2, f1, f5, f8, f9, f10, f11, hR0, hR1, i1, i2, i3, hw, true_and, go_sem, seval])
           | (with_reducible refine pv_condT ?_ ?_; · simp -implicitDefEqProofs only [e1, e2, hv1, hv2, f1, f5, f8, f9, f10, f11, hR0, hR1, i1, i2, i3, hw, true_and, go_sem, seval] <;> rfl)
           | (with_reducible refine pv_condF ?_ ?_; · simp -implicitDefEqProofs only [e1, e2, hv1, hv2, f1, f5, f8, f9, f10, f11, hR0, hR1, i1, i2, i3, hw, true_and, go_sem, seval] <;> rfl)
           | (with_reducible refine pv_exit ?_; simp only [↓reduceIte, Nat.reduceEqDiff])
           | (with_reducible refine pv_ret ?_; simp -implicitDefEqProofs only [retC, retS, retR, resD, oneD, coeDs_nil, coeDs_cons, coeD_agg, coeD_g, coeD_nil, coeD_own, coeCs_nil, coeCs_cons, coeC_g, coeC_nil, coeC_own, e1, e2, hv1, hv2, f1, f5, f8, f9, f10, f11, hR0, hR1, i1, i2, i3, hw, true_and, go_sem, seval])
           | ((with_reducible first | refine hK _ _ ?_ | (clear hK; refine hK _ _ ?_) | (clear hK; clear hK; refine hK _ _ ?_)); clear hK; try clear K)
           | (simp -implicitDefEqProofs only [e1, e2, hv1, hv2, f1, f5, f8, f9, f10, f11, hR0, hR1, i1, i2, i3, hw, true_and, go_sem, seval])
           | (with_reducible intro b)
           | (with_reducible refine And.intro ?_ ?_; · first | assumption | omega | (unfold R64; omega)))
          refine ⟨⟨q - 1, R + v1, g3, by omega, by omega, ?_⟩, ?_⟩
          rotate_left 1
          · simp only [intD]; omega
          exact ⟨rfl, rfl, rfl⟩
        · have i1 : (hi < R) = False := eq_false (by omega)
          have i2 : (hi = R) = False := eq_false h7
          obtain ⟨g1, g2, g3⟩ := go (by omega)
          have hw : IntKind.u64.wrap ((q : Int) - 1) = ((q - 1 : Nat) : Int) := by rw [show (q : Int) - 1 = ((q - 1 : Nat) : Int) by omega, wrap64_nat, Nat.mod_eq_of_lt (by omega)]
          repeat (first
           | (with_reducible first | refine pv_seq fun K hK => ?_ | refine pv_skip ?_ | refine pv_block ?_ | refine pv_scope ?_ | refine pv_label ?_)
           | (with_reducible refine pv_reg ?_; simp -implicitDefEqProofs only [comp_nil, comp_cons, compD_nil, compD_cons, gsl_none, gsl_some, List.getElem?_cons_zero, List.getElem?_cons_succ, Option.map_some, Option.bind_some, lapp_cons, lapp_nil])
           | (with_reducible refine pv_draw (id := 2) [(0, 0), (1, 0), (2, 0), (3, 1), (4, 0), (5, 0), (6, 0), (7, 0), (8, 1), (9, 0), (10, 0), (11, 0), (12, 0), (13, 1), (14, 0), (15, 0), (16, 0)] (by kernel_rfl) ?_; simp -implicitDefEqProofs only [comp_nil, comp_cons, compD_nil, compD_cons, gsl_none, gsl_some, List.getElem?_cons_zero, List.getElem?_cons_succ, Option.map_some, Option.bind_some, lapp_cons, lapp_nil]; simp -implicitDefEqProofs only [e1, e2, hv1, hv2, f1, f5, f8, f9, f10, f11, hR0, hR1, i1, i2, hw, true_and, go_sem, seval])
           | (with_reducible refine pv_condT ?_ ?_; · simp -implicitDefEqProofs only [e1, e2, hv1, hv2, f1, f5, f8, f9, f10, f11, hR0, hR1, i1, i2, hw, true_and, go_sem, seval] <;> rfl)
           | (with_reducible refine pv_condF ?_ ?_; · simp -implicitDefEqProofs only [e1, e2, hv1, hv2, f1, f5, f8, f9, f10, f11, hR0, hR1, i1, i2, hw, true_and, go_sem, seval] <;> rfl)
           | (with_reducible refine pv_exit ?_; simp only [↓reduceIte, Nat.reduceEqDiff])
           | (with_reducible refine pv_ret ?_; simp -implicitDefEqProofs only [retC, retS, retR, resD, oneD, coeDs_nil, coeDs_cons, coeD_agg, coeD_g, coeD_nil, coeD_own, coeCs_nil, coeCs_cons, coeC_g, coeC_nil, coeC_own, e1, e2, hv1, hv2, f1, f5, f8, f9, f10, f11, hR0, hR1, i1, i2, hw, true_and, go_sem, seval])
           | ((with_reducible first | refine hK _ _ ?_ | (clear hK; refine hK _ _ ?_) | (clear hK; clear hK; refine hK _ _ ?_)); clear hK; try clear K)
           | (simp -implicitDefEqProofs only [e1, e2, hv1, hv2, f1, f5, f8, f9, f10, f11, hR0, hR1, i1, i2, hw, true_and, go_sem, seval])
           | (with_reducible intro b)
           | (with_reducible refine And.intro ?_ ?_; · first | assumption | omega | (unfold R64; omega)))
          refine call_is (p_add64 (x := R) (y := v1) (c := 0) (by decide)) ?_
          rw [Nat.add_zero]
          repeat (first
           | (with_reducible first | refine pv_seq fun K hK => ?_ | refine pv_skip ?_ | refine pv_block ?_ | refine pv_scope ?_ | refine pv_label ?_)
           | (with_reducible refine pv_reg ?_; simp -implicitDefEqProofs only [comp_nil, comp_cons, compD_nil, compD_cons, gsl_none, gsl_some, List.getElem?_cons_zero, List.getElem?_cons_succ, Option.map_some, Option.bind_some, lapp_cons, lapp_nil])
           | (with_reducible refine pv_draw (id := 2) [(0, 0), (1, 0), (2, 0), (3, 1), (4, 0), (5, 0), (6, 0), (7, 0), (8, 1), (9, 0), (10, 0), (11, 0), (12, 0), (13, 1), (14, 0), (15, 0), (16, 0)] (by kernel_rfl) ?_; simp -implicitDefEqProofs only [comp_nil, comp_cons, compD_nil, compD_cons, gsl_none, gsl_some, List.getElem?_cons_zero, List.getElem?_cons_succ, Option.map_some, Option.bind_some, lapp_cons, lapp_nil]; simp -implicitDefEqProofs only [e1, e2, hv1, hv2, f1, f5, f8, f9, f10, f11, hR0, hR1, i1, i2, hw, true_and, go_sem, seval])
           | (with_reducible refine pv_condT ?_ ?_; · simp -implicitDefEqProofs only [e1, e2, hv1, hv2, f1, f5, f8, f9, f10, f11, hR0, hR1, i1, i2, hw, true_and, go_sem, seval] <;> rfl)
           | (with_reducible refine pv_condF ?_ ?_; · simp -implicitDefEqProofs only [e1, e2, hv1, hv2, f1, f5, f8, f9, f10, f11, hR0, hR1, i1, i2, hw, true_and, go_sem, seval] <;> rfl)
           | (with_reducible refine pv_exit ?_; simp only [↓reduceIte, Nat.reduceEqDiff])
           | (with_reducible refine pv_ret ?_; simp -implicitDefEqProofs only [retC, retS, retR, resD, oneD, coeDs_nil, coeDs_cons, coeD_agg, coeD_g, coeD_nil, coeD_own, coeCs_nil, coeCs_cons, coeC_g, coeC_nil, coeC_own, e1, e2, hv1, hv2, f1, f5, f8, f9, f10, f11, hR0, hR1, i1, i2, hw, true_and, go_sem, seval])
           | ((with_reducible first | refine hK _ _ ?_ | (clear hK; refine hK _ _ ?_) | (clear hK; clear hK; refine hK _ _ ?_)); clear hK; try clear K)
           | (simp -implicitDefEqProofs only [e1, e2, hv1, hv2, f1, f5, f8, f9, f10, f11, hR0, hR1, i1, i2, hw, true_and, go_sem, seval])
           | (with_reducible intro b)
           | (with_reducible refine And.intro ?_ ?_; · first | assumption | omega | (unfold R64; omega)))
          refine ⟨⟨q - 1, R + v1, g3, by omega, by omega, ?_⟩, ?_⟩
          rotate_left 1
          · simp only [intD]; omega
          exact ⟨rfl, rfl, rfl⟩
      · have hR0 : (R / 18446744073709551616 = 0) = False := eq_false (by omega)
        repeat (first
         | (with_reducible first | refine pv_seq fun K hK => ?_ | refine pv_skip ?_ | refine pv_block ?_ | refine pv_scope ?_ | refine pv_label ?_)
         | (with_reducible refine pv_reg ?_; simp -implicitDefEqProofs only [comp_nil, comp_cons, compD_nil, compD_cons, gsl_none, gsl_some, List.getElem?_cons_zero, List.getElem?_cons_succ, Option.map_some, Option.bind_some, lapp_cons, lapp_nil])
         | (with_reducible refine pv_draw (id := 2) [(0, 0), (1, 0), (2, 0), (3, 1), (4, 0), (5, 0), (6, 0), (7, 0), (8, 1), (9, 0), (10, 0), (11, 0), (12, 0), (13, 1), (14, 0), (15, 0), (16, 0)] (by kernel_rfl) ?_; simp -implicitDefEqProofs only [comp_nil, comp_cons, compD_nil, compD_cons, gsl_none, gsl_some, List.getElem?_cons_zero, List.getElem?_cons_succ, Option.map_some, Option.bind_some, lapp_cons, lapp_nil]; simp -implicitDefEqProofs only [e1, e2, hv1, hv2, f1, f5, f8, f9, f10, f11, hR0, true_and, go_sem, seval])
         | (with_reducible refine pv_condT ?_ ?_; · simp -implicitDefEqProofs only [e1, e2, hv1, hv2, f1, f5, f8, f9, f10, f11, hR0, true_and, go_sem, seval] <;> rfl)
         | (with_reducible refine pv_condF ?_ ?_; · simp -implicitDefEqProofs only [e1, e2, hv1, hv2, f1, f5, f8, f9, f10, f11, hR0, true_and, go_sem, seval] <;> rfl)
         | (with_reducible refine pv_exit ?_; simp only [↓reduceIte, Nat.reduceEqDiff])
         | (with_reducible refine pv_ret ?_; simp -implicitDefEqProofs only [retC, retS, retR, resD, oneD, coeDs_nil, coeDs_cons, coeD_agg, coeD_g, coeD_nil, coeD_own, coeCs_nil, coeCs_cons, coeC_g, coeC_nil, coeC_own, e1, e2, hv1, hv2, f1, f5, f8, f9, f10, f11, hR0, true_and, go_sem, seval])
         | ((with_reducible first | refine hK _ _ ?_ | (clear hK; refine hK _ _ ?_) | (clear hK; clear hK; refine hK _ _ ?_)); clear hK; try clear K)
         | (simp -implicitDefEqProofs only [e1, e2, hv1, hv2, f1, f5, f8, f9, f10, f11, hR0, true_and, go_sem, seval])
         | (with_reducible intro b)
         | (with_reducible refine And.intro ?_ ?_; · first | assumption | omega | (unfold R64; omega)))
        refine J2 _ q hq (hstop hR hqw ?_) hqw (by simp -implicitDefEqProofs only [e1, e2, hv1, hv2, f1, f5, f8, f9, f10, f11, hR0, true_and, go_sem, seval])
        have : q * v2 ≤ 18446744073709551615 * 18446744073709551615 := Nat.mul_le_mul (by omega) (by omega)
        omega
  clear hK
  have hd1 : (V.length - 1) < V.length := by omega
  refine pv_condD (by simp -implicitDefEqProofs only [upS_up, hS, e1, e2, g0, g1, g2, hv1, hv2, true_and, go_sem, seval] <;> rfl) (fun ht => ?_) (fun ht => ?_)
  · repeat (first
     | (with_reducible first | refine pv_seq fun K hK => ?_ | refine pv_skip ?_ | refine pv_block ?_ | refine pv_scope ?_ | refine pv_label ?_)
     | (with_reducible refine pv_reg ?_; simp -implicitDefEqProofs only [comp_nil, comp_cons, compD_nil, compD_cons, gsl_none, gsl_some, List.getElem?_cons_zero, List.getElem?_cons_succ, Option.map_some, Option.bind_some, lapp_cons, lapp_nil])
     | (with_reducible refine pv_draw (id := 2) [(0, 0), (1, 0), (2, 0), (3, 1), (4, 0), (5, 0), (6, 0), (7, 0), (8, 1), (9, 0), (10, 0), (11, 0), (12, 0), (13, 1), (14, 0), (15, 0), (16, 0)] (by kernel_rfl) ?_; simp -implicitDefEqProofs only [comp_nil, comp_cons, compD_nil, compD_cons, gsl_none, gsl_some, List.getElem?_cons_zero, List.getElem?_cons_succ, Option.map_some, Option.bind_some, lapp_cons, lapp_nil]; simp -implicitDefEqProofs only [upS_up, hS, e1, e2, g0, g1, g2, hv1, hv2, true_and, go_sem, seval])
     | (with_reducible refine pv_condT ?_ ?_; · simp -implicitDefEqProofs only [upS_up, hS, e1, e2, g0, g1, g2, hv1, hv2, true_and, go_sem, seval] <;> rfl)
     | (with_reducible refine pv_condF ?_ ?_; · simp -implicitDefEqProofs only [upS_up, hS, e1, e2, g0, g1, g2, hv1, hv2, true_and, go_sem, seval] <;> rfl)
     | (with_reducible refine pv_exit ?_; simp only [↓reduceIte, Nat.reduceEqDiff])
     | (with_reducible refine pv_ret ?_; simp -implicitDefEqProofs only [retC, retS, retR, resD, oneD, coeDs_nil, coeDs_cons, coeD_agg, coeD_g, coeD_nil, coeD_own, coeCs_nil, coeCs_cons, coeC_g, coeC_nil, coeC_own, upS_up, hS, e1, e2, g0, g1, g2, hv1, hv2, true_and, go_sem, seval])
     | ((with_reducible first | refine hK _ _ ?_ | (clear hK; refine hK _ _ ?_) | (clear hK; clear hK; refine hK _ _ ?_)); clear hK; try clear K)
     | (simp -implicitDefEqProofs only [upS_up, hS, e1, e2, g0, g1, g2, hv1, hv2, true_and, go_sem, seval])
     | (with_reducible intro b)
     | (with_reducible refine And.intro ?_ ?_; · first | assumption | omega | (unfold R64; omega)))
    refine call_is (p_div64 (hi := top) (lo := next) (y := v1) ht b1 c1) ?_
    have hfirst := hfirst ht
    have hdm := Nat.div_add_mod (top * 18446744073709551616 + next) v1
    have hml := Nat.mod_lt (top * 18446744073709551616 + next) (show 0 < v1 by omega)
    have hqlt : (top * 18446744073709551616 + next) / v1 < 18446744073709551616 := by
      rw [Nat.div_lt_iff_lt_mul (by omega)]; omega
    generalize (top * 18446744073709551616 + next) / v1 = q at *
    generalize (top * 18446744073709551616 + next) % v1 = R at *
    repeat (first
     | (with_reducible first | refine pv_seq fun K hK => ?_ | refine pv_skip ?_ | refine pv_block ?_ | refine pv_scope ?_ | refine pv_label ?_)
     | (with_reducible refine pv_reg ?_; simp -implicitDefEqProofs only [comp_nil, comp_cons, compD_nil, compD_cons, gsl_none, gsl_some, List.getElem?_cons_zero, List.getElem?_cons_succ, Option.map_some, Option.bind_some, lapp_cons, lapp_nil])
     | (with_reducible refine pv_draw (id := 2) [(0, 0), (1, 0), (2, 0), (3, 1), (4, 0), (5, 0), (6, 0), (7, 0), (8, 1), (9, 0), (10, 0), (11, 0), (12, 0), (13, 1), (14, 0), (15, 0), (16, 0)] (by kernel_rfl) ?_; simp -implicitDefEqProofs only [comp_nil, comp_cons, compD_nil, compD_cons, gsl_none, gsl_some, List.getElem?_cons_zero, List.getElem?_cons_succ, Option.map_some, Option.bind_some, lapp_cons, lapp_nil]; simp -implicitDefEqProofs only [upS_up, hS, e1, e2, g0, g1, g2, hv1, hv2, true_and, go_sem, seval])
     | (with_reducible refine pv_condT ?_ ?_; · simp -implicitDefEqProofs only [upS_up, hS, e1, e2, g0, g1, g2, hv1, hv2, true_and, go_sem, seval] <;> rfl)
     | (with_reducible refine pv_condF ?_ ?_; · simp -implicitDefEqProofs only [upS_up, hS, e1, e2, g0, g1, g2, hv1, hv2, true_and, go_sem, seval] <;> rfl)
     | (with_reducible refine pv_exit ?_; simp only [↓reduceIte, Nat.reduceEqDiff])
     | (with_reducible refine pv_ret ?_; simp -implicitDefEqProofs only [retC, retS, retR, resD, oneD, coeDs_nil, coeDs_cons, coeD_agg, coeD_g, coeD_nil, coeD_own, coeCs_nil, coeCs_cons, coeC_g, coeC_nil, coeC_own, upS_up, hS, e1, e2, g0, g1, g2, hv1, hv2, true_and, go_sem, seval])
     | ((with_reducible first | refine hK _ _ ?_ | (clear hK; refine hK _ _ ?_) | (clear hK; clear hK; refine hK _ _ ?_)); clear hK; try clear K)
     | (simp -implicitDefEqProofs only [upS_up, hS, e1, e2, g0, g1, g2, hv1, hv2, true_and, go_sem, seval])
     | (with_reducible intro b)
     | (with_reducible refine And.intro ?_ ?_; · first | assumption | omega | (unfold R64; omega)))
    exact J _ q R (by rw [Nat.mul_comm]; exact hdm) hfirst hqlt (by simp -implicitDefEqProofs only [upS_up, hS, e1, e2, g0, g1, g2, hv1, hv2, true_and, go_sem, seval]) (by simp -implicitDefEqProofs only [upS_up, hS, e1, e2, g0, g1, g2, hv1, hv2, true_and, go_sem, seval]) (by simp -implicitDefEqProofs only [upS_up, hS, e1, e2, g0, g1, g2, hv1, hv2, true_and, go_sem, seval]) (by simp -implicitDefEqProofs only [upS_up, hS, e1, e2, g0, g1, g2, hv1, hv2, true_and, go_sem, seval]) (by rw [Nat.mod_eq_of_lt (by omega)]; try simp -implicitDefEqProofs only [upS_up, hS, e1, e2, g0, g1, g2, hv1, hv2, true_and, go_sem, seval]) (by rw [Nat.div_eq_of_lt (by omega)]; try simp -implicitDefEqProofs only [upS_up, hS, e1, e2, g0, g1, g2, hv1, hv2, true_and, go_sem, seval])
  · repeat (first
     | (with_reducible first | refine pv_seq fun K hK => ?_ | refine pv_skip ?_ | refine pv_block ?_ | refine pv_scope ?_ | refine pv_label ?_)
     | (with_reducible refine pv_reg ?_; simp -implicitDefEqProofs only [comp_nil, comp_cons, compD_nil, compD_cons, gsl_none, gsl_some, List.getElem?_cons_zero, List.getElem?_cons_succ, Option.map_some, Option.bind_some, lapp_cons, lapp_nil])
     | (with_reducible refine pv_draw (id := 2) [(0, 0), (1, 0), (2, 0), (3, 1), (4, 0), (5, 0), (6, 0), (7, 0), (8, 1), (9, 0), (10, 0), (11, 0), (12, 0), (13, 1), (14, 0), (15, 0), (16, 0)] (by kernel_rfl) ?_; simp -implicitDefEqProofs only [comp_nil, comp_cons, compD_nil, compD_cons, gsl_none, gsl_some, List.getElem?_cons_zero, List.getElem?_cons_succ, Option.map_some, Option.bind_some, lapp_cons, lapp_nil]; simp -implicitDefEqProofs only [upS_up, hS, e1, e2, g0, g1, g2, hv1, hv2, true_and, go_sem, seval])
     | (with_reducible refine pv_condT ?_ ?_; · simp -implicitDefEqProofs only [upS_up, hS, e1, e2, g0, g1, g2, hv1, hv2, true_and, go_sem, seval] <;> rfl)
     | (with_reducible refine pv_condF ?_ ?_; · simp -implicitDefEqProofs only [upS_up, hS, e1, e2, g0, g1, g2, hv1, hv2, true_and, go_sem, seval] <;> rfl)
     | (with_reducible refine pv_exit ?_; simp only [↓reduceIte, Nat.reduceEqDiff])
     | (with_reducible refine pv_ret ?_; simp -implicitDefEqProofs only [retC, retS, retR, resD, oneD, coeDs_nil, coeDs_cons, coeD_agg, coeD_g, coeD_nil, coeD_own, coeCs_nil, coeCs_cons, coeC_g, coeC_nil, coeC_own, upS_up, hS, e1, e2, g0, g1, g2, hv1, hv2, true_and, go_sem, seval])
     | ((with_reducible first | refine hK _ _ ?_ | (clear hK; refine hK _ _ ?_) | (clear hK; clear hK; refine hK _ _ ?_)); clear hK; try clear K)
     | (simp -implicitDefEqProofs only [upS_up, hS, e1, e2, g0, g1, g2, hv1, hv2, true_and, go_sem, seval])
     | (with_reducible intro b)
     | (with_reducible refine And.intro ?_ ?_; · first | assumption | omega | (unfold R64; omega)))
    refine call_is (p_add64 (x := next) (y := v1) (c := 0) (by decide)) ?_
    simp only [Nat.add_zero]
    obtain rfl : top = v1 := by omega
    repeat (first
     | (with_reducible first | refine pv_seq fun K hK => ?_ | refine pv_skip ?_ | refine pv_block ?_ | refine pv_scope ?_ | refine pv_label ?_)
     | (with_reducible refine pv_reg ?_; simp -implicitDefEqProofs only [comp_nil, comp_cons, compD_nil, compD_cons, gsl_none, gsl_some, List.getElem?_cons_zero, List.getElem?_cons_succ, Option.map_some, Option.bind_some, lapp_cons, lapp_nil])
     | (with_reducible refine pv_draw (id := 2) [(0, 0), (1, 0), (2, 0), (3, 1), (4, 0), (5, 0), (6, 0), (7, 0), (8, 1), (9, 0), (10, 0), (11, 0), (12, 0), (13, 1), (14, 0), (15, 0), (16, 0)] (by kernel_rfl) ?_; simp -implicitDefEqProofs only [comp_nil, comp_cons, compD_nil, compD_cons, gsl_none, gsl_some, List.getElem?_cons_zero, List.getElem?_cons_succ, Option.map_some, Option.bind_some, lapp_cons, lapp_nil]; simp -implicitDefEqProofs only [upS_up, hS, e1, e2, g0, g1, g2, hv1, hv2, true_and, go_sem, seval])
     | (with_reducible refine pv_condT ?_ ?_; · simp -implicitDefEqProofs only [upS_up, hS, e1, e2, g0, g1, g2, hv1, hv2, true_and, go_sem, seval] <;> rfl)
     | (with_reducible refine pv_condF ?_ ?_; · simp -implicitDefEqProofs only [upS_up, hS, e1, e2, g0, g1, g2, hv1, hv2, true_and, go_sem, seval] <;> rfl)
     | (with_reducible refine pv_exit ?_; simp only [↓reduceIte, Nat.reduceEqDiff])
     | (with_reducible refine pv_ret ?_; simp -implicitDefEqProofs only [retC, retS, retR, resD, oneD, coeDs_nil, coeDs_cons, coeD_agg, coeD_g, coeD_nil, coeD_own, coeCs_nil, coeCs_cons, coeC_g, coeC_nil, coeC_own, upS_up, hS, e1, e2, g0, g1, g2, hv1, hv2, true_and, go_sem, seval])
     | ((with_reducible first | refine hK _ _ ?_ | (clear hK; refine hK _ _ ?_) | (clear hK; clear hK; refine hK _ _ ?_)); clear hK; try clear K)
     | (simp -implicitDefEqProofs only [upS_up, hS, e1, e2, g0, g1, g2, hv1, hv2, true_and, go_sem, seval])
     | (with_reducible intro b)
     | (with_reducible refine And.intro ?_ ?_; · first | assumption | omega | (unfold R64; omega)))
    exact J _ 18446744073709551615 (next + top) (by omega) (by omega) (by decide) (by simp -implicitDefEqProofs only [upS_up, hS, e1, e2, g0, g1, g2, hv1, hv2, true_and, go_sem, seval]) (by simp -implicitDefEqProofs only [upS_up, hS, e1, e2, g0, g1, g2, hv1, hv2, true_and, go_sem, seval]) (by simp -implicitDefEqProofs only [upS_up, hS, e1, e2, g0, g1, g2, hv1, hv2, true_and, go_sem, seval]) rfl (by simp -implicitDefEqProofs only [upS_up, hS, e1, e2, g0, g1, g2, hv1, hv2, true_and, go_sem, seval]) (by simp -implicitDefEqProofs only [upS_up, hS, e1, e2, g0, g1, g2, hv1, hv2, true_and, go_sem, seval])

end Go.V

/- Package nat: Div, over values as data. -/
import Derived.Test.YtilnmcabjkpohaaDoorDZ
set_option linter.unusedSimpArgs false
set_option linter.unusedVariables false
set_option maxRecDepth 100000
namespace Go.V
open Go Go.RowKit Go.Proofs

theorem p_byWord {A : List Nat} {d : Nat} (ha : B64 A) (hl : A.length ≤ 1099511627776) (hd0 : 0 < d) (hd : d < 18446744073709551616) :
    PC Tryd.prog 43 [W64 A, w64 d] fun r => r = .tup [W64 (D64 (N64 A / d)), w64 (N64 A % d)] := pc_new fun w I vs hG hv => by
  obtain ⟨v, v', rfl, h, h'⟩ := hv.two
  obtain rfl := h'.lit_inv
  refine (nat_byWord (rd_w64 h ha) hl hd0 hd).mono ?_
  rintro r w' ⟨hE, q, rfl, hq⟩
  exact ⟨hE, _, RdD.ofT (.cons (own_w64 hq) (.cons (.g (.lit _ rfl)) .nil)), rfl⟩

set_option maxHeartbeats 4000000 in
theorem p_Div {xs ys : List Nat} (hx : B64 xs) (hy : B64 ys) (hl : xs.length ≤ 1099511627776) (hl' : ys.length ≤ 1099511627776) :
    PC Tryd.prog 27 [W64 xs, W64 ys] fun d => d = if N64 ys = 0 then .tup [W64 [], W64 [], bl false] else .tup [W64 (D64 (N64 xs / N64 ys)), W64 (D64 (N64 xs % N64 ys)), bl true] := by
  have hlm : (D64 (N64 xs)).length ≤ xs.length := digs_len_le (by decide) (nval_lt (by decide) xs hx)
  have hln : (D64 (N64 ys)).length ≤ ys.length := digs_len_le (by decide) (nval_lt (by decide) ys hy)
  have h0 : (D64 (N64 ys)).length = 0 ↔ N64 ys = 0 := by rw [List.length_eq_zero_iff]; exact digs_eq_nil (by decide)
  have hm : N64 (D64 (N64 xs)) = N64 xs := nval_digs (by decide) _
  have hn : N64 (D64 (N64 ys)) = N64 ys := nval_digs (by decide) _
  have hbm : B64 (D64 (N64 xs)) := digs_lt (by decide) _
  have hbn : B64 (D64 (N64 ys)) := digs_lt (by decide) _
  have htm : NoTail (D64 (N64 xs)) := digs_noTail (by decide) _
  have htn : NoTail (D64 (N64 ys)) := digs_noTail (by decide) _
  refine PC.body (args := [W64 xs, W64 ys]) (rs := [.tmp 4, .tmp 5, .tmp 6]) mixed Tryd.func27 rfl (by kernel_rfl) (by kernel_rfl) (Nat.le_of_ble_eq_true rfl) rfl ?_
  repeat (first
   | (with_reducible first | refine pv_seq fun K hK => ?_ | refine pv_skip ?_ | refine pv_block ?_ | refine pv_scope ?_ | refine pv_label ?_)
   | (with_reducible refine pv_reg ?_; simp -implicitDefEqProofs only [comp_nil, comp_cons, compD_nil, compD_cons, gsl_none, gsl_some, List.getElem?_cons_zero, List.getElem?_cons_succ, Option.map_some, Option.bind_some, lapp_cons, lapp_nil])
   | (fail)
   | (with_reducible refine pv_condT ?_ ?_; · simp -implicitDefEqProofs only [true_and, true_and, go_sem, seval] <;> rfl)
   | (with_reducible refine pv_condF ?_ ?_; · simp -implicitDefEqProofs only [true_and, true_and, go_sem, seval] <;> rfl)
   | (with_reducible refine pv_exit ?_; simp only [↓reduceIte, Nat.reduceEqDiff])
   | (with_reducible refine pv_ret ?_; simp -implicitDefEqProofs only [retC, retS, retR, resD, oneD, coeDs_nil, coeDs_cons, coeD_agg, coeD_g, coeD_nil, coeD_own, coeCs_nil, coeCs_cons, coeC_g, coeC_nil, coeC_own, true_and, true_and, go_sem, seval])
   | ((with_reducible first | refine hK _ _ ?_ | (clear hK; refine hK _ _ ?_) | (clear hK; clear hK; refine hK _ _ ?_)); clear hK; try clear K)
   | (simp -implicitDefEqProofs only [true_and, true_and, go_sem, seval])
   | (with_reducible intro b)
   | (with_reducible refine And.intro ?_ ?_; · first | assumption | omega | (unfold R64; omega)))
  refine call_is (p_cut hx) ?_
  repeat (first
   | (with_reducible first | refine pv_seq fun K hK => ?_ | refine pv_skip ?_ | refine pv_block ?_ | refine pv_scope ?_ | refine pv_label ?_)
   | (with_reducible refine pv_reg ?_; simp -implicitDefEqProofs only [comp_nil, comp_cons, compD_nil, compD_cons, gsl_none, gsl_some, List.getElem?_cons_zero, List.getElem?_cons_succ, Option.map_some, Option.bind_some, lapp_cons, lapp_nil])
   | (fail)
   | (with_reducible refine pv_condT ?_ ?_; · simp -implicitDefEqProofs only [true_and, true_and, go_sem, seval] <;> rfl)
   | (with_reducible refine pv_condF ?_ ?_; · simp -implicitDefEqProofs only [true_and, true_and, go_sem, seval] <;> rfl)
   | (with_reducible refine pv_exit ?_; simp only [↓reduceIte, Nat.reduceEqDiff])
   | (with_reducible refine pv_ret ?_; simp -implicitDefEqProofs only [retC, retS, retR, resD, oneD, coeDs_nil, coeDs_cons, coeD_agg, coeD_g, coeD_nil, coeD_own, coeCs_nil, coeCs_cons, coeC_g, coeC_nil, coeC_own, true_and, true_and, go_sem, seval])
   | ((with_reducible first | refine hK _ _ ?_ | (clear hK; refine hK _ _ ?_) | (clear hK; clear hK; refine hK _ _ ?_)); clear hK; try clear K)
   | (simp -implicitDefEqProofs only [true_and, true_and, go_sem, seval])
   | (with_reducible intro b)
   | (with_reducible refine And.intro ?_ ?_; · first | assumption | omega | (unfold R64; omega)))
  refine call_is (p_cut hy) ?_
  repeat (first
   | (with_reducible first | refine pv_seq fun K hK => ?_ | refine pv_skip ?_ | refine pv_block ?_ | refine pv_scope ?_ | refine pv_label ?_)
   | (with_reducible refine pv_reg ?_; simp -implicitDefEqProofs only [comp_nil, comp_cons, compD_nil, compD_cons, gsl_none, gsl_some, List.getElem?_cons_zero, List.getElem?_cons_succ, Option.map_some, Option.bind_some, lapp_cons, lapp_nil])
   | (fail)
   | (with_reducible refine pv_condT ?_ ?_; · simp -implicitDefEqProofs only [true_and, true_and, go_sem, seval] <;> rfl)
   | (with_reducible refine pv_condF ?_ ?_; · simp -implicitDefEqProofs only [true_and, true_and, go_sem, seval] <;> rfl)
   | (with_reducible refine pv_exit ?_; simp only [↓reduceIte, Nat.reduceEqDiff])
   | (with_reducible refine pv_ret ?_; simp -implicitDefEqProofs only [retC, retS, retR, resD, oneD, coeDs_nil, coeDs_cons, coeD_agg, coeD_g, coeD_nil, coeD_own, coeCs_nil, coeCs_cons, coeC_g, coeC_nil, coeC_own, true_and, true_and, go_sem, seval])
   | ((with_reducible first | refine hK _ _ ?_ | (clear hK; refine hK _ _ ?_) | (clear hK; clear hK; refine hK _ _ ?_)); clear hK; try clear K)
   | (simp -implicitDefEqProofs only [true_and, true_and, go_sem, seval])
   | (with_reducible intro b)
   | (with_reducible refine And.intro ?_ ?_; · first | assumption | omega | (unfold R64; omega)))
  refine pv_condD (by simp -implicitDefEqProofs only [true_and, true_and, go_sem, seval] <;> rfl) (fun ht => ?_) (fun ht => ?_)
  · repeat (first
     | (with_reducible first | refine pv_seq fun K hK => ?_ | refine pv_skip ?_ | refine pv_block ?_ | refine pv_scope ?_ | refine pv_label ?_)
     | (with_reducible refine pv_reg ?_; simp -implicitDefEqProofs only [comp_nil, comp_cons, compD_nil, compD_cons, gsl_none, gsl_some, List.getElem?_cons_zero, List.getElem?_cons_succ, Option.map_some, Option.bind_some, lapp_cons, lapp_nil])
     | (fail)
     | (with_reducible refine pv_condT ?_ ?_; · simp -implicitDefEqProofs only [true_and, true_and, go_sem, seval] <;> rfl)
     | (with_reducible refine pv_condF ?_ ?_; · simp -implicitDefEqProofs only [true_and, true_and, go_sem, seval] <;> rfl)
     | (with_reducible refine pv_exit ?_; simp only [↓reduceIte, Nat.reduceEqDiff])
     | (with_reducible refine pv_ret ?_; simp -implicitDefEqProofs only [retC, retS, retR, resD, oneD, coeDs_nil, coeDs_cons, coeD_agg, coeD_g, coeD_nil, coeD_own, coeCs_nil, coeCs_cons, coeC_g, coeC_nil, coeC_own, true_and, true_and, go_sem, seval])
     | ((with_reducible first | refine hK _ _ ?_ | (clear hK; refine hK _ _ ?_) | (clear hK; clear hK; refine hK _ _ ?_)); clear hK; try clear K)
     | (simp -implicitDefEqProofs only [true_and, true_and, go_sem, seval])
     | (with_reducible intro b)
     | (with_reducible refine And.intro ?_ ?_; · first | assumption | omega | (unfold R64; omega)))
    rw [if_pos (h0.1 ht)]
  · have hn0 : ¬ N64 ys = 0 := fun h => ht (h0.2 h)
    repeat (first
     | (with_reducible first | refine pv_seq fun K hK => ?_ | refine pv_skip ?_ | refine pv_block ?_ | refine pv_scope ?_ | refine pv_label ?_)
     | (with_reducible refine pv_reg ?_; simp -implicitDefEqProofs only [comp_nil, comp_cons, compD_nil, compD_cons, gsl_none, gsl_some, List.getElem?_cons_zero, List.getElem?_cons_succ, Option.map_some, Option.bind_some, lapp_cons, lapp_nil])
     | (fail)
     | (with_reducible refine pv_condT ?_ ?_; · simp -implicitDefEqProofs only [true_and, true_and, go_sem, seval] <;> rfl)
     | (with_reducible refine pv_condF ?_ ?_; · simp -implicitDefEqProofs only [true_and, true_and, go_sem, seval] <;> rfl)
     | (with_reducible refine pv_exit ?_; simp only [↓reduceIte, Nat.reduceEqDiff])
     | (with_reducible refine pv_ret ?_; simp -implicitDefEqProofs only [retC, retS, retR, resD, oneD, coeDs_nil, coeDs_cons, coeD_agg, coeD_g, coeD_nil, coeD_own, coeCs_nil, coeCs_cons, coeC_g, coeC_nil, coeC_own, true_and, true_and, go_sem, seval])
     | ((with_reducible first | refine hK _ _ ?_ | (clear hK; refine hK _ _ ?_) | (clear hK; clear hK; refine hK _ _ ?_)); clear hK; try clear K)
     | (simp -implicitDefEqProofs only [true_and, true_and, go_sem, seval])
     | (with_reducible intro b)
     | (with_reducible refine And.intro ?_ ?_; · first | assumption | omega | (unfold R64; omega)))
    refine call_is (p_Cmp hbm hbn (by omega) (by omega)) ?_
    rw [hm, hn]
    repeat (first
     | (with_reducible first | refine pv_seq fun K hK => ?_ | refine pv_skip ?_ | refine pv_block ?_ | refine pv_scope ?_ | refine pv_label ?_)
     | (with_reducible refine pv_reg ?_; simp -implicitDefEqProofs only [comp_nil, comp_cons, compD_nil, compD_cons, gsl_none, gsl_some, List.getElem?_cons_zero, List.getElem?_cons_succ, Option.map_some, Option.bind_some, lapp_cons, lapp_nil])
     | (fail)
     | (with_reducible refine pv_condT ?_ ?_; · simp -implicitDefEqProofs only [true_and, true_and, go_sem, seval] <;> rfl)
     | (with_reducible refine pv_condF ?_ ?_; · simp -implicitDefEqProofs only [true_and, true_and, go_sem, seval] <;> rfl)
     | (with_reducible refine pv_exit ?_; simp only [↓reduceIte, Nat.reduceEqDiff])
     | (with_reducible refine pv_ret ?_; simp -implicitDefEqProofs only [retC, retS, retR, resD, oneD, coeDs_nil, coeDs_cons, coeD_agg, coeD_g, coeD_nil, coeD_own, coeCs_nil, coeCs_cons, coeC_g, coeC_nil, coeC_own, true_and, true_and, go_sem, seval])
     | ((with_reducible first | refine hK _ _ ?_ | (clear hK; refine hK _ _ ?_) | (clear hK; clear hK; refine hK _ _ ?_)); clear hK; try clear K)
     | (simp -implicitDefEqProofs only [true_and, true_and, go_sem, seval])
     | (with_reducible intro b)
     | (with_reducible refine And.intro ?_ ?_; · first | assumption | omega | (unfold R64; omega)))
    refine pv_condD (by simp -implicitDefEqProofs only [true_and, true_and, go_sem, seval] <;> rfl) (fun ht2 => ?_) (fun ht2 => ?_)
    · repeat (first
       | (with_reducible first | refine pv_seq fun K hK => ?_ | refine pv_skip ?_ | refine pv_block ?_ | refine pv_scope ?_ | refine pv_label ?_)
       | (with_reducible refine pv_reg ?_; simp -implicitDefEqProofs only [comp_nil, comp_cons, compD_nil, compD_cons, gsl_none, gsl_some, List.getElem?_cons_zero, List.getElem?_cons_succ, Option.map_some, Option.bind_some, lapp_cons, lapp_nil])
       | (fail)
       | (with_reducible refine pv_condT ?_ ?_; · simp -implicitDefEqProofs only [true_and, true_and, go_sem, seval] <;> rfl)
       | (with_reducible refine pv_condF ?_ ?_; · simp -implicitDefEqProofs only [true_and, true_and, go_sem, seval] <;> rfl)
       | (with_reducible refine pv_exit ?_; simp only [↓reduceIte, Nat.reduceEqDiff])
       | (with_reducible refine pv_ret ?_; simp -implicitDefEqProofs only [retC, retS, retR, resD, oneD, coeDs_nil, coeDs_cons, coeD_agg, coeD_g, coeD_nil, coeD_own, coeCs_nil, coeCs_cons, coeC_g, coeC_nil, coeC_own, true_and, true_and, go_sem, seval])
       | ((with_reducible first | refine hK _ _ ?_ | (clear hK; refine hK _ _ ?_) | (clear hK; clear hK; refine hK _ _ ?_)); clear hK; try clear K)
       | (simp -implicitDefEqProofs only [true_and, true_and, go_sem, seval])
       | (with_reducible intro b)
       | (with_reducible refine And.intro ?_ ?_; · first | assumption | omega | (unfold R64; omega)))
      refine call_is (p_Trim hbm (by omega)) ?_
      rw [hm]
      have hlt : N64 xs < N64 ys := by
        unfold cmpI at ht2
        split at ht2
        · omega
        · split at ht2 <;> simp at ht2
      repeat (first
       | (with_reducible first | refine pv_seq fun K hK => ?_ | refine pv_skip ?_ | refine pv_block ?_ | refine pv_scope ?_ | refine pv_label ?_)
       | (with_reducible refine pv_reg ?_; simp -implicitDefEqProofs only [comp_nil, comp_cons, compD_nil, compD_cons, gsl_none, gsl_some, List.getElem?_cons_zero, List.getElem?_cons_succ, Option.map_some, Option.bind_some, lapp_cons, lapp_nil])
       | (fail)
       | (with_reducible refine pv_condT ?_ ?_; · simp -implicitDefEqProofs only [true_and, true_and, go_sem, seval] <;> rfl)
       | (with_reducible refine pv_condF ?_ ?_; · simp -implicitDefEqProofs only [true_and, true_and, go_sem, seval] <;> rfl)
       | (with_reducible refine pv_exit ?_; simp only [↓reduceIte, Nat.reduceEqDiff])
       | (with_reducible refine pv_ret ?_; simp -implicitDefEqProofs only [retC, retS, retR, resD, oneD, coeDs_nil, coeDs_cons, coeD_agg, coeD_g, coeD_nil, coeD_own, coeCs_nil, coeCs_cons, coeC_g, coeC_nil, coeC_own, true_and, true_and, go_sem, seval])
       | ((with_reducible first | refine hK _ _ ?_ | (clear hK; refine hK _ _ ?_) | (clear hK; clear hK; refine hK _ _ ?_)); clear hK; try clear K)
       | (simp -implicitDefEqProofs only [true_and, true_and, go_sem, seval])
       | (with_reducible intro b)
       | (with_reducible refine And.intro ?_ ?_; · first | assumption | omega | (unfold R64; omega)))
      rw [if_neg hn0, Nat.div_eq_of_lt hlt, Nat.mod_eq_of_lt hlt, show D64 0 = [] from digs_zero _]
    · have hge : N64 ys ≤ N64 xs := by
        unfold cmpI at ht2
        split at ht2
        · simp at ht2
        · omega
      repeat (first
       | (with_reducible first | refine pv_seq fun K hK => ?_ | refine pv_skip ?_ | refine pv_block ?_ | refine pv_scope ?_ | refine pv_label ?_)
       | (with_reducible refine pv_reg ?_; simp -implicitDefEqProofs only [comp_nil, comp_cons, compD_nil, compD_cons, gsl_none, gsl_some, List.getElem?_cons_zero, List.getElem?_cons_succ, Option.map_some, Option.bind_some, lapp_cons, lapp_nil])
       | (fail)
       | (with_reducible refine pv_condT ?_ ?_; · simp -implicitDefEqProofs only [true_and, true_and, go_sem, seval] <;> rfl)
       | (with_reducible refine pv_condF ?_ ?_; · simp -implicitDefEqProofs only [true_and, true_and, go_sem, seval] <;> rfl)
       | (with_reducible refine pv_exit ?_; simp only [↓reduceIte, Nat.reduceEqDiff])
       | (with_reducible refine pv_ret ?_; simp -implicitDefEqProofs only [retC, retS, retR, resD, oneD, coeDs_nil, coeDs_cons, coeD_agg, coeD_g, coeD_nil, coeD_own, coeCs_nil, coeCs_cons, coeC_g, coeC_nil, coeC_own, true_and, true_and, go_sem, seval])
       | ((with_reducible first | refine hK _ _ ?_ | (clear hK; refine hK _ _ ?_) | (clear hK; clear hK; refine hK _ _ ?_)); clear hK; try clear K)
       | (simp -implicitDefEqProofs only [true_and, true_and, go_sem, seval])
       | (with_reducible intro b)
       | (with_reducible refine And.intro ?_ ?_; · first | assumption | omega | (unfold R64; omega)))
      refine pv_condD (by simp -implicitDefEqProofs only [true_and, true_and, go_sem, seval] <;> rfl) (fun ht3 => ?_) (fun ht3 => ?_)
      · obtain ⟨x, hx1⟩ : ∃ x, D64 (N64 ys) = [x] := List.length_eq_one_iff.1 (by omega)
        have hxn : x = N64 ys := by rw [← hn, hx1]; simp [nval]
        have hxb : x < 18446744073709551616 := hbn x (by rw [hx1]; exact List.mem_singleton.2 rfl)
        rw [hx1]
        repeat (first
         | (with_reducible first | refine pv_seq fun K hK => ?_ | refine pv_skip ?_ | refine pv_block ?_ | refine pv_scope ?_ | refine pv_label ?_)
         | (with_reducible refine pv_reg ?_; simp -implicitDefEqProofs only [comp_nil, comp_cons, compD_nil, compD_cons, gsl_none, gsl_some, List.getElem?_cons_zero, List.getElem?_cons_succ, Option.map_some, Option.bind_some, lapp_cons, lapp_nil])
         | (fail)
         | (with_reducible refine pv_condT ?_ ?_; · simp -implicitDefEqProofs only [true_and, true_and, go_sem, seval] <;> rfl)
         | (with_reducible refine pv_condF ?_ ?_; · simp -implicitDefEqProofs only [true_and, true_and, go_sem, seval] <;> rfl)
         | (with_reducible refine pv_exit ?_; simp only [↓reduceIte, Nat.reduceEqDiff])
         | (with_reducible refine pv_ret ?_; simp -implicitDefEqProofs only [retC, retS, retR, resD, oneD, coeDs_nil, coeDs_cons, coeD_agg, coeD_g, coeD_nil, coeD_own, coeCs_nil, coeCs_cons, coeC_g, coeC_nil, coeC_own, true_and, true_and, go_sem, seval])
         | ((with_reducible first | refine hK _ _ ?_ | (clear hK; refine hK _ _ ?_) | (clear hK; clear hK; refine hK _ _ ?_)); clear hK; try clear K)
         | (simp -implicitDefEqProofs only [true_and, true_and, go_sem, seval])
         | (with_reducible intro b)
         | (with_reducible refine And.intro ?_ ?_; · first | assumption | omega | (unfold R64; omega)))
        refine call_is (p_byWord hbm (by omega) (show 0 < x by omega) hxb) ?_
        rw [hm, hxn]
        have hmod : N64 xs % N64 ys < 18446744073709551616 := by rw [← hxn]; exact Nat.lt_trans (Nat.mod_lt _ (by omega)) hxb
        repeat (first
         | (with_reducible first | refine pv_seq fun K hK => ?_ | refine pv_skip ?_ | refine pv_block ?_ | refine pv_scope ?_ | refine pv_label ?_)
         | (with_reducible refine pv_reg ?_; simp -implicitDefEqProofs only [comp_nil, comp_cons, compD_nil, compD_cons, gsl_none, gsl_some, List.getElem?_cons_zero, List.getElem?_cons_succ, Option.map_some, Option.bind_some, lapp_cons, lapp_nil])
         | (fail)
         | (with_reducible refine pv_condT ?_ ?_; · simp -implicitDefEqProofs only [true_and, true_and, go_sem, seval] <;> rfl)
         | (with_reducible refine pv_condF ?_ ?_; · simp -implicitDefEqProofs only [true_and, true_and, go_sem, seval] <;> rfl)
         | (with_reducible refine pv_exit ?_; simp only [↓reduceIte, Nat.reduceEqDiff])
         | (with_reducible refine pv_ret ?_; simp -implicitDefEqProofs only [retC, retS, retR, resD, oneD, coeDs_nil, coeDs_cons, coeD_agg, coeD_g, coeD_nil, coeD_own, coeCs_nil, coeCs_cons, coeC_g, coeC_nil, coeC_own, true_and, true_and, go_sem, seval])
         | ((with_reducible first | refine hK _ _ ?_ | (clear hK; refine hK _ _ ?_) | (clear hK; clear hK; refine hK _ _ ?_)); clear hK; try clear K)
         | (simp -implicitDefEqProofs only [true_and, true_and, go_sem, seval])
         | (with_reducible intro b)
         | (with_reducible refine And.intro ?_ ?_; · first | assumption | omega | (unfold R64; omega)))
        refine PFC.coe ?_
        simp -implicitDefEqProofs only [coeDs_nil, coeDs_cons, coeD_agg, coeD_g, coeD_nil, coeD_own, coeCs_nil, coeCs_cons, coeC_g, coeC_nil, coeC_own, pureLL, pureL, tg_g, tg_nil, Nat.zero_add, Nat.le_refl, W64_l1, W64_l2, W32_l1, toG_W64, WW_1, WW_2, WW_3, true_and, true_and, go_sem, seval]
        refine call_is (p_cut (xs := [N64 xs % N64 ys]) (by intro x hx; rw [List.mem_singleton.1 hx]; exact hmod)) ?_
        rw [show N64 [N64 xs % N64 ys] = N64 xs % N64 ys by simp [nval]]
        repeat (first
         | (with_reducible first | refine pv_seq fun K hK => ?_ | refine pv_skip ?_ | refine pv_block ?_ | refine pv_scope ?_ | refine pv_label ?_)
         | (with_reducible refine pv_reg ?_; simp -implicitDefEqProofs only [comp_nil, comp_cons, compD_nil, compD_cons, gsl_none, gsl_some, List.getElem?_cons_zero, List.getElem?_cons_succ, Option.map_some, Option.bind_some, lapp_cons, lapp_nil])
         | (fail)
         | (with_reducible refine pv_condT ?_ ?_; · simp -implicitDefEqProofs only [true_and, true_and, go_sem, seval] <;> rfl)
         | (with_reducible refine pv_condF ?_ ?_; · simp -implicitDefEqProofs only [true_and, true_and, go_sem, seval] <;> rfl)
         | (with_reducible refine pv_exit ?_; simp only [↓reduceIte, Nat.reduceEqDiff])
         | (with_reducible refine pv_ret ?_; simp -implicitDefEqProofs only [retC, retS, retR, resD, oneD, coeDs_nil, coeDs_cons, coeD_agg, coeD_g, coeD_nil, coeD_own, coeCs_nil, coeCs_cons, coeC_g, coeC_nil, coeC_own, true_and, true_and, go_sem, seval])
         | ((with_reducible first | refine hK _ _ ?_ | (clear hK; refine hK _ _ ?_) | (clear hK; clear hK; refine hK _ _ ?_)); clear hK; try clear K)
         | (simp -implicitDefEqProofs only [true_and, true_and, go_sem, seval])
         | (with_reducible intro b)
         | (with_reducible refine And.intro ?_ ?_; · first | assumption | omega | (unfold R64; omega)))
        rw [if_neg hn0]
      · repeat (first
         | (with_reducible first | refine pv_seq fun K hK => ?_ | refine pv_skip ?_ | refine pv_block ?_ | refine pv_scope ?_ | refine pv_label ?_)
         | (with_reducible refine pv_reg ?_; simp -implicitDefEqProofs only [comp_nil, comp_cons, compD_nil, compD_cons, gsl_none, gsl_some, List.getElem?_cons_zero, List.getElem?_cons_succ, Option.map_some, Option.bind_some, lapp_cons, lapp_nil])
         | (fail)
         | (with_reducible refine pv_condT ?_ ?_; · simp -implicitDefEqProofs only [true_and, true_and, go_sem, seval] <;> rfl)
         | (with_reducible refine pv_condF ?_ ?_; · simp -implicitDefEqProofs only [true_and, true_and, go_sem, seval] <;> rfl)
         | (with_reducible refine pv_exit ?_; simp only [↓reduceIte, Nat.reduceEqDiff])
         | (with_reducible refine pv_ret ?_; simp -implicitDefEqProofs only [retC, retS, retR, resD, oneD, coeDs_nil, coeDs_cons, coeD_agg, coeD_g, coeD_nil, coeD_own, coeCs_nil, coeCs_cons, coeC_g, coeC_nil, coeC_own, true_and, true_and, go_sem, seval])
         | ((with_reducible first | refine hK _ _ ?_ | (clear hK; refine hK _ _ ?_) | (clear hK; clear hK; refine hK _ _ ?_)); clear hK; try clear K)
         | (simp -implicitDefEqProofs only [true_and, true_and, go_sem, seval])
         | (with_reducible intro b)
         | (with_reducible refine And.intro ?_ ?_; · first | assumption | omega | (unfold R64; omega)))
        refine call_is (p_byWords hbm hbn (by omega) htm htn (by omega) (by rw [hm, hn]; exact hge)) ?_
        rw [hm, hn]
        repeat (first
         | (with_reducible first | refine pv_seq fun K hK => ?_ | refine pv_skip ?_ | refine pv_block ?_ | refine pv_scope ?_ | refine pv_label ?_)
         | (with_reducible refine pv_reg ?_; simp -implicitDefEqProofs only [comp_nil, comp_cons, compD_nil, compD_cons, gsl_none, gsl_some, List.getElem?_cons_zero, List.getElem?_cons_succ, Option.map_some, Option.bind_some, lapp_cons, lapp_nil])
         | (fail)
         | (with_reducible refine pv_condT ?_ ?_; · simp -implicitDefEqProofs only [true_and, true_and, go_sem, seval] <;> rfl)
         | (with_reducible refine pv_condF ?_ ?_; · simp -implicitDefEqProofs only [true_and, true_and, go_sem, seval] <;> rfl)
         | (with_reducible refine pv_exit ?_; simp only [↓reduceIte, Nat.reduceEqDiff])
         | (with_reducible refine pv_ret ?_; simp -implicitDefEqProofs only [retC, retS, retR, resD, oneD, coeDs_nil, coeDs_cons, coeD_agg, coeD_g, coeD_nil, coeD_own, coeCs_nil, coeCs_cons, coeC_g, coeC_nil, coeC_own, true_and, true_and, go_sem, seval])
         | ((with_reducible first | refine hK _ _ ?_ | (clear hK; refine hK _ _ ?_) | (clear hK; clear hK; refine hK _ _ ?_)); clear hK; try clear K)
         | (simp -implicitDefEqProofs only [true_and, true_and, go_sem, seval])
         | (with_reducible intro b)
         | (with_reducible refine And.intro ?_ ?_; · first | assumption | omega | (unfold R64; omega)))
        rw [if_neg hn0]

end Go.V

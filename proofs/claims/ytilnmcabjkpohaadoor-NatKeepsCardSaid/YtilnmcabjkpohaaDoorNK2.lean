/- The statement NatKeeps. -/
import Derived.Test.YtilnmcabjkpohaaDoorNK1
set_option linter.unusedSimpArgs false
set_option linter.unusedVariables false
set_option maxRecDepth 100000
namespace Go.V
open Go Go.RowKit Go.Proofs
def qNK2_9_22 : PT := (.lin [(0, 0), (1, 0), (2, 0), (3, 0), (4, 0), (6, 0)] (.fork 5 3 (.lin [] (.fork 7 3 (.lin [(8, 3), (9, 3), (10, 3), (11, 0), (12, 0), (13, 0), (14, 0), (15, 0), (16, 0), (18, 0)] (.fork 17 3 (.lin [] (.fork 19 3 (.lin [(20, 3), (21, 3), (22, 3), (23, 0), (24, 0), (25, 0), (26, 0), (27, 0), (28, 3), (29, 3), (30, 0), (31, 0)] .nil) 20 3 (.lin [(19, 3), (21, 3), (22, 3), (23, 0), (24, 0), (25, 0), (26, 0), (27, 0), (28, 3), (29, 3), (30, 0), (31, 0)] .nil))) 20 3 (.lin [(17, 3), (19, 3), (21, 3), (22, 3), (23, 0), (24, 0), (25, 0), (26, 0), (27, 0), (28, 3), (29, 3), (30, 0), (31, 0)] .nil))) 8 3 (.lin [(7, 3), (9, 3), (10, 3), (11, 0), (12, 0), (13, 0), (14, 0), (15, 0), (16, 0), (18, 0)] (.fork 17 3 (.lin [] (.fork 19 3 (.lin [(20, 3), (21, 3), (22, 3), (23, 0), (24, 0), (25, 0), (26, 0), (27, 0), (28, 3), (29, 3), (30, 0), (31, 0)] .nil) 20 3 (.lin [(19, 3), (21, 3), (22, 3), (23, 0), (24, 0), (25, 0), (26, 0), (27, 0), (28, 3), (29, 3), (30, 0), (31, 0)] .nil))) 20 3 (.lin [(17, 3), (19, 3), (21, 3), (22, 3), (23, 0), (24, 0), (25, 0), (26, 0), (27, 0), (28, 3), (29, 3), (30, 0), (31, 0)] .nil))))) 8 3 (.lin [(5, 3), (7, 3), (9, 3), (10, 3), (11, 0), (12, 0), (13, 0), (14, 0), (15, 0), (16, 0), (18, 0)] (.fork 17 3 (.lin [] (.fork 19 3 (.lin [(20, 3), (21, 3), (22, 3), (23, 0), (24, 0), (25, 0), (26, 0), (27, 0), (28, 3), (29, 3), (30, 0), (31, 0)] .nil) 20 3 (.lin [(19, 3), (21, 3), (22, 3), (23, 0), (24, 0), (25, 0), (26, 0), (27, 0), (28, 3), (29, 3), (30, 0), (31, 0)] .nil))) 20 3 (.lin [(17, 3), (19, 3), (21, 3), (22, 3), (23, 0), (24, 0), (25, 0), (26, 0), (27, 0), (28, 3), (29, 3), (30, 0), (31, 0)] .nil)))))
attribute [go_sem] qNK2_9_22

theorem r64_at {zs : List Nat} {i : Nat} (h : i < zs.length) : (rS (eK .u64) zs)[i]? = some [D.g (G.lit (Value.int IntKind.u64 ((zs.getD i 0 : Nat) : Int)))] := by
  rw [rS_get, show zs[i]? = some (zs.getD i 0) by simp [List.getD, List.getElem?_eq_getElem h]]; rfl
theorem r64_set {zs : List Nat} {i : Nat} : (rS (eK .u64) zs).set i [D.g (G.lit (Value.int IntKind.u64 5))] = rS (eK .u64) (zs.set i 5) := by
  unfold rS gl
  rw [List.map_set, List.map_set]; rfl
theorem b77 {xs : List Nat} (h : B64 xs) : B64 (xs ++ [77, 77]) := fun x hx => by
  rcases List.mem_append.1 hx with h1 | h1
  · exact h x h1
  · simp at h1; rw [h1]; decide
theorem R7_is {xs : List Nat} : rS (eK .u64) xs ++ [[D.g (G.lit (Value.int IntKind.u64 77))], [D.g (G.lit (Value.int IntKind.u64 77))]] = R7 xs := by
  unfold R7
  rw [← rS_app]; rfl
set_option maxHeartbeats 8000000 in
theorem p_NatKeeps {xs ys : List Nat} {n : Int} (hx : B64 xs) (hy : B64 ys) : PC Tryd.prog 9 [W64 xs, W64 ys, .g (.lit (.int .u8 n))] fun d => d = bl true := by
  have pK := p_known
  have pF := p_few (xss := [xs, ys]) (by simp)
  by_cases hl : xs.length ≤ 40 ∧ ys.length ≤ 40
  · have hf : decide (∀ l ∈ [xs, ys], l.length ≤ 40) = true := by simpa using hl
    rw [hf] at pF
    obtain ⟨hlx, hly⟩ := hl
    have d1 := @dr 22 qNK2_9_22
    refine PB (rs := [.tmp 6]) Tryd.func9 ?_
    repeat (first | with_reducible refine pv_stop 5 ?_ | with_reducible refine pv_seq fun K hK => ?_ | ((with_reducible first | refine hK _ _ ?_ | (clear hK; refine hK _ _ ?_) | (clear hK; clear hK; refine hK _ _ ?_)); clear hK; try clear K) | refine W ?_ | exact Z | with_reducible intro b)
    refine ⟨fun K q0 hC => ?_⟩
    have J5 : ∀ (e : DEnv) (S : Store) (b1 c1 : Nat), xs.length + 2 ≤ c1 → e 0 = W64 xs → e 1 = W64 ys → e 2 = .g (.lit (.int .u8 n)) → e 7 = .own (.l 21) b1 0 xs.length c1 1 → S (.l 21) = some ⟨b1, 1, 0, R7 xs⟩ → K e S := by
      as_aux_lemma =>
      intro e S b1 c1 r1 g0 g1 g2 g7 s21
      refine q0 _ _ ?_
      clear q0 hC
      have ft := And.intro g0 (And.intro g1 (And.intro g2 g7))
      repeat (first | with_reducible refine pv_stop 6 ?_ | with_reducible refine pv_seq fun K hK => ?_ | ((with_reducible first | refine hK _ _ ?_ | (clear hK; refine hK _ _ ?_) | (clear hK; clear hK; refine hK _ _ ?_)); clear hK; try clear K) | refine W ?_ | exact Z | with_reducible intro b)
      refine ⟨fun K q0 hC => ?_⟩
      have J6 : ∀ (e : DEnv) (S : Store) (b2 c2 : Nat), ys.length + 2 ≤ c2 → e 0 = W64 xs → e 1 = W64 ys → e 2 = .g (.lit (.int .u8 n)) → e 7 = .own (.l 21) b1 0 xs.length c1 1 → e 8 = .own (.l 29) b2 0 ys.length c2 1 → XP2 xs ys b1 b2 S → K e S := by
        as_aux_lemma =>
        intro e S b2 c2 r2 g0 g1 g2 g7 g8 hX
        refine q0 _ _ ?_
        clear q0 hC pK pF
        have pA := p_Add hx hy (by omega) (by omega)
        have pS := p_Sub hx hy (by omega) (by omega)
        have pM := p_Mul hx hy (by omega) (by omega)
        have pD := p_Div hx hy (by omega) (by omega)
        have pH := fun n : Int => p_Shift (n := n) hx (by omega)
        have ft := And.intro g0 (And.intro g1 (And.intro g2 (And.intro g7 g8)))
        repeat (first | with_reducible refine pv_seq fun K hK => ?_ | ((with_reducible first | refine hK _ _ ?_ | (clear hK; refine hK _ _ ?_) | (clear hK; clear hK; refine hK _ _ ?_)); clear hK; try clear K) | refine W0 ?_ | exact Z | with_reducible intro b)
        refine own2 hX fun S1 hX1 _ => ?_
        refine o_Add hx hy (by omega) (by omega) (.r 0 0) fun e1 S2 hr2 hk2 => ?_
        have hX2 := hX1.up (hk2 _ (by decide)) (hk2 _ (by decide))
        repeat (first | with_reducible refine pv_seq fun K hK => ?_ | ((with_reducible first | refine hK _ _ ?_ | (clear hK; refine hK _ _ ?_) | (clear hK; clear hK; refine hK _ _ ?_)); clear hK; try clear K) | refine W0 ?_ | exact Z | with_reducible intro b)
        refine own2 hX2 fun S3 hX3 hf3 => ?_
        have hr3 := hr2.up (hf3 (.r 0 0) (by decide) (by decide))
        repeat (first | with_reducible refine pv_seq fun K hK => ?_ | ((with_reducible first | refine hK _ _ ?_ | (clear hK; refine hK _ _ ?_) | (clear hK; clear hK; refine hK _ _ ?_)); clear hK; try clear K) | refine W ?_ | exact Z | with_reducible intro b)
        refine own2 hX3 fun S4 hX4 hf4 => ?_
        have hr4 := hr3.up (hf4 (.r 0 0) (by decide) (by decide))
        refine call_any pS fun dS => ?_
        repeat (first | with_reducible refine pv_seq fun K hK => ?_ | ((with_reducible first | refine hK _ _ ?_ | (clear hK; refine hK _ _ ?_) | (clear hK; clear hK; refine hK _ _ ?_)); clear hK; try clear K) | refine W0 ?_ | exact Z | with_reducible intro b)
        refine own2 hX4 fun S5 hX5 hf5 => ?_
        have hr5 := hr4.up (hf5 (.r 0 0) (by decide) (by decide))
        refine call_any pM fun dM => ?_
        repeat (first | with_reducible refine pv_seq fun K hK => ?_ | ((with_reducible first | refine hK _ _ ?_ | (clear hK; refine hK _ _ ?_) | (clear hK; clear hK; refine hK _ _ ?_)); clear hK; try clear K) | refine W0 ?_ | exact Z | with_reducible intro b)
        refine own2 hX5 fun S6 hX6 hf6 => ?_
        have hr6 := hr5.up (hf6 (.r 0 0) (by decide) (by decide))
        refine call_any pD fun dD => ?_
        repeat (first | with_reducible refine pv_seq fun K hK => ?_ | ((with_reducible first | refine hK _ _ ?_ | (clear hK; refine hK _ _ ?_) | (clear hK; clear hK; refine hK _ _ ?_)); clear hK; try clear K) | refine W0 ?_ | exact Z | with_reducible intro b)
        refine own1i hX6 fun S7 hX7 hf7 => ?_
        have hr7 := hr6.up (hf7 (.r 0 0) (by decide) (by decide))
        refine call_any (pH _) fun dH => ?_
        repeat (first | with_reducible refine pv_seq fun K hK => ?_ | ((with_reducible first | refine hK _ _ ?_ | (clear hK; refine hK _ _ ?_) | (clear hK; clear hK; refine hK _ _ ?_)); clear hK; try clear K) | refine W0 ?_ | exact Z | with_reducible intro b)
        refine own1 hX7 fun S8 hX8 hf8 => ?_
        have hr8 := hr7.up (hf8 (.r 0 0) (by decide) (by decide))
        refine o_Trim hx (by omega) (.r 0 1) fun e2 S9 hu9 hk9 => ?_
        have hX9 := hX8.up (hk9 _ (by decide)) (hk9 _ (by decide))
        have hr9 := hr8.up (hk9 (.r 0 0) (by decide))
        have n1 := nlt hx hlx
        have n2 := nlt hy hly
        have L1 : (D64 (N64 xs)).length ≤ 40 := digs_len_le two64 n1
        have L2 : (D64 (N64 xs + N64 ys)).length ≤ 41 := digs_len_le two64 (Mw_add n1 n2)
        clear hf3 hf4 hf5 hf6 hf7 hf8 hk2 hk9 hX2 hX3 hX4 hX5 hX6 hX7 hX8 hr2 hr3 hr4 hr5 hr6 hr7 hr8 pS pM pD pH hX
        repeat (first | with_reducible refine pv_stopQ 14 ?_ | with_reducible refine pv_seq fun K hK => ?_ | ((with_reducible first | refine hK _ _ ?_ | (clear hK; refine hK _ _ ?_) | (clear hK; clear hK; refine hK _ _ ?_)); clear hK; try clear K) | refine W ?_ | exact Z | with_reducible intro b)
        refine ⟨fun K q0 hC => ?_⟩
        have J14 : ∀ (e : DEnv) (S : Store), e 0 = W64 xs → e 1 = W64 ys → e 7 = .own (.l 21) b1 0 xs.length c1 1 → e 8 = .own (.l 29) b2 0 ys.length c2 1 → e 10 = W64 (D64 (N64 xs + N64 ys)) → e 11 = e2 → XP2 xs ys b1 b2 S → RowZ S (.r 0 1) 1 e2 (rS (eK .u64) (D64 (N64 xs))) → K e S := by
          intro e S g0 g1 g7 g8 g10 g11 hX hu
          refine q0 _ _ ?_
          clear q0 hC
          have ft := And.intro g0 (And.intro g1 (And.intro g7 (And.intro g8 (And.intro g10 g11))))
          repeat (first | with_reducible refine pv_stopQ 18 ?_ | with_reducible refine pv_seq fun K hK => ?_ | ((with_reducible first | refine hK _ _ ?_ | (clear hK; refine hK _ _ ?_) | (clear hK; clear hK; refine hK _ _ ?_)); clear hK; try clear K) | refine W ?_ | exact Z | with_reducible intro b)
          refine ⟨fun K q0 hC => ?_⟩
          have J18 : ∀ (e : DEnv) (S : Store), e 0 = W64 xs → e 1 = W64 ys → e 7 = .own (.l 21) b1 0 xs.length c1 1 → e 8 = .own (.l 29) b2 0 ys.length c2 1 → e 10 = W64 (D64 (N64 xs + N64 ys)) → XP2 xs ys b1 b2 S → K e S := by
            as_aux_lemma =>
            intro e S g0 g1 g7 g8 g10 hX
            refine q0 _ _ ?_
            clear q0 hC
            have w1 : PC Tryd.prog 14 [W64 (xs ++ [77, 77]), W64 (xs ++ [77, 77])] fun d => d = bl true := (p_hWords (b77 hx) (b77 hx) (by simp; omega) (by simp; omega)).mono fun d hd => hd.trans (congrArg bl (decide_eq_true rfl))
            have w2 : PC Tryd.prog 14 [W64 (ys ++ [77, 77]), W64 (ys ++ [77, 77])] fun d => d = bl true := (p_hWords (b77 hy) (b77 hy) (by simp; omega) (by simp; omega)).mono fun d hd => hd.trans (congrArg bl (decide_eq_true rfl))
            have w3 : PC Tryd.prog 14 [W64 (D64 (N64 xs + N64 ys)), W64 (D64 (N64 xs + N64 ys))] fun d => d = bl true := w_Words (Mw_up (Mw_add n1 n2) (by decide)) rfl
            obtain ⟨⟨p1, sx⟩, ⟨p2, sy⟩⟩ := hX
            have ft := And.intro g0 (And.intro g1 (And.intro g7 (And.intro g8 g10)))
            repeat' (first | with_reducible refine pv_seq fun K hK => ?_ | ((with_reducible first | refine hK _ _ ?_ | (clear hK; refine hK _ _ ?_) | (clear hK; clear hK; refine hK _ _ ?_)); clear hK; try clear K) | refine W ?_ | exact Z | with_reducible intro b | with_reducible refine And.intro ?_ ?_ | simp only [rS_len, R7_is] | (refine And.intro (by first | omega | (simp [D.one]; done)) ?_) | (refine ownW (a := xs) (b := xs) (p1 := p1) (p2 := 0) (by simp only [updS_apply]; exact sx) (by simp only [updS_apply]; rfl) (by decide) fun S' hf => ?_; refine call_is w1 ?_) | (refine ownW (a := ys) (b := ys) (p1 := p2) (p2 := 0) (by simp only [updS_apply]; exact (hf (.l 29) (by decide) (by decide)).trans sy) (by simp only [updS_apply]; rfl) (by decide) fun S2 hf2 => ?_; refine call_is w2 ?_))
            all_goals first | omega | (simp only [List.mem_cons, List.not_mem_nil, or_false, or_self] at b; subst b; rfl) | (rename_i h; simp only [List.mem_cons, List.not_mem_nil, or_false, or_self] at h; subst h; rfl) | (simp [D.one]; done)
          clear q0
          obtain ⟨I, mk, el⟩ := hide fun e S => ∃ (i : Nat) (zs : List Nat), i ≤ zs.length ∧ zs.length = (D64 (N64 xs)).length ∧ e 0 = W64 xs ∧ e 1 = W64 ys ∧ e 7 = .own (.l 21) b1 0 xs.length c1 1 ∧ e 8 = .own (.l 29) b2 0 ys.length c2 1 ∧ e 10 = W64 (D64 (N64 xs + N64 ys)) ∧ e 11 = e2 ∧ e 13 = i64 i ∧ XP2 xs ys b1 b2 S ∧ RowZ S (.r 0 1) 1 e2 (rS (eK .u64) zs)
          repeat (first | with_reducible refine pv_seq fun K hK => ?_ | ((with_reducible first | refine hK _ _ ?_ | (clear hK; refine hK _ _ ?_) | (clear hK; clear hK; refine hK _ _ ?_)); clear hK; try clear K) | refine W0 ?_ | exact Z | with_reducible intro b)
          refine pv_loop I (fun e _ => (D64 (N64 xs)).length - (intD (e 13)).toNat) ?_ ?_
          · exact mk _ _ ⟨0, _, Nat.zero_le _, rfl, Zr, Zr, Zr, Zr, Zr, Zr, Zr, hX, hu⟩
          · intro e S hI
            obtain ⟨i, zs, hi, hL, g0, g1, g7, g8, g10, g11, g13, hX, hu⟩ := el e S hI
            clear el hI
            rcases hu with ⟨h1, h2⟩ | ⟨bs, cs, h1, h2⟩
            · have hz : zs.length = 0 := by have := congrArg List.length h2; rw [rS_len] at this; exact this
              obtain rfl : i = 0 := by omega
              rw [h1] at g11
              have k0 : ((0 : Int) < 0) = False := eq_false (by decide)
              have ft := And.intro g0 (And.intro g1 (And.intro g7 (And.intro g8 (And.intro g10 (And.intro g11 (And.intro g13 k0))))))
              repeat (first | with_reducible refine pv_seq fun K hK => ?_ | ((with_reducible first | refine hK _ _ ?_ | (clear hK; refine hK _ _ ?_) | (clear hK; clear hK; refine hK _ _ ?_)); clear hK; try clear K) | refine W0 ?_ | exact Z | with_reducible intro b)
              exact J18 _ _ g0 g1 g7 g8 g10 hX
            · rw [rS_len] at h1
              rw [h1] at g11
              have ft := And.intro g0 (And.intro g1 (And.intro g7 (And.intro g8 (And.intro g10 (And.intro g11 g13)))))
              repeat (first | with_reducible refine pv_seq fun K hK => ?_ | ((with_reducible first | refine hK _ _ ?_ | (clear hK; refine hK _ _ ?_) | (clear hK; clear hK; refine hK _ _ ?_)); clear hK; try clear K) | refine W0 ?_ | exact Z | with_reducible intro b)
              refine pv_cdD (fun ht => ?_) (fun ht => ?_)
              · have hil : i < zs.length := by omega
                have q1 := r64_at hil
                have ft := And.intro g0 (And.intro g1 (And.intro g7 (And.intro g8 (And.intro g10 (And.intro g11 (And.intro g13 (And.intro q1 h2)))))))
                repeat (first | with_reducible refine pv_seq fun K hK => ?_ | ((with_reducible first | refine hK _ _ ?_ | (clear hK; refine hK _ _ ?_) | (clear hK; clear hK; refine hK _ _ ?_)); clear hK; try clear K) | refine W0 ?_ | exact Z | with_reducible intro b)
                exact ⟨mk _ _ ⟨i + 1, zs.set i 5, by rw [List.length_set]; omega, by rw [List.length_set]; exact hL, Zr, Zr, Zr, Zr, Zr, by rw [h1]; exact Zr, Zr, hX.up (updS_ne (by decide)) (updS_ne (by decide)), .inr ⟨bs, cs, by rw [rS_len, List.length_set]; exact h1, by rw [updS_at, r64_set]⟩⟩, by simp only [intD]; omega⟩
              · repeat (first | with_reducible refine pv_seq fun K hK => ?_ | ((with_reducible first | refine hK _ _ ?_ | (clear hK; refine hK _ _ ?_) | (clear hK; clear hK; refine hK _ _ ?_)); clear hK; try clear K) | refine W0 ?_ | exact Z | with_reducible intro b)
                exact J18 _ _ g0 g1 g7 g8 g10 hX
        clear q0
        obtain ⟨I, mk, el⟩ := hide fun e S => ∃ (i : Nat) (zs : List Nat), i ≤ zs.length ∧ zs.length = (D64 (N64 xs + N64 ys)).length ∧ e 0 = W64 xs ∧ e 1 = W64 ys ∧ e 7 = .own (.l 21) b1 0 xs.length c1 1 ∧ e 8 = .own (.l 29) b2 0 ys.length c2 1 ∧ e 9 = e1 ∧ e 10 = W64 (D64 (N64 xs + N64 ys)) ∧ e 11 = e2 ∧ e 12 = i64 i ∧ XP2 xs ys b1 b2 S ∧ RowZ S (.r 0 0) 1 e1 (rS (eK .u64) zs) ∧ RowZ S (.r 0 1) 1 e2 (rS (eK .u64) (D64 (N64 xs)))
        repeat (first | with_reducible refine pv_seq fun K hK => ?_ | ((with_reducible first | refine hK _ _ ?_ | (clear hK; refine hK _ _ ?_) | (clear hK; clear hK; refine hK _ _ ?_)); clear hK; try clear K) | refine W0 ?_ | exact Z | with_reducible intro b)
        refine pv_loop I (fun e _ => (D64 (N64 xs + N64 ys)).length - (intD (e 12)).toNat) ?_ ?_
        · exact mk _ _ ⟨0, _, Nat.zero_le _, rfl, Zr, Zr, Zr, Zr, Zr, Zr, Zr, Zr, hX9, hr9, hu9⟩
        · intro e S hI
          obtain ⟨i, zs, hi, hL, g0, g1, g7, g8, g9, g10, g11, g12, hX, hr, hu⟩ := el e S hI
          clear el hI
          rcases hr with ⟨h1, h2⟩ | ⟨bs, cs, h1, h2⟩
          · have hz : zs.length = 0 := by have := congrArg List.length h2; rw [rS_len] at this; exact this
            obtain rfl : i = 0 := by omega
            rw [h1] at g9
            have k0 : ((0 : Int) < 0) = False := eq_false (by decide)
            have ft := And.intro g0 (And.intro g1 (And.intro g7 (And.intro g8 (And.intro g9 (And.intro g10 (And.intro g11 (And.intro g12 k0)))))))
            repeat (first | with_reducible refine pv_seq fun K hK => ?_ | ((with_reducible first | refine hK _ _ ?_ | (clear hK; refine hK _ _ ?_) | (clear hK; clear hK; refine hK _ _ ?_)); clear hK; try clear K) | refine W0 ?_ | exact Z | with_reducible intro b)
            exact J14 _ _ g0 g1 g7 g8 g10 g11 hX hu
          · rw [rS_len] at h1
            rw [h1] at g9
            have ft := And.intro g0 (And.intro g1 (And.intro g7 (And.intro g8 (And.intro g9 (And.intro g10 (And.intro g11 g12))))))
            repeat (first | with_reducible refine pv_seq fun K hK => ?_ | ((with_reducible first | refine hK _ _ ?_ | (clear hK; refine hK _ _ ?_) | (clear hK; clear hK; refine hK _ _ ?_)); clear hK; try clear K) | refine W0 ?_ | exact Z | with_reducible intro b)
            refine pv_cdD (fun ht => ?_) (fun ht => ?_)
            · have hil : i < zs.length := by omega
              have q1 := r64_at hil
              have ft := And.intro g0 (And.intro g1 (And.intro g7 (And.intro g8 (And.intro g9 (And.intro g10 (And.intro g11 (And.intro g12 (And.intro q1 h2))))))))
              repeat (first | with_reducible refine pv_seq fun K hK => ?_ | ((with_reducible first | refine hK _ _ ?_ | (clear hK; refine hK _ _ ?_) | (clear hK; clear hK; refine hK _ _ ?_)); clear hK; try clear K) | refine W0 ?_ | exact Z | with_reducible intro b)
              exact ⟨mk _ _ ⟨i + 1, zs.set i 5, by rw [List.length_set]; omega, by rw [List.length_set]; exact hL, Zr, Zr, Zr, Zr, by rw [h1]; exact Zr, Zr, Zr, Zr, hX.up (updS_ne (by decide)) (updS_ne (by decide)), .inr ⟨bs, cs, by rw [rS_len, List.length_set]; exact h1, by rw [updS_at, r64_set]⟩, hu.up (updS_ne (by decide))⟩, by simp only [intD]; omega⟩
            · repeat (first | with_reducible refine pv_seq fun K hK => ?_ | ((with_reducible first | refine hK _ _ ?_ | (clear hK; refine hK _ _ ?_) | (clear hK; clear hK; refine hK _ _ ?_)); clear hK; try clear K) | refine W0 ?_ | exact Z | with_reducible intro b)
              exact J14 _ _ g0 g1 g7 g8 g10 g11 hX hu
      clear q0
      repeat (first | with_reducible refine pv_seq fun K hK => ?_ | ((with_reducible first | refine hK _ _ ?_ | (clear hK; refine hK _ _ ?_) | (clear hK; clear hK; refine hK _ _ ?_)); clear hK; try clear K) | refine W0 ?_ | exact Z | with_reducible intro b)
      refine ⟨by rw [rS_len]; omega, by rw [rS_len]; omega, fun b' c' b3 => ⟨by simp [D.one], by rw [rS_len]; omega, by rw [rS_len]; omega, fun b4 c4 => ⟨.inl (by rw [rS_len]; omega), ?_⟩⟩⟩
      exact hC _ _ (Recast.room 33 Zr fun hr => J6 _ _ b4 c4 (by rw [rS_len] at hr; exact hr) Zr Zr Zr Zr Zr ⟨⟨0, by simp only [updS_apply]; exact s21⟩, ⟨0, by rw [updS_at, R7_is]⟩⟩)
    clear q0
    repeat (first | with_reducible refine pv_seq fun K hK => ?_ | ((with_reducible first | refine hK _ _ ?_ | (clear hK; refine hK _ _ ?_) | (clear hK; clear hK; refine hK _ _ ?_)); clear hK; try clear K) | refine W0 ?_ | exact Z | with_reducible intro b)
    refine ⟨by rw [rS_len]; omega, by rw [rS_len]; omega, fun b' c' b3 => ⟨by simp [D.one], by rw [rS_len]; omega, by rw [rS_len]; omega, fun b4 c4 => ⟨.inl (by rw [rS_len]; omega), ?_⟩⟩⟩
    exact hC _ _ (Recast.room 25 Zr fun hr => J5 _ _ b4 c4 (by rw [rS_len] at hr; exact hr) Zr Zr Zr Zr (by rw [updS_at, R7_is]))
  · have hf : decide (∀ l ∈ [xs, ys], l.length ≤ 40) = false := by simpa using hl
    rw [hf] at pF
    have d1 := @dr 22 qNK2_9_22
    refine PB (rs := [.tmp 6]) Tryd.func9 ?_
    exact Wk
end Go.V

/- The statement TubeEach of layer 26. -/
import Derived.Test.YtcmnbpliiopbjaaU22
import Derived.Test.YtcmnbpliiopbjaaU20
import Derived.Test.YtcmnbpliiopbjaaU16
set_option linter.unusedSimpArgs false
set_option linter.unusedVariables false
set_option maxRecDepth 100000
namespace Go.V
open Go Go.RowKit Go.Proofs
def qU23_3_6_0 : PT := (.lin [(0, 0), (1, 0), (2, 2), (5, 0), (6, 0)] (.fork4 3 3 (.lin [] (.fork4 4 3 (.lin [] (.fork3 7 4 (.lin [] (.fork3 8 3 (.lin [] (.fork3 9 3 (.lin [] (.fork 10 4 (.lin [(11, 4), (12, 3)] .nil) 11 4 (.lin [(10, 4), (12, 3)] .nil))) 10 4 (.lin [] (.fork 9 3 (.lin [(11, 4), (12, 3)] .nil) 11 4 (.lin [(9, 3), (12, 3)] .nil))) 11 4 (.lin [] (.fork 9 3 (.lin [(10, 4), (12, 3)] .nil) 10 4 (.lin [(9, 3), (12, 3)] .nil))))) 10 4 (.lin [] (.fork 8 3 (.lin [] (.fork 9 3 (.lin [(11, 4), (12, 3)] .nil) 11 4 (.lin [(9, 3), (12, 3)] .nil))) 11 4 (.lin [(8, 3), (9, 3), (12, 3)] .nil))) 11 4 (.lin [] (.fork 8 3 (.lin [] (.fork 9 3 (.lin [(10, 4), (12, 3)] .nil) 10 4 (.lin [(9, 3), (12, 3)] .nil))) 10 4 (.lin [(8, 3), (9, 3), (12, 3)] .nil))))) 10 4 (.lin [] (.fork 7 4 (.lin [] (.fork 8 3 (.lin [] (.fork 9 3 (.lin [(11, 4), (12, 3)] .nil) 11 4 (.lin [(9, 3), (12, 3)] .nil))) 11 4 (.lin [(8, 3), (9, 3), (12, 3)] .nil))) 11 4 (.lin [(7, 4), (8, 3), (9, 3), (12, 3)] .nil))) 11 4 (.lin [] (.fork 7 4 (.lin [] (.fork 8 3 (.lin [] (.fork 9 3 (.lin [(10, 4), (12, 3)] .nil) 10 4 (.lin [(9, 3), (12, 3)] .nil))) 10 4 (.lin [(8, 3), (9, 3), (12, 3)] .nil))) 10 4 (.lin [(7, 4), (8, 3), (9, 3), (12, 3)] .nil))))) 7 4 (.lin [] (.fork3 4 3 (.lin [] (.fork3 8 3 (.lin [] (.fork3 9 3 (.lin [] (.fork 10 4 (.lin [(11, 4), (12, 3)] .nil) 11 4 (.lin [(10, 4), (12, 3)] .nil))) 10 4 (.lin [] (.fork 9 3 (.lin [(11, 4), (12, 3)] .nil) 11 4 (.lin [(9, 3), (12, 3)] .nil))) 11 4 (.lin [] (.fork 9 3 (.lin [(10, 4), (12, 3)] .nil) 10 4 (.lin [(9, 3), (12, 3)] .nil))))) 10 4 (.lin [] (.fork 8 3 (.lin [] (.fork 9 3 (.lin [(11, 4), (12, 3)] .nil) 11 4 (.lin [(9, 3), (12, 3)] .nil))) 11 4 (.lin [(8, 3), (9, 3), (12, 3)] .nil))) 11 4 (.lin [] (.fork 8 3 (.lin [] (.fork 9 3 (.lin [(10, 4), (12, 3)] .nil) 10 4 (.lin [(9, 3), (12, 3)] .nil))) 10 4 (.lin [(8, 3), (9, 3), (12, 3)] .nil))))) 10 4 (.lin [] (.fork 4 3 (.lin [] (.fork 8 3 (.lin [] (.fork 9 3 (.lin [(11, 4), (12, 3)] .nil) 11 4 (.lin [(9, 3), (12, 3)] .nil))) 11 4 (.lin [(8, 3), (9, 3), (12, 3)] .nil))) 11 4 (.lin [(4, 3), (8, 3), (9, 3), (12, 3)] .nil))) 11 4 (.lin [] (.fork 4 3 (.lin [] (.fork 8 3 (.lin [] (.fork 9 3 (.lin [(10, 4), (12, 3)] .nil) 10 4 (.lin [(9, 3), (12, 3)] .nil))) 10 4 (.lin [(8, 3), (9, 3), (12, 3)] .nil))) 10 4 (.lin [(4, 3), (8, 3), (9, 3), (12, 3)] .nil))))) 10 4 (.lin [] (.fork3 4 3 (.lin [] (.fork 7 4 (.lin [] (.fork 8 3 (.lin [] (.fork 9 3 (.lin [(11, 4), (12, 3)] .nil) 11 4 (.lin [(9, 3), (12, 3)] .nil))) 11 4 (.lin [(8, 3), (9, 3), (12, 3)] .nil))) 11 4 (.lin [(7, 4), (8, 3), (9, 3), (12, 3)] .nil))) 7 4 (.lin [] (.fork 4 3 (.lin [] (.fork 8 3 (.lin [] (.fork 9 3 (.lin [(11, 4), (12, 3)] .nil) 11 4 (.lin [(9, 3), (12, 3)] .nil))) 11 4 (.lin [(8, 3), (9, 3), (12, 3)] .nil))) 11 4 (.lin [(4, 3), (8, 3), (9, 3), (12, 3)] .nil))) 11 4 (.lin [] (.fork 4 3 (.lin [(7, 4), (8, 3), (9, 3), (12, 3)] .nil) 7 4 (.lin [(4, 3), (8, 3), (9, 3), (12, 3)] .nil))))) 11 4 (.lin [] (.fork3 4 3 (.lin [] (.fork 7 4 (.lin [] (.fork 8 3 (.lin [] (.fork 9 3 (.lin [(10, 4), (12, 3)] .nil) 10 4 (.lin [(9, 3), (12, 3)] .nil))) 10 4 (.lin [(8, 3), (9, 3), (12, 3)] .nil))) 10 4 (.lin [(7, 4), (8, 3), (9, 3), (12, 3)] .nil))) 7 4 (.lin [] (.fork 4 3 (.lin [] (.fork 8 3 (.lin [] (.fork 9 3 (.lin [(10, 4), (12, 3)] .nil) 10 4 (.lin [(9, 3), (12, 3)] .nil))) 10 4 (.lin [(8, 3), (9, 3), (12, 3)] .nil))) 10 4 (.lin [(4, 3), (8, 3), (9, 3), (12, 3)] .nil))) 10 4 (.lin [] (.fork 4 3 (.lin [(7, 4), (8, 3), (9, 3), (12, 3)] .nil) 7 4 (.lin [(4, 3), (8, 3), (9, 3), (12, 3)] .nil))))))) 7 4 (.lin [] (.fork3 3 3 (.lin [] (.fork3 4 3 (.lin [] (.fork3 8 3 (.lin [] (.fork3 9 3 (.lin [] (.fork 10 4 (.lin [(11, 4), (12, 3)] .nil) 11 4 (.lin [(10, 4), (12, 3)] .nil))) 10 4 (.lin [] (.fork 9 3 (.lin [(11, 4), (12, 3)] .nil) 11 4 (.lin [(9, 3), (12, 3)] .nil))) 11 4 (.lin [] (.fork 9 3 (.lin [(10, 4), (12, 3)] .nil) 10 4 (.lin [(9, 3), (12, 3)] .nil))))) 10 4 (.lin [] (.fork 8 3 (.lin [] (.fork 9 3 (.lin [(11, 4), (12, 3)] .nil) 11 4 (.lin [(9, 3), (12, 3)] .nil))) 11 4 (.lin [(8, 3), (9, 3), (12, 3)] .nil))) 11 4 (.lin [] (.fork 8 3 (.lin [] (.fork 9 3 (.lin [(10, 4), (12, 3)] .nil) 10 4 (.lin [(9, 3), (12, 3)] .nil))) 10 4 (.lin [(8, 3), (9, 3), (12, 3)] .nil))))) 10 4 (.lin [] (.fork 4 3 (.lin [] (.fork 8 3 (.lin [] (.fork 9 3 (.lin [(11, 4), (12, 3)] .nil) 11 4 (.lin [(9, 3), (12, 3)] .nil))) 11 4 (.lin [(8, 3), (9, 3), (12, 3)] .nil))) 11 4 (.lin [(4, 3), (8, 3), (9, 3), (12, 3)] .nil))) 11 4 (.lin [] (.fork 4 3 (.lin [] (.fork 8 3 (.lin [] (.fork 9 3 (.lin [(10, 4), (12, 3)] .nil) 10 4 (.lin [(9, 3), (12, 3)] .nil))) 10 4 (.lin [(8, 3), (9, 3), (12, 3)] .nil))) 10 4 (.lin [(4, 3), (8, 3), (9, 3), (12, 3)] .nil))))) 10 4 (.lin [] (.fork 3 3 (.lin [] (.fork 4 3 (.lin [] (.fork 8 3 (.lin [] (.fork 9 3 (.lin [(11, 4), (12, 3)] .nil) 11 4 (.lin [(9, 3), (12, 3)] .nil))) 11 4 (.lin [(8, 3), (9, 3), (12, 3)] .nil))) 11 4 (.lin [(4, 3), (8, 3), (9, 3), (12, 3)] .nil))) 11 4 (.lin [(3, 3), (4, 3), (8, 3), (9, 3), (12, 3)] .nil))) 11 4 (.lin [] (.fork 3 3 (.lin [] (.fork 4 3 (.lin [] (.fork 8 3 (.lin [] (.fork 9 3 (.lin [(10, 4), (12, 3)] .nil) 10 4 (.lin [(9, 3), (12, 3)] .nil))) 10 4 (.lin [(8, 3), (9, 3), (12, 3)] .nil))) 10 4 (.lin [(4, 3), (8, 3), (9, 3), (12, 3)] .nil))) 10 4 (.lin [(3, 3), (4, 3), (8, 3), (9, 3), (12, 3)] .nil))))) 10 4 (.lin [] (.fork3 3 3 (.lin [] (.fork3 4 3 (.lin [] (.fork 7 4 (.lin [] (.fork 8 3 (.lin [] (.fork 9 3 (.lin [(11, 4), (12, 3)] .nil) 11 4 (.lin [(9, 3), (12, 3)] .nil))) 11 4 (.lin [(8, 3), (9, 3), (12, 3)] .nil))) 11 4 (.lin [(7, 4), (8, 3), (9, 3), (12, 3)] .nil))) 7 4 (.lin [] (.fork 4 3 (.lin [] (.fork 8 3 (.lin [] (.fork 9 3 (.lin [(11, 4), (12, 3)] .nil) 11 4 (.lin [(9, 3), (12, 3)] .nil))) 11 4 (.lin [(8, 3), (9, 3), (12, 3)] .nil))) 11 4 (.lin [(4, 3), (8, 3), (9, 3), (12, 3)] .nil))) 11 4 (.lin [] (.fork 4 3 (.lin [(7, 4), (8, 3), (9, 3), (12, 3)] .nil) 7 4 (.lin [(4, 3), (8, 3), (9, 3), (12, 3)] .nil))))) 7 4 (.lin [] (.fork 3 3 (.lin [] (.fork 4 3 (.lin [] (.fork 8 3 (.lin [] (.fork 9 3 (.lin [(11, 4), (12, 3)] .nil) 11 4 (.lin [(9, 3), (12, 3)] .nil))) 11 4 (.lin [(8, 3), (9, 3), (12, 3)] .nil))) 11 4 (.lin [(4, 3), (8, 3), (9, 3), (12, 3)] .nil))) 11 4 (.lin [(3, 3), (4, 3), (8, 3), (9, 3), (12, 3)] .nil))) 11 4 (.lin [] (.fork 3 3 (.lin [] (.fork 4 3 (.lin [(7, 4), (8, 3), (9, 3), (12, 3)] .nil) 7 4 (.lin [(4, 3), (8, 3), (9, 3), (12, 3)] .nil))) 7 4 (.lin [(3, 3), (4, 3), (8, 3), (9, 3), (12, 3)] .nil))))) 11 4 (.lin [] (.fork3 3 3 (.lin [] (.fork3 4 3 (.lin [] (.fork 7 4 (.lin [] (.fork 8 3 (.lin [] (.fork 9 3 (.lin [(10, 4), (12, 3)] .nil) 10 4 (.lin [(9, 3), (12, 3)] .nil))) 10 4 (.lin [(8, 3), (9, 3), (12, 3)] .nil))) 10 4 (.lin [(7, 4), (8, 3), (9, 3), (12, 3)] .nil))) 7 4 (.lin [] (.fork 4 3 (.lin [] (.fork 8 3 (.lin [] (.fork 9 3 (.lin [(10, 4), (12, 3)] .nil) 10 4 (.lin [(9, 3), (12, 3)] .nil))) 10 4 (.lin [(8, 3), (9, 3), (12, 3)] .nil))) 10 4 (.lin [(4, 3), (8, 3), (9, 3), (12, 3)] .nil))) 10 4 (.lin [] (.fork 4 3 (.lin [(7, 4), (8, 3), (9, 3), (12, 3)] .nil) 7 4 (.lin [(4, 3), (8, 3), (9, 3), (12, 3)] .nil))))) 7 4 (.lin [] (.fork 3 3 (.lin [] (.fork 4 3 (.lin [] (.fork 8 3 (.lin [] (.fork 9 3 (.lin [(10, 4), (12, 3)] .nil) 10 4 (.lin [(9, 3), (12, 3)] .nil))) 10 4 (.lin [(8, 3), (9, 3), (12, 3)] .nil))) 10 4 (.lin [(4, 3), (8, 3), (9, 3), (12, 3)] .nil))) 10 4 (.lin [(3, 3), (4, 3), (8, 3), (9, 3), (12, 3)] .nil))) 10 4 (.lin [] (.fork 3 3 (.lin [] (.fork 4 3 (.lin [(7, 4), (8, 3), (9, 3), (12, 3)] .nil) 7 4 (.lin [(4, 3), (8, 3), (9, 3), (12, 3)] .nil))) 7 4 (.lin [(3, 3), (4, 3), (8, 3), (9, 3), (12, 3)] .nil)))))))
def qU23_3_6_1 : PT := (.lin [(13, 3)] .nil)
def qU23_3_13 : List (Nat × Nat) := [(0, 1), (1, 0), (2, 0), (3, 0), (4, 1), (5, 1), (6, 3), (7, 0), (8, 0), (9, 1), (10, 0), (11, 0), (12, 0), (13, 1), (14, 1), (15, 3), (16, 0), (17, 0)]
def qU23_3_20 : List (Nat × Nat) := [(0, 0), (1, 1), (2, 1), (3, 0), (4, 1), (5, 0), (6, 0), (7, 1), (8, 1), (9, 0), (10, 0), (11, 1), (12, 3), (13, 0), (14, 0)]
attribute [go_sem] qU23_3_6_0 qU23_3_6_1 qU23_3_13 qU23_3_20

theorem metL_len {lo hi : Nu} {l : List Sg} {n : Nat} : (metL lo hi l n).length ≤ n := by
  unfold metL
  have := List.length_filter_le (fun i => meetB lo hi (gS l i)) (List.range n)
  simpa using this
theorem lo_of {a b : Dyadic} (h : a ≤ b) : loD a b = a := by unfold loD; split <;> grind
theorem hi_of {a b : Dyadic} (h : a ≤ b) : hiD a b = b := by unfold hiD; split <;> grind
set_option maxHeartbeats 4000000 in
theorem p_TubeEach {w : List Nat} {k0 : Int} (hb : B64 w) (hk0 : (Lit.int .u8 k0).wf = true) : PC Try.prog 3 [W64 w, .g (.lit (.int .u8 k0))] fun d => d = bl true := by
  have pK := p_known26
  obtain ⟨k, rfl, hk⟩ : ∃ k : Nat, k0 = k ∧ k < 256 := ⟨k0.toNat, by simp [Lit.wf, IntKind.min, IntKind.max, IntKind.signed, IntKind.bits] at hk0; omega, by simp [Lit.wf, IntKind.min, IntKind.max, IntKind.signed, IntKind.bits] at hk0; omega⟩
  clear hk0
  have d1 := @dj Try.prog 6 [qU23_3_6_0, qU23_3_6_1]
  have d2 := @dl 13 qU23_3_13
  have d3 := @dl 20 qU23_3_20
  refine PB (rs := [.cell 4 4]) Try.func3 ?_
  repeat (first | with_reducible refine pv_seq fun K hK => ?_ | ((with_reducible first | refine hK _ _ ?_ | (clear hK; refine hK _ _ ?_) | (clear hK; clear hK; refine hK _ _ ?_)); clear hK; try clear K) | refine W ?_ | exact Z | with_reducible intro b)
  refine p_Of (fun b0 => ?_)
  repeat (first | with_reducible refine pv_seq fun K hK => ?_ | ((with_reducible first | refine hK _ _ ?_ | (clear hK; refine hK _ _ ?_) | (clear hK; clear hK; refine hK _ _ ?_)); clear hK; try clear K) | refine W0 ?_ | exact Z | with_reducible intro b)
  refine p_dN (n := 3) (i := 0) rfl hb (by omega) (by decide) (by decide) fun r hr => ?_
  repeat (first | with_reducible refine pv_seq fun K hK => ?_ | ((with_reducible first | refine hK _ _ ?_ | (clear hK; refine hK _ _ ?_) | (clear hK; clear hK; refine hK _ _ ?_)); clear hK; try clear K) | refine W0 ?_ | exact Z | with_reducible intro b)
  rw [show (1 + (r : Int)) = ((r + 1 : Nat) : Int) by omega]
  refine p_dTube (n := r + 1) (m := 8) (i := 1) rfl hb (by omega) (by omega) (by decide) (by decide) fun l j a c hl hT hj => ?_
  have hok := hT.okP
  have hll : l.length ≤ 100000 := by omega
  have pU := p_Until hll hok
  rw [hT.til] at pU
  unfold SS at pU
  repeat (first | with_reducible refine pv_seq fun K hK => ?_ | ((with_reducible first | refine hK _ _ ?_ | (clear hK; refine hK _ _ ?_) | (clear hK; clear hK; refine hK _ _ ?_)); clear hK; try clear K) | refine W ?_ | exact Z | with_reducible intro b)
  have o0 : OkD (e8 0) := e8_ok (by decide)
  have hcb := hT.cb
  have oc : OkD (e8 c) := e8_ok (by omega)
  have h0 : e8 0 = 0 := dy_zero.2 rfl
  have h0c : e8 0 ≤ e8 c := by rw [h0]; exact dy_nn _ _
  have pB : PC Try.prog 11 [NU nu0, NU (nuOf (e8 c))] fun d => d = IV (ivD (e8 0) (e8 c)) := by
    have := p_Between o0 oc
    rwa [nuOf_0, lo_of h0c, hi_of h0c] at this
  refine cj fun K6 q6 => ?_
  have J6 : ∀ (e : DEnv) (S : Store) (b4 b6 b8 b9 : Nat) (x y : Dyadic), OkD x → OkD y → InS (e8 0) (e8 c) x → InS (e8 0) (e8 c) y → e 1 = .g (.lit (.int .u8 (k : Int))) → e 4 = .ptr (.l 4) b4 0 0 1 → e 6 = .ptr (.l 6) b6 0 0 1 → e 8 = .ptr (.l 8) b8 0 0 3 → e 9 = .ptr (.l 9) b9 0 0 3 →
      e 36 = .agg [bl (nuOf y).neg, i64 (nuOf y).exp, W64 (nuOf y).w] →
      S (.l 4) = some ⟨b4, 1, 0, [[bl false]]⟩ → S (.l 6) = some ⟨b6, 1, 0, [[.g (eS eG l)]]⟩ → S (.l 8) = some ⟨b8, 3, 0, [[bl (nuOf x).neg, i64 (nuOf x).exp, W64 (nuOf x).w]]⟩ → S (.l 9) = some ⟨b9, 3, 0, [[bl false, i64 0, .nil]]⟩ → K6 e S := by
    intro e S b4 b6 b8 b9 x y ox oy hx hy g1 g4 g6 g8 g9 g36 s4 s6 s8 s9
    as_aux_lemma =>
      refine q6 _ _ ?_
      clear q6 pU pB
      refine cj fun K hK => ?_
      have ft := And.intro g1 (And.intro g4 (And.intro g6 (And.intro g8 (And.intro g9 (And.intro g36 (And.intro s4 (And.intro s6 (And.intro s8 s9))))))))
      repeat (first | with_reducible refine pv_stopQ 7 ?_ | with_reducible refine pv_seq fun K hK => ?_ | ((with_reducible first | refine hK _ _ ?_ | (clear hK; refine hK _ _ ?_) | (clear hK; clear hK; refine hK _ _ ?_)); clear hK; try clear K) | refine W ?_ | exact Z | with_reducible intro b)
      refine ⟨fun K7 q7 hC7 => ?_⟩
      have J7 : ∀ (e : DEnv) (S : Store) (x y : Dyadic), OkD x → OkD y → 0 ≤ x → x ≤ y → x ≤ e8 c → e 1 = .g (.lit (.int .u8 (k : Int))) → e 4 = .ptr (.l 4) b4 0 0 1 → e 6 = .ptr (.l 6) b6 0 0 1 → e 8 = .ptr (.l 8) b8 0 0 3 → e 9 = .ptr (.l 9) b9 0 0 3 →
          S (.l 4) = some ⟨b4, 1, 0, [[bl false]]⟩ → S (.l 6) = some ⟨b6, 1, 0, [[.g (eS eG l)]]⟩ → S (.l 8) = some ⟨b8, 3, 0, [[bl (nuOf x).neg, i64 (nuOf x).exp, W64 (nuOf x).w]]⟩ → S (.l 9) = some ⟨b9, 3, 0, [[bl (nuOf y).neg, i64 (nuOf y).exp, W64 (nuOf y).w]]⟩ → K7 e S := by
        clear ft g1 g4 g6 g8 g9 g36 s4 s6 s8 s9 hx hy ox oy x y
        intro e S x y ox oy h0x hxy hxc g1 g4 g6 g8 g9 s4 s6 s8 s9
        as_aux_lemma =>
          refine q7 _ _ ?_
          clear q7 hC7
          have wx := (ox.sz).wl
          have wy := (oy.sz).wl
          have rx : rightB (nuOf x) = true := by rw [rightB_nuOf]; exact decide_eq_true ox
          have ry : rightB (nuOf y) = true := by rw [rightB_nuOf]; exact decide_eq_true oy
          have ft := And.intro g1 (And.intro g4 (And.intro g6 (And.intro g8 (And.intro g9 (And.intro s4 (And.intro s6 (And.intro s8 s9)))))))
          repeat (first | with_reducible refine pv_stopQ 10 ?_ | with_reducible refine pv_seq fun K hK => ?_ | ((with_reducible first | refine hK _ _ ?_ | (clear hK; refine hK _ _ ?_) | (clear hK; clear hK; refine hK _ _ ?_)); clear hK; try clear K) | refine W ?_ | exact Z | with_reducible intro b)
          refine ⟨fun K10 q10 hC10 => ?_⟩
          have J10 : ∀ (e : DEnv) (S : Store) (b10 : Nat) (d : D), e 1 = .g (.lit (.int .u8 (k : Int))) → e 4 = .ptr (.l 4) b4 0 0 1 → e 6 = .ptr (.l 6) b6 0 0 1 → e 8 = .ptr (.l 8) b8 0 0 3 → e 9 = .ptr (.l 9) b9 0 0 3 → e 10 = .ptr (.l 10) b10 0 0 1 →
              S (.l 4) = some ⟨b4, 1, 0, [[bl false]]⟩ → S (.l 6) = some ⟨b6, 1, 0, [[.g (eS eG l)]]⟩ → S (.l 8) = some ⟨b8, 3, 0, [[bl (nuOf x).neg, i64 (nuOf x).exp, W64 (nuOf x).w]]⟩ → S (.l 9) = some ⟨b9, 3, 0, [[bl (nuOf y).neg, i64 (nuOf y).exp, W64 (nuOf y).w]]⟩ →
              S (.l 10) = some ⟨b10, 1, 0, [[d]]⟩ → RowZ S (.l 70) 1 d (rS (eK .i64) (metL (nuOf x) (nuOf y) l l.length)) → K10 e S := by
            clear ft g1 g4 g6 g8 g9 s4 s6 s8 s9
            intro e S b10 d g1 g4 g6 g8 g9 g10 s4 s6 s8 s9 s10 hw
            as_aux_lemma =>
              have hml : (metL (nuOf x) (nuOf y) l l.length).length ≤ l.length := metL_len
              have pE := p_EachS hll hok wx wy rx ry
              have pI := p_EachI hll hok wx wy rx ry
              rw [ownL_t hT.tube] at pE pI
              have hget : ∀ (i : Nat) (x1 : List D), (eachL (nuOf x) (nuOf y) l)[i]? = some x1 → ∃ j : Nat, (metL (nuOf x) (nuOf y) l l.length)[i]? = some j ∧ x1 = [i64 j, SEG (gS l j)] := fun i x h => eachL_get h
              have hlen := eachL_len (lo := nuOf x) (hi := nuOf y) (l := l)
              have hmt : ∀ (i j : Nat), (metL (nuOf x) (nuOf y) l l.length)[i]? = some j → j < l.length := fun i j h => by
                have := List.mem_of_getElem? h
                unfold metL at this
                exact List.mem_range.1 (List.mem_filter.1 this).1
              have hpos : 0 < l.length → 0 < (metL (nuOf x) (nuOf y) l l.length).length := fun h => met_pos hT h (by rw [val_nuOf]; exact h0x) (by rw [val_nuOf, val_nuOf]; exact hxy) (by rw [val_nuOf]; exact hxc)
              generalize metL (nuOf x) (nuOf y) l l.length = want at *
              generalize eachL (nuOf x) (nuOf y) l = xs at *
              have N10 : ∀ (S : Store), S (.l 4) = some ⟨b4, 1, 0, [[bl false]]⟩ → S (.l 6) = some ⟨b6, 1, 0, [[.g (eS eG l)]]⟩ → S (.l 8) = some ⟨b8, 3, 0, [[bl (nuOf x).neg, i64 (nuOf x).exp, W64 (nuOf x).w]]⟩ → S (.l 9) = some ⟨b9, 3, 0, [[bl (nuOf y).neg, i64 (nuOf y).exp, W64 (nuOf y).w]]⟩ →
                  S (.l 10) = some ⟨b10, 1, 0, [[.g (eS (eK .i64) want)]]⟩ → K10 e S := by
                clear s4 s6 s8 s9 s10 hw S
                intro S s4 s6 s8 s9 s10
                refine q10 _ _ ?_
                clear q10 hC10
                have hm10 : (IntKind.i64.wrap (k : Int)).tmod 10 = ((k % 10 : Nat) : Int) := by
                  have : IntKind.i64.wrap (k : Int) = (k : Int) := by simp [IntKind.wrap, IntKind.signed, IntKind.bits]; omega
                  rw [this]; rfl
                obtain ⟨n, hn, hnl⟩ : ∃ n : Nat, (if want.length < k % 10 then (want.length : Int) else ((k % 10 : Nat) : Int)) = (n : Int) ∧ n ≤ want.length := by
                  split
                  · exact ⟨_, rfl, Nat.le_refl _⟩
                  · exact ⟨_, rfl, by omega⟩
                have ft := And.intro g1 (And.intro g4 (And.intro g6 (And.intro g8 (And.intro g9 (And.intro g10 (And.intro s4 (And.intro s6 (And.intro s8 (And.intro s9 (And.intro s10 (And.intro hm10 hn)))))))))))
                repeat (first | with_reducible refine pv_seq fun K hK => ?_ | ((with_reducible first | refine hK _ _ ?_ | (clear hK; refine hK _ _ ?_) | (clear hK; clear hK; refine hK _ _ ?_)); clear hK; try clear K) | refine W ?_ | exact Z | with_reducible intro b)
                rename_i b12
                have nn : ((n : Int) = (n : Int)) = True := eq_true rfl
                refine pv_range (f := 39) _ rfl (by kernel_rfl) (by kernel_rfl) (by kernel_rfl) pI (fun x hx => by obtain ⟨i, hi⟩ := List.mem_iff_getElem?.1 hx; obtain ⟨j, _, rfl⟩ := hget i x hi; rfl)
                  (fun i S => i ≤ n ∧ S (.l 4) = some ⟨b4, 1, 0, [[bl false]]⟩ ∧ S (.l 6) = some ⟨b6, 1, 0, [[.g (eS eG l)]]⟩ ∧ S (.l 10) = some ⟨b10, 1, 0, [[.g (eS (eK .i64) want)]]⟩ ∧ S (.l 12) = some ⟨b12, 1, 0, [[i64 n]]⟩ ∧ S (.l 13) = some ⟨b, 1, 0, [[i64 i]]⟩)
                  (fun cc S => cc = .exit 2 ∧ S (.l 4) = some ⟨b4, 1, 0, [[bl false]]⟩ ∧ S (.l 6) = some ⟨b6, 1, 0, [[.g (eS eG l)]]⟩ ∧ S (.l 10) = some ⟨b10, 1, 0, [[.g (eS (eK .i64) want)]]⟩ ∧ S (.l 12) = some ⟨b12, 1, 0, [[i64 n]]⟩ ∧ S (.l 13) = some ⟨b, 1, 0, [[i64 n]]⟩) ⟨Nat.zero_le _, s4, s6, s10, rfl, rfl⟩ ?_ ?_ ?_ ?_
                · clear ft s4 s6 s8 s9 s10
                  rintro i x1 S1 ga gb Kn Kx Kr hxi ⟨hin, s4, s6, s10, s12, s13⟩ hg1 hKn hKx hKr
                  obtain ⟨j, hj, rfl⟩ := hget i x1 hxi
                  have hjl := hmt i j hj
                  have hq := gS_at hjl
                  have oq := hok _ (gS_mem hjl)
                  have pS := p_rSameSeg oq.ln oq.ln
                  rw [sameG_refl] at pS
                  have hil : i < want.length := (List.getElem?_eq_some_iff.1 hj).1
                  clear hK hget oq hmt pI pE
                  generalize gS l j = q at *
                  obtain ⟨fr, to, ⟨n0, e0, w0⟩, ⟨n1, e1, w1⟩, bx⟩ := q
                  unfold SEG at pS
                  simp only [bindD, SEG]
                  by_cases hi : i = n
                  · subst hi
                    have ft := And.intro g4 (And.intro g6 (And.intro g10 (And.intro s4 (And.intro s6 (And.intro s10 (And.intro s12 (And.intro s13 (And.intro hg1 (And.intro hj hq)))))))))
                    repeat (first | with_reducible refine pv_seq fun K hK => ?_ | ((with_reducible first | refine hK _ _ ?_ | (clear hK; refine hK _ _ ?_) | (clear hK; clear hK; refine hK _ _ ?_)); clear hK; try clear K) | refine W0 ?_ | exact Z | with_reducible intro b)
                    exact hKx 2 _ rfl ⟨rfl, s4, s6, s10, s12, s13⟩
                  · have hi' : ((i : Int) = (n : Int)) = False := eq_false (by omega)
                    have ft := And.intro g4 (And.intro g6 (And.intro g10 (And.intro s4 (And.intro s6 (And.intro s10 (And.intro s12 (And.intro s13 (And.intro hg1 (And.intro hj (And.intro hq hi'))))))))))
                    repeat (first | with_reducible refine pv_seq fun K hK => ?_ | ((with_reducible first | refine hK _ _ ?_ | (clear hK; refine hK _ _ ?_) | (clear hK; clear hK; refine hK _ _ ?_)); clear hK; try clear K) | refine W ?_ | exact Z | with_reducible intro b)
                    exact hKn _ rfl ⟨by omega, s4, s6, s10, s12, rfl⟩
                · rintro S' hg0 ⟨hin, s4, s6, s10, s12, s13⟩
                  obtain rfl : n = xs.length := by omega
                  clear ft
                  rcases Nat.eq_zero_or_pos l.length with h0 | h0
                  · have z1 : (0 < want.length) = False := eq_false (by omega)
                    have z2 : (0 < l.length) = False := eq_false (by omega)
                    have ft := And.intro g4 (And.intro g6 (And.intro g10 (And.intro s4 (And.intro s6 (And.intro s10 (And.intro s12 (And.intro s13 (And.intro z1 z2))))))))
                    exact Wk
                  · have z1 : (0 < want.length) = True := eq_true (hpos h0)
                    have z2 : (0 < l.length) = True := eq_true h0
                    have ft := And.intro g4 (And.intro g6 (And.intro g10 (And.intro s4 (And.intro s6 (And.intro s10 (And.intro s12 (And.intro s13 (And.intro z1 z2))))))))
                    exact Wk
                · rintro id S' hg0 ⟨he, s4, s6, s10, s12, s13⟩
                  injection he with he
                  subst he
                  clear ft
                  rcases Nat.eq_zero_or_pos l.length with h0 | h0
                  · have z1 : (0 < want.length) = False := eq_false (by omega)
                    have z2 : (0 < l.length) = False := eq_false (by omega)
                    have ft := And.intro g4 (And.intro g6 (And.intro g10 (And.intro s4 (And.intro s6 (And.intro s10 (And.intro s12 (And.intro s13 (And.intro z1 z2))))))))
                    exact Wk
                  · have z1 : (0 < want.length) = True := eq_true (hpos h0)
                    have z2 : (0 < l.length) = True := eq_true h0
                    have ft := And.intro g4 (And.intro g6 (And.intro g10 (And.intro s4 (And.intro s6 (And.intro s10 (And.intro s12 (And.intro s13 (And.intro z1 z2))))))))
                    exact Wk
                · rintro S' hg0 ⟨he, _⟩
                  cases he
              rcases hw with ⟨rfl, h0⟩ | ⟨b9, cap, rfl, s35⟩
              · have hm0 : want = [] := List.eq_nil_of_length_eq_zero (by rw [← rS_len (f := eK .i64), h0]; rfl)
                refine hC10 _ _ (Recast.cell (i := 0) (j := 0) s10 rfl rfl (fun I H v hv => nil_row hv) ?_)
                refine N10 _ ?_ ?_ ?_ ?_ ?_
                · simp only [updS_apply]; simpa using s4
                · simp only [updS_apply]; simpa using s6
                · simp only [updS_apply]; simpa using s8
                · simp only [updS_apply]; simpa using s9
                · simp only [updS_apply]; rw [hm0]; rfl
              · refine hC10 _ _ (Recast.frzCell (k2 := .l 10) (k := .l 70) s10 0 0 rfl rfl (by decide) s35 rS_pure (by simp) ?_)
                refine N10 _ ?_ ?_ ?_ ?_ ?_
                · simp only [updS_apply]; simpa using s4
                · simp only [updS_apply]; simpa using s6
                · simp only [updS_apply]; simpa using s8
                · simp only [updS_apply]; simpa using s9
                · simp only [updS_apply]; rfl
          clear hC10 q10
          repeat (first | with_reducible refine pv_seq fun K hK => ?_ | ((with_reducible first | refine hK _ _ ?_ | (clear hK; refine hK _ _ ?_) | (clear hK; clear hK; refine hK _ _ ?_)); clear hK; try clear K) | refine W0 ?_ | exact Z | with_reducible intro b)
          refine pv_loop (fun e S => ∃ (i b10 : Nat) (d : D), i ≤ l.length ∧ e 1 = .g (.lit (.int .u8 (k : Int))) ∧ e 4 = .ptr (.l 4) b4 0 0 1 ∧ e 6 = .ptr (.l 6) b6 0 0 1 ∧ e 8 = .ptr (.l 8) b8 0 0 3 ∧ e 9 = .ptr (.l 9) b9 0 0 3 ∧ e 10 = .ptr (.l 10) b10 0 0 1 ∧ e 11 = i64 i ∧
            S (.l 4) = some ⟨b4, 1, 0, [[bl false]]⟩ ∧ S (.l 6) = some ⟨b6, 1, 0, [[.g (eS eG l)]]⟩ ∧ S (.l 8) = some ⟨b8, 3, 0, [[bl (nuOf x).neg, i64 (nuOf x).exp, W64 (nuOf x).w]]⟩ ∧ S (.l 9) = some ⟨b9, 3, 0, [[bl (nuOf y).neg, i64 (nuOf y).exp, W64 (nuOf y).w]]⟩ ∧
              S (.l 10) = some ⟨b10, 1, 0, [[d]]⟩ ∧ RowZ S (.l 70) 1 d (rS (eK .i64) (metL (nuOf x) (nuOf y) l i))) (fun e _ => l.length - (intD (e 11)).toNat) ?_ ?_
          · exact ⟨0, _, .nil, Nat.zero_le _, Zr, Zr, Zr, Zr, Zr, Zr, Zr, Zr, Zr, Zr, Zr, Zr, .inl ⟨rfl, rfl⟩⟩
          · clear ft g1 g4 g6 g8 g9 s4 s6 s8 s9
            rintro e S ⟨i, b10, d, hi, g1, g4, g6, g8, g9, g10, g11, s4, s6, s8, s9, s10, hw⟩
            as_aux_lemma =>
              have o0 : d.one = true := by rcases hw with ⟨h, _⟩ | ⟨_, _, h, _⟩ <;> rw [h] <;> rfl
              have hm0 : (intD (e 11)).toNat = i := by rw [g11]; exact Int.toNat_natCast _
              have ft := And.intro g1 (And.intro g4 (And.intro g6 (And.intro g8 (And.intro g9 (And.intro g10 (And.intro g11 (And.intro s4 (And.intro s6 (And.intro s8 (And.intro s9 (And.intro s10 o0)))))))))))
              repeat (first | with_reducible refine pv_seq fun K hK => ?_ | ((with_reducible first | refine hK _ _ ?_ | (clear hK; refine hK _ _ ?_) | (clear hK; clear hK; refine hK _ _ ?_)); clear hK; try clear K) | refine W0 ?_ | exact Z | with_reducible intro b)
              refine pv_cdD (fun ht => ?_) (fun ht => ?_)
              · have hil : i < l.length := by omega
                have hq := gS_at hil
                have oq := hok _ (gS_mem hil)
                have pA := p_nCmpR oq.b wx (by decide) oq.rb rx
                have pD := p_nCmpR oq.a wy (by decide) oq.ra ry
                have k1 := cmpD_0le (a := (gS l i).t1.val) (b := (nuOf x).val)
                have k2 := cmpD_le0' (a := (gS l i).t0.val) (b := (nuOf y).val)
                have hs := metL_succ (lo := nuOf x) (hi := nuOf y) (l := l) (n := i)
                unfold meetB at hs
                rw [decide_eq_true (show (nuOf x).val ≤ (nuOf y).val by rw [val_nuOf, val_nuOf]; exact hxy), Bool.true_and] at hs
                generalize cmpD (gS l i).t1.val (nuOf x).val = c1 at *
                generalize cmpD (gS l i).t0.val (nuOf y).val = c2 at *
                clear oq
                have j1 : decide ((nuOf x).val ≤ (gS l i).t1.val) = decide (0 ≤ c1) := decide_eq_decide.2 (Iff.of_eq k1.symm)
                have j2 : decide ((gS l i).t0.val ≤ (nuOf y).val) = decide (c2 ≤ 0) := decide_eq_decide.2 (Iff.of_eq k2.symm)
                rw [j1, j2] at hs
                clear k1 k2 j1 j2
                have hml : (metL (nuOf x) (nuOf y) l i).length ≤ i := metL_len
                generalize gS l i = q at *
                obtain ⟨fr, to, ⟨n0, e0, w0⟩, ⟨n1, e1, w1⟩, bx⟩ := q
                by_cases a1 : 0 ≤ c1
                · have a1' := eq_true a1
                  by_cases a2 : c2 ≤ 0
                  · have a2' := eq_true a2
                    rw [decide_eq_true a1, decide_eq_true a2, if_pos (by decide)] at hs
                    have hn : rS (eK .i64) (metL (nuOf x) (nuOf y) l (i + 1)) = rS (eK .i64) (metL (nuOf x) (nuOf y) l i) ++ [[i64 i]] := by rw [hs, rS_n]
                    clear hs
                    have ft := And.intro g1 (And.intro g4 (And.intro g6 (And.intro g8 (And.intro g9 (And.intro g10 (And.intro g11 (And.intro s4 (And.intro s6 (And.intro s8 (And.intro s9 (And.intro s10 (And.intro o0 (And.intro hq (And.intro a1' a2'))))))))))))))
                    repeat (first | with_reducible refine pv_seq fun K hK => ?_ | ((with_reducible first | refine hK _ _ ?_ | (clear hK; refine hK _ _ ?_) | (clear hK; clear hK; refine hK _ _ ?_)); clear hK; try clear K) | refine W ?_ | exact Z | with_reducible intro b)
                    refine RowZ.appL (hw.up (by rfl)) (by decide) rfl (by simp [D.one]) ?_ ?_ fun d' S' hr' hS' => ?_
                    · rw [rS_len]; simp; omega
                    · rw [rS_len]; simp; omega
                    have o1 : d'.one = true := by rcases hr' with ⟨h, _⟩ | ⟨_, _, h, _⟩ <;> rw [h] <;> rfl
                    have u4 : S' (.l 4) = some ⟨b4, 1, 0, [[bl false]]⟩ := by rw [hS' _ (by decide)]; exact s4
                    have u6 : S' (.l 6) = some ⟨b6, 1, 0, [[.g (eS eG l)]]⟩ := by rw [hS' _ (by decide)]; exact s6
                    have u8 : S' (.l 8) = some ⟨b8, 3, 0, [[bl (nuOf x).neg, i64 (nuOf x).exp, W64 (nuOf x).w]]⟩ := by rw [hS' _ (by decide)]; exact s8
                    have u9 : S' (.l 9) = some ⟨b9, 3, 0, [[bl (nuOf y).neg, i64 (nuOf y).exp, W64 (nuOf y).w]]⟩ := by rw [hS' _ (by decide)]; exact s9
                    have u10 : S' (.l 10) = some ⟨b10, 1, 0, [[d]]⟩ := by rw [hS' _ (by decide)]; exact s10
                    have hr2 : RowZ S' (.l 70) 1 d' (rS (eK .i64) (metL (nuOf x) (nuOf y) l (i + 1))) := by rw [hn]; exact hr'
                    have ft := And.intro g1 (And.intro g4 (And.intro g6 (And.intro g8 (And.intro g9 (And.intro g10 (And.intro g11 (And.intro u4 (And.intro u6 (And.intro u8 (And.intro u9 (And.intro u10 o1)))))))))))
                    repeat (first | with_reducible refine pv_seq fun K hK => ?_ | ((with_reducible first | refine hK _ _ ?_ | (clear hK; refine hK _ _ ?_) | (clear hK; clear hK; refine hK _ _ ?_)); clear hK; try clear K) | refine W0 ?_ | exact Z | with_reducible intro b)
                    exact ⟨⟨i + 1, b10, d', by omega, rfl, rfl, rfl, hr2.up (updS_ne (by decide))⟩, by first | (rw [hm0]; simp only [intD]; omega) | (simp only [intD]; omega)⟩
                  · have a2' := eq_false a2
                    rw [decide_eq_true a1, decide_eq_false a2, if_neg (by decide), List.append_nil] at hs
                    have ft := And.intro g1 (And.intro g4 (And.intro g6 (And.intro g8 (And.intro g9 (And.intro g10 (And.intro g11 (And.intro s4 (And.intro s6 (And.intro s8 (And.intro s9 (And.intro s10 (And.intro o0 (And.intro hq (And.intro a1' a2'))))))))))))))
                    repeat (first | with_reducible refine pv_seq fun K hK => ?_ | ((with_reducible first | refine hK _ _ ?_ | (clear hK; refine hK _ _ ?_) | (clear hK; clear hK; refine hK _ _ ?_)); clear hK; try clear K) | refine W ?_ | exact Z | with_reducible intro b)
                    exact ⟨⟨i + 1, b10, d, by omega, rfl, rfl, rfl, by rw [hs]; exact hw⟩, by simp only [intD]; omega⟩
                · have a1' := eq_false a1
                  rw [decide_eq_false a1, Bool.false_and, if_neg (by decide), List.append_nil] at hs
                  have ft := And.intro g1 (And.intro g4 (And.intro g6 (And.intro g8 (And.intro g9 (And.intro g10 (And.intro g11 (And.intro s4 (And.intro s6 (And.intro s8 (And.intro s9 (And.intro s10 (And.intro o0 (And.intro hq a1')))))))))))))
                  repeat (first | with_reducible refine pv_seq fun K hK => ?_ | ((with_reducible first | refine hK _ _ ?_ | (clear hK; refine hK _ _ ?_) | (clear hK; clear hK; refine hK _ _ ?_)); clear hK; try clear K) | refine W ?_ | exact Z | with_reducible intro b)
                  exact ⟨⟨i + 1, b10, d, by omega, rfl, rfl, rfl, by rw [hs]; exact hw⟩, by simp only [intD]; omega⟩
              · repeat (first | with_reducible refine pv_seq fun K hK => ?_ | ((with_reducible first | refine hK _ _ ?_ | (clear hK; refine hK _ _ ?_) | (clear hK; clear hK; refine hK _ _ ?_)); clear hK; try clear K) | refine W0 ?_ | exact Z | with_reducible intro b)
                obtain rfl : i = l.length := by omega
                exact J10 _ _ b10 d Zr Zr Zr Zr Zr Zr Zr Zr Zr Zr Zr hw
      clear hC7 q7
      have hx2 := hx.in h0c
      have hy2 := hy.in h0c
      have pC := p_nCmpR (ox.sz).wl (oy.sz).wl (by decide) (by rw [rightB_nuOf]; exact decide_eq_true ox) (by rw [rightB_nuOf]; exact decide_eq_true oy)
      rw [val_nuOf, val_nuOf] at pC
      have kc := cmpD_0lt (a := x) (b := y)
      rw [h0] at hx2 hy2
      generalize cmpD x y = cc at *
      by_cases a1 : 0 < cc
      · have a1' := eq_true a1
        rw [kc] at a1
        have ft := And.intro g1 (And.intro g4 (And.intro g6 (And.intro g8 (And.intro g9 (And.intro g36 (And.intro s4 (And.intro s6 (And.intro s8 (And.intro s9 a1')))))))))
        repeat (first | with_reducible refine pv_seq fun K hK => ?_ | ((with_reducible first | refine hK _ _ ?_ | (clear hK; refine hK _ _ ?_) | (clear hK; clear hK; refine hK _ _ ?_)); clear hK; try clear K) | refine W ?_ | exact Z | with_reducible intro b)
        exact J7 _ _ y x oy ox hy2.1 (by grind) hy2.2 Zr Zr Zr Zr Zr Zr Zr Zr Zr
      · have a1' := eq_false a1
        rw [kc] at a1
        have ft := And.intro g1 (And.intro g4 (And.intro g6 (And.intro g8 (And.intro g9 (And.intro g36 (And.intro s4 (And.intro s6 (And.intro s8 (And.intro s9 a1')))))))))
        repeat (first | with_reducible refine pv_seq fun K hK => ?_ | ((with_reducible first | refine hK _ _ ?_ | (clear hK; refine hK _ _ ?_) | (clear hK; clear hK; refine hK _ _ ?_)); clear hK; try clear K) | refine W ?_ | exact Z | with_reducible intro b)
        exact J7 _ _ x y ox oy hx2.1 (by grind) hx2.2 Zr Zr Zr Zr Zr Zr Zr Zr Zr
  as_aux_lemma =>
    repeat' (first | with_reducible refine pv_seq fun K hK => ?_ | ((with_reducible first | refine hK _ _ ?_ | (clear hK; refine hK _ _ ?_) | (clear hK; clear hK; refine hK _ _ ?_)); clear hK; try clear K) | refine W ?_ | exact Z | with_reducible intro b | with_reducible refine And.intro ?_ ?_ | (refine p_dIn (x := e8 0) (y := e8 c) (i := j) rfl hb (by omega) o0 oc fun x ox hx => ?_) | (refine p_dIn (x := e8 0) (y := e8 c) (i := j + 1) rfl hb (by omega) o0 oc fun y oy hy => ?_) | exact J6 _ _ _ _ _ _ x y ox oy hx hy Zr Zr Zr Zr Zr Zr Zr Zr Zr Zr)
end Go.V

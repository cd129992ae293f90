/- The seat's deck: tubes. -/
import Derived.Test.YtcmnbpliiopbjaaGreatDoorU15
set_option linter.unusedSimpArgs false
set_option linter.unusedVariables false
set_option maxRecDepth 100000
namespace Go.V
open Go Go.RowKit Go.Proofs
def qU16_6_6_0 : PT := (.lin [(0, 0), (1, 0), (2, 0), (3, 0), (4, 0), (7, 0), (12, 0), (13, 0)] (.fork3 5 3 (.lin [(6, 0)] (.fork3 8 3 (.lin [(9, 0), (10, 0)] (.fork3 11 3 (.lin [] (.fork 14 3 (.lin [(15, 0), (16, 3)] .nil) 16 3 (.lin [(14, 3), (15, 0)] .nil))) 14 3 (.lin [] (.fork 11 3 (.lin [(15, 0), (16, 3)] .nil) 16 3 (.lin [(11, 3), (15, 0)] .nil))) 16 3 (.lin [] (.fork 11 3 (.lin [(14, 3), (15, 0)] .nil) 14 3 (.lin [(11, 3), (15, 0)] .nil))))) 11 3 (.lin [] (.fork 8 3 (.lin [(9, 0), (10, 0)] (.fork 14 3 (.lin [(15, 0), (16, 3)] .nil) 16 3 (.lin [(14, 3), (15, 0)] .nil))) 16 3 (.lin [(8, 3), (9, 0), (10, 0), (14, 3), (15, 0)] .nil))) 16 3 (.lin [] (.fork 8 3 (.lin [(9, 0), (10, 0)] (.fork 11 3 (.lin [(14, 3), (15, 0)] .nil) 14 3 (.lin [(11, 3), (15, 0)] .nil))) 11 3 (.lin [(8, 3), (9, 0), (10, 0), (14, 3), (15, 0)] .nil))))) 11 3 (.lin [] (.fork 5 3 (.lin [(6, 0)] (.fork 8 3 (.lin [(9, 0), (10, 0)] (.fork 14 3 (.lin [(15, 0), (16, 3)] .nil) 16 3 (.lin [(14, 3), (15, 0)] .nil))) 16 3 (.lin [(8, 3), (9, 0), (10, 0), (14, 3), (15, 0)] .nil))) 16 3 (.lin [(5, 3), (6, 0), (8, 3), (9, 0), (10, 0), (14, 3), (15, 0)] .nil))) 16 3 (.lin [] (.fork 5 3 (.lin [(6, 0)] (.fork 8 3 (.lin [(9, 0), (10, 0)] (.fork 11 3 (.lin [(14, 3), (15, 0)] .nil) 14 3 (.lin [(11, 3), (15, 0)] .nil))) 11 3 (.lin [(8, 3), (9, 0), (10, 0), (14, 3), (15, 0)] .nil))) 11 3 (.lin [(5, 3), (6, 0), (8, 3), (9, 0), (10, 0), (14, 3), (15, 0)] .nil)))))
def qU16_6_6_1 : PT := (.lin [(17, 3)] .nil)
def qU16_6_7 : PT := (.lin [(1, 0)] (.fork 0 3 (.lin [(2, 3), (3, 3), (4, 0), (5, 0), (6, 0), (7, 0), (8, 3)] .nil) 2 3 (.lin [(0, 3), (3, 3), (4, 0), (5, 0), (6, 0), (7, 0), (8, 3)] .nil)))
def qU16_6_9 : List (Nat × Nat) := [(0, 0), (1, 1), (2, 0), (3, 1), (4, 0), (5, 3)]
attribute [go_sem] qU16_6_6_0 qU16_6_6_1 qU16_6_7 qU16_6_9

theorem Recast.z3t {N : DEnv → Store → Prop} {e : DEnv} {S : Store} {k : Nm} {b : Nat} {x y : D} (hk : S k = some ⟨b, 3, 0, [[x, y, .nil]]⟩) (h : N e (updS S k (some ⟨b, 3, 0, [[x, y, W64 []]]⟩))) : Recast N e S :=
  Recast.cell (i := 0) (j := 2) (es := [x, y, .nil]) (d := .nil) (d' := W64 []) hk rfl rfl (fun I H v hv => nil_row hv) h
def cU (x : Nu) : List D := [bl x.neg, i64 x.exp, W64 x.w]
theorem p_rSumE {c d : Nat} (hc : c + d ≤ 2000) : PC Tryz.prog 24 [i64 0, NU (nuOf (e8 c)), NU (nuOf (e8 d))] fun r => r = NE (nuOf (e8 (c + d)), 0) := by
  have o1 := e8_ok (show c ≤ 2000 by omega)
  have o2 := e8_ok (show d ≤ 2000 by omega)
  have := p_rStraight (n := 0) (o1.sz).b (o2.sz).b
  rwa [opR, rightB_nuOf, rightB_nuOf, decide_eq_true o1, decide_eq_true o2, val_nuOf, val_nuOf, Bool.and_self, if_pos rfl, exD, if_pos rfl, e8_add, numR_ok (e8_ok hc)] at this

theorem quo_3 (r1 : Nat) : (r1 : Int).tdiv 3 = ((r1 / 3 : Nat) : Int) := rfl
theorem quo_x {r1 r2 : Nat} (h1 : r1 < 4) (h2 : r2 < 5) : ∃ x : Nat, ((r1 / 3 : Nat) : Int) * (r2 : Int) = (x : Int) ∧ x ≤ 4 := by
  rcases (show r1 = 0 ∨ r1 = 1 ∨ r1 = 2 ∨ r1 = 3 by omega) with rfl | rfl | rfl | rfl
  · exact ⟨0, by simp, by omega⟩
  · exact ⟨0, by simp, by omega⟩
  · exact ⟨0, by simp, by omega⟩
  · exact ⟨r2, by simp, by omega⟩
set_option maxHeartbeats 2000000 in
theorem p_dTube {k : Nm} {S : Store} {Q : D → Store → Prop} {bd i n m : Nat} {w : List Nat} (hS : S k = some ⟨bd, 2, 0, [[W64 w, i64 i]]⟩) (hb : B64 w) (hn1 : 1 ≤ n) (hn4 : n ≤ 4) (hm : m ≤ 20) (hi : i ≤ 1000000)
    (hQ : ∀ (l : List Sg) (j a c : Nat), l.length ≤ m → TubeI n l a c → j ≤ i + 1 + 20 * m → Q (SS l) (updS S k (some ⟨bd, 2, 0, [[W64 w, i64 j]]⟩))) :
    PFC Tryz.prog 6 [.ptr k bd 0 0 2, i64 n, i64 m] S Q := by
  have d1 := @dj Tryz.prog 6 [qU16_6_6_0, qU16_6_6_1]
  have d2 := @dr 7 qU16_6_7
  have d3 := @dl 9 qU16_6_9
  refine PFB (rs := [.tmp 6]) Tryz.func6 ?_
  repeat (first | with_reducible refine pv_stopQ 3 ?_ | with_reducible refine pv_seq fun K hK => ?_ | ((with_reducible first | refine hK _ _ ?_ | (clear hK; refine hK _ _ ?_) | (clear hK; clear hK; refine hK _ _ ?_)); clear hK; try clear K) | refine W ?_ | exact Z | with_reducible intro b)
  refine ⟨fun K q hC => ?_⟩
  have J : ∀ (e : DEnv) (T : Store) (l : List Sg) (j a c : Nat), l.length ≤ m → TubeI n l a c → j ≤ i + 1 + 20 * m → RowD T (.l 48) 9 (e 7) (rS eG l) → Dk S k T (some ⟨bd, 2, 0, [[W64 w, i64 j]]⟩) → K e T := by
    intro e T l j a c hl ht hj hw hd
    refine q _ _ ?_
    repeat (first | with_reducible refine pv_seq fun K hK => ?_ | ((with_reducible first | refine hK _ _ ?_ | (clear hK; refine hK _ _ ?_) | (clear hK; clear hK; refine hK _ _ ?_)); clear hK; try clear K) | refine W0 ?_ | exact Z | with_reducible intro b)
    exact hw.coeD fun T2 _ hT2 => by rw [(hd.of hT2).dn]; exact hQ l j a c hl ht hj
  clear hC q
  refine pv_seqR fun K1 q1 hC1 => ?_
  repeat (first | with_reducible refine pv_seq fun K hK => ?_ | ((with_reducible first | refine hK _ _ ?_ | (clear hK; refine hK _ _ ?_) | (clear hK; clear hK; refine hK _ _ ?_)); clear hK; try clear K) | refine W0 ?_ | exact Z | with_reducible intro b)
  refine p_dN (n := m + 1) (i := i) (by simp -implicitDefEqProofs only [updS, upS]; exact hS) hb (by omega) (by omega) (by omega) (fun r hr => ?_)
  repeat (first | with_reducible refine pv_seq fun K hK => ?_ | ((with_reducible first | refine hK _ _ ?_ | (clear hK; refine hK _ _ ?_) | (clear hK; clear hK; refine hK _ _ ?_)); clear hK; try clear K) | refine W0 ?_ | exact Z | with_reducible intro b)
  refine hC1 _ _ (Recast.z3t (k := .l 9) (b := b) Zr ?_)
  refine q1 _ _ ?_
  clear hC1 q1
  repeat (first | with_reducible refine pv_seq fun K hK => ?_ | ((with_reducible first | refine hK _ _ ?_ | (clear hK; refine hK _ _ ?_) | (clear hK; clear hK; refine hK _ _ ?_)); clear hK; try clear K) | refine W0 ?_ | exact Z | with_reducible intro b)
  refine pv_loop (fun e T => ∃ (t j a c b9 : Nat) (l : List Sg), t + l.length ≤ m ∧ TubeI n l a c ∧ j ≤ i + 1 + 20 * l.length ∧ e 0 = .ptr (.up k) bd 0 0 2 ∧ e 1 = i64 n ∧ e 10 = i64 t ∧ e 8 = i64 a ∧ e 9 = .ptr (.l 9) b9 0 0 3 ∧ T (.l 9) = some ⟨b9, 3, 0, [cU (nuOf (e8 c))]⟩ ∧ RowD T (.l 48) 9 (e 7) (rS eG l) ∧ Dk S k T (some ⟨bd, 2, 0, [[W64 w, i64 j]]⟩)) (fun e _ => (intD (e 10)).toNat) ?_ ?_
  · exact ⟨r, i + 1, 0, 0, b, [], by simp; omega, TubeI.start n, by simp, Zr, Zr, Zr, Zr, Zr, Zr, .inl ⟨Zr, rfl⟩, ((((Dk.up hS).l).l).set).l⟩
  · rintro e T ⟨t, j, a, c, b9, l, htl, hT, hj, g0, g1, g10, g8, g9, s9, hw, hd⟩
    unfold cU at s9
    have ft := And.intro g0 (And.intro g1 (And.intro g10 (And.intro g8 (And.intro g9 s9))))
    repeat (first | with_reducible refine pv_seq fun K hK => ?_ | ((with_reducible first | refine hK _ _ ?_ | (clear hK; refine hK _ _ ?_) | (clear hK; clear hK; refine hK _ _ ?_)); clear hK; try clear K) | refine W0 ?_ | exact Z | with_reducible intro b)
    refine pv_cdD (fun ht1 => ?_) (fun ht => ?_)
    · have hcb := hT.cb
      have hab := hT.ab
      obtain ⟨t, rfl⟩ : ∃ t2, t = t2 + 1 := ⟨t - 1, by omega⟩
      have hm0 : (intD (e 10)).toNat = t + 1 := by rw [g10]; exact Int.toNat_natCast _
      repeat (first | with_reducible refine pv_seq fun K hK => ?_ | ((with_reducible first | refine hK _ _ ?_ | (clear hK; refine hK _ _ ?_) | (clear hK; clear hK; refine hK _ _ ?_)); clear hK; try clear K) | refine W0 ?_ | exact Z | with_reducible intro b)
      refine cj fun K2 q2 => ?_
      have J2 : ∀ (e : DEnv) (T : Store) (b11 x j2 : Nat) (lb : List Iv), x ≤ 4 → lb.length = n → (∀ y ∈ lb, SmI y) → j2 ≤ j + 2 + 3 * n → e 0 = .ptr (.up k) bd 0 0 2 → e 1 = i64 n → e 10 = i64 ((t + 1 : Nat) : Int) → e 9 = .ptr (.l 9) b9 0 0 3 → e 11 = .ptr (.l 11) b11 0 0 9 →
          e 36 = .agg [i64 ((a : Int) + 1), i64 ((a : Int) + 1 + x), bl (nuOf (e8 c)).neg, i64 (nuOf (e8 c)).exp, W64 (nuOf (e8 c)).w, bl false, i64 0, .nil, .g (eS eI lb)] →
          T (.l 9) = some ⟨b9, 3, 0, [[bl (nuOf (e8 c)).neg, i64 (nuOf (e8 c)).exp, W64 (nuOf (e8 c)).w]]⟩ → T (.l 11) = some ⟨b11, 9, 0, [[i64 0, i64 0, bl false, i64 0, .nil, bl false, i64 0, .nil, .nil]]⟩ →
          RowD T (.l 48) 9 (e 7) (rS eG l) → Dk S k T (some ⟨bd, 2, 0, [[W64 w, i64 j2]]⟩) → K2 e T := by
        intro e T b11 x j2 lb hx hlb hsm hj2 g0 g1 g10 g9 g11 g36 s9 s11 hw hd
        refine q2 _ _ ?_
        refine cj fun K hK => ?_
        have ft := And.intro g0 (And.intro g1 (And.intro g10 (And.intro g9 (And.intro g11 (And.intro g36 (And.intro s9 s11))))))
        repeat' (first | with_reducible refine pv_seq fun K hK => ?_ | ((with_reducible first | refine hK _ _ ?_ | (clear hK; refine hK _ _ ?_) | (clear hK; clear hK; refine hK _ _ ?_)); clear hK; try clear K) | refine W ?_ | exact Z | with_reducible intro b | with_reducible refine And.intro ?_ ?_ | (refine p_dTime (i := j2) (by (try simp -implicitDefEqProofs only [updS_apply, reduceCtorEq, if_false]); exact hd.at_) hb (by omega) fun dd htm => ?_; obtain ⟨d, rfl, hd1, hd2⟩ := htm.e8) | (have pS := p_rSumE (c := c) (d := d) (by omega); unfold NE NU at pS; refine call_is pS ?_))
        all_goals
          have hnew := rS_g (l := l) (s := ⟨(a : Int) + 1, (a : Int) + 1 + x, nuOf (e8 c), nuOf (e8 (c + d)), lb⟩)
          have hT2 := hT.step (x := x) (d := d) (box := lb) (by omega) hn1 hn4 hx hd1 hd2 hlb hsm
          refine RowD.appL (hw.up (by rfl)) (by decide) rfl (by simp [D.one, W64]) ?_ ?_ fun d' S3 hr3 hS3 => ?_
          · rw [rS_len]; simp; omega
          · rw [rS_len]; simp; omega
          have u9 : S3 (.l 9) = some ⟨b9, 3, 0, [[bl (nuOf (e8 c)).neg, i64 (nuOf (e8 c)).exp, W64 (nuOf (e8 c)).w]]⟩ := by rw [hS3 _ (by decide)]; exact Zr
          have u11 : S3 (.l 11) = some ⟨b11, 9, 0, [[i64 ((a + 1 : Nat) : Int), i64 ((a + 1 + x : Nat) : Int), bl (nuOf (e8 c)).neg, i64 (nuOf (e8 c)).exp, W64 (nuOf (e8 c)).w, bl (nuOf (e8 (c + d))).neg, i64 (nuOf (e8 (c + d))).exp, W64 (nuOf (e8 (c + d))).w, .g (eS eI lb)]]⟩ := by rw [hS3 _ (by decide)]; exact Zr
          have hd4 : Dk S k S3 (some ⟨bd, 2, 0, [[W64 w, i64 ((j2 + 2 : Nat) : Int)]]⟩) := by refine Dk.of ?_ hS3; exact ((hd.l.set).l).l
          have hsub : (((t + 1 : Nat) : Int) - 1) = (t : Int) := by omega
          have o1 : d'.one = true := by rcases hr3 with ⟨h, _⟩ | ⟨_, _, _, h, _⟩ <;> rw [h] <;> rfl
          have ft := And.intro g0 (And.intro g1 (And.intro g10 (And.intro g9 (And.intro g11 (And.intro u9 (And.intro u11 (And.intro o1 hsub)))))))
          repeat (first | with_reducible refine pv_seq fun K hK => ?_ | ((with_reducible first | refine hK _ _ ?_ | (clear hK; refine hK _ _ ?_) | (clear hK; clear hK; refine hK _ _ ?_)); clear hK; try clear K) | refine W0 ?_ | exact Z | with_reducible intro b)
          have hr4 : RowD S3 (.l 48) 9 d' (rS eG (l ++ [⟨(a : Int) + 1, (a : Int) + 1 + x, nuOf (e8 c), nuOf (e8 (c + d)), lb⟩])) := by rw [← hnew]; exact hr3
          exact ⟨⟨t, j2 + 2, a + 1 + x, c + d, b9, _, by simp; omega, hT2, by simp; omega, rfl, rfl, rfl, rfl, hr4.up rfl, hd4.l⟩, by rw [hm0]; simp only [intD]; omega⟩
      clear q2
      repeat' (first | with_reducible refine pv_seq fun K hK => ?_ | ((with_reducible first | refine hK _ _ ?_ | (clear hK; refine hK _ _ ?_) | (clear hK; clear hK; refine hK _ _ ?_)); clear hK; try clear K) | refine W ?_ | exact Z | with_reducible intro b | with_reducible refine And.intro ?_ ?_ | (refine p_dN (n := 4) (i := j) (by (try simp -implicitDefEqProofs only [updS_apply, reduceCtorEq, if_false]); exact hd.at_) hb (by omega) (by decide) (by decide) fun r1 hr1 => ?_; have hq3 := quo_3 r1; have ft := And.intro hq3 ft) | (refine p_dN (n := 5) (i := j + 1) (by (try simp -implicitDefEqProofs only [updS_apply, reduceCtorEq, if_false, if_true, eq_self]); try rfl) hb (by omega) (by decide) (by decide) fun r2 hr2 => ?_; obtain ⟨x, hx, hx4⟩ := quo_x hr1 hr2; have ft := And.intro hx ft) | (refine p_dSmallBox (n := n) (i := j + 2) (by (try simp -implicitDefEqProofs only [updS_apply, reduceCtorEq, if_false, if_true, eq_self]); try rfl) hb (by omega) (by omega) fun lb j2 hl2 hm2 hj2 => ?_; unfold II) | exact J2 _ _ _ x j2 lb hx4 hl2 hm2 (by omega) Zr Zr Zr Zr Zr Zr Zr Zr (hw.up (by rfl)) ⟨by simp -implicitDefEqProofs only [updS_apply, reduceCtorEq, if_false, if_true, eq_self] <;> rfl, fun q hq => by simp -implicitDefEqProofs only [updS_apply, reduceCtorEq, if_false, Nm.up.injEq, hq]; exact hd.ne q hq, hd.g⟩)
    · repeat (first | with_reducible refine pv_seq fun K hK => ?_ | ((with_reducible first | refine hK _ _ ?_ | (clear hK; refine hK _ _ ?_) | (clear hK; clear hK; refine hK _ _ ?_)); clear hK; try clear K) | refine W0 ?_ | exact Z | with_reducible intro b)
      exact J _ _ l j a c (by omega) hT (by omega) hw hd
end Go.V

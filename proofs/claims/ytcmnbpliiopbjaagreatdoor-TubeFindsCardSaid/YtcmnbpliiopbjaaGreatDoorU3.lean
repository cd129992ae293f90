/- Package tube over values as data: copies. -/
import Derived.Test.YtcmnbpliiopbjaaGreatDoorU2
set_option linter.unusedSimpArgs false
set_option linter.unusedVariables false
set_option maxRecDepth 100000
namespace Go.V
open Go Go.RowKit Go.Proofs
def qU3_41_1 : List (Nat × Nat) := [(0, 0), (1, 1), (4, 0), (5, 2), (2, 4), (3, 0), (8, 0), (6, 3), (7, 0), (9, 3), (10, 0), (11, 3)]
def qU3_41_6 : List (Nat × Nat) := [(0, 0), (1, 0), (2, 1), (5, 0), (6, 2), (3, 4), (4, 0), (7, 3), (8, 0), (9, 0), (10, 3), (11, 3), (12, 0)]
attribute [go_sem] qU3_41_1 qU3_41_6

theorem eS_get {α : Type} {f : α → List G} {xs : List α} {i : Nat} : True := trivial
theorem rS_i {l : List Iv} {a : Iv} : rS eI l ++ [[bl a.lo.neg, i64 a.lo.exp, W64 a.lo.w, bl a.hi.neg, i64 a.hi.exp, W64 a.hi.w]] = rS eI (l ++ [a]) := by rw [← rS_app]; rfl
structure OkL2 (l : List Iv) : Prop where
  n : l.length ≤ 100000
  w : ∀ a ∈ l, a.lo.w.length ≤ 1099511627776 ∧ a.hi.w.length ≤ 1099511627776

set_option maxHeartbeats 1000000 in
theorem p_Copied {s : Sg} (h0 : s.t0.w.length ≤ 1099511627776) (h1 : s.t1.w.length ≤ 1099511627776) (hb : OkL2 s.box) : PC Tryz.prog 41 [SEG s] fun d => d = SEG s := by
  have pA := p_OfI h0
  have pB := p_OfI h1
  obtain ⟨fr, to, ⟨n0, e0, w0⟩, ⟨n1, e1, w1⟩, bx⟩ := s
  have d1 := @dl 1 qU3_41_1
  have d2 := @dl 6 qU3_41_6
  refine PB (rs := [.cell 2 38]) Tryz.func41 ?_
  repeat (first | with_reducible refine pv_seq fun K hK => ?_ | ((with_reducible first | refine hK _ _ ?_ | (clear hK; refine hK _ _ ?_) | (clear hK; clear hK; refine hK _ _ ?_)); clear hK; try clear K) | refine W ?_ | exact Z | with_reducible intro b)
  have J : ∀ (e : DEnv) (S : Store) (b1 b2 : Nat) (z : List D), e 1 = .ptr (.l 1) b1 0 0 9 → e 2 = .ptr (.l 2) b2 0 0 9 → z.length = 9 → S (.l 2) = some ⟨b2, 9, 0, [z]⟩ →
      S (.l 1) = some ⟨b1, 9, 0, [[i64 fr, i64 to, bl n0, i64 e0, W64 w0, bl n1, i64 e1, W64 w1, .g (eS eI bx)]]⟩ → RowZ S (.l 34) 6 (e 3) (rS eI bx) → K e S := by
    intro e S b1 b2 z g1 g2 hz s2 s1 hw
    have o3 : (e 3).one = true := by rcases hw with ⟨h, _⟩ | ⟨_, _, h, _⟩ <;> rw [h] <;> rfl
    have ft := And.intro g1 (And.intro g2 (And.intro s1 (And.intro s2 (And.intro o3 hz))))
    repeat (first | with_reducible refine pv_seq fun K hK => ?_ | ((with_reducible first | refine hK _ _ ?_ | (clear hK; refine hK _ _ ?_) | (clear hK; clear hK; refine hK _ _ ?_)); clear hK; try clear K) | refine W0 ?_ | exact Z | with_reducible intro b)
    exact (hw.toD.up (S' := _) (by rfl)).coe fun S' _ _ => rfl
  clear hK
  refine pv_loop (fun e S => ∃ (i b1 b2 : Nat) (z : List D), i ≤ bx.length ∧ e 1 = .ptr (.l 1) b1 0 0 9 ∧ e 2 = .ptr (.l 2) b2 0 0 9 ∧ e 17 = .g (eS eI bx) ∧ e 18 = i64 bx.length ∧ e 19 = i64 i ∧ z.length = 9 ∧ S (.l 2) = some ⟨b2, 9, 0, [z]⟩ ∧
      S (.l 1) = some ⟨b1, 9, 0, [[i64 fr, i64 to, bl n0, i64 e0, W64 w0, bl n1, i64 e1, W64 w1, .g (eS eI bx)]]⟩ ∧ RowZ S (.l 34) 6 (e 3) (rS eI (bx.take i))) (fun e S => bx.length - (intD (e 19)).toNat) ?_ ?_
  · exact ⟨0, _, _, [i64 0, i64 0, bl false, i64 0, .nil, bl false, i64 0, .nil, .nil], Nat.zero_le _, Zr, Zr, Zr, Zr, Zr, (by rfl), Zr, Zr, .inl ⟨Zr, rfl⟩⟩
  · rintro e S ⟨i, b1, b2, z, hi, g1, g2, g17, g18, g19, hz, s2, s1, hw⟩
    have ft := And.intro g1 (And.intro g2 (And.intro g17 (And.intro g18 (And.intro g19 (And.intro s1 s2)))))
    repeat (first | with_reducible refine pv_seq fun K hK => ?_ | ((with_reducible first | refine hK _ _ ?_ | (clear hK; refine hK _ _ ?_) | (clear hK; clear hK; refine hK _ _ ?_)); clear hK; try clear K) | refine W0 ?_ | exact Z | with_reducible intro b)
    refine pv_cdD (fun ht => ?_) (fun ht => ?_)
    · have hil : i < bx.length := by omega
      have hq : bx[i]? = some (gI bx i) := gI_at hil
      have hwa := hb.w _ (gI_mem hil)
      have hbn : bx.length ≤ 100000 := hb.n
      have hlt : (rS eI (bx.take i)).length = i := by rw [rS_len, List.length_take]; omega
      have pC := p_OfI hwa.1
      have pD := p_OfI hwa.2
      have hn : rS eI (bx.take (i + 1)) = rS eI (bx.take i) ++ [[bl (gI bx i).lo.neg, i64 (gI bx i).lo.exp, W64 (gI bx i).lo.w, bl (gI bx i).hi.neg, i64 (gI bx i).hi.exp, W64 (gI bx i).hi.w]] := by
        rw [rS_i]; congr 1; rw [List.take_add_one, hq]; rfl
      generalize gI bx i = q at *
      obtain ⟨⟨n2, e2, w2⟩, ⟨n3, e3, w3⟩⟩ := q
      have ft := And.intro g1 (And.intro g2 (And.intro g17 (And.intro g18 (And.intro g19 (And.intro s1 (And.intro s2 hq))))))
      repeat' (first | with_reducible refine pv_seq fun K hK => ?_ | ((with_reducible first | refine hK _ _ ?_ | (clear hK; refine hK _ _ ?_) | (clear hK; clear hK; refine hK _ _ ?_)); clear hK; try clear K) | refine W ?_ | exact Z | with_reducible intro b | with_reducible refine And.intro ?_ ?_ | (refine RowZ.appL (hw.up (by rfl)) (by decide) rfl (by simp [D.one, W64]) ?_ ?_ fun d' S' hr' hS' => ?_))
      · rw [hlt]; omega
      · rw [hlt]; omega
      · exact ⟨i + 1, b1, b2, z, by omega, Zr, Zr, Zr, hz, by rw [hS' _ (by decide)]; exact Zr, by rw [hS' _ (by decide)]; exact Zr, by rw [hn]; exact hr'⟩
      · simp only [intD]; omega
    · obtain rfl : i = bx.length := by omega
      rw [List.take_length] at hw
      repeat (first | with_reducible refine pv_seq fun K hK => ?_ | ((with_reducible first | refine hK _ _ ?_ | (clear hK; refine hK _ _ ?_) | (clear hK; clear hK; refine hK _ _ ?_)); clear hK; try clear K) | refine W0 ?_ | exact Z | with_reducible intro b)
      exact J _ _ b1 b2 z Zr Zr hz s2 s1 hw
end Go.V

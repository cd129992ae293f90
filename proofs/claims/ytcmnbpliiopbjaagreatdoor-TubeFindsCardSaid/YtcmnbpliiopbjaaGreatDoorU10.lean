/- The seat's deck: boxes of small intervals. -/
import Derived.Test.YtcmnbpliiopbjaaGreatDoorU9
set_option linter.unusedSimpArgs false
set_option linter.unusedVariables false
set_option maxRecDepth 100000
namespace Go.V
open Go Go.RowKit Go.Proofs

/-- An interval of small numbers. -/
def SmI (a : Iv) : Prop := ∃ x y, a = ivD x y ∧ Sm 14 6 x ∧ Sm 14 6 y ∧ x ≤ y
theorem SmI.ok {a : Iv} (h : SmI a) : Wi 65536 a ∧ rightI a = true := by
  obtain ⟨x, y, rfl, hx, hy, h⟩ := h
  have ox := hx.ok (by decide) (by decide)
  have oy := hy.ok (by decide) (by decide)
  exact ⟨wi_D ox oy, by rw [rightI_D ox oy]; exact decide_eq_true h⟩
set_option maxHeartbeats 1000000 in
theorem p_dSmallBox {k : Nm} {S : Store} {Q : D → Store → Prop} {b i n : Nat} {w : List Nat} (hS : S k = some ⟨b, 2, 0, [[W64 w, i64 i]]⟩) (hb : B64 w) (hn : n ≤ 1000) (hi : i + 3 * n ≤ 900000000)
    (hQ : ∀ (l : List Iv) (j : Nat), l.length = n → (∀ a ∈ l, SmI a) → j ≤ i + 3 * n → Q (II l) (updS S k (some ⟨b, 2, 0, [[W64 w, i64 j]]⟩))) :
    PFC Tryz.prog 23 [.ptr k b 0 0 2, i64 n] S Q := by
  refine PFB (rs := [.tmp 4]) Tryz.func23 ?_
  repeat (first | with_reducible refine pv_seq fun K hK => ?_ | ((with_reducible first | refine hK _ _ ?_ | (clear hK; refine hK _ _ ?_) | (clear hK; clear hK; refine hK _ _ ?_)); clear hK; try clear K) | refine W0 ?_ | exact Z | with_reducible intro b)
  have J : ∀ (e : DEnv) (T : Store) (l : List Iv) (j : Nat), l.length = n → (∀ a ∈ l, SmI a) → j ≤ i + 3 * n → RowD T (.l 16) 6 (e 5) (rS eI l) → Dk S k T (some ⟨b, 2, 0, [[W64 w, i64 j]]⟩) → K e T := by
    intro e T l j hl hm hj hw hd
    repeat (first | with_reducible refine pv_seq fun K hK => ?_ | ((with_reducible first | refine hK _ _ ?_ | (clear hK; refine hK _ _ ?_) | (clear hK; clear hK; refine hK _ _ ?_)); clear hK; try clear K) | refine W0 ?_ | exact Z | with_reducible intro b)
    exact hw.coeD fun T2 _ hT2 => by rw [(hd.of hT2).dn]; exact hQ l j hl hm hj
  clear hK
  refine pv_loop (fun e T => ∃ (t j : Nat) (l : List Iv), t ≤ n ∧ l.length = t ∧ (∀ a ∈ l, SmI a) ∧ j ≤ i + 3 * t ∧ e 0 = .ptr (.up k) b 0 0 2 ∧ e 1 = i64 n ∧ e 6 = i64 t ∧ RowD T (.l 16) 6 (e 5) (rS eI l) ∧ Dk S k T (some ⟨b, 2, 0, [[W64 w, i64 j]]⟩)) (fun e _ => n - (intD (e 6)).toNat) ?_ ?_
  · exact ⟨0, i, [], Nat.zero_le _, rfl, fun a ha => (by cases ha), by omega, Zr, Zr, Zr, .inl ⟨Zr, rfl⟩, Dk.up hS⟩
  · rintro e T ⟨t, j, l, htn, hl, hm, hj, g0, g1, g6, hw, hd⟩
    have ft := And.intro g0 (And.intro g1 g6)
    repeat (first | with_reducible refine pv_seq fun K hK => ?_ | ((with_reducible first | refine hK _ _ ?_ | (clear hK; refine hK _ _ ?_) | (clear hK; clear hK; refine hK _ _ ?_)); clear hK; try clear K) | refine W0 ?_ | exact Z | with_reducible intro b)
    refine pv_cdD (fun ht => ?_) (fun ht => ?_)
    · repeat (first | with_reducible refine pv_seq fun K hK => ?_ | ((with_reducible first | refine hK _ _ ?_ | (clear hK; refine hK _ _ ?_) | (clear hK; clear hK; refine hK _ _ ?_)); clear hK; try clear K) | refine W0 ?_ | exact Z | with_reducible intro b)
      refine p_dSmallIv hd.at_ hb (by omega) fun x y j2 sx sy hxy hj2 => ?_
      have hnew := rS_i (l := l) (a := ivD x y)
      have hsm : SmI (ivD x y) := ⟨x, y, rfl, sx, sy, hxy⟩
      generalize ivD x y = q at *
      obtain ⟨⟨n1, e1, w1⟩, ⟨n2, e2, w2⟩⟩ := q
      repeat (first | with_reducible refine pv_seq fun K hK => ?_ | ((with_reducible first | refine hK _ _ ?_ | (clear hK; refine hK _ _ ?_) | (clear hK; clear hK; refine hK _ _ ?_)); clear hK; try clear K) | refine W0 ?_ | exact Z | with_reducible intro b)
      refine RowD.appL (hw.up (updS_ne (by simp))) (by decide) rfl (by simp [D.one, W64]) ?_ ?_ fun d' S3 hr3 hS3 => ?_
      · rw [rS_len]; simp; omega
      · rw [rS_len]; simp; omega
      repeat (first | with_reducible refine pv_seq fun K hK => ?_ | ((with_reducible first | refine hK _ _ ?_ | (clear hK; refine hK _ _ ?_) | (clear hK; clear hK; refine hK _ _ ?_)); clear hK; try clear K) | refine W0 ?_ | exact Z | with_reducible intro b)
      refine ⟨⟨t + 1, j2, l ++ [⟨⟨n1, e1, w1⟩, ⟨n2, e2, w2⟩⟩], by omega, by simp [hl], fun a ha => ?_, by omega, Zr, by rw [← hnew]; exact hr3, (hd.set.l).of hS3⟩, by simp only [intD]; omega⟩
      rcases List.mem_append.1 ha with h | h
      · exact hm a h
      · rw [List.mem_singleton.1 h]; exact hsm
    · obtain rfl : t = n := by omega
      repeat (first | with_reducible refine pv_seq fun K hK => ?_ | ((with_reducible first | refine hK _ _ ?_ | (clear hK; refine hK _ _ ?_) | (clear hK; clear hK; refine hK _ _ ?_)); clear hK; try clear K) | refine W0 ?_ | exact Z | with_reducible intro b)
      exact J _ _ l j hl hm hj hw hd
end Go.V

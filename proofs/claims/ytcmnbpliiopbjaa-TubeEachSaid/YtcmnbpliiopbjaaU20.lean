/- The seat's deck: boxes in boxes. -/
import Derived.Test.YtcmnbpliiopbjaaU18
import Derived.Test.YtcmnbpliiopbjaaI24
set_option linter.unusedSimpArgs false
set_option linter.unusedVariables false
set_option maxRecDepth 100000
namespace Go.V
open Go Go.RowKit Go.Proofs

set_option maxHeartbeats 1000000 in
theorem p_dPartBox {k : Nm} {S : Store} {Q : D → Store → Prop} {bd i : Nat} {w : List Nat} {l : List Iv} (hS : S k = some ⟨bd, 2, 0, [[W64 w, i64 i]]⟩) (hb : B64 w) (hl : l.length ≤ 1000) (hi : i + 2 * l.length ≤ 700000000) (hv : ∀ a ∈ l, OkV a)
    (hQ : ∀ (m : List Iv), InX m l → Q (II m) (updS S k (some ⟨bd, 2, 0, [[W64 w, i64 ((i + 2 * l.length : Nat) : Int)]]⟩))) :
    PFC Try.prog 15 [.ptr k bd 0 0 2, II l] S Q := by
  unfold II
  refine PFB (rs := [.tmp 4]) Try.func15 ?_
  repeat (first | with_reducible refine pv_seq fun K hK => ?_ | ((with_reducible first | refine hK _ _ ?_ | (clear hK; refine hK _ _ ?_) | (clear hK; clear hK; refine hK _ _ ?_)); clear hK; try clear K) | refine W0 ?_ | exact Z | with_reducible intro b)
  have J : ∀ (e : DEnv) (T : Store) (m : List Iv), InX m l → RowD T (.l 21) 6 (e 5) (rS eI m) → Dk S k T (some ⟨bd, 2, 0, [[W64 w, i64 ((i + 2 * l.length : Nat) : Int)]]⟩) → K e T := by
    intro e T m hm hw hd
    repeat (first | with_reducible refine pv_seq fun K hK => ?_ | ((with_reducible first | refine hK _ _ ?_ | (clear hK; refine hK _ _ ?_) | (clear hK; clear hK; refine hK _ _ ?_)); clear hK; try clear K) | refine W0 ?_ | exact Z | with_reducible intro b)
    exact hw.coeD fun T2 _ hT2 => by rw [(hd.of hT2).dn]; exact hQ m hm
  clear hK
  refine pv_loop (fun e T => ∃ (t : Nat) (m : List Iv), t ≤ l.length ∧ m.length = t ∧ (∀ x ∈ m, OkV x) ∧ (∀ q, q < t → inI (gI m q) (gI l q)) ∧ e 0 = .ptr (.up k) bd 0 0 2 ∧ e 1 = .g (eS eI l) ∧ e 6 = i64 t ∧ RowD T (.l 21) 6 (e 5) (rS eI m) ∧ Dk S k T (some ⟨bd, 2, 0, [[W64 w, i64 ((i + 2 * t : Nat) : Int)]]⟩)) (fun e _ => l.length - (intD (e 6)).toNat) ?_ ?_
  · exact ⟨0, [], Nat.zero_le _, rfl, fun a ha => (by cases ha), fun q hq => by omega, Zr, Zr, Zr, .inl ⟨Zr, rfl⟩, Dk.up hS⟩
  · rintro e T ⟨t, m, htn, hm, hv2, hin, g0, g1, g6, hw, hd⟩
    have ft := And.intro g0 (And.intro g1 g6)
    repeat (first | with_reducible refine pv_seq fun K hK => ?_ | ((with_reducible first | refine hK _ _ ?_ | (clear hK; refine hK _ _ ?_) | (clear hK; clear hK; refine hK _ _ ?_)); clear hK; try clear K) | refine W0 ?_ | exact Z | with_reducible intro b)
    refine pv_cdD (fun ht => ?_) (fun ht => ?_)
    · have htl : t < l.length := by omega
      have q1 := gI_at htl
      obtain ⟨x, y, hxy, ox, oy, hle⟩ := hv _ (gI_mem htl)
      have hpt : ∀ p u : Dyadic, OkD p → OkD u → InS x y p → InS x y u → OkV (ivD (loD p u) (hiD p u)) ∧ inI (ivD (loD p u) (hiD p u)) (gI l t) := fun p u op ou hp hu => by rw [hxy]; exact part_in ox oy hle op ou hp hu
      rw [hxy] at q1
      have q1' : l[t]? = some ⟨nuOf x, nuOf y⟩ := q1
      have ft := And.intro g0 (And.intro g1 (And.intro g6 q1'))
      repeat (first | with_reducible refine pv_seq fun K hK => ?_ | ((with_reducible first | refine hK _ _ ?_ | (clear hK; refine hK _ _ ?_) | (clear hK; clear hK; refine hK _ _ ?_)); clear hK; try clear K) | refine W0 ?_ | exact Z | with_reducible intro b)
      refine p_dPart (x := x) (y := y) hd.at_ hb (by omega) ox oy fun p u op ou hp hu => ?_
      obtain ⟨v1, v2⟩ := hpt p u op ou hp hu
      have hnew := rS_i (l := m) (a := ivD (loD p u) (hiD p u))
      generalize ivD (loD p u) (hiD p u) = q at *
      obtain ⟨⟨n1, e1, w1⟩, ⟨n2, e2, w2⟩⟩ := q
      repeat (first | with_reducible refine pv_seq fun K hK => ?_ | ((with_reducible first | refine hK _ _ ?_ | (clear hK; refine hK _ _ ?_) | (clear hK; clear hK; refine hK _ _ ?_)); clear hK; try clear K) | refine W0 ?_ | exact Z | with_reducible intro b)
      refine RowD.appL (hw.up (updS_ne (by simp))) (by decide) rfl (by simp [D.one, W64]) ?_ ?_ fun d' S3 hr3 hS3 => ?_
      · rw [rS_len]; simp; omega
      · rw [rS_len]; simp; omega
      repeat (first | with_reducible refine pv_seq fun K hK => ?_ | ((with_reducible first | refine hK _ _ ?_ | (clear hK; refine hK _ _ ?_) | (clear hK; clear hK; refine hK _ _ ?_)); clear hK; try clear K) | refine W0 ?_ | exact Z | with_reducible intro b)
      have hd2 : Dk S k S3 (some ⟨bd, 2, 0, [[W64 w, i64 ((i + 2 * (t + 1) : Nat) : Int)]]⟩) := by rw [show i + 2 * (t + 1) = i + 2 * t + 2 by omega]; exact (hd.set.l).of hS3
      refine ⟨⟨t + 1, m ++ [⟨⟨n1, e1, w1⟩, ⟨n2, e2, w2⟩⟩], by omega, by simp [hm], fun a ha => ?_, fun q hq => ?_, rfl, by rw [← hnew]; exact hr3, hd2⟩, by simp only [intD]; omega⟩
      · rcases List.mem_append.1 ha with h | h
        · exact hv2 a h
        · rw [List.mem_singleton.1 h]; exact v1
      · rcases Nat.lt_or_ge q t with h | h
        · have : gI (m ++ [⟨⟨n1, e1, w1⟩, ⟨n2, e2, w2⟩⟩]) q = gI m q := by simp [gI, List.getD, List.getElem?_append_left (show q < m.length by omega)]
          rw [this]; exact hin q h
        · obtain rfl : q = t := by omega
          have : gI (m ++ [⟨⟨n1, e1, w1⟩, ⟨n2, e2, w2⟩⟩]) q = ⟨⟨n1, e1, w1⟩, ⟨n2, e2, w2⟩⟩ := by rw [← hm]; simp [gI, List.getD]
          rw [this]; exact v2
    · obtain rfl : t = l.length := by omega
      repeat (first | with_reducible refine pv_seq fun K hK => ?_ | ((with_reducible first | refine hK _ _ ?_ | (clear hK; refine hK _ _ ?_) | (clear hK; clear hK; refine hK _ _ ?_)); clear hK; try clear K) | refine W0 ?_ | exact Z | with_reducible intro b)
      exact J _ _ m ⟨hm, hv2, fun q hq => hin q (by omega)⟩ hw hd
end Go.V

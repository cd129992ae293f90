/- The statement TubeDrawn of layer 26. -/
import Derived.Test.YtcmnbpliiopbjaaGreatU29
import Derived.Test.YtcmnbpliiopbjaaGreatU22
import Derived.Test.YtcmnbpliiopbjaaGreatU16
set_option linter.unusedSimpArgs false
set_option linter.unusedVariables false
set_option maxRecDepth 100000
namespace Go.V
open Go Go.RowKit Go.Proofs
def qU30_3_23 : List (Nat × Nat) := [(1, 0), (2, 0), (3, 0), (5, 0), (6, 0), (7, 0), (8, 0), (0, 3), (4, 3), (9, 3), (10, 0)]
attribute [go_sem] qU30_3_23

theorem srcD_SS {S : Store} {xs : List Sg} {K : List (List D) → Prop} : srcD S 9 (.g (eS eG xs)) K = K (rS eG xs) := srcD_eS fun _ _ => rfl
theorem litsD_0 {q : SlZ} {k : Nm} {S : Store} {K : D → Store → Prop} : litsD q k S 0 [] [] K = (∀ b, K (.own k b 0 0 0 q.s) (updS S k (some ⟨b, q.s, 0, []⟩))) := by
  simp [litsD]
attribute [go_sem ↓] srcD_SS litsD_0
attribute [go_sem] srcD_SS litsD_0
set_option maxHeartbeats 4000000 in
theorem p_TubeDrawn {w : List Nat} {k0 : Int} (hb : B64 w) (hk0 : (Lit.int .u8 k0).wf = true) : PC Tryz.prog 3 [W64 w, .g (.lit (.int .u8 k0))] fun d => d = bl true := by
  have pK := p_known26
  obtain ⟨k, rfl, hk⟩ : ∃ k : Nat, k0 = k ∧ k < 256 := ⟨k0.toNat, by simp [Lit.wf, IntKind.min, IntKind.max, IntKind.signed, IntKind.bits] at hk0; omega, by simp [Lit.wf, IntKind.min, IntKind.max, IntKind.signed, IntKind.bits] at hk0; omega⟩
  clear hk0
  have d1 := @dl 23 qU30_3_23
  refine PB (rs := [.tmp 4]) Tryz.func3 ?_
  repeat (first | with_reducible refine pv_seq fun K hK => ?_ | ((with_reducible first | refine hK _ _ ?_ | (clear hK; refine hK _ _ ?_) | (clear hK; clear hK; refine hK _ _ ?_)); clear hK; try clear K) | refine W ?_ | exact Z | with_reducible intro b)
  refine p_Of (fun b0 => ?_)
  repeat (first | with_reducible refine pv_seq fun K hK => ?_ | ((with_reducible first | refine hK _ _ ?_ | (clear hK; refine hK _ _ ?_) | (clear hK; clear hK; refine hK _ _ ?_)); clear hK; try clear K) | refine W0 ?_ | exact Z | with_reducible intro b)
  refine p_dN (n := 3) (i := 0) rfl hb (by omega) (by decide) (by decide) fun r hr => ?_
  repeat (first | with_reducible refine pv_seq fun K hK => ?_ | ((with_reducible first | refine hK _ _ ?_ | (clear hK; refine hK _ _ ?_) | (clear hK; clear hK; refine hK _ _ ?_)); clear hK; try clear K) | refine W0 ?_ | exact Z | with_reducible intro b)
  rw [show (1 + (r : Int)) = ((r + 1 : Nat) : Int) by omega]
  refine p_dTube (n := r + 1) (m := 6) (i := 1) rfl hb (by omega) (by omega) (by decide) (by decide) fun l j a c hl hT hj => ?_
  repeat (first | with_reducible refine pv_seq fun K hK => ?_ | ((with_reducible first | refine hK _ _ ?_ | (clear hK; refine hK _ _ ?_) | (clear hK; clear hK; refine hK _ _ ?_)); clear hK; try clear K) | refine W0 ?_ | exact Z | with_reducible intro b)
  refine p_dTube (n := r + 1) (m := 6) (i := j) rfl hb (by omega) (by omega) (by decide) (by omega) fun l2 j2 a2 c2 hl2 hT2 hj2 => ?_
  have hok := hT.okP
  have hok2 := hT2.okP
  have hll : l.length ≤ 100000 := by omega
  have hll2 : l2.length ≤ 100000 := by omega
  repeat (first | with_reducible refine pv_seq fun K hK => ?_ | ((with_reducible first | refine hK _ _ ?_ | (clear hK; refine hK _ _ ?_) | (clear hK; clear hK; refine hK _ _ ?_)); clear hK; try clear K) | refine W0 ?_ | exact Z | with_reducible intro b)
  refine p_dTime (i := j2) rfl hb (by omega) fun x0 tx => ?_
  repeat (first | with_reducible refine pv_seq fun K hK => ?_ | ((with_reducible first | refine hK _ _ ?_ | (clear hK; refine hK _ _ ?_) | (clear hK; clear hK; refine hK _ _ ?_)); clear hK; try clear K) | refine W0 ?_ | exact Z | with_reducible intro b)
  refine p_dTime (i := j2 + 2) rfl hb (by omega) fun y ty => ?_
  have oy : OkD y := ty.sm.ok (by decide) (by decide)
  have ox0 : OkD x0 := tx.sm.ok (by decide) (by decide)
  repeat (first | with_reducible refine pv_stopQ 7 ?_ | with_reducible refine pv_seq fun K hK => ?_ | ((with_reducible first | refine hK _ _ ?_ | (clear hK; refine hK _ _ ?_) | (clear hK; clear hK; refine hK _ _ ?_)); clear hK; try clear K) | refine W ?_ | exact Z | with_reducible intro b)
  refine ⟨fun K7 q7 hC7 => ?_⟩
  have J7 : ∀ (e : DEnv) (S : Store) (b9 b10 : Nat) (x : Dyadic), OkD x → e 7 = .g (eS eG l) → e 8 = .g (eS eG l2) → e 9 = .ptr (.l 9) b9 0 0 3 → e 10 = .ptr (.l 10) b10 0 0 3 →
      S (.l 9) = some ⟨b9, 3, 0, [[bl (nuOf x).neg, i64 (nuOf x).exp, W64 (nuOf x).w]]⟩ → S (.l 10) = some ⟨b10, 3, 0, [[bl (nuOf y).neg, i64 (nuOf y).exp, W64 (nuOf y).w]]⟩ → K7 e S := by
    intro e S b9 b10 x ox g7 g8 g9 g10 s9 s10
    refine q7 _ _ ?_
    clear q7 hC7
    have wx := (ox.sz).wl
    have wy := (oy.sz).wl
    have rx : rightB (nuOf x) = true := by rw [rightB_nuOf]; exact decide_eq_true ox
    have ry : rightB (nuOf y) = true := by rw [rightB_nuOf]; exact decide_eq_true oy
    have p1 := p_told26 hll hll2 hok hok2 wx wy rx ry
    have p2 := p_told26 hll hll hok hok wy wx ry rx
    have p3 := p_tRight hll hok
    rw [hT.tube] at p3
    unfold SS at p1 p2 p3
    have ft := And.intro g7 (And.intro g8 (And.intro g9 (And.intro g10 (And.intro s9 s10))))
    exact Wk
  clear hC7 q7
  rcases Nat.eq_zero_or_pos l.length with h0 | h0
  · have z1 : (0 < l.length) = False := eq_false (by omega)
    have z2 : ((0 : Int) < (l.length : Int)) = False := eq_false (by omega)
    have ft := And.intro z1 z2
    repeat (first | with_reducible refine pv_seq fun K hK => ?_ | ((with_reducible first | refine hK _ _ ?_ | (clear hK; refine hK _ _ ?_) | (clear hK; clear hK; refine hK _ _ ?_)); clear hK; try clear K) | refine W0 ?_ | exact Z | with_reducible intro b)
    exact J7 _ _ _ _ x0 ox0 Zr Zr Zr Zr Zr Zr
  · have z1 : (0 < l.length) = True := eq_true h0
    have z2 : ((0 : Int) < (l.length : Int)) = True := eq_true (by omega)
    have ft := And.intro z1 z2
    repeat (first | with_reducible refine pv_seq fun K hK => ?_ | ((with_reducible first | refine hK _ _ ?_ | (clear hK; refine hK _ _ ?_) | (clear hK; clear hK; refine hK _ _ ?_)); clear hK; try clear K) | refine W0 ?_ | exact Z | with_reducible intro b)
    refine p_dN (n := l.length) (i := j2 + 2 + 2) rfl hb (by omega) (by omega) (by omega) fun k1 hk1 => ?_
    repeat (first | with_reducible refine pv_seq fun K hK => ?_ | ((with_reducible first | refine hK _ _ ?_ | (clear hK; refine hK _ _ ?_) | (clear hK; clear hK; refine hK _ _ ?_)); clear hK; try clear K) | refine W0 ?_ | exact Z | with_reducible intro b)
    refine p_dN (n := l.length) (i := j2 + 2 + 2 + 1) rfl hb (by omega) (by omega) (by omega) fun k2 hk2 => ?_
    have ok2 := hok _ (gS_mem hk2)
    obtain ⟨x, ox, hx⟩ := right_is ok2.b.b ok2.rb
    have hq2 := gS_at hk2
    generalize gS l k2 = q2 at *
    obtain ⟨fr2, to2, ⟨n2, e2, w2⟩, t12, bx2⟩ := q2
    simp only at hx
    subst hx
    have hrl : (rS eG l).length = l.length := rS_len
    have ft := And.intro z1 (And.intro z2 (And.intro hq2 hrl))
    repeat (first | with_reducible refine pv_stopQ 11 ?_ | with_reducible refine pv_seq fun K hK => ?_ | ((with_reducible first | refine hK _ _ ?_ | (clear hK; refine hK _ _ ?_) | (clear hK; clear hK; refine hK _ _ ?_)); clear hK; try clear K) | refine W ?_ | exact Z | with_reducible intro b)
    refine ⟨fun K11 q11 hC11 => ?_⟩
    rename_i b9 b10 b12x bb cap
    have J11 : ∀ (e : DEnv) (S : Store) (cs : List Sg) (kk : Nm) (bc cap : Nat), (∀ s ∈ cs, OkP s) → cs.length ≤ 100 → kk ≠ .l 9 → kk ≠ .l 10 → e 7 = .g (eS eG l) → e 8 = .g (eS eG l2) → e 9 = .ptr (.l 9) b9 0 0 3 → e 10 = .ptr (.l 10) b10 0 0 3 → e 12 = .own kk bc 0 cs.length cap 9 →
        S kk = some ⟨bc, 9, 0, rS eG cs⟩ → S (.l 9) = some ⟨b9, 3, 0, [[bl (nuOf x).neg, i64 (nuOf x).exp, W64 (nuOf x).w]]⟩ → S (.l 10) = some ⟨b10, 3, 0, [[bl (nuOf y).neg, i64 (nuOf y).exp, W64 (nuOf y).w]]⟩ → K11 e S := by
      intro e S cs kk bc cap hcs hcl hn9 hn10 g7 g8 g9 g10 g12 sk s9 s10
      as_aux_lemma =>
        refine hC11 _ _ (Recast.frzSlot 12 g12 sk (gs := cs.map eG) (by rw [← rS_len (f := eG)]; exact rS_pure) (by rw [rS_len]; omega) ?_)
        refine q11 _ _ ?_
        clear q11 hC11
        have wx := (ox.sz).wl
        have wy := (oy.sz).wl
        have rx : rightB (nuOf x) = true := by rw [rightB_nuOf]; exact decide_eq_true ox
        have ry : rightB (nuOf y) = true := by rw [rightB_nuOf]; exact decide_eq_true oy
        have p1 := p_told26 (a := cs) (z := l) (by omega) hll hcs hok wx wy rx ry
        unfold SS at p1
        rw [sl_eS]
        have n9 := updS_ne (S := S) (x := some ⟨bc, 9, max 0 (0 + cs.length), rS eG cs⟩) (Ne.symm hn9)
        have n10 := updS_ne (S := S) (x := some ⟨bc, 9, max 0 (0 + cs.length), rS eG cs⟩) (Ne.symm hn10)
        rw [s9] at n9
        rw [s10] at n10
        generalize updS S kk (some ⟨bc, 9, max 0 (0 + cs.length), rS eG cs⟩) = S2 at *
        have ft := And.intro g7 (And.intro g8 (And.intro g9 (And.intro g10 (And.intro n9 n10))))
        repeat (first | with_reducible refine pv_seq fun K hK => ?_ | ((with_reducible first | refine hK _ _ ?_ | (clear hK; refine hK _ _ ?_) | (clear hK; clear hK; refine hK _ _ ?_)); clear hK; try clear K) | refine W ?_ | exact Z | with_reducible intro b)
        exact J7 _ _ _ _ x ox Zr Zr Zr Zr Zr Zr
    clear hC11 q11
    have okk := hok _ (gS_mem hk1)
    have hq1 := gS_at hk1
    have hR := rightS_f (tube_row hT.tube hk1).1
    have hR2 := rightS_to (tube_row hT.tube hk1).1
    generalize gS l k1 = q1 at *
    obtain ⟨fr, to, ⟨n0, e0, w0⟩, ⟨n1, e1, w1⟩, bx⟩ := q1
    simp only at hR hR2
    have hr1 : (rS eG l)[k1]? = some [i64 fr, i64 to, bl n0, i64 e0, W64 w0, bl n1, i64 e1, W64 w1, .g (eS eI bx)] := by rw [rS_get, hq1]; rfl
    have hset : ∀ s : Sg, OkP s → ∀ s2 ∈ l.set k1 s, OkP s2 := fun s hs s2 h2 => by
      rcases List.mem_or_eq_of_mem_set h2 with h | h
      · exact hok _ h
      · rw [h]; exact hs
    have hm : (k : Int).tmod 8 = ((k % 8 : Nat) : Int) := rfl
    rcases (show k % 8 = 0 ∨ k % 8 = 1 ∨ k % 8 = 2 ∨ k % 8 = 3 ∨ k % 8 = 4 ∨ k % 8 = 5 ∨ k % 8 = 6 ∨ k % 8 = 7 by omega) with h | h | h | h | h | h | h | h
    · rw [h] at hm
      change _ = (0 : Int) at hm
      have ft := And.intro z1 (And.intro z2 (And.intro hrl (And.intro hm hr1)))
      repeat (first | with_reducible refine pv_seq fun K hK => ?_ | ((with_reducible first | refine hK _ _ ?_ | (clear hK; refine hK _ _ ?_) | (clear hK; clear hK; refine hK _ _ ?_)); clear hK; try clear K) | refine W0 ?_ | exact Z | with_reducible intro b)
      exact J11 _ _ (l.set k1 ⟨fr + 1, to, ⟨n0, e0, w0⟩, ⟨n1, e1, w1⟩, bx⟩) (.l 45) _ _ (hset _ ⟨⟨okk.a, okk.b, okk.ra, okk.rb⟩, okk.bx, okk.n⟩) (by rw [List.length_set]; omega) (by decide) (by decide) Zr Zr Zr Zr (by rw [List.length_set]; exact Zr) (by rw [← rS_set rfl]; exact Zr) Zr Zr
    · rw [h] at hm
      change _ = (1 : Int) at hm
      have ft := And.intro z1 (And.intro z2 (And.intro hrl (And.intro hm hr1)))
      repeat (first | with_reducible refine pv_seq fun K hK => ?_ | ((with_reducible first | refine hK _ _ ?_ | (clear hK; refine hK _ _ ?_) | (clear hK; clear hK; refine hK _ _ ?_)); clear hK; try clear K) | refine W0 ?_ | exact Z | with_reducible intro b)
      exact J11 _ _ (l.set k1 ⟨fr, to + 1, ⟨n0, e0, w0⟩, ⟨n1, e1, w1⟩, bx⟩) (.l 45) _ _ (hset _ ⟨⟨okk.a, okk.b, okk.ra, okk.rb⟩, okk.bx, okk.n⟩) (by rw [List.length_set]; omega) (by decide) (by decide) Zr Zr Zr Zr (by rw [List.length_set]; exact Zr) (by rw [← rS_set rfl]; exact Zr) Zr Zr
    · rw [h] at hm
      change _ = (2 : Int) at hm
      have ft := And.intro z1 (And.intro z2 (And.intro hrl (And.intro hm hr1)))
      repeat (first | with_reducible refine pv_seq fun K hK => ?_ | ((with_reducible first | refine hK _ _ ?_ | (clear hK; refine hK _ _ ?_) | (clear hK; clear hK; refine hK _ _ ?_)); clear hK; try clear K) | refine W0 ?_ | exact Z | with_reducible intro b)
      exact J11 _ _ (l.set k1 ⟨fr, to, ⟨n1, e1, w1⟩, ⟨n1, e1, w1⟩, bx⟩) (.l 45) _ _ (hset _ ⟨⟨okk.b, okk.b, okk.rb, okk.rb⟩, okk.bx, okk.n⟩) (by rw [List.length_set]; omega) (by decide) (by decide) Zr Zr Zr Zr (by rw [List.length_set]; exact Zr) (by rw [← rS_set rfl]; exact Zr) Zr Zr
    · rw [h] at hm
      change _ = (3 : Int) at hm
      have ft := And.intro z1 (And.intro z2 (And.intro hrl (And.intro hm hr1)))
      repeat (first | with_reducible refine pv_seq fun K hK => ?_ | ((with_reducible first | refine hK _ _ ?_ | (clear hK; refine hK _ _ ?_) | (clear hK; clear hK; refine hK _ _ ?_)); clear hK; try clear K) | refine W0 ?_ | exact Z | with_reducible intro b)
      exact J11 _ _ (l.set k1 ⟨fr, to, ⟨n0, e0, w0⟩, nuOf y, bx⟩) (.l 45) _ _ (hset _ ⟨⟨okk.a, (oy.sz).wl, okk.ra, by rw [rightB_nuOf]; exact decide_eq_true oy⟩, okk.bx, okk.n⟩) (by rw [List.length_set]; omega) (by decide) (by decide) Zr Zr Zr Zr (by rw [List.length_set]; exact Zr) (by rw [← rS_set rfl]; exact Zr) Zr Zr
    · rw [h] at hm
      change _ = (4 : Int) at hm
      have ft := And.intro z1 (And.intro z2 (And.intro hrl (And.intro hm hr1)))
      repeat (first | with_reducible refine pv_seq fun K hK => ?_ | ((with_reducible first | refine hK _ _ ?_ | (clear hK; refine hK _ _ ?_) | (clear hK; clear hK; refine hK _ _ ?_)); clear hK; try clear K) | refine W0 ?_ | exact Z | with_reducible intro b)
      refine p_dSmallBox (n := r + 1 + 1) (i := j2 + 2 + 2 + 1 + 1) rfl hb (by omega) (by omega) fun lb j3 hlb hsm hj3 => ?_
      unfold II
      repeat (first | with_reducible refine pv_seq fun K hK => ?_ | ((with_reducible first | refine hK _ _ ?_ | (clear hK; refine hK _ _ ?_) | (clear hK; clear hK; refine hK _ _ ?_)); clear hK; try clear K) | refine W0 ?_ | exact Z | with_reducible intro b)
      exact J11 _ _ (l.set k1 ⟨fr, to, ⟨n0, e0, w0⟩, ⟨n1, e1, w1⟩, lb⟩) (.l 45) _ _ (hset _ ⟨⟨okk.a, okk.b, okk.ra, okk.rb⟩, fun b hb => (hsm b hb).ok, by show lb.length ≤ 100000; omega⟩) (by rw [List.length_set]; omega) (by decide) (by decide) Zr Zr Zr Zr (by rw [List.length_set]; exact Zr) (by rw [← rS_set rfl]; exact Zr) Zr Zr
    · rw [h] at hm
      change _ = (5 : Int) at hm
      have htl : l.take l.length = l := List.take_length
      have hrt : (rS eG (l.take k1)).length = k1 := by rw [rS_len, List.length_take]; omega
      have hrd : (rS eG (l.drop (k1 + 1))).length = l.length - (k1 + 1) := by rw [rS_len, List.length_drop]
      have ft := And.intro z1 (And.intro z2 (And.intro hrl (And.intro hm (And.intro hr1 (And.intro hrt (And.intro hrd htl))))))
      repeat (first | with_reducible refine pv_seq fun K hK => ?_ | ((with_reducible first | refine hK _ _ ?_ | (clear hK; refine hK _ _ ?_) | (clear hK; clear hK; refine hK _ _ ?_)); clear hK; try clear K) | refine W0 ?_ | exact Z | with_reducible intro b)
      exact J11 _ _ (l.take k1 ++ l.drop (k1 + 1)) (.l 100) _ _ (fun s hs => by rcases List.mem_append.1 hs with h | h; exact hok _ (List.mem_of_mem_take h); exact hok _ (List.mem_of_mem_drop h)) (by rw [List.length_append, List.length_take, List.length_drop]; omega) (by decide) (by decide) Zr Zr Zr Zr
        (by rw [List.length_append, List.length_take, List.length_drop, Nat.min_eq_left (Nat.le_of_lt hk1)]; exact Zr) (by rw [← rS_app]; exact Zr) Zr Zr
    · rw [h] at hm
      change _ = (6 : Int) at hm
      have ft := And.intro z1 (And.intro z2 (And.intro hrl (And.intro hm hr1)))
      repeat (first | with_reducible refine pv_seq fun K hK => ?_ | ((with_reducible first | refine hK _ _ ?_ | (clear hK; refine hK _ _ ?_) | (clear hK; clear hK; refine hK _ _ ?_)); clear hK; try clear K) | refine W0 ?_ | exact Z | with_reducible intro b)
      exact J11 _ _ l (.l 45) _ _ hok (by omega) (by decide) (by decide) Zr Zr Zr Zr Zr Zr Zr Zr
    · rw [h] at hm
      change _ = (7 : Int) at hm
      have ft := And.intro z1 (And.intro z2 (And.intro hrl (And.intro hm hr1)))
      repeat (first | with_reducible refine pv_seq fun K hK => ?_ | ((with_reducible first | refine hK _ _ ?_ | (clear hK; refine hK _ _ ?_) | (clear hK; clear hK; refine hK _ _ ?_)); clear hK; try clear K) | refine W0 ?_ | exact Z | with_reducible intro b)
      exact J11 _ _ l (.l 45) _ _ hok (by omega) (by decide) (by decide) Zr Zr Zr Zr Zr Zr Zr Zr
end Go.V

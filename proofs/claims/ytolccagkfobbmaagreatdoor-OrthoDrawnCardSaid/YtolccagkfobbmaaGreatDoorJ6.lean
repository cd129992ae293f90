/- The seat's deck: how many variables, points. -/
import Derived.Test.YtolccagkfobbmaaGreatDoorJ5
set_option linter.unusedSimpArgs false
set_option linter.unusedVariables false
set_option maxRecDepth 100000
namespace Go.V
open Go Go.RowKit Go.Proofs

/-- A row of the call's own of which nothing is frozen. -/
def RowZ (S : Store) (k : Nm) (s : Nat) (d : D) (els : List (List D)) : Prop := (d = .nil ∧ els = []) ∨ ∃ b cap, d = .own k b 0 els.length cap s ∧ S k = some ⟨b, s, 0, els⟩
theorem RowZ.toD {S : Store} {k : Nm} {s : Nat} {d : D} {els : List (List D)} (h : RowZ S k s d els) : RowD S k s d els := h.imp id fun ⟨b, cap, h1, h2⟩ => ⟨b, cap, 0, h1, h2⟩
theorem RowZ.nil {S : Store} {k : Nm} {s : Nat} : RowZ S k s .nil [] := .inl ⟨rfl, rfl⟩
theorem RowZ.up {S S' : Store} {k : Nm} {s : Nat} {d : D} {els : List (List D)} (h : RowZ S k s d els) (hS : S' k = S k) : RowZ S' k s d els := h.imp id fun ⟨b, cap, h1, h2⟩ => ⟨b, cap, h1, hS ▸ h2⟩
theorem RowZ.appL {S : Store} {K : D → Store → Prop} {q : SlZ} {k k2 : Nm} {dd : D} {els new : List (List D)} {b n cap p : Nat} (h : RowZ S k q.s dd els) (hk : k ≠ k2) (hn : n = new.length) (h1 : ∀ es ∈ new, es.all D.one = true) (hl : els.length + new.length ≤ 140737488355328)
    (hb : (els.length + new.length) * q.bytes ≤ 140737488355328) (hK : ∀ d' S', RowZ S' k q.s d' (els ++ new) → (∀ j, j ≠ k → S' j = updS S k2 (some ⟨b, q.s, p, new⟩) j) → K d' S') :
    appD q (updS S k2 (some ⟨b, q.s, p, new⟩)) k dd (.own k2 b 0 n cap q.s) K := by
  subst hn
  have hs : ∀ K : List (List D) → Prop, K new → srcD (updS S k2 (some ⟨b, q.s, p, new⟩)) q.s (.own k2 b 0 new.length cap q.s) K := fun K hK => by
    rw [srcD_own, updS_at]
    exact ⟨rfl, rfl, rfl, by simp, h1, by simpa using hK⟩
  rcases h with ⟨rfl, rfl⟩ | ⟨b0, cap0, rfl, hS⟩
  · rw [appD_nil]
    refine hs _ ⟨by simpa using hl, by simpa using hb, fun h0 => ?_, fun h0 b' cap' => ?_⟩
    · subst h0; exact hK _ _ .nil fun _ _ => rfl
    · exact hK _ _ (.inr ⟨b', cap', rfl, updS_at⟩) fun j hj => updS_ne hj
  · rw [appD_own, updS_ne hk, hS]
    refine ⟨rfl, rfl, rfl, rfl, rfl, hs _ ⟨hl, hb, fun b' cap' => ?_⟩⟩
    exact hK _ _ (.inr ⟨b', cap', by simp, updS_at⟩) fun j hj => updS_ne hj

/-- A call that works on one block of its caller's. -/
structure Dk (S0 : Store) (k : Nm) (S : Store) (x : Option Blk) : Prop where
  at_ : S (.up k) = x
  ne : ∀ q, q ≠ k → S (.up q) = S0 q
theorem Dk.dn {S0 S : Store} {k : Nm} {x : Option Blk} (h : Dk S0 k S x) : dnS S = updS S0 k x := by
  funext q
  rw [dnS_apply, updS_apply]
  split
  · rename_i e; rw [e]; exact h.at_
  · rename_i e; exact h.ne q e
theorem Dk.l {S0 S : Store} {k : Nm} {x y : Option Blk} {d : Nat} (h : Dk S0 k S x) : Dk S0 k (updS S (.l d) y) x := ⟨(updS_ne (by simp)).trans h.at_, fun q hq => (updS_ne (by simp)).trans (h.ne q hq)⟩
theorem Dk.set {S0 S : Store} {k : Nm} {x y : Option Blk} (h : Dk S0 k S x) : Dk S0 k (updS S (.up k) y) y := ⟨updS_at, fun q hq => (updS_ne (by simpa using hq)).trans (h.ne q hq)⟩
theorem Dk.of {S0 S S' : Store} {k : Nm} {x : Option Blk} (h : Dk S0 k S x) {d : Nat} (hS : ∀ j, j ≠ .l d → S' j = S j) : Dk S0 k S' x := ⟨(hS _ (by simp)).trans h.at_, fun q hq => (hS _ (by simp)).trans (h.ne q hq)⟩
theorem Dk.up {S0 : Store} {k : Nm} {x : Option Blk} (h : S0 k = x) : Dk S0 k (upS S0) x := ⟨h, fun q _ => rfl⟩

/-- A small number of the deck's. -/
def Smol (d : Dyadic) : Prop := Sm 14 6 d ∧ Pb 6 d
theorem Smol.ok {d : Dyadic} (h : Smol d) : OkD d := h.1.ok (by decide) (by decide)
theorem Smol.bx {d : Dyadic} (h : Smol d) : Bx 6 20 d := by
  have := h.1.bx
  exact ⟨h.2, by have := this.lo; omega, by have := this.hi; omega⟩
abbrev SmM (n : Nat) (a : List DL) : Prop := ∀ r ∈ a, r.length = n ∧ ∀ x ∈ r, Smol x
theorem SmM.ok {n : Nat} {a : List DL} (h : SmM n a) : ∀ r ∈ a, OkL r := fun r hr x hx => ((h r hr).2 x hx).ok
theorem p_dDim {k : Nm} {S : Store} {Q : D → Store → Prop} {b i : Nat} {w : List Nat} (hS : S k = some ⟨b, 2, 0, [[W64 w, i64 i]]⟩) (hb : B64 w) (hi : i ≤ 900000000)
    (hQ : ∀ n : Nat, 1 ≤ n → n ≤ 4 → Q (i64 n) (updS S k (some ⟨b, 2, 0, [[W64 w, i64 ((i + 1 : Nat) : Int)]]⟩))) : PFC Tryz.prog 12 [.ptr k b 0 0 2] S Q := by
  refine PFB (rs := [.tmp 2]) Tryz.func12 ?_
  repeat (first | with_reducible refine pv_seq fun K hK => ?_ | ((with_reducible first | refine hK _ _ ?_ | (clear hK; refine hK _ _ ?_) | (clear hK; clear hK; refine hK _ _ ?_)); clear hK; try clear K) | refine W0 ?_ | exact Z | with_reducible intro b)
  refine p_dN (n := 4) (i := i) (by simp -implicitDefEqProofs only [updS, upS]; exact hS) hb (by omega) (by decide) (by decide) (fun r hr => ?_)
  have hq := hQ (1 + r) (by omega) (by omega)
  repeat (first | with_reducible refine pv_seq fun K hK => ?_ | ((with_reducible first | refine hK _ _ ?_ | (clear hK; refine hK _ _ ?_) | (clear hK; clear hK; refine hK _ _ ?_)); clear hK; try clear K) | refine W0 ?_ | exact Z | with_reducible intro b)
  exact hq
theorem p_dYesP {k : Nm} {S : Store} {Q : D → Store → Prop} {b i n : Nat} {w : List Nat} (hS : S k = some ⟨b, 2, 0, [[W64 w, i64 i]]⟩) (hb : B64 w) (hi : i ≤ 1000000000) (hn : 0 < n) (hn2 : n ≤ 1099511627776)
    (hQ : ∀ t, Q (bl t) (updS S k (some ⟨b, 2, 0, [[W64 w, i64 ((i + 1 : Nat) : Int)]]⟩))) : PFC Tryz.prog 25 [.ptr k b 0 0 2, i64 n] S Q := by
  refine PFB (rs := [.tmp 4]) Tryz.func25 ?_
  repeat (first | with_reducible refine pv_seq fun K hK => ?_ | ((with_reducible first | refine hK _ _ ?_ | (clear hK; refine hK _ _ ?_) | (clear hK; clear hK; refine hK _ _ ?_)); clear hK; try clear K) | refine W0 ?_ | exact Z | with_reducible intro b)
  refine p_dN (n := n) (i := i) (by simp -implicitDefEqProofs only [updS, upS]; exact hS) hb (by omega) hn hn2 (fun r hr => ?_)
  have hq := hQ (decide ((r : Int) = (n : Int) - 1))
  repeat (first | with_reducible refine pv_seq fun K hK => ?_ | ((with_reducible first | refine hK _ _ ?_ | (clear hK; refine hK _ _ ?_) | (clear hK; clear hK; refine hK _ _ ?_)); clear hK; try clear K) | refine W0 ?_ | exact Z | with_reducible intro b)
  exact hq
set_option maxHeartbeats 2000000 in
theorem p_dPoints {k : Nm} {S : Store} {Q : D → Store → Prop} {bd i n : Nat} {w : List Nat} (hS : S k = some ⟨bd, 2, 0, [[W64 w, i64 i]]⟩) (hb : B64 w) (hi : i ≤ 900000000) (h1 : 1 ≤ n) (h4 : n ≤ 4)
    (hQ : ∀ (a : List DL) (j : Nat), a.length = n → SmM n a → j ≤ i + 17 → Q (NR a) (updS S k (some ⟨bd, 2, 0, [[W64 w, i64 (j : Int)]]⟩))) : PFC Tryz.prog 11 [.ptr k bd 0 0 2, i64 n] S Q := by
  unfold NR at hQ
  refine PFB (rs := [.tmp 4]) Tryz.func11 ?_
  repeat (first | with_reducible refine pv_seq fun K hK => ?_ | ((with_reducible first | refine hK _ _ ?_ | (clear hK; refine hK _ _ ?_) | (clear hK; clear hK; refine hK _ _ ?_)); clear hK; try clear K) | refine W0 ?_ | exact Z | with_reducible intro b)
  have J : ∀ (e : DEnv) (S' : Store) (a : List DL), a.length = n → SmM n a → e 0 = .ptr (.up k) bd 0 0 2 → e 1 = i64 n → RowZ S' (.l 27) 1 (e 5) (rS eR (a.map nus)) → Dk S k S' (some ⟨bd, 2, 0, [[W64 w, i64 ((i + n * n : Nat) : Int)]]⟩) → K e S' := by
    intro e S' a hl hm g0 g1 hr hd
    have hnn : n * n ≤ 16 := Nat.mul_le_mul h4 h4
    refine hK _ _ ?_
    clear hK
    refine pv_seq fun K3 q3 => ?_
    have J3 : ∀ (e : DEnv) (S' : Store) (a : List DL) (j : Nat), a.length = n → SmM n a → j ≤ i + 17 → RowD S' (.l 27) 1 (e 5) (rS eR (a.map nus)) → Dk S k S' (some ⟨bd, 2, 0, [[W64 w, i64 (j : Int)]]⟩) → K3 e S' := by
      intro e S' a j hl hm hj hr hd
      refine q3 _ _ ?_
      repeat (first | with_reducible refine pv_seq fun K hK => ?_ | ((with_reducible first | refine hK _ _ ?_ | (clear hK; refine hK _ _ ?_) | (clear hK; clear hK; refine hK _ _ ?_)); clear hK; try clear K) | refine W0 ?_ | exact Z | with_reducible intro b)
      exact hr.coeD fun S2 _ hS2 => by rw [(hd.of hS2).dn]; exact hQ a j hl hm hj
    clear q3
    by_cases hn1 : 1 < n
    · have k1 : ((1 : Int) < (n : Int)) = True := eq_true (by omega)
      have ft := And.intro g0 (And.intro g1 k1)
      repeat (first | with_reducible refine pv_seq fun K hK => ?_ | ((with_reducible first | refine hK _ _ ?_ | (clear hK; refine hK _ _ ?_) | (clear hK; clear hK; refine hK _ _ ?_)); clear hK; try clear K) | refine W0 ?_ | exact Z | with_reducible intro b)
      refine p_dYesP (n := 9) hd.at_ hb (by omega) (by decide) (by decide) fun t => ?_
      cases t with
      | false =>
        repeat (first | with_reducible refine pv_seq fun K hK => ?_ | ((with_reducible first | refine hK _ _ ?_ | (clear hK; refine hK _ _ ?_) | (clear hK; clear hK; refine hK _ _ ?_)); clear hK; try clear K) | refine W0 ?_ | exact Z | with_reducible intro b)
        exact J3 _ _ a _ hl hm (by omega) (hr.up (updS_ne (by simp))).toD hd.set
      | true =>
        rcases hr with ⟨_, h0⟩ | ⟨b5, cap, g5, s5⟩
        · have := congrArg List.length h0; rw [rS_len, List.length_map, hl] at this; simp at this; omega
        · have hE : (rS eR (a.map nus)).length = n := by rw [rS_len, List.length_map, hl]
          rw [hE] at g5
          have eA : (rS eR (a.map nus))[0]? = some [.g (eS eU (nus (a.getD 0 [])))] := by rw [rS_get, nr_get (by omega)]; rfl
          have eB : (rS eR (a.map nus))[n - 1]? = some [.g (eS eU (nus (a.getD (n - 1) [])))] := by rw [rS_get, nr_get (by omega)]; rfl
          have eC : (n : Int) - 1 = ((n - 1 : Nat) : Int) := by omega
          have eZ : (rS eR (a.map nus)).set (n - 1) [.g (eS eU (nus (a.getD 0 [])))] = rS eR ((a.set (n - 1) (a.getD 0 [])).map nus) := by rw [List.map_set]; exact rS_set rfl
          have hm0 := gR_mem (a := a) (i := 0) (by omega)
          have k2 : (n - 1 < n) = True := eq_true (by omega)
          have k3 : (0 < n) = True := eq_true (by omega)
          generalize rS eR (a.map nus) = E at *
          generalize n - 1 = m at *
          have ft := And.intro g0 (And.intro g1 (And.intro k1 (And.intro g5 (And.intro s5 (And.intro eA (And.intro eB (And.intro eC (And.intro k2 k3))))))))
          repeat (first | with_reducible refine pv_seq fun K hK => ?_ | ((with_reducible first | refine hK _ _ ?_ | (clear hK; refine hK _ _ ?_) | (clear hK; clear hK; refine hK _ _ ?_)); clear hK; try clear K) | refine W0 ?_ | exact Z | with_reducible intro b)
          refine J3 _ _ (a.set m (a.getD 0 [])) (i + n * n + 1) (by simpa using hl) (fun r hr => ?_) (by omega) (.inr ⟨b5, cap, 0, by rw [← eZ, List.length_set, hE]; exact Zr, by rw [← eZ]; exact Zr⟩) ⟨Zr, fun q hq => by simp only [updS]; simp [hq]; exact hd.ne q hq⟩
          rcases List.mem_or_eq_of_mem_set hr with h | h
          · exact hm r h
          · rw [h]; exact hm _ hm0
    · have k1 : ((1 : Int) < (n : Int)) = False := eq_false (by omega)
      have ft := And.intro g0 (And.intro g1 k1)
      repeat (first | with_reducible refine pv_seq fun K hK => ?_ | ((with_reducible first | refine hK _ _ ?_ | (clear hK; refine hK _ _ ?_) | (clear hK; clear hK; refine hK _ _ ?_)); clear hK; try clear K) | refine W0 ?_ | exact Z | with_reducible intro b)
      exact J3 _ _ a _ hl hm (by omega) hr.toD hd
  clear hK
  refine pv_loop (fun e S' => ∃ (q : Nat) (a : List DL), q ≤ n ∧ a.length = q ∧ SmM n a ∧ e 0 = .ptr (.up k) bd 0 0 2 ∧ e 1 = i64 n ∧ e 6 = i64 q ∧ RowZ S' (.l 27) 1 (e 5) (rS eR (a.map nus)) ∧ Dk S k S' (some ⟨bd, 2, 0, [[W64 w, i64 ((i + n * q : Nat) : Int)]]⟩)) (fun e _ => n - (intD (e 6)).toNat) ?_ ?_
  · exact ⟨0, [], Nat.zero_le _, rfl, fun r hr => (by cases hr), Zr, Zr, Zr, .inl ⟨Zr, rfl⟩, Dk.up hS⟩
  · rintro e S' ⟨q, a, hq, hl, hm, g0, g1, g6, hr, hd⟩
    have hmz : (intD (e 6)).toNat = q := by rw [g6]; rfl
    have hnq : n * q ≤ 16 := Nat.mul_le_mul h4 (show q ≤ 4 by omega)
    have ft := And.intro g0 (And.intro g1 g6)
    repeat (first | with_reducible refine pv_seq fun K hK => ?_ | ((with_reducible first | refine hK _ _ ?_ | (clear hK; refine hK _ _ ?_) | (clear hK; clear hK; refine hK _ _ ?_)); clear hK; try clear K) | refine W0 ?_ | exact Z | with_reducible intro b)
    refine pv_cdD (fun ht => ?_) (fun ht => ?_)
    · repeat (first | with_reducible refine pv_stop 5 ?_ | with_reducible refine pv_seq fun K hK => ?_ | ((with_reducible first | refine hK _ _ ?_ | (clear hK; refine hK _ _ ?_) | (clear hK; clear hK; refine hK _ _ ?_)); clear hK; try clear K) | refine W ?_ | exact Z | with_reducible intro b)
      refine ⟨fun K1 q1 _ => ?_⟩
      repeat (first | with_reducible refine pv_seq fun K hK => ?_ | ((with_reducible first | refine hK _ _ ?_ | (clear hK; refine hK _ _ ?_) | (clear hK; clear hK; refine hK _ _ ?_)); clear hK; try clear K) | refine W0 ?_ | exact Z | with_reducible intro b)
      refine q1 _ _ ?_
      clear q1
      refine pv_seqR fun K2 q2 hC => ?_
      repeat (first | with_reducible refine pv_seq fun K hK => ?_ | ((with_reducible first | refine hK _ _ ?_ | (clear hK; refine hK _ _ ?_) | (clear hK; clear hK; refine hK _ _ ?_)); clear hK; try clear K) | refine W0 ?_ | exact Z | with_reducible intro b)
      have J2 : ∀ (e : DEnv) (S' : Store) (l : DL), l.length = n → (∀ x ∈ l, Smol x) → e 0 = .ptr (.up k) bd 0 0 2 → e 1 = i64 n → e 6 = i64 q → RowD S' (.l 23) 3 (e 7) (rS eU (nus l)) → RowZ S' (.l 27) 1 (e 5) (rS eR (a.map nus)) → Dk S k S' (some ⟨bd, 2, 0, [[W64 w, i64 ((i + n * q + n : Nat) : Int)]]⟩) → K2 e S' := by
        intro e S' l hll hls g0 g1 g6 hr7 hr5 hd
        refine hC _ _ (Recast.rowSlot 7 hr7 fun S2 hS2 => ?_)
        refine q2 _ _ ?_
        have ft := And.intro g1 (And.intro g0 g6)
        repeat (first | with_reducible refine pv_seq fun K hK => ?_ | ((with_reducible first | refine hK _ _ ?_ | (clear hK; refine hK _ _ ?_) | (clear hK; clear hK; refine hK _ _ ?_)); clear hK; try clear K) | refine W0 ?_ | exact Z | with_reducible intro b)
        refine RowZ.appL (hr5.up (hS2 _ (by decide))) (by decide) rfl (by simp [D.one]) ?_ ?_ fun d' S3 hr3 hS3 => ?_
        · rw [rS_len, nr_len]; simp; omega
        · rw [rS_len, nr_len]; simp; omega
        repeat (first | with_reducible refine pv_seq fun K hK => ?_ | ((with_reducible first | refine hK _ _ ?_ | (clear hK; refine hK _ _ ?_) | (clear hK; clear hK; refine hK _ _ ?_)); clear hK; try clear K) | refine W0 ?_ | exact Z | with_reducible intro b)
        rw [rS_r] at hr3
        refine ⟨⟨q + 1, a ++ [l], by omega, by simp [hl], fun r hr => ?_, Zr, hr3, ?_⟩, by rw [hmz]; simp only [intD]; omega⟩
        · rcases List.mem_append.1 hr with h | h
          · exact hm r h
          · rw [List.mem_singleton.1 h]; exact ⟨hll, hls⟩
        · rw [show i + n * (q + 1) = i + n * q + n by rw [Nat.mul_succ]; omega]
          exact ((hd.of hS2).l).of hS3
      clear hC q2
      refine pv_loop (fun e S' => ∃ (t : Nat) (l : DL), t ≤ n ∧ l.length = t ∧ (∀ x ∈ l, Smol x) ∧ e 0 = .ptr (.up k) bd 0 0 2 ∧ e 1 = i64 n ∧ e 6 = i64 q ∧ e 8 = i64 t ∧ RowD S' (.l 23) 3 (e 7) (rS eU (nus l)) ∧ RowZ S' (.l 27) 1 (e 5) (rS eR (a.map nus)) ∧ Dk S k S' (some ⟨bd, 2, 0, [[W64 w, i64 ((i + n * q + t : Nat) : Int)]]⟩)) (fun e _ => n - (intD (e 8)).toNat) ?_ ?_
      · have ft := And.intro g1 (And.intro g0 g6)
        exact ⟨0, [], Nat.zero_le _, rfl, by simp, Zr, Zr, Zr, Zr, .inl ⟨Zr, rfl⟩, hr, hd⟩
      · rintro e S' ⟨t, l, htn, hll, hls, g0, g1, g6, g8, hr7, hr5, hd⟩
        have ft := And.intro g0 (And.intro g1 (And.intro g6 g8))
        repeat (first | with_reducible refine pv_seq fun K hK => ?_ | ((with_reducible first | refine hK _ _ ?_ | (clear hK; refine hK _ _ ?_) | (clear hK; clear hK; refine hK _ _ ?_)); clear hK; try clear K) | refine W0 ?_ | exact Z | with_reducible intro b)
        refine pv_cdD (fun hu => ?_) (fun hu => ?_)
        · repeat (first | with_reducible refine pv_seq fun K hK => ?_ | ((with_reducible first | refine hK _ _ ?_ | (clear hK; refine hK _ _ ?_) | (clear hK; clear hK; refine hK _ _ ?_)); clear hK; try clear K) | refine W0 ?_ | exact Z | with_reducible intro b)
          refine p_smallD hd.at_ hb (by omega) fun x sx px => ?_
          have hnew := rS_u (l := l) (y := x)
          generalize nuOf x = X at *
          repeat (first | with_reducible refine pv_seq fun K hK => ?_ | ((with_reducible first | refine hK _ _ ?_ | (clear hK; refine hK _ _ ?_) | (clear hK; clear hK; refine hK _ _ ?_)); clear hK; try clear K) | refine W0 ?_ | exact Z | with_reducible intro b)
          refine RowD.appL (hr7.up (updS_ne (by simp))) (by decide) rfl (by simp [D.one, W64]) ?_ ?_ fun d' S3 hr3 hS3 => ?_
          · rw [rS_len, nus_len]; simp; omega
          · rw [rS_len, nus_len]; simp; omega
          repeat (first | with_reducible refine pv_seq fun K hK => ?_ | ((with_reducible first | refine hK _ _ ?_ | (clear hK; refine hK _ _ ?_) | (clear hK; clear hK; refine hK _ _ ?_)); clear hK; try clear K) | refine W0 ?_ | exact Z | with_reducible intro b)
          refine ⟨⟨t + 1, l ++ [x], by omega, by simp [hll], fun y hy => ?_, Zr, by rw [← hnew]; exact hr3, hr5.up ((hS3 _ (by decide)).trans (by rw [updS_ne (by decide), updS_ne (by simp)])), (hd.set.l).of hS3⟩, by simp only [intD]; omega⟩
          rcases List.mem_append.1 hy with h | h
          · exact hls y h
          · rw [List.mem_singleton.1 h]; exact ⟨sx, px⟩
        · obtain rfl : t = n := by omega
          repeat (first | with_reducible refine pv_seq fun K hK => ?_ | ((with_reducible first | refine hK _ _ ?_ | (clear hK; refine hK _ _ ?_) | (clear hK; clear hK; refine hK _ _ ?_)); clear hK; try clear K) | refine W0 ?_ | exact Z | with_reducible intro b)
          exact J2 _ _ l hll hls Zr Zr Zr hr7 hr5 hd
    · obtain rfl : q = n := by omega
      repeat (first | with_reducible refine pv_seq fun K hK => ?_ | ((with_reducible first | refine hK _ _ ?_ | (clear hK; refine hK _ _ ?_) | (clear hK; clear hK; refine hK _ _ ?_)); clear hK; try clear K) | refine W0 ?_ | exact Z | with_reducible intro b)
      exact J _ _ a hl hm Zr Zr hr hd

end Go.V

/- Pieces one behind the other, as data; the iterator over those that meet a span of time. -/
import Derived.Test.YtcmnbpliiopbjaaGreatDoorU1
set_option linter.unusedSimpArgs false
set_option linter.unusedVariables false
set_option maxRecDepth 100000
namespace Go.V
open Go Go.RowKit Go.Proofs

structure Sg where
  fr : Int
  to : Int
  t0 : Nu
  t1 : Nu
  box : List Iv
def sg0 : Sg := ⟨0, 0, nu0, nu0, []⟩
def SEG (s : Sg) : D := .agg [i64 s.fr, i64 s.to, bl s.t0.neg, i64 s.t0.exp, W64 s.t0.w, bl s.t1.neg, i64 s.t1.exp, W64 s.t1.w, .g (eS eI s.box)]
def eG (s : Sg) : List G := [.lit (.int .i64 s.fr), .lit (.int .i64 s.to), .lit (.bool s.t0.neg), .lit (.int .i64 s.t0.exp), eS (eK .u64) s.t0.w, .lit (.bool s.t1.neg), .lit (.int .i64 s.t1.exp), eS (eK .u64) s.t1.w, eS eI s.box]
theorem eG_0 {s : Sg} : eG s = [.lit (.int .i64 s.fr), .lit (.int .i64 s.to), .lit (.bool s.t0.neg), .lit (.int .i64 s.t0.exp), eS (eK .u64) s.t0.w, .lit (.bool s.t1.neg), .lit (.int .i64 s.t1.exp), eS (eK .u64) s.t1.w, eS eI s.box] := rfl
def SS (l : List Sg) : D := .g (eS eG l)
theorem SS_eq {l : List Sg} : SS l = .g (eS eG l) := rfl
theorem lenD_SS {xs : List Sg} {K : D → Prop} : lenD (.g (eS eG xs)) K = K (.g (.lit (.int .i64 xs.length))) := lenD_eS
theorem slD_SS {xs : List Sg} {lo hi mx : Option D} {K : D → Prop} : slD 9 (.g (eS eG xs)) lo hi mx K = bndD lo 0 fun l => bndD hi xs.length fun h => 0 ≤ l ∧ l ≤ h ∧ h ≤ xs.length ∧ (mx.isSome = true → mx = hi) ∧ K (.g (eS eG ((xs.take h.toNat).drop l.toNat))) := slD_eS fun _ _ => rfl
attribute [go_sem ↓] lenD_SS slD_SS
attribute [go_sem] lenD_SS slD_SS SEG SS eG_0
def gS (l : List Sg) (i : Nat) : Sg := l.getD i sg0

/-- Does a piece have a time of a span? -/
def meetB (lo hi : Nu) (s : Sg) : Bool := decide (lo.val ≤ hi.val) && decide (lo.val ≤ s.t1.val) && decide (s.t0.val ≤ hi.val)
def metL (lo hi : Nu) (l : List Sg) (n : Nat) : List Nat := (List.range n).filter fun i => meetB lo hi (gS l i)
theorem metL_succ {lo hi : Nu} {l : List Sg} {n : Nat} : metL lo hi l (n + 1) = metL lo hi l n ++ if meetB lo hi (gS l n) then [n] else [] := by
  unfold metL
  rw [List.range_succ, List.filter_append]
  congr 1
  simp only [List.filter_cons, List.filter_nil]
theorem metL_pre {lo hi : Nu} {l : List Sg} {n m : Nat} (h : n ≤ m) : ∃ r, metL lo hi l m = metL lo hi l n ++ r := by
  induction m with
  | zero => obtain rfl : n = 0 := by omega
            exact ⟨[], by simp⟩
  | succ m ih =>
    by_cases hm : n = m + 1
    · subst hm; exact ⟨[], by simp⟩
    · obtain ⟨r, hr⟩ := ih (by omega)
      exact ⟨r ++ if meetB lo hi (gS l m) then [m] else [], by rw [metL_succ, hr, List.append_assoc]⟩
theorem metL_at {lo hi : Nu} {l : List Sg} {i n : Nat} (hi' : i < n) (hm : meetB lo hi (gS l i) = true) : (metL lo hi l n)[(metL lo hi l i).length]? = some i := by
  obtain ⟨r, hr⟩ := metL_pre (lo := lo) (hi := hi) (l := l) (show i + 1 ≤ n by omega)
  rw [hr, metL_succ, if_pos hm]
  simp
/-- What the iterator hands on. -/
def eachL (lo hi : Nu) (l : List Sg) : List (List D) := (metL lo hi l l.length).map fun i : Nat => [i64 i, SEG (gS l i)]

theorem p_nCmpR {k : Nat} {x y : Nu} (hx : Wl k x) (hy : Wl k y) (hk : k ≤ 67108864) (rx : rightB x = true) (ry : rightB y = true) : PC Tryz.prog 14 [NU x, NU y] fun d => d = i64 (cmpD x.val y.val) := by
  have := p_nCmp hx hy hk
  rwa [rx, ry] at this

/-- A piece with right times. -/
structure OkG (s : Sg) : Prop where
  a : Wl 65536 s.t0
  b : Wl 65536 s.t1
  ra : rightB s.t0 = true
  rb : rightB s.t1 = true

set_option maxHeartbeats 1000000 in
theorem p_eachIt {l : List Sg} {lo hi : Nu} (hl : l.length ≤ 100000) (hlo : Wl 65536 lo) (hhi : Wl 65536 hi) (rlo : rightB lo = true) (rhi : rightB hi = true) (hg : ∀ s ∈ l, OkG s)
    (hC : ∀ s ∈ l, PC Tryz.prog 41 [SEG s] fun d => d = SEG s) : Iter Tryz.prog 42 [.ip [eS eG l], .ip (eU lo), .ip (eU hi)] (eachL lo hi l) := by
  intro y J Jx S h0 hY
  have pA := p_nCmpR hlo hhi (by decide) rlo rhi
  have k1 := cmpD_0lt (a := lo.val) (b := hi.val)
  generalize hc1 : cmpD lo.val hi.val = c1 at *
  have hX : ∀ i, i < l.length → meetB lo hi (gS l i) = true → (eachL lo hi l)[(metL lo hi l i).length]? = some [i64 i, SEG (gS l i)] := fun i h1 h2 => by
    unfold eachL
    rw [List.getElem?_map, metL_at h1 h2]; rfl
  have hlen : (eachL lo hi l).length = (metL lo hi l l.length).length := by unfold eachL; rw [List.length_map]
  rw [hlen]
  generalize eachL lo hi l = xs at *
  refine PFB (rs := []) Tryz.func42 ?_
  repeat (first | with_reducible refine pv_seq fun K hK => ?_ | ((with_reducible first | refine hK _ _ ?_ | (clear hK; refine hK _ _ ?_) | (clear hK; clear hK; refine hK _ _ ?_)); clear hK; try clear K) | refine W0 ?_ | exact Z | with_reducible intro b)
  refine pv_loop (fun e T => ∃ i : Nat, i ≤ l.length ∧ e 0 = .yl y ∧ e 2 = .ip (eU lo) ∧ e 3 = .ip (eU hi) ∧ e 7 = .g (eS eG l) ∧ e 8 = i64 l.length ∧ e 9 = i64 i ∧ J (metL lo hi l i).length (dnS T)) (fun e _ => l.length - (intD (e 9)).toNat) ?_ ?_
  · exact ⟨0, Nat.zero_le _, Z, Z, Z, Z, Z, Z, h0⟩
  · rintro e T ⟨i, hi0, g0, g2, g3, g7, g8, g9, hj⟩
    have ft := And.intro g0 (And.intro g2 (And.intro g3 (And.intro g7 (And.intro g8 g9))))
    repeat (first | with_reducible refine pv_seq fun K hK => ?_ | ((with_reducible first | refine hK _ _ ?_ | (clear hK; refine hK _ _ ?_) | (clear hK; clear hK; refine hK _ _ ?_)); clear hK; try clear K) | refine W0 ?_ | exact Z | with_reducible intro b)
    refine pv_cdD (fun ht1 => ?_) (fun ht => ?_)
    · have hil : i < l.length := by omega
      have hm : l.getD i sg0 ∈ l := by simp [List.getD, List.getElem?_eq_getElem hil]
      have og := hg _ hm
      have pC := hC _ hm
      have pT1 := p_nCmpR og.b hlo (by decide) og.rb rlo
      have pT0 := p_nCmpR hhi og.a (by decide) rhi og.ra
      have k2 := cmpD_lt0 (a := (l.getD i sg0).t1.val) (b := lo.val)
      have k3 := cmpD_lt0 (a := hi.val) (b := (l.getD i sg0).t0.val)
      have hx := hX i hil
      have hs : metL lo hi l (i + 1) = metL lo hi l i ++ if meetB lo hi (gS l i) then [i] else [] := metL_succ
      unfold gS meetB at hx hs
      generalize hc2 : cmpD (l.getD i sg0).t1.val lo.val = c2 at *
      generalize hc3 : cmpD hi.val (l.getD i sg0).t0.val = c3 at *
      clear hc1 hc2 hc3 og hm hg hC hX
      have skip : ¬ (lo.val ≤ hi.val ∧ lo.val ≤ (l.getD i sg0).t1.val ∧ (l.getD i sg0).t0.val ≤ hi.val) → (metL lo hi l (i + 1)).length = (metL lo hi l i).length := fun h => by
        rw [hs, if_neg]
        · simp
        · simp only [Bool.and_eq_true, decide_eq_true_eq]
          exact fun h2 => h ⟨h2.1.1, h2.1.2, h2.2⟩
      have take : lo.val ≤ hi.val ∧ lo.val ≤ (l.getD i sg0).t1.val ∧ (l.getD i sg0).t0.val ≤ hi.val → (metL lo hi l (i + 1)).length = (metL lo hi l i).length + 1 ∧ xs[(metL lo hi l i).length]? = some [i64 i, SEG (l.getD i sg0)] := fun h => by
        have h2 : (decide (lo.val ≤ hi.val) && decide (lo.val ≤ (l.getD i sg0).t1.val) && decide ((l.getD i sg0).t0.val ≤ hi.val)) = true := by
          simp only [Bool.and_eq_true, decide_eq_true_eq]; exact ⟨⟨h.1, h.2.1⟩, h.2.2⟩
        exact ⟨by rw [hs, if_pos h2]; simp, hx h2⟩
      clear hx hs
      have hq : l[i]? = some (l.getD i sg0) := by simp [List.getD, List.getElem?_eq_getElem hil]
      generalize l.getD i sg0 = q at *
      obtain ⟨nl, el, wl⟩ := lo
      obtain ⟨nh, eh, wh⟩ := hi
      obtain ⟨fr, to, ⟨n0, e0, w0⟩, ⟨n1, e1, w1⟩, bx⟩ := q
      simp only at k1 k2 k3 skip take
      by_cases a1 : 0 < c1
      · have a1' := eq_true a1
        have hsk := skip (fun h => by rw [k1] at a1; grind)
        have ft := And.intro g0 (And.intro g2 (And.intro g3 (And.intro g7 (And.intro g8 (And.intro g9 (And.intro hq a1'))))))
        repeat (first | with_reducible refine pv_seq fun K hK => ?_ | ((with_reducible first | refine hK _ _ ?_ | (clear hK; refine hK _ _ ?_) | (clear hK; clear hK; refine hK _ _ ?_)); clear hK; try clear K) | refine W ?_ | exact Z | with_reducible intro b)
        exact ⟨⟨i + 1, by omega, rfl, hsk ▸ hj⟩, by simp only [intD]; omega⟩
      · have a1' := eq_false a1
        by_cases a2 : c2 < 0
        · have a2' := eq_true a2
          have hsk := skip (fun h => by rw [k2] at a2; grind)
          have ft := And.intro g0 (And.intro g2 (And.intro g3 (And.intro g7 (And.intro g8 (And.intro g9 (And.intro hq (And.intro a1' a2')))))))
          repeat (first | with_reducible refine pv_seq fun K hK => ?_ | ((with_reducible first | refine hK _ _ ?_ | (clear hK; refine hK _ _ ?_) | (clear hK; clear hK; refine hK _ _ ?_)); clear hK; try clear K) | refine W ?_ | exact Z | with_reducible intro b)
          exact ⟨⟨i + 1, by omega, rfl, hsk ▸ hj⟩, by simp only [intD]; omega⟩
        · have a2' := eq_false a2
          by_cases a3 : c3 < 0
          · have a3' := eq_true a3
            have hsk := skip (fun h => by rw [k3] at a3; grind)
            have ft := And.intro g0 (And.intro g2 (And.intro g3 (And.intro g7 (And.intro g8 (And.intro g9 (And.intro hq (And.intro a1' (And.intro a2' a3'))))))))
            repeat (first | with_reducible refine pv_seq fun K hK => ?_ | ((with_reducible first | refine hK _ _ ?_ | (clear hK; refine hK _ _ ?_) | (clear hK; clear hK; refine hK _ _ ?_)); clear hK; try clear K) | refine W ?_ | exact Z | with_reducible intro b)
            exact ⟨⟨i + 1, by omega, rfl, hsk ▸ hj⟩, by simp only [intD]; omega⟩
          · have a3' := eq_false a3
            obtain ⟨hsk, hx⟩ := take ⟨by rw [k1] at a1; grind, by rw [k2] at a2; grind, by rw [k3] at a3; grind⟩
            have ft := And.intro g0 (And.intro g2 (And.intro g3 (And.intro g7 (And.intro g8 (And.intro g9 (And.intro hq (And.intro a1' (And.intro a2' a3'))))))))
            repeat (first | with_reducible refine pv_seq fun K hK => ?_ | ((with_reducible first | refine hK _ _ ?_ | (clear hK; refine hK _ _ ?_) | (clear hK; clear hK; refine hK _ _ ?_)); clear hK; try clear K) | refine W ?_ | exact Z | with_reducible intro b)
            refine PYC.up ?_
            refine (hY _ _ _ hx hj).mono ?_
            rintro d S' (⟨rfl, hj'⟩ | ⟨rfl, hjx⟩)
            · repeat (first | with_reducible refine pv_seq fun K hK => ?_ | ((with_reducible first | refine hK _ _ ?_ | (clear hK; refine hK _ _ ?_) | (clear hK; clear hK; refine hK _ _ ?_)); clear hK; try clear K) | refine W0 ?_ | exact Z | with_reducible intro b)
              exact ⟨⟨i + 1, by omega, rfl, hsk ▸ hj'⟩, by simp only [intD]; omega⟩
            · repeat (first | with_reducible refine pv_seq fun K hK => ?_ | ((with_reducible first | refine hK _ _ ?_ | (clear hK; refine hK _ _ ?_) | (clear hK; clear hK; refine hK _ _ ?_)); clear hK; try clear K) | refine W0 ?_ | exact Z | with_reducible intro b)
              exact .inr hjx
    · repeat (first | with_reducible refine pv_seq fun K hK => ?_ | ((with_reducible first | refine hK _ _ ?_ | (clear hK; refine hK _ _ ?_) | (clear hK; clear hK; refine hK _ _ ?_)); clear hK; try clear K) | refine W0 ?_ | exact Z | with_reducible intro b)
      obtain rfl : i = l.length := by omega
      exact .inl hj
end Go.V

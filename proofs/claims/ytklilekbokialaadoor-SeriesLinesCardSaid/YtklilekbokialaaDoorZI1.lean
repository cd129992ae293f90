/- Package series over values as data: coefficients of polynomials of series. Plain laws of intervals of small numbers: sums, products, what they hold, parts of them; coefficients and sums of series. Series at a point over values as data: package series, the document. Intervals that are points, exactly; the statements' own known series. The seat's deck: boxes of small intervals, points in boxes, boxes in boxes; is a value within an interval? Terms gathered by their powers, plainly: the greater powers first, one term for each. The document's gathering of terms over values as data. -/
import Derived.Test.YtklilekbokialaaDoorZI0
set_option linter.unusedSimpArgs false
set_option linter.unusedVariables false
set_option maxRecDepth 100000
namespace Go.V
open Go Go.RowKit Go.Proofs
def qT7_9_16 : List (Nat × Nat) := [(0, 1), (1, 0), (2, 0), (3, 0), (4, 1), (5, 0), (6, 3), (7, 0), (8, 0), (9, 0), (10, 3), (11, 0)]
attribute [go_sem] qT7_9_16
theorem Recast.z6 {N : DEnv → Store → Prop} {e : DEnv} {S : Store} {k : Nm} {b : Nat} (hk : S k = some ⟨b, 6, 0, [V.z6]⟩) (h : N e (updS S k (some ⟨b, 6, 0, [cI iv0]⟩))) : Recast N e S := by
  refine Recast.join (Recast.cell (i := 0) (j := 2) (es := V.z6) (d := .nil) (d' := W64 []) hk rfl rfl (fun I H v hv => nil_row hv) ?_)
  refine Recast.cell (i := 0) (j := 5) (es := V.z6.set 2 (W64 [])) (d := .nil) (d' := W64 []) updS_at rfl rfl (fun I H v hv => nil_row hv) ?_
  rw [updS_updS]; exact h
theorem ofN_succ {p : Int} {q : List Mo} {xs : List (List Iv)} {k i : Nat} (h : (ofN p q xs k i).2 = 0) : ofN p q xs k (i + 1) = if (overR p xs k (gM q i)).2 = 0 then addI p (ofN p q xs k i).1 (gI (overR p xs k (gM q i)).1 k) else (iv0, (overR p xs k (gM q i)).2) := by
  conv => lhs; unfold ofN
  rw [if_pos h]
theorem all_no {xs : List (List Iv)} {k i : Nat} (hi : i < xs.length) (h : rightTo (xs.getD i []) k = false) : decide (∀ x ∈ xs, rightTo x k = true) = false :=
  decide_eq_false fun h2 => by rw [h2 _ (List.mem_of_getElem? (xget hi))] at h; cases h
theorem all_yes {xs : List (List Iv)} {k : Nat} (h : ∀ i, i < xs.length → rightTo (xs.getD i []) k = true) : decide (∀ x ∈ xs, rightTo x k = true) = true :=
  decide_eq_true fun x hx => by
    obtain ⟨i, hi⟩ := List.mem_iff_getElem?.1 hx
    have hil : i < xs.length := (List.getElem?_eq_some_iff.1 hi).1
    have := h i hil
    rw [xget hil] at hi
    injection hi with hi; rwa [hi] at this
theorem poly_at {q : List Mo} {n : Int} (h : polyB q n = true) {i : Nat} (hi : i < q.length) : atB q n i := by
  unfold polyB at h
  rw [Bool.and_eq_true] at h
  exact of_decide_eq_true h.2 i hi
theorem poly_len {q : List Mo} {n : Int} (h : polyB q n = true) {i : Nat} (hi : i < q.length) : ((gM q i).e.length : Int) = n := by
  have := (poly_at h hi).1
  unfold monoB at this
  simp only [Bool.and_eq_true, decide_eq_true_eq] at this
  exact this.1.1.1
theorem le_sum : ∀ {l : List Int}, (∀ x ∈ l, 0 ≤ x) → ∀ i, i < l.length → l.getD i 0 ≤ l.sum
  | x :: l, h, 0, _ => by
    have h1 := sum_take_le (l := l) 0 (fun y hy => h y (List.mem_cons_of_mem _ hy))
    simp only [List.take_zero, List.sum_nil] at h1
    show x ≤ x + l.sum
    omega
  | x :: l, h, i + 1, hi => by
    have h1 := le_sum (l := l) (fun y hy => h y (List.mem_cons_of_mem _ hy)) i (by simpa using hi)
    have h2 := h x List.mem_cons_self
    show l.getD i 0 ≤ x + l.sum
    omega
theorem poly_e8 {q : List Mo} {n : Int} (h : polyB q n = true) {i : Nat} (hi : i < q.length) : ∀ j, j < (gM q i).e.length → (gM q i).e.getD j 0 ≤ 8 := fun j hj => by
  have := (poly_at h hi).1
  unfold monoB at this
  simp only [Bool.and_eq_true, decide_eq_true_eq] at this
  have h2 := le_sum this.1.1.2 j hj
  omega
theorem overR_ok {p : Int} {xs : List (List Iv)} {k : Nat} {m : Mo} (h : Wl 65536 m.c) : OkS k (overR p xs k m) := overN_ok (onS_ok h) _

set_option maxHeartbeats 4000000 in
theorem p_sOf {q : List Mo} {xs : List (List Iv)} {k p : Int} (hq : WfM q) (hx : WfX xs) : PC Tryd.prog 9 [MM q, LL xs, i64 k, i64 p] fun d => d = IE (ofR p q xs k) := by
  have pV := p_sValid (k := k) (p := p)
  have pR := p_pRight (n := (xs.length : Int)) hq
  have hxn := hx.n
  have hqn := hq.n
  unfold ofR
  by_cases hv : (okK k && okP p) = true
  · have hv2 := hv
    rw [Bool.and_eq_true] at hv2
    obtain ⟨n, rfl, hn⟩ := okK_nat hv2.1
    rw [hv] at pV
    rw [hv2.1, hv2.2, Bool.true_and, Bool.and_true, Int.toNat_natCast]
    have hlen := fun (h : polyB q (xs.length : Int) = true) (i : Nat) (hi : i < q.length) => (⟨poly_len h hi, poly_e8 h hi⟩ : _ ∧ _)
    generalize polyB q (xs.length : Int) = rq at *
    cases rq
    · unfold LL MM iv0 nu0 at *
      have d1 := @dl 16 qT7_9_16
      refine PB (rs := [.cell 8 32, .tmp 9]) Tryd.func9 ?_
      exact Wk
    · have hlen := hlen rfl
      rw [Bool.true_and]
      generalize hr : (if decide (∀ x ∈ xs, rightTo x n = true) = true then ofN p q xs n q.length else (iv0, 1)) = r
      have hno : ∀ i, i < xs.length → rightTo (xs.getD i []) n = false → r = (iv0, 1) := fun i hi h => by rw [← hr, all_no hi h]; rfl
      have hyes : (∀ i, i < xs.length → rightTo (xs.getD i []) n = true) → ofN p q xs n q.length = r := fun h => by rw [← hr, all_yes h]; rfl
      clear hr
      unfold LL MM at *
      have d1 := @dl 16 qT7_9_16
      refine PB (rs := [.cell 8 32, .tmp 9]) Tryd.func9 ?_
      repeat (first | with_reducible refine pv_seq fun K hK => ?_ | ((with_reducible first | refine hK _ _ ?_ | (clear hK; refine hK _ _ ?_) | (clear hK; clear hK; refine hK _ _ ?_)); clear hK; try clear K) | refine W ?_ | exact Z | with_reducible intro b)
      have J : ∀ (e : DEnv) (S : Store) (b8 : Nat), ofN p q xs n q.length = r → e 0 = .g (eS eM q) → e 1 = .g (eS eL xs) → e 2 = i64 n → e 3 = i64 p → e 8 = .ptr (.l 8) b8 0 0 6 → S (.l 8) = some ⟨b8, 6, 0, [z6]⟩ → K e S := by
        intro e S b8 hr g0 g1 g2 g3 g8 s8
        clear hno hyes
        have ft := And.intro g0 (And.intro g1 (And.intro g2 (And.intro g3 (And.intro g8 s8))))
        repeat (first | with_reducible refine pv_stop 9 ?_ | with_reducible refine pv_seq fun K hK => ?_ | ((with_reducible first | refine hK _ _ ?_ | (clear hK; refine hK _ _ ?_) | (clear hK; clear hK; refine hK _ _ ?_)); clear hK; try clear K) | refine W ?_ | exact Z | with_reducible intro b)
        refine ⟨fun K q0 hC => ?_⟩
        repeat (first | with_reducible refine pv_seq fun K hK => ?_ | ((with_reducible first | refine hK _ _ ?_ | (clear hK; refine hK _ _ ?_) | (clear hK; clear hK; refine hK _ _ ?_)); clear hK; try clear K) | refine W0 ?_ | exact Z | with_reducible intro b)
        refine hC _ _ (Recast.z6 (k := .l 12) rfl ?_)
        refine q0 _ _ ?_
        clear hC q0
        repeat (first | with_reducible refine pv_seq fun K hK => ?_ | ((with_reducible first | refine hK _ _ ?_ | (clear hK; refine hK _ _ ?_) | (clear hK; clear hK; refine hK _ _ ?_)); clear hK; try clear K) | refine W0 ?_ | exact Z | with_reducible intro b)
        have J2 : ∀ (e : DEnv) (S : Store) (b12 : Nat), r.2 = 0 → e 8 = .ptr (.l 8) b8 0 0 6 → e 12 = .ptr (.l 12) b12 0 0 6 → S (.l 8) = some ⟨b8, 6, 0, [z6]⟩ → S (.l 12) = some ⟨b12, 6, 0, [cI r.1]⟩ → K e S := by
          intro e S b12 h0 g8 g12 s8 s12
          obtain ⟨⟨⟨n1, e1, w1⟩, ⟨n2, e2, w2⟩⟩, er⟩ := r
          simp only at h0
          subst h0
          unfold cI at s12
          unfold z6 at s8
          have ft := And.intro g8 (And.intro g12 (And.intro s8 s12))
          exact Wk
        clear hK
        obtain ⟨I, mk, el⟩ := hide fun e S => ∃ (i b12 : Nat), i ≤ q.length ∧ e 1 = .g (eS eL xs) ∧ e 2 = i64 n ∧ e 3 = i64 p ∧ e 8 = .ptr (.l 8) b8 0 0 6 ∧ e 12 = .ptr (.l 12) b12 0 0 6 ∧ e 41 = .g (eS eM q) ∧ e 42 = i64 q.length ∧ e 43 = i64 i ∧ (ofN p q xs n i).2 = 0 ∧ S (.l 8) = some ⟨b8, 6, 0, [z6]⟩ ∧ S (.l 12) = some ⟨b12, 6, 0, [cI (ofN p q xs n i).1]⟩
        refine pv_loop I (fun e _ => q.length - (intD (e 43)).toNat) ?_ ?_
        · exact mk _ _ ⟨0, _, Nat.zero_le _, Zr, Zr, Zr, Zr, Zr, Zr, Zr, Zr, rfl, by simp only [updS_apply]; exact s8, by simp only [updS_apply]; rfl⟩
        · intro e S hI
          obtain ⟨i, b12, hi, g1, g2, g3, g8, g12, g41, g42, g43, he, s8, s12⟩ := el e S hI
          clear el
          have ft := And.intro g1 (And.intro g2 (And.intro g3 (And.intro g8 (And.intro g12 (And.intro g41 (And.intro g42 g43))))))
          repeat (first | with_reducible refine pv_seq fun K hK => ?_ | ((with_reducible first | refine hK _ _ ?_ | (clear hK; refine hK _ _ ?_) | (clear hK; clear hK; refine hK _ _ ?_)); clear hK; try clear K) | refine W0 ?_ | exact Z | with_reducible intro b)
          refine pv_cdD (fun ht => ?_) (fun ht => ?_)
          · have hil : i < q.length := by omega
            have q1 := gM_at hil
            have wm := hq.at_ hil
            have pO := p_sOver (k := n) (p := p) wm hx (by have := (hlen i hil).1; omega) (hlen i hil).2 (by omega)
            have hok := overR_ok (p := p) (xs := xs) (k := n) wm.c
            have hs := ofN_succ he
            have hst : (ofN p q xs n (i + 1)).2 ≠ 0 → r = ofN p q xs n (i + 1) := fun h => by rw [← hr]; exact ofN_stuck h (by omega)
            have he1 := ofN_err (p := p) (q := q) (xs := xs) (k := n) (i + 1)
            have w0 := ofN_wi (p := p) (q := q) (xs := xs) (k := n) i
            have hgoal : ∀ (e : DEnv) (S : Store), e 1 = .g (eS eL xs) → e 2 = i64 n → e 3 = i64 p → e 8 = .ptr (.l 8) b8 0 0 6 → e 12 = .ptr (.l 12) b12 0 0 6 → e 41 = .g (eS eM q) → e 42 = i64 q.length → e 43 = i64 ((i + 1 : Nat) : Int) → (ofN p q xs n (i + 1)).2 = 0 → S (.l 8) = some ⟨b8, 6, 0, [z6]⟩ → S (.l 12) = some ⟨b12, 6, 0, [cI (ofN p q xs n (i + 1)).1]⟩ → I e S :=
              fun e S a1 a2 a3 a4 a5 a6 a7 a8 a9 a10 a11 => mk _ _ ⟨i + 1, b12, by omega, a1, a2, a3, a4, a5, a6, a7, a8, a9, a10, a11⟩
            unfold LE LL at pO
            clear hr J2 hlen hq wm
            generalize ofN p q xs n (i + 1) = t1 at *
            generalize ofN p q xs n i = t0 at *
            generalize gM q i = m at *
            obtain ⟨⟨nm, em, wm⟩, zm⟩ := m
            generalize overR p xs n ⟨⟨nm, em, wm⟩, zm⟩ = s at *
            obtain ⟨l, es⟩ := s
            obtain ⟨t0, e0⟩ := t0
            simp only at hs
            by_cases h0 : es = 0
            · subst h0
              rw [if_pos rfl] at hs
              have hl := hok.len rfl
              simp only at hl
              have hnl : n < l.length := by omega
              have q2 := gI_at (l := l) (i := n) (by omega)
              have pA := p_iAdd (p := p) w0 (hok.wi _ (gI_mem (i := n) (by simp only; omega)))
              change PC _ _ _ fun d => d = IE (addI p t0 (gI l n)) at pA
              rw [← hs] at pA
              generalize gI l n = x at *
              clear hs hok
              obtain ⟨⟨n1, e1, w1⟩, ⟨n2, e2, w2⟩⟩ := x
              obtain ⟨⟨⟨n3, e3, w3⟩, ⟨n4, e4, w4⟩⟩, et⟩ := t1
              obtain ⟨⟨n5, e5, w5⟩, ⟨n6, e6, w6⟩⟩ := t0
              unfold cI at *
              simp only at s12 hgoal hst he1
              by_cases h1 : et = 0
              · subst h1
                have ft := And.intro g1 (And.intro g2 (And.intro g3 (And.intro g8 (And.intro g12 (And.intro g41 (And.intro g42 (And.intro g43 (And.intro q1 (And.intro q2 s12)))))))))
                repeat (first | with_reducible refine pv_seq fun K hK => ?_ | ((with_reducible first | refine hK _ _ ?_ | (clear hK; refine hK _ _ ?_) | (clear hK; clear hK; refine hK _ _ ?_)); clear hK; try clear K) | refine W ?_ | exact Z | with_reducible intro b)
                exact ⟨hgoal _ _ Zr Zr Zr Zr Zr Zr Zr Zr rfl (by simp only [updS_apply]; exact s8) Zr, by simp only [intD]; omega⟩
              · have k1 := eq_false h1
                have hr1 := hst h1
                have hr2 := he1 h1
                subst hr1
                unfold iv0 nu0 at hr2
                injection hr2 with z1 z2
                injection z1 with z3 z4 z5
                injection z2 with z6 z7 z8
                subst z3; subst z4; subst z5; subst z6; subst z7; subst z8
                unfold V.z6 at s8
                have ft := And.intro g1 (And.intro g2 (And.intro g3 (And.intro g8 (And.intro g12 (And.intro g41 (And.intro g42 (And.intro g43 (And.intro q1 (And.intro q2 (And.intro s12 (And.intro s8 k1)))))))))))
                exact Wk
            · rw [if_neg h0] at hs
              subst hs
              have k1 := eq_false h0
              have hr1 := hst h0
              subst hr1
              unfold z6 at s8
              unfold iv0 nu0 at *
              have ft := And.intro g1 (And.intro g2 (And.intro g3 (And.intro g8 (And.intro g12 (And.intro g41 (And.intro g42 (And.intro g43 (And.intro q1 (And.intro s12 (And.intro s8 k1))))))))))
              exact Wk
          · obtain rfl : i = q.length := by omega
            rw [hr] at he s12
            repeat (first | with_reducible refine pv_seq fun K hK => ?_ | ((with_reducible first | refine hK _ _ ?_ | (clear hK; refine hK _ _ ?_) | (clear hK; clear hK; refine hK _ _ ?_)); clear hK; try clear K) | refine W0 ?_ | exact Z | with_reducible intro b)
            exact J2 _ _ b12 he g8 Zr s8 s12
      clear hK
      refine pv_loop (fun e S => Hid (∃ (i b8 : Nat), i ≤ xs.length ∧ e 0 = .g (eS eM q) ∧ e 1 = .g (eS eL xs) ∧ e 2 = i64 n ∧ e 3 = i64 p ∧ e 8 = .ptr (.l 8) b8 0 0 6 ∧ e 29 = .g (eS eL xs) ∧ e 30 = i64 xs.length ∧ e 31 = i64 i ∧ (∀ j, j < i → rightTo (xs.getD j []) n = true) ∧ S (.l 8) = some ⟨b8, 6, 0, [z6]⟩)) (fun e _ => xs.length - (intD (e 31)).toNat) ?_ ?_
      · exact ⟨0, _, Nat.zero_le _, Zr, Zr, Zr, Zr, Zr, Zr, Zr, Zr, fun j hj => by omega, by simp only [updS_apply]; rfl⟩
      · rintro e S ⟨i, b8, hi, g0, g1, g2, g3, g8, g29, g30, g31, hz, s8⟩
        have ft := And.intro g0 (And.intro g1 (And.intro g2 (And.intro g3 (And.intro g8 (And.intro g29 (And.intro g30 g31))))))
        repeat (first | with_reducible refine pv_seq fun K hK => ?_ | ((with_reducible first | refine hK _ _ ?_ | (clear hK; refine hK _ _ ?_) | (clear hK; clear hK; refine hK _ _ ?_)); clear hK; try clear K) | refine W0 ?_ | exact Z | with_reducible intro b)
        refine pv_cdD (fun ht => ?_) (fun ht => ?_)
        · have hil : i < xs.length := by omega
          have q1 := xget hil
          have pT := p_sRight (k := n) (hx.at_ hil) (by omega)
          have hno := hno i hil
          have hz2 : rightTo (xs.getD i []) n = true → ∀ j, j < i + 1 → rightTo (xs.getD j []) n = true := fun h j hj => by
            rcases Nat.lt_or_ge j i with h1 | h1
            · exact hz j h1
            · obtain rfl : j = i := by omega
              exact h
          generalize rightTo (xs.getD i []) n = t at *
          generalize xs.getD i [] = l at *
          unfold II at pT
          cases t
          · have h := hno rfl
            subst h
            unfold iv0 nu0 at *
            unfold z6 at s8
            have ft := And.intro g0 (And.intro g1 (And.intro g2 (And.intro g3 (And.intro g8 (And.intro g29 (And.intro g30 (And.intro g31 (And.intro q1 s8))))))))
            exact Wk
          · have ft := And.intro g0 (And.intro g1 (And.intro g2 (And.intro g3 (And.intro g8 (And.intro g29 (And.intro g30 (And.intro g31 q1)))))))
            repeat (first | with_reducible refine pv_seq fun K hK => ?_ | ((with_reducible first | refine hK _ _ ?_ | (clear hK; refine hK _ _ ?_) | (clear hK; clear hK; refine hK _ _ ?_)); clear hK; try clear K) | refine W ?_ | exact Z | with_reducible intro b)
            exact ⟨⟨i + 1, b8, by omega, Zr, Zr, Zr, Zr, Zr, Zr, Zr, Zr, hz2 rfl, s8⟩, by simp only [intD]; omega⟩
        · obtain rfl : i = xs.length := by omega
          repeat (first | with_reducible refine pv_seq fun K hK => ?_ | ((with_reducible first | refine hK _ _ ?_ | (clear hK; refine hK _ _ ?_) | (clear hK; clear hK; refine hK _ _ ?_)); clear hK; try clear K) | refine W0 ?_ | exact Z | with_reducible intro b)
          exact J _ _ b8 (hyes hz) Zr Zr Zr Zr Zr s8
  · rw [Bool.not_eq_true] at hv
    rw [hv] at pV
    have : (okK k && polyB q (xs.length : Int) && okP p && decide (∀ x ∈ xs, rightTo x k.toNat = true)) = false := by
      rw [Bool.and_eq_false_iff] at hv
      rcases hv with h | h
      · rw [h]; rfl
      · rw [h, Bool.and_false]; rfl
    rw [this]
    unfold LL MM iv0 nu0 at *
    have d1 := @dl 16 qT7_9_16
    refine PB (rs := [.cell 8 32, .tmp 9]) Tryd.func9 ?_
    exact Wk
end Go.V
namespace Go.V
open Go Go.RowKit Go.Proofs

/-- An interval of small numbers. -/
def SmV (k q : Nat) (a : Iv) : Prop := ∃ x y, a = ivD x y ∧ Sm k q x ∧ Sm k q y ∧ x ≤ y
theorem SmV.mono {k q m : Nat} {a : Iv} (h : SmV k q a) (hm : k ≤ m) : SmV m q a := by
  obtain ⟨x, y, rfl, hx, hy, h⟩ := h
  exact ⟨x, y, rfl, hx.mono hm, hy.mono hm, h⟩
theorem SmV.zero {k q : Nat} : SmV k q iv0 := ⟨0, 0, by unfold ivD; rw [nuOf_zero]; rfl, Sm.zero, Sm.zero, by grind⟩
def addV (p : Nat) (a b : Iv) : Iv := ivD (rd p false (a.lo.val + b.lo.val)) (rd p true (a.hi.val + b.hi.val))
def mulV (p : Nat) (a b : Iv) : Iv := ivD (rd p false (minP a.lo.val a.hi.val b.lo.val b.hi.val)) (rd p true (maxP a.lo.val a.hi.val b.lo.val b.hi.val))

theorem rd_le_rd {p : Nat} {l h : Dyadic} (hl : l ≤ h) : rd p false l ≤ rd p true h := Dyadic.le_trans (dn_le p l) (Dyadic.le_trans hl (le_up p h))
theorem minP_le_maxP {x y u v : Dyadic} (h : x ≤ y) (k : u ≤ v) : minP x y u v ≤ maxP x y u v := by
  have := prod_in (x := x) (y := y) (u := u) (v := v) (a := x) (b := u) (by grind) h (by grind) k
  exact Dyadic.le_trans this.1 this.2
theorem addV_sm {p k q : Nat} {a b : Iv} (ha : SmV k q a) (hb : SmV k q b) (h8 : 8 ≤ p) (h256 : p ≤ 256) (hk : k ≤ 1500) (hq : q ≤ 1500) : addI p a b = (addV p a b, 0) ∧ SmV (k + 2) q (addV p a b) := by
  obtain ⟨x, y, rfl, hx, hy, hxy⟩ := ha
  obtain ⟨u, v, rfl, hu, hv, huv⟩ := hb
  have ok : ∀ {d : Dyadic}, Sm k q d → OkD d := fun h => (h.bx).ok (by omega) (by omega)
  unfold addI addV
  rw [ivD_l, ivD_h, ivD_l, ivD_h]
  refine ⟨opI_ok (ok hx) (ok hy) (ok hu) (ok hv) hxy huv h8 h256 ((hx.add hu).rdOk (by omega) (by omega) h8 h256) ((hy.add hv).rdOk (by omega) (by omega) h8 h256), _, _, rfl, (hx.add hu).rd, (hy.add hv).rd, rd_le_rd (by grind)⟩
theorem mulV_sm {p k q m r : Nat} {a b : Iv} (ha : SmV k q a) (hb : SmV m r b) (h8 : 8 ≤ p) (h256 : p ≤ 256) (hk : k + m ≤ 1500) (hq : q + r ≤ 1500) : mulI p a b = (mulV p a b, 0) ∧ SmV (k + m + 1) (q + r) (mulV p a b) := by
  obtain ⟨x, y, rfl, hx, hy, hxy⟩ := ha
  obtain ⟨u, v, rfl, hu, hv, huv⟩ := hb
  have ok : ∀ {d : Dyadic}, Sm k q d → OkD d := fun h => (h.bx).ok (by omega) (by omega)
  have ok2 : ∀ {d : Dyadic}, Sm m r d → OkD d := fun h => (h.bx).ok (by omega) (by omega)
  unfold mulI mulV
  rw [ivD_l, ivD_h, ivD_l, ivD_h]
  have sl := minP_sm hx hy hu hv
  have sh := maxP_sm hx hy hu hv
  refine ⟨opI_ok (ok hx) (ok hy) (ok2 hu) (ok2 hv) hxy huv h8 h256 (sl.rdOk (by omega) (by omega) h8 h256) (sh.rdOk (by omega) (by omega) h8 h256), _, _, rfl, sl.rd, sh.rd, rd_le_rd (minP_le_maxP hxy huv)⟩
/-! ### Coefficients of products -/
def coefV (p : Nat) (a b : List Iv) (k : Nat) : Nat → Iv
  | 0 => iv0
  | i + 1 => if i = 0 then mulV p (gI a i) (gI b (k - i)) else addV p (coefV p a b k i) (mulV p (gI a i) (gI b (k - i)))
def SmL (k q n : Nat) (l : List Iv) : Prop := ∀ i, i < n → SmV k q (gI l i)
theorem coefV_is {p k q m r n : Nat} {a b : List Iv} (ha : SmL k q (n + 1) a) (hb : SmL m r (n + 1) b) (h8 : 8 ≤ p) (h256 : p ≤ 256) (hk : k + m + 2 * n ≤ 1400) (hq : q + r ≤ 1400) :
    ∀ i, i ≤ n + 1 → coefN p a b n i = (coefV p a b n i, 0) ∧ SmV (k + m + 1 + 2 * i) (q + r) (coefV p a b n i)
  | 0 => fun _ => ⟨rfl, SmV.zero⟩
  | i + 1 => fun hi => by
    obtain ⟨e, s⟩ := coefV_is ha hb h8 h256 hk hq i (by omega)
    obtain ⟨e1, s1⟩ := mulV_sm (ha i (by omega)) (hb (n - i) (by omega)) h8 h256 (by omega) (by omega)
    unfold coefN coefV
    rw [e, e1]
    by_cases h0 : i = 0
    · rw [if_pos rfl, if_pos rfl, if_pos h0, if_pos h0]
      exact ⟨rfl, s1.mono (by omega)⟩
    · rw [if_pos rfl, if_pos rfl, if_neg h0, if_neg h0]
      obtain ⟨e2, s2⟩ := addV_sm s (s1.mono (show k + m + 1 ≤ k + m + 1 + 2 * i by omega)) h8 h256 (by omega) (by omega)
      exact ⟨e2, s2.mono (by omega)⟩
/-- Sums of exact values. -/
def sumD (f : Nat → Dyadic) : Nat → Dyadic
  | 0 => 0
  | n + 1 => sumD f n + f n
theorem sumD_congr {f g : Nat → Dyadic} : ∀ n, (∀ i, i < n → f i = g i) → sumD f n = sumD g n
  | 0 => fun _ => rfl
  | n + 1 => fun h => by
    show sumD f n + f n = sumD g n + g n
    rw [sumD_congr n (fun i hi => h i (by omega)), h n (by omega)]
/-! ### Sums -/
end Go.V
namespace Go.V
open Go Go.RowKit Go.Proofs
def qT10_12_5 : PT := (.lin [(0, 0), (1, 0), (2, 0), (3, 0), (4, 0), (5, 2), (6, 0), (7, 0), (8, 0), (9, 0), (10, 0), (11, 2)] (.fork 12 3 (.lin [(13, 0), (14, 0), (15, 0), (16, 4), (17, 3), (18, 0)] .nil) 16 4 (.lin [(12, 3), (13, 0), (14, 0), (15, 0), (17, 3), (18, 0)] .nil)))
def qT10_12_9 : List (Nat × Nat) := [(0, 0), (1, 1), (2, 0), (3, 0), (4, 0), (5, 1), (6, 3), (7, 0), (8, 0), (9, 0), (10, 3), (11, 0)]
attribute [go_sem] qT10_12_5 qT10_12_9
def plusR (p : Int) (v h x : Iv) : Iv × Int := if (mulI p v h).2 = 0 then addI p (mulI p v h).1 x else mulI p v h
theorem sumN_succ {p : Int} {a : List Iv} {h : Iv} {i : Nat} (he : (sumN p a h i).2 = 0) : sumN p a h (i + 1) = plusR p (sumN p a h i).1 h (gI a (a.length - 2 - i)) := by
  conv => lhs; unfold sumN
  rw [if_pos he]; rfl
set_option maxHeartbeats 1000000 in
theorem p_Sum1 {S : Store} {Q : D → Store → Prop} {k1 k2 : Nm} {b1 b2 : Nat} {v x h : Iv} {p : Int} (h1 : S k1 = some ⟨b1, 6, 0, [cI h]⟩) (h2 : S k2 = some ⟨b2, 1, 0, [[i64 p]]⟩) (hv : Wi 65536 v) (hx : Wi 65536 x) (hh : Wi 65536 h)
    (hQ : Q (IE (plusR p v h x)) S) : PFC Tryd.prog 28 [IV v, IV x, .ptr k1 b1 0 0 6, .ptr k2 b2 0 0 1] S Q := by
  have pM : PC Tryd.prog 25 [IV v, IV h, i64 p] fun d => d = IE (mulI p v h) := p_iMul hv hh
  have pA : PC Tryd.prog 22 [IV (mulI p v h).1, IV x, i64 p] fun d => d = IE (addI p (mulI p v h).1 x) := p_iAdd opI_wi hx
  have he : (mulI p v h).2 ≠ 0 → (mulI p v h).1 = iv0 := opI_err
  unfold plusR at hQ
  generalize mulI p v h = m at *
  obtain ⟨⟨⟨n1, e1, w1⟩, ⟨n2, e2, w2⟩⟩, em⟩ := m
  obtain ⟨⟨n3, e3, w3⟩, ⟨n4, e4, w4⟩⟩ := v
  obtain ⟨⟨n5, e5, w5⟩, ⟨n6, e6, w6⟩⟩ := x
  obtain ⟨⟨n7, e7, w7⟩, ⟨n8, e8, w8⟩⟩ := h
  unfold cI at h1
  simp only at *
  by_cases h0 : em = 0
  · subst h0
    rw [if_pos rfl] at hQ
    generalize addI p _ _ = q at *
    obtain ⟨⟨⟨n9, e9, w9⟩, ⟨n10, e10, w10⟩⟩, eq⟩ := q
    refine PFB (rs := [.cell 6 32, .tmp 7]) Tryd.func28 ?_
    have ft := And.intro h1 h2
    repeat (first | with_reducible refine pv_seq fun K hK => ?_ | ((with_reducible first | refine hK _ _ ?_ | (clear hK; refine hK _ _ ?_) | (clear hK; clear hK; refine hK _ _ ?_)); clear hK; try clear K) | refine W ?_ | exact Z | with_reducible intro b)
    exact hQ
  · rw [if_neg h0] at hQ
    have k1 := eq_false h0
    have h3 := he h0
    rw [h3] at hQ
    unfold iv0 nu0 at hQ
    refine PFB (rs := [.cell 6 32, .tmp 7]) Tryd.func28 ?_
    have ft := And.intro h1 (And.intro h2 k1)
    repeat (first | with_reducible refine pv_seq fun K hK => ?_ | ((with_reducible first | refine hK _ _ ?_ | (clear hK; refine hK _ _ ?_) | (clear hK; clear hK; refine hK _ _ ?_)); clear hK; try clear K) | refine W ?_ | exact Z | with_reducible intro b)
    exact hQ

theorem sumR_no {p : Int} {a : List Iv} {h : Iv} (hc : ¬ (1 ≤ a.length ∧ a.length ≤ 11)) : sumR p a h = (iv0, 1) := by
  unfold sumR
  by_cases h1 : 1 ≤ a.length
  · rw [decide_eq_false (p := a.length ≤ 11) (fun h2 => hc ⟨h1, h2⟩), Bool.and_false]; rfl
  · rw [decide_eq_false h1]; rfl
/-- What stays in sight in the loop. -/
structure Sum14 (a : List Iv) (h : Iv) (p : Int) (b4 b5 b6 b10 : Nat) (y z : List D) (e : DEnv) (S : Store) : Prop where
  g0 : e 0 = .g (eS eI a)
  g6 : e 6 = .ptr (.l 6) b6 0 0 6
  g9 : e 9 = .fn 28 [] [.ptr (.l 4) b4 0 0 6, .ptr (.l 5) b5 0 0 1]
  g10 : e 10 = .ptr (.l 10) b10 0 0 6
  s4 : S (.l 4) = some ⟨b4, 6, 0, [cI h]⟩
  s5 : S (.l 5) = some ⟨b5, 1, 0, [[i64 p]]⟩
  s6 : S (.l 6) = some ⟨b6, 6, 0, [y]⟩
  s10 : S (.l 10) = some ⟨b10, 6, 0, [z]⟩
set_option maxHeartbeats 4000000 in
theorem p_sSum {a : List Iv} {h : Iv} {p : Int} (ha : WfL a) (hh : Wi 65536 h) : PC Tryd.prog 12 [II a, IV h, i64 p] fun d => d = IE (sumR p a h) := by
  by_cases hc : 1 ≤ a.length ∧ a.length ≤ 11
  · obtain ⟨hc1, hc2⟩ := hc
    obtain ⟨n, hn⟩ : ∃ n, a.length = n + 1 := ⟨a.length - 1, by omega⟩
    have k1 : ((a.length : Int) < 1) = False := eq_false (by omega)
    have k2 : ((11 : Int) < (a.length : Int)) = False := eq_false (by omega)
    have k3 : ((a.length : Int) - 1) = (n : Int) := by omega
    have pR := p_sRight (k := n) ha (by omega)
    have pH := p_iRight hh
    have pV := p_Valid (p := p)
    unfold sumR
    rw [decide_eq_true hc1, decide_eq_true hc2, Bool.true_and, Bool.true_and, show a.length - 1 = n by omega]
    have hrt : rightTo a n = true → rightI (gI a n) = true := fun h => by
      unfold rightTo at h
      rw [Bool.and_eq_true, decide_eq_true_eq, decide_eq_true_eq] at h
      exact h.2 n (by omega)
    have wan := ha.at_ n
    generalize rightTo a n = r1 at *
    generalize rightI h = r2 at *
    generalize okP p = r3 at *
    have hgi := gI_at (l := a) (i := n) (by omega)
    have h0 : sumN p a h 0 = (gI a n, 0) := by
      unfold sumN; rw [hn]; rfl
    generalize hr : sumN p a h n = r at *
    obtain ⟨⟨n7, e7, w7⟩, ⟨n8, e8, w8⟩⟩ := h
    unfold II at *
    cases r1
    · unfold iv0 nu0 at *
      have d1 := @dr 5 qT10_12_5
      have d2 := @dl 9 qT10_12_9
      refine PB (rs := [.cell 6 32, .tmp 7]) Tryd.func12 ?_
      have ft := And.intro k1 (And.intro k2 k3)
      exact Wk
    · cases r2
      · unfold iv0 nu0 at *
        have d1 := @dr 5 qT10_12_5
        have d2 := @dl 9 qT10_12_9
        refine PB (rs := [.cell 6 32, .tmp 7]) Tryd.func12 ?_
        have ft := And.intro k1 (And.intro k2 k3)
        exact Wk
      · cases r3
        · unfold iv0 nu0 at *
          have d1 := @dr 5 qT10_12_5
          have d2 := @dl 9 qT10_12_9
          refine PB (rs := [.cell 6 32, .tmp 7]) Tryd.func12 ?_
          have ft := And.intro k1 (And.intro k2 k3)
          exact Wk
        · have pM := p_MakeI (x := (gI a n).lo) (y := (gI a n).hi) wan (by decide)
          have hri := hrt rfl
          unfold makeR at pM
          rw [show (⟨(gI a n).lo, (gI a n).hi⟩ : Iv) = gI a n from rfl, hri, if_pos rfl] at pM
          rw [Bool.and_self, Bool.and_self, if_pos rfl]
          clear hrt hri
          generalize hgn : gI a n = ga at *
          obtain ⟨⟨n1, e1, w1⟩, ⟨n2, e2, w2⟩⟩ := ga
          simp only at pM
          have kt : (n : Int).toNat = n := by omega
          have d1 := @dr 5 qT10_12_5
          have d2 := @dl 9 qT10_12_9
          refine PB (rs := [.cell 6 32, .tmp 7]) Tryd.func12 ?_
          have ft := And.intro k1 (And.intro k2 (And.intro k3 (And.intro hgi kt)))
          repeat (first | with_reducible refine pv_stop 5 ?_ | with_reducible refine pv_seq fun K hK => ?_ | ((with_reducible first | refine hK _ _ ?_ | (clear hK; refine hK _ _ ?_) | (clear hK; clear hK; refine hK _ _ ?_)); clear hK; try clear K) | refine W ?_ | exact Z | with_reducible intro b)
          refine ⟨fun K q0 hC => ?_⟩
          have J : ∀ (e : DEnv) (S : Store) (b4 b5 b6 b10 : Nat), e 8 = i64 a.length → e 11 = i64 0 → Sum14 a ⟨⟨n7, e7, w7⟩, ⟨n8, e8, w8⟩⟩ p b4 b5 b6 b10 [bl false, i64 0, .nil, bl false, i64 0, .nil] (cI ⟨⟨n1, e1, w1⟩, ⟨n2, e2, w2⟩⟩) e S → K e S := by
            intro e S b4 b5 b6 b10 g8 g11 ⟨g0, g6, g9, g10, s4, s5, s6, s10⟩
            refine q0 _ _ ?_
            clear q0 hC
            have k4 : ((a.length : Int) - 2) = (n : Int) - 1 := by omega
            have ft := And.intro g0 (And.intro g6 (And.intro g8 (And.intro g9 (And.intro g10 (And.intro g11 k4)))))
            repeat (first | with_reducible refine pv_seq fun K hK => ?_ | ((with_reducible first | refine hK _ _ ?_ | (clear hK; refine hK _ _ ?_) | (clear hK; clear hK; refine hK _ _ ?_)); clear hK; try clear K) | refine W0 ?_ | exact Z | with_reducible intro b)
            have J2 : ∀ (e : DEnv) (S : Store) (b4 b5 b6 b10 : Nat), r.2 = 0 → e 11 = i64 0 → Sum14 a ⟨⟨n7, e7, w7⟩, ⟨n8, e8, w8⟩⟩ p b4 b5 b6 b10 [bl false, i64 0, .nil, bl false, i64 0, .nil] (cI r.1) e S → K e S := by
              intro e S b4 b5 b6 b10 h0 g11 ⟨g0, g6, g9, g10, s4, s5, s6, s10⟩
              obtain ⟨⟨⟨n3, e3, w3⟩, ⟨n4, e4, w4⟩⟩, er⟩ := r
              simp only at h0
              subst h0
              unfold cI at s10
              have ft := And.intro g6 (And.intro g10 (And.intro g11 (And.intro s6 s10)))
              exact Wk
            have J3 : ∀ (e : DEnv) (S : Store) (b4 b5 b6 b10 : Nat) (z : List D), r.2 ≠ 0 → r.1 = iv0 → e 11 = i64 r.2 → Sum14 a ⟨⟨n7, e7, w7⟩, ⟨n8, e8, w8⟩⟩ p b4 b5 b6 b10 [bl false, i64 0, .nil, bl false, i64 0, .nil] z e S → K e S := by
              intro e S b4 b5 b6 b10 z h0 h1 g11 ⟨g0, g6, g9, g10, s4, s5, s6, s10⟩
              obtain ⟨r, er⟩ := r
              simp only at h0 h1 g11
              have k5 := eq_false h0
              subst h1
              unfold iv0 nu0 at *
              have ft := And.intro g6 (And.intro g10 (And.intro g11 (And.intro s6 k5)))
              exact Wk
            clear hK
            obtain ⟨I, mk, el⟩ := hide fun e S => ∃ (i : Nat) (z : List D), i ≤ n ∧ e 12 = i64 ((n : Int) - 1 - i) ∧ e 11 = i64 (sumN p a ⟨⟨n7, e7, w7⟩, ⟨n8, e8, w8⟩⟩ i).2 ∧ z.length = 6 ∧ ((sumN p a ⟨⟨n7, e7, w7⟩, ⟨n8, e8, w8⟩⟩ i).2 = 0 → z = cI (sumN p a ⟨⟨n7, e7, w7⟩, ⟨n8, e8, w8⟩⟩ i).1) ∧ Sum14 a ⟨⟨n7, e7, w7⟩, ⟨n8, e8, w8⟩⟩ p b4 b5 b6 b10 [bl false, i64 0, .nil, bl false, i64 0, .nil] z e S
            refine pv_loop I (fun e _ => (intD (e 12) + 1).toNat) ?_ ?_
            · exact mk _ _ ⟨0, _, Nat.zero_le _, by rw [show (n : Int) - 1 - ((0 : Nat) : Int) = (n : Int) - 1 by omega]; exact Zr, by rw [h0]; exact Zr, rfl, fun _ => by rw [h0], Zr, Zr, Zr, Zr, s4, s5, s6, s10⟩
            · intro e S hI
              obtain ⟨i, z, hi, g12, g11, hz, hzi, ⟨g0, g6, g9, g10, s4, s5, s6, s10⟩⟩ := el e S hI
              clear el hI
              have hm0 : intD (e 12) = (n : Int) - 1 - i := by rw [g12]; rfl
              have hst : (sumN p a ⟨⟨n7, e7, w7⟩, ⟨n8, e8, w8⟩⟩ i).2 ≠ 0 → r = sumN p a ⟨⟨n7, e7, w7⟩, ⟨n8, e8, w8⟩⟩ i := fun h => by rw [← hr]; exact sumN_stuck h hi
              have her := sumN_err (p := p) (a := a) (h := ⟨⟨n7, e7, w7⟩, ⟨n8, e8, w8⟩⟩) i
              by_cases he : (sumN p a ⟨⟨n7, e7, w7⟩, ⟨n8, e8, w8⟩⟩ i).2 = 0
              · have hzc := hzi he
                rw [he] at g11
                by_cases hin : i < n
                · have k5 : (0 ≤ (n : Int) - 1 - (i : Int)) = True := eq_true (by omega)
                  have k6 : ((n : Int) - 1 - (i : Int)).toNat = a.length - 2 - i := by omega
                  have k7 : ((n : Int) - 1 - (i : Int) < (a.length : Int)) = True := eq_true (by omega)
                  have q1 := gI_at (l := a) (i := a.length - 2 - i) (by omega)
                  have hs := sumN_succ he
                  have w0 := sumN_wi (p := p) (h := ⟨⟨n7, e7, w7⟩, ⟨n8, e8, w8⟩⟩) ha.w i
                  have wx := ha.at_ (a.length - 2 - i)
                  have mk2 : ∀ (e : DEnv) (S : Store) (z : List D), e 12 = i64 ((n : Int) - 1 - (i + 1 : Nat)) → e 11 = i64 (sumN p a ⟨⟨n7, e7, w7⟩, ⟨n8, e8, w8⟩⟩ (i + 1)).2 → z.length = 6 → ((sumN p a ⟨⟨n7, e7, w7⟩, ⟨n8, e8, w8⟩⟩ (i + 1)).2 = 0 → z = cI (sumN p a ⟨⟨n7, e7, w7⟩, ⟨n8, e8, w8⟩⟩ (i + 1)).1) → Sum14 a ⟨⟨n7, e7, w7⟩, ⟨n8, e8, w8⟩⟩ p b4 b5 b6 b10 [bl false, i64 0, .nil, bl false, i64 0, .nil] z e S → I e S := fun e S z a1 a2 a3 a4 a5 => mk e S ⟨i + 1, z, by omega, a1, a2, a3, a4, a5⟩
                  clear hst her hzi mk J2 J3 hr h0
                  generalize sumN p a ⟨⟨n7, e7, w7⟩, ⟨n8, e8, w8⟩⟩ (i + 1) = t1 at *
                  generalize sumN p a ⟨⟨n7, e7, w7⟩, ⟨n8, e8, w8⟩⟩ i = t0 at *
                  generalize gI a (a.length - 2 - i) = x at *
                  obtain ⟨t0, e0⟩ := t0
                  simp only at he hs w0 hzc
                  subst hzc
                  have hk9 : (n : Int) - 1 - (i : Int) - 1 = (n : Int) - 1 - ((i + 1 : Nat) : Int) := by omega
                  have hps : PFC Tryd.prog 28 [IV t0, IV x, .ptr (.l 4) b4 0 0 6, .ptr (.l 5) b5 0 0 1] = PFC Tryd.prog 28 [IV t0, IV x, .ptr (.l 4) b4 0 0 6, .ptr (.l 5) b5 0 0 1] := rfl
                  have hpl := fun (S : Store) (Q : D → Store → Prop) a1 a2 a3 => p_Sum1 (S := S) (Q := Q) (k1 := .l 4) (k2 := .l 5) (b1 := b4) (b2 := b5) (v := t0) (x := x) (h := ⟨⟨n7, e7, w7⟩, ⟨n8, e8, w8⟩⟩) (p := p) a1 a2 w0 wx hh a3
                  rw [← hs] at hpl
                  clear hs w0 wx
                  obtain ⟨⟨⟨n3, e3, w3⟩, ⟨n4, e4, w4⟩⟩, e1'⟩ := t1
                  obtain ⟨⟨n5, e5, w5⟩, ⟨n6, e6, w6⟩⟩ := t0
                  obtain ⟨⟨n9, e9, w9⟩, ⟨n10, e10, w10⟩⟩ := x
                  unfold cI at s10
                  have ft := And.intro g0 (And.intro g6 (And.intro g9 (And.intro g10 (And.intro g11 (And.intro g12 (And.intro s10 (And.intro q1 (And.intro k5 (And.intro k6 (And.intro k7 hk9))))))))))
                  repeat (first | with_reducible refine pv_seq fun K hK => ?_ | ((with_reducible first | refine hK _ _ ?_ | (clear hK; refine hK _ _ ?_) | (clear hK; clear hK; refine hK _ _ ?_)); clear hK; try clear K) | refine W0 ?_ | exact Z | with_reducible intro b)
                  refine hpl _ _ s4 s5 ?_
                  repeat (first | with_reducible refine pv_seq fun K hK => ?_ | ((with_reducible first | refine hK _ _ ?_ | (clear hK; refine hK _ _ ?_) | (clear hK; clear hK; refine hK _ _ ?_)); clear hK; try clear K) | refine W0 ?_ | exact Z | with_reducible intro b)
                  refine ⟨mk2 _ _ _ Zr Zr rfl (fun _ => rfl) ⟨Zr, Zr, Zr, Zr, by simp only [updS_apply]; exact s4, by simp only [updS_apply]; exact s5, by simp only [updS_apply]; exact s6, by simp only [updS_apply]; rfl⟩, ?_⟩
                  simp only [intD]
                  omega
                · obtain rfl : i = n := by omega
                  have k5 : (0 ≤ (i : Int) - 1 - (i : Int)) = False := eq_false (by omega)
                  rw [hr] at he hzc
                  have ft := And.intro g0 (And.intro g6 (And.intro g9 (And.intro g10 (And.intro g11 (And.intro g12 k5)))))
                  repeat (first | with_reducible refine pv_seq fun K hK => ?_ | ((with_reducible first | refine hK _ _ ?_ | (clear hK; refine hK _ _ ?_) | (clear hK; clear hK; refine hK _ _ ?_)); clear hK; try clear K) | refine W0 ?_ | exact Z | with_reducible intro b)
                  exact J2 _ _ b4 b5 b6 b10 he Zr ⟨Zr, Zr, Zr, Zr, s4, s5, s6, by rw [← hzc]; exact s10⟩
              · have hr1 := hst he
                have hr2 := her he
                have k5 := eq_false he
                rw [← hr1] at he hr2 g11 k5
                by_cases k6 : 0 ≤ (n : Int) - 1 - (i : Int)
                · have k6' := eq_true k6
                  have ft := And.intro g0 (And.intro g6 (And.intro g9 (And.intro g10 (And.intro g11 (And.intro g12 (And.intro k5 k6'))))))
                  repeat (first | with_reducible refine pv_seq fun K hK => ?_ | ((with_reducible first | refine hK _ _ ?_ | (clear hK; refine hK _ _ ?_) | (clear hK; clear hK; refine hK _ _ ?_)); clear hK; try clear K) | refine W0 ?_ | exact Z | with_reducible intro b)
                  exact J3 _ _ b4 b5 b6 b10 z he hr2 Zr ⟨Zr, Zr, Zr, Zr, s4, s5, s6, s10⟩
                · have k6' := eq_false k6
                  have ft := And.intro g0 (And.intro g6 (And.intro g9 (And.intro g10 (And.intro g11 (And.intro g12 (And.intro k5 k6'))))))
                  repeat (first | with_reducible refine pv_seq fun K hK => ?_ | ((with_reducible first | refine hK _ _ ?_ | (clear hK; refine hK _ _ ?_) | (clear hK; clear hK; refine hK _ _ ?_)); clear hK; try clear K) | refine W0 ?_ | exact Z | with_reducible intro b)
                  exact J3 _ _ b4 b5 b6 b10 z he hr2 Zr ⟨Zr, Zr, Zr, Zr, s4, s5, s6, s10⟩
          clear q0 hC
          repeat' (first | with_reducible refine pv_seq fun K hK => ?_ | ((with_reducible first | refine hK _ _ ?_ | (clear hK; refine hK _ _ ?_) | (clear hK; clear hK; refine hK _ _ ?_)); clear hK; try clear K) | refine W ?_ | exact Z | with_reducible intro b | with_reducible refine And.intro ?_ ?_ )
          all_goals exact J _ _ _ _ _ _ Zr Zr ⟨Zr, Zr, Zr, Zr, by simp only [updS_apply]; rfl, by simp only [updS_apply]; rfl, by simp only [updS_apply]; rfl, by simp only [updS_apply]; rfl⟩
  · rw [sumR_no hc]
    obtain ⟨⟨n7, e7, w7⟩, ⟨n8, e8, w8⟩⟩ := h
    unfold II iv0 nu0 at *
    by_cases h1 : (a.length : Int) < 1
    · have k1 := eq_true h1
      have d1 := @dr 5 qT10_12_5
      have d2 := @dl 9 qT10_12_9
      refine PB (rs := [.cell 6 32, .tmp 7]) Tryd.func12 ?_
      have ft := k1
      exact Wk
    · have k1 := eq_false h1
      have k2 : ((11 : Int) < (a.length : Int)) = True := eq_true (by omega)
      have d1 := @dr 5 qT10_12_5
      have d2 := @dl 9 qT10_12_9
      refine PB (rs := [.cell 6 32, .tmp 7]) Tryd.func12 ?_
      have ft := And.intro k1 k2
      exact Wk

end Go.V
namespace Go.V
open Go Go.RowKit Go.Proofs

def pt (d : Dyadic) : Iv := ivD d d
theorem minP_pt {x y : Dyadic} : minP x x y y = x * y := by rcases (minP_spec x x y y).2 with e | e | e | e <;> exact e
theorem maxP_pt {x y : Dyadic} : maxP x x y y = x * y := by rcases (maxP_spec x x y y).2 with e | e | e | e <;> exact e
theorem Sm.pb {k q p : Nat} {d : Dyadic} (h : Sm k q d) (hk : k ≤ p) : Pb p d := Nat.lt_of_lt_of_le h.bx.n (Nat.pow_le_pow_right (by decide) hk)
theorem Sm.ok2 {k q : Nat} {d : Dyadic} (h : Sm k q d) (hk : k ≤ 4000) (hq : q ≤ 4000) : OkD d := (h.bx).ok (by omega) (by omega)
theorem pt0 : iv0 = pt 0 := by unfold pt ivD; rw [nuOf_zero]; rfl
theorem mulI_pt {p k q m r : Nat} {x y : Dyadic} (hx : Sm k q x) (hy : Sm m r y) (h8 : 8 ≤ p) (h256 : p ≤ 256) (hp : k + m ≤ p) (hq : q + r ≤ 2000) : mulI p (pt x) (pt y) = (pt (x * y), 0) := by
  have o1 := hx.ok2 (by omega) (by omega)
  have o2 := hy.ok2 (by omega) (by omega)
  have s := hx.mul hy
  have o3 := s.ok2 (by omega) (by omega)
  have b := s.pb hp
  unfold mulI pt
  rw [ivD_l, ivD_h, ivD_l, ivD_h, minP_pt, maxP_pt, opI_ok o1 o1 o2 o2 (Dyadic.le_refl _) (Dyadic.le_refl _) h8 h256 (by rw [rd_fix b]; exact o3) (by rw [rd_fix b]; exact o3), rd_fix b, rd_fix b]
theorem addI_pt {p k q : Nat} {x y : Dyadic} (hx : Sm k q x) (hy : Sm k q y) (h8 : 8 ≤ p) (h256 : p ≤ 256) (hp : k + 1 ≤ p) (hq : q ≤ 2000) : addI p (pt x) (pt y) = (pt (x + y), 0) := by
  have o1 := hx.ok2 (by omega) (by omega)
  have o2 := hy.ok2 (by omega) (by omega)
  have s := hx.add hy
  have o3 := s.ok2 (by omega) (by omega)
  have b := s.pb hp
  unfold addI pt
  rw [ivD_l, ivD_h, ivD_l, ivD_h, opI_ok o1 o1 o2 o2 (Dyadic.le_refl _) (Dyadic.le_refl _) h8 h256 (by rw [rd_fix b]; exact o3) (by rw [rd_fix b]; exact o3), rd_fix b, rd_fix b]

/-- The first coefficients of a series are points. -/
structure Pts (k q n : Nat) (a : List Iv) (x : Nat → Dyadic) : Prop where
  len : n < a.length
  at_ : ∀ i, i < n + 1 → gI a i = pt (x i)
  sm : ∀ i, i < n + 1 → Sm k q (x i)
def convD (x y : Nat → Dyadic) (n : Nat) : Dyadic := sumD (fun i => x i * y (n - i)) (n + 1)
theorem coefN_pt {p k q m r n : Nat} {a b : List Iv} {x y : Nat → Dyadic} (ha : Pts k q n a x) (hb : Pts m r n b y) (h8 : 8 ≤ p) (h256 : p ≤ 256) (hp : k + m + n + 2 ≤ p) (hq : q + r ≤ 2000) :
    ∀ i, i ≤ n + 1 → coefN p a b n i = (pt (sumD (fun i => x i * y (n - i)) i), 0) ∧ Sm (k + m + i) (q + r) (sumD (fun i => x i * y (n - i)) i)
  | 0 => fun _ => ⟨by show (iv0, 0) = (pt 0, 0); rw [pt0], Sm.zero⟩
  | i + 1 => fun hi => by
    obtain ⟨e, s⟩ := coefN_pt ha hb h8 h256 hp hq i (by omega)
    have sx := ha.sm i (by omega)
    have sy := hb.sm (n - i) (by omega)
    have e1 := mulI_pt sx sy h8 h256 (by omega) hq
    have sm := sx.mul sy
    have e2 := addI_pt s (sm.mono (show k + m ≤ k + m + i by omega)) h8 h256 (by omega) hq
    unfold coefN
    rw [e, ha.at_ i (by omega), hb.at_ (n - i) (by omega), e1]
    refine ⟨?_, ?_⟩
    · rw [if_pos rfl, if_pos rfl]
      by_cases h0 : i = 0
      · rw [if_pos h0]
        subst h0
        show (pt (x 0 * y (n - 0)), 0) = (pt (0 + x 0 * y (n - 0)), 0)
        rw [show (0 : Dyadic) + x 0 * y (n - 0) = x 0 * y (n - 0) by grind]
      · rw [if_neg h0, e2]; rfl
    · have := s.add (sm.mono (show k + m ≤ k + m + i by omega))
      exact this
theorem Pts.right {k q n : Nat} {a : List Iv} {x : Nat → Dyadic} (h : Pts k q n a x) {j : Nat} (hj : j ≤ n) (hk : k ≤ 4000) (hq : q ≤ 4000) : rightTo a j = true := by
  refine rightTo_yes (by have := h.len; omega) fun i hi => ?_
  rw [h.at_ i (by omega)]
  have := (h.sm i (by omega)).ok2 hk hq
  exact rightI_yes this this (Dyadic.le_refl _)
theorem Pts.le {k q n j : Nat} {a : List Iv} {x : Nat → Dyadic} (h : Pts k q n a x) (hj : j ≤ n) : Pts k q j a x := ⟨by have := h.len; omega, fun i hi => h.at_ i (by omega), fun i hi => h.sm i (by omega)⟩
theorem coefR_pt {p k q m r n : Nat} {a b : List Iv} {x y : Nat → Dyadic} (ha : Pts k q n a x) (hb : Pts m r n b y) (h8 : 8 ≤ p) (h256 : p ≤ 256) (hp : k + m + n + 2 ≤ p) (hq : q + r ≤ 2000) (hn : n ≤ 10) :
    coefR p a b (n : Nat) = (pt (convD x y n), 0) ∧ Sm (k + m + n + 1) (q + r) (convD x y n) := by
  obtain ⟨e, s⟩ := coefN_pt ha hb h8 h256 hp hq (n + 1) (Nat.le_refl _)
  refine ⟨?_, s⟩
  unfold coefR okK
  rw [Int.toNat_natCast, ha.right (Nat.le_refl _) (by omega) (by omega), hb.right (Nat.le_refl _) (by omega) (by omega), okP_of h8 h256, decide_eq_true (by omega), decide_eq_true (by omega)]
  exact e
theorem timesN_pt {p k q m r n : Nat} {a b : List Iv} {x y : Nat → Dyadic} (ha : Pts k q n a x) (hb : Pts m r n b y) (h8 : 8 ≤ p) (h256 : p ≤ 256) (hp : k + m + n + 2 ≤ p) (hq : q + r ≤ 2000) (hn : n ≤ 10) :
    ∀ j, j ≤ n + 1 → timesN p a b j = ((List.range j).map fun i => pt (convD x y i), 0)
  | 0 => fun _ => rfl
  | j + 1 => fun hj => by
    have e := timesN_pt ha hb h8 h256 hp hq hn j (by omega)
    have e1 := (coefR_pt (n := j) (ha.le (by omega)) (hb.le (by omega)) h8 h256 (by omega) hq (by omega)).1
    unfold timesN
    rw [e, e1, if_pos rfl, if_pos rfl, List.range_succ, List.map_append]; rfl
theorem times_pt {p k q m r n : Nat} {a b : List Iv} {x y : Nat → Dyadic} (ha : Pts k q n a x) (hb : Pts m r n b y) (h8 : 8 ≤ p) (h256 : p ≤ 256) (hp : k + m + n + 2 ≤ p) (hq : q + r ≤ 2000) (hn : n ≤ 10) :
    ∃ l, timesN p a b (n + 1) = (l, 0) ∧ Pts (k + m + n + 1) (q + r) n l (convD x y) := by
  refine ⟨_, timesN_pt ha hb h8 h256 hp hq hn (n + 1) (Nat.le_refl _), by simp, fun i hi => ?_, fun i hi => ?_⟩
  · unfold gI
    simp [List.getD, hi]
  · exact (coefR_pt (n := i) (ha.le (by omega)) (hb.le (by omega)) h8 h256 (by omega) hq (by omega)).2.mono (by omega)
theorem on_pts {k q n : Nat} {d : Dyadic} (h : Sm k q d) : Pts k q n (onS (nuOf d) n).1 (fun i => if i = 0 then d else 0) := by
  refine ⟨by simp [onS], fun i hi => ?_, fun i hi => ?_⟩
  · cases i with
    | zero => rfl
    | succ i =>
      show gI (List.replicate n iv0) i = pt 0
      unfold gI
      rw [← pt0]
      simp [List.getD, List.getElem?_replicate, show i < n by omega]
  · split
    · exact h
    · exact Sm.zero

/-! ### The known ones -/
def kO : Nu := ⟨false, 0, [1]⟩
theorem kNu14 {s : Bool} {n : Nat} {e : Int} (ho : n % 2 = 1) (hn : n < 18446744073709551616) (h1 : -60000 ≤ e) (h2 : e ≤ 60000) : nuOf (dy s n e) = ⟨s, e, [n]⟩ := ((w1 ho hn h1 h2).1).symm
theorem kO_eq : kO = nuOf 1 := by rw [show (1 : Dyadic) = dy false 1 0 by decide, kNu14 (by decide) (by decide) (by decide) (by decide)]; rfl
theorem pts_11 : Pts 1 0 1 [⟨kO, kO⟩, ⟨kO, kO⟩] (fun _ => 1) := by
  refine ⟨by decide, fun i hi => ?_, fun i hi => Sm.one⟩
  rw [kO_eq]
  match i, hi with
  | 0, _ => rfl
  | 1, _ => rfl
theorem sm_3 : Sm 2 0 3 := ⟨3, by decide, by decide⟩
theorem k3_eq : (⟨false, 0, [3]⟩ : Nu) = nuOf 3 := by rw [show (3 : Dyadic) = dy false 3 0 by decide, kNu14 (by decide) (by decide) (by decide) (by decide)]
theorem pt2_eq : pt 2 = ⟨⟨false, 1, [1]⟩, ⟨false, 1, [1]⟩⟩ := by unfold pt ivD; rw [show (2 : Dyadic) = dy false 1 1 by decide, kNu14 (by decide) (by decide) (by decide) (by decide)]
theorem pt6_eq : pt 6 = ⟨⟨false, 1, [3]⟩, ⟨false, 1, [3]⟩⟩ := by unfold pt ivD; rw [show (6 : Dyadic) = dy false 3 1 by decide, kNu14 (by decide) (by decide) (by decide) (by decide)]
theorem known_coef : coefR 16 [⟨kO, kO⟩, ⟨kO, kO⟩] [⟨kO, kO⟩, ⟨kO, kO⟩] 1 = (pt 2, 0) := by
  have := (coefR_pt (p := 16) pts_11 pts_11 (by decide) (by decide) (by decide) (by decide) (by decide)).1
  rw [show convD (fun _ => 1) (fun _ => 1) 1 = 2 by decide +kernel] at this
  exact this
theorem known_over : ∃ l, overR 16 [[⟨kO, kO⟩, ⟨kO, kO⟩]] 1 ⟨⟨false, 0, [3]⟩, [2]⟩ = (l, 0) ∧ gI l 1 = pt 6 := by
  rw [k3_eq]
  obtain ⟨l1, e1, p1⟩ := times_pt (p := 16) (on_pts (n := 1) sm_3) pts_11 (by decide) (by decide) (by decide) (by decide) (by decide)
  obtain ⟨l2, e2, p2⟩ := times_pt (p := 16) p1 pts_11 (by decide) (by decide) (by decide) (by decide) (by decide)
  refine ⟨l2, ?_, ?_⟩
  · show mulS 16 _ 1 (onS (nuOf 3) 1) 2 = _
    have h1 : mulS 16 [⟨kO, kO⟩, ⟨kO, kO⟩] 1 (onS (nuOf 3) 1) 1 = (l1, 0) := by rw [mulS_succ rfl]; exact e1
    rw [mulS_succ (by rw [show ([[⟨kO, kO⟩, ⟨kO, kO⟩]] : List (List Iv)).getD 0 [] = [⟨kO, kO⟩, ⟨kO, kO⟩] from rfl, h1]), show ([[⟨kO, kO⟩, ⟨kO, kO⟩]] : List (List Iv)).getD 0 [] = [⟨kO, kO⟩, ⟨kO, kO⟩] from rfl, h1]
    exact e2
  · rw [p2.at_ 1 (by decide)]
    rw [show convD (convD (fun i => if i = 0 then 3 else 0) fun x => 1) (fun x => 1) 1 = 6 by decide +kernel]
theorem k3_r : rightB ⟨false, 0, [3]⟩ = true := by rw [k3_eq, rightB_nuOf]; exact decide_eq_true (sm_3.ok2 (by decide) (by decide))
theorem known_of : ofR 16 [⟨⟨false, 0, [3]⟩, [2]⟩] [[⟨kO, kO⟩, ⟨kO, kO⟩]] 1 = (pt 6, 0) := by
  have hp : polyB [⟨⟨false, 0, [3]⟩, [2]⟩] 1 = true := by
    unfold polyB
    rw [monosB_yes fun i hi => ?_]
    · rfl
    · obtain rfl : i = 0 := by simp at hi; exact hi
      refine ⟨?_, by decide, fun h => absurd h (by decide)⟩
      show monoB ⟨⟨false, 0, [3]⟩, [2]⟩ 1 = true
      unfold monoB
      rw [k3_r]; rfl
  have hr : rightTo [⟨kO, kO⟩, ⟨kO, kO⟩] 1 = true := pts_11.right (Nat.le_refl _) (by decide) (by decide)
  unfold ofR okK
  obtain ⟨l, e, h⟩ := known_over
  have h0 : ofN 16 [⟨⟨false, 0, [3]⟩, [2]⟩] [[⟨kO, kO⟩, ⟨kO, kO⟩]] 1 1 = (pt 6, 0) := by
    rw [ofN_succ rfl]
    rw [show gM [⟨⟨false, 0, [3]⟩, [2]⟩] 0 = ⟨⟨false, 0, [3]⟩, [2]⟩ from rfl, e, if_pos rfl, h]
    show addI 16 iv0 (pt 6) = _
    have e3 : addI 16 (pt 0) (pt 6) = (pt (0 + 6), 0) := addI_pt (p := 16) (k := 3) (q := 0) Sm.zero ⟨6, by decide, by decide⟩ (by decide) (by decide) (by decide) (by decide)
    rw [pt0, e3, show (0 : Dyadic) + 6 = 6 by decide]
  have hx : decide (∀ x ∈ [[(⟨kO, kO⟩ : Iv), ⟨kO, kO⟩]], rightTo x (1 : Int).toNat = true) = true := decide_eq_true fun x hx => by rw [List.mem_singleton.1 hx]; exact hr
  rw [show (([[⟨kO, kO⟩, ⟨kO, kO⟩]] : List (List Iv)).length : Int) = 1 from rfl, hp, hx, show (1 : Int).toNat = 1 from rfl]
  exact h0
theorem known_sum : sumR 16 [⟨kO, kO⟩, ⟨kO, kO⟩] ⟨kO, kO⟩ = (pt 2, 0) := by
  have hr : rightTo [⟨kO, kO⟩, ⟨kO, kO⟩] 1 = true := pts_11.right (Nat.le_refl _) (by decide) (by decide)
  have e1 : (⟨kO, kO⟩ : Iv) = pt 1 := by rw [kO_eq]; rfl
  have hi : rightI ⟨kO, kO⟩ = true := by
    rw [e1]
    have := (Sm.one).ok2 (by decide) (by decide)
    exact rightI_yes this this (Dyadic.le_refl _)
  unfold sumR
  rw [show ([(⟨kO, kO⟩ : Iv), ⟨kO, kO⟩]).length = 2 from rfl, show 2 - 1 = 1 from rfl, hr, hi]
  show sumN 16 _ _ 1 = _
  rw [sumN_succ rfl]
  show plusR 16 ⟨kO, kO⟩ ⟨kO, kO⟩ ⟨kO, kO⟩ = _
  rw [e1]
  unfold plusR
  have e2 : mulI 16 (pt 1) (pt 1) = (pt (1 * 1), 0) := mulI_pt (p := 16) Sm.one Sm.one (by decide) (by decide) (by decide) (by decide)
  have e3 : addI 16 (pt 1) (pt 1) = (pt (1 + 1), 0) := addI_pt (p := 16) Sm.one Sm.one (by decide) (by decide) (by decide) (by decide)
  rw [e2, if_pos rfl, show (1 : Dyadic) * 1 = 1 by decide, e3, show (1 : Dyadic) + 1 = 2 by decide]
theorem known_wf : WfL [⟨kO, kO⟩, ⟨kO, kO⟩] := ⟨by decide, fun x hx => by
  have hw : Wi 65536 ⟨kO, kO⟩ := by
    have h : Wl 65536 kO := by rw [kO_eq]; exact (((Sm.one).ok2 (by decide) (by decide)).sz).wl
    exact ⟨h, h⟩
  simp only [List.mem_cons, List.not_mem_nil, or_false, or_self] at hx
  rw [hx]; exact hw⟩
set_option maxHeartbeats 2000000 in
theorem p_known14 : PC Tryd.prog 4 [] fun d => d = bl true := by
  have pA := p_OfI (x := kO) (by decide)
  have pC := p_Coef (k := 1) (p := 16) known_wf known_wf
  rw [known_coef, pt2_eq] at pC
  have hm : WfM [⟨⟨false, 0, [3]⟩, [2]⟩] := ⟨by decide, fun m hm => by
    rw [List.mem_singleton.1 hm]
    exact ⟨⟨fun y hy => by rw [List.mem_singleton.1 hy]; decide, by decide⟩, by decide⟩⟩
  have pD := p_sOf (k := 1) (p := 16) hm (xs := [[⟨kO, kO⟩, ⟨kO, kO⟩]]) ⟨by decide, fun l hl => by rw [List.mem_singleton.1 hl]; exact known_wf⟩
  rw [known_of, pt6_eq] at pD
  have pS := p_sSum (p := 16) known_wf (known_wf.w ⟨kO, kO⟩ (by simp))
  rw [known_sum, pt2_eq] at pS
  have pW := p_hWords (xs := [3]) (ys := [3]) (by decide) (by decide) (by decide) (by decide)
  rw [decide_eq_true rfl] at pW
  unfold kO at pA pC pS pD
  unfold II at pC pS
  refine PB (rs := [.tmp 0]) Tryd.func4 ?_
  repeat (first | with_reducible refine pv_stop 2 ?_ | with_reducible refine pv_seq fun K hK => ?_ | ((with_reducible first | refine hK _ _ ?_ | (clear hK; refine hK _ _ ?_) | (clear hK; clear hK; refine hK _ _ ?_)); clear hK; try clear K) | refine W ?_ | exact Z | with_reducible intro b)
  refine ⟨fun K q hC => ?_⟩
  repeat (first | with_reducible refine pv_seq fun K hK => ?_ | ((with_reducible first | refine hK _ _ ?_ | (clear hK; refine hK _ _ ?_) | (clear hK; clear hK; refine hK _ _ ?_)); clear hK; try clear K) | refine W0 ?_ | exact Z | with_reducible intro b)
  refine hC _ _ (Recast.frzSlot 2 (k := .l 14) rfl rfl (gs := [eI ⟨kO, kO⟩, eI ⟨kO, kO⟩]) rfl (by decide) ?_)
  rw [show G.sl [eI ⟨kO, kO⟩, eI ⟨kO, kO⟩] = eS eI [⟨kO, kO⟩, ⟨kO, kO⟩] from rfl]
  refine q _ _ ?_
  clear q hC
  unfold kO
  repeat (first | with_reducible refine pv_seq fun K hK => ?_ | ((with_reducible first | refine hK _ _ ?_ | (clear hK; refine hK _ _ ?_) | (clear hK; clear hK; refine hK _ _ ?_)); clear hK; try clear K) | refine W ?_ | exact Z | with_reducible intro b)
  refine PFC.frzCell (k2 := .l 26) (k := .l 22) (by repeat first | exact updS_at | refine (updS_ne (by decide)).trans ?_) 0 2 rfl rfl (by decide) (by repeat first | exact updS_at | refine (updS_ne (by decide)).trans ?_) (gs := [[.lit (.int .u64 3)]]) rfl (by decide) ?_
  refine PFC.frzCell (k2 := .l 26) (k := .l 24) (by repeat first | exact updS_at | refine (updS_ne (by decide)).trans ?_) 0 3 rfl rfl (by decide) (by repeat first | exact updS_at | refine (updS_ne (by decide)).trans ?_) (gs := [[.lit (.int .i64 2)]]) rfl (by decide) ?_
  refine PFC.coe ?_
  try simp -implicitDefEqProofs only [ft, go_sem, seval]
  exact Wk
end Go.V
namespace Go.V
open Go Go.RowKit Go.Proofs


end Go.V
namespace Go.V
open Go Go.RowKit Go.Proofs

/-- A value by powers. -/
structure Te where
  v : Dyadic
  e : List Int
def te0 : Te := ⟨0, []⟩
def gT (l : List Te) (i : Nat) : Te := l.getD i te0
theorem gT_at {l : List Te} {i : Nat} (h : i < l.length) : l[i]? = some (gT l i) := by simp [gT, List.getD, List.getElem?_eq_getElem h]
theorem gT_mem {l : List Te} {i : Nat} (h : i < l.length) : gT l i ∈ l := List.mem_of_getElem? (gT_at h)
def posT : List Te → List Int → Nat
  | [], _ => 0
  | x :: r, e => if 0 < ordE x.e e then posT r e + 1 else 0
def insT (out : List Te) (t : Te) : List Te :=
  if posT out t.e < out.length ∧ ordE (gT out (posT out t.e)).e t.e = 0 then out.set (posT out t.e) ⟨(gT out (posT out t.e)).v + t.v, (gT out (posT out t.e)).e⟩
  else out.take (posT out t.e) ++ t :: out.drop (posT out t.e)
theorem posT_le : ∀ (out : List Te) (e : List Int), posT out e ≤ out.length
  | [], _ => Nat.le_refl _
  | x :: r, e => by
    unfold posT
    split
    · have := posT_le r e; simp only [List.length_cons]; omega
    · exact Nat.zero_le _
theorem posT_all : ∀ {out : List Te} {e : List Int} {j : Nat}, j < posT out e → 0 < ordE (gT out j).e e
  | [], e, j, h => by exact absurd h (Nat.not_lt_zero _)
  | x :: r, e, j, h => by
    unfold posT at h
    split at h
    · rename_i hp
      cases j with
      | zero => exact hp
      | succ j => exact posT_all (out := r) (j := j) (by omega)
    · omega
theorem posT_max : ∀ {out : List Te} {e : List Int}, posT out e < out.length → ¬ 0 < ordE (gT out (posT out e)).e e
  | [], e, h => by exact absurd h (Nat.not_lt_zero _)
  | x :: r, e, h => by
    by_cases hp : 0 < ordE x.e e
    · have hq : posT (x :: r) e = posT r e + 1 := by
        show (if 0 < ordE x.e e then posT r e + 1 else 0) = _
        rw [if_pos hp]
      rw [hq] at h ⊢
      exact posT_max (out := r) (by simpa using h)
    · have hq : posT (x :: r) e = 0 := by unfold posT; rw [if_neg hp]
      rw [hq]; exact hp
theorem insT_nil (t : Te) : insT [] t = [t] := rfl
theorem insT_cons (x : Te) (r : List Te) (t : Te) : insT (x :: r) t = if 0 < ordE x.e t.e then x :: insT r t else if ordE x.e t.e = 0 then ⟨x.v + t.v, x.e⟩ :: r else t :: x :: r := by
  by_cases h : 0 < ordE x.e t.e
  · have hp : posT (x :: r) t.e = posT r t.e + 1 := by
      show (if 0 < ordE x.e t.e then posT r t.e + 1 else 0) = _
      rw [if_pos h]
    have hg : gT (x :: r) (posT r t.e + 1) = gT r (posT r t.e) := rfl
    rw [if_pos h]
    unfold insT
    rw [hp, hg]
    by_cases h2 : posT r t.e < r.length ∧ ordE (gT r (posT r t.e)).e t.e = 0
    · rw [if_pos h2, if_pos ⟨by simpa using h2.1, h2.2⟩]; rfl
    · rw [if_neg h2, if_neg (fun h3 => h2 ⟨by simpa using h3.1, h3.2⟩)]; rfl
  · have hp : posT (x :: r) t.e = 0 := by unfold posT; rw [if_neg h]
    rw [if_neg h]
    unfold insT
    rw [hp]
    by_cases h2 : ordE x.e t.e = 0
    · rw [if_pos h2, if_pos ⟨by simp, h2⟩]; rfl
    · rw [if_neg h2, if_neg (fun h3 => h2 h3.2)]; rfl
theorem insT_len (out : List Te) (t : Te) : (insT out t).length ≤ out.length + 1 := by
  have := posT_le out t.e
  unfold insT
  split
  · simp
  · simp; omega
def gathN (l : List Te) : Nat → List Te
  | 0 => []
  | i + 1 => insT (gathN l i) (gT l i)
theorem gathN_len (l : List Te) : ∀ i, (gathN l i).length ≤ i
  | 0 => Nat.le_refl _
  | i + 1 => by have := gathN_len l i; have := insT_len (gathN l i) (gT l i); show (insT _ _).length ≤ _; omega
def monoN (out : List Te) : Nat → List Mo × Int
  | 0 => ([], 0)
  | i + 1 => if (monoN out i).2 = 0 then (if (gT out i).v = 0 then monoN out i else if (numR (gT out i).v).2 = 0 then ((monoN out i).1 ++ [⟨(numR (gT out i).v).1, (gT out i).e⟩], 0) else ([], 2)) else monoN out i
theorem monoN_stuck {out : List Te} {i n : Nat} (h : (monoN out i).2 ≠ 0) (hn : i ≤ n) : monoN out n = monoN out i := by
  induction n with
  | zero => obtain rfl : i = 0 := by omega
            rfl
  | succ n ih =>
    by_cases hi : i = n + 1
    · rw [hi]
    · have e := ih (by omega)
      show (if (monoN out n).2 = 0 then _ else monoN out n) = _
      rw [e, if_neg h]
theorem monoN_len (out : List Te) : ∀ i, (monoN out i).1.length ≤ i
  | 0 => Nat.le_refl _
  | i + 1 => by
    have := monoN_len out i
    unfold monoN
    split
    · split
      · omega
      · split
        · simp only [List.length_append, List.length_singleton]; omega
        · exact Nat.zero_le _
    · omega
def gathR (l : List Te) : List Mo × Int :=
  if (monoN (gathN l l.length) (gathN l l.length).length).2 = 0 then (if (monoN (gathN l l.length) (gathN l l.length).length).1.length ≤ 24 then monoN (gathN l l.length) (gathN l l.length).length else ([], 6)) else monoN (gathN l l.length) (gathN l l.length).length
/-- The document's polynomial of monomials. -/
def teM (m : Mo) : Te := ⟨m.c.val, m.e⟩
def allM (q : List Mo) (n : Int) : Bool := decide (∀ m ∈ q, monoB m n = true)
def pmkR (q : List Mo) (n : Int) : List Mo × Int := if decide (1 ≤ n) && decide (n ≤ 4) && allM q n then gathR (q.map teM) else ([], 1)

/-! ### Sizes -/
theorem okD_sm {d : Dyadic} (h : OkD d) : Sm 135168 65536 d := by
  have h1 := h.lo
  have h2 := h.hi
  have h3 := h.len
  rw [nuOf_f] at h1 h2 h3
  simp only at h1 h2 h3
  obtain ⟨m, hm, h5⟩ := okD_fN h
  have e := dy_f d
  obtain ⟨j, hj⟩ : ∃ j : Nat, fE d = j - 65536 := ⟨(fE d + 65536).toNat, by omega⟩
  have hj2 : j ≤ 131072 := by omega
  have h6 := owp_shl (sg (fS d) (fN d)) (65536 - j) j
  rw [show ((65536 : Int) - j + j) = ((65536 : Nat) : Int) by omega] at h6
  refine ⟨sg (fS d) (fN d) * 2 ^ j, e.symm.trans ?_, ?_⟩
  · unfold dy
    rw [show -(fE d) = (65536 : Int) - j by omega]
    exact h6.symm
  · rw [Int.natAbs_mul, sg_abs, Int.natAbs_pow]
    calc fN d * (2 : Int).natAbs ^ j < 2 ^ m * 2 ^ j := Nat.mul_lt_mul_of_pos_right h5 (Nat.two_pow_pos j)
      _ = 2 ^ (m + j) := (Nat.pow_add _ _ _).symm
      _ ≤ 2 ^ 135168 := Nat.pow_le_pow_right (by decide) (by omega)
theorem Sm.bd {k q : Nat} {d : Dyadic} (h : Sm k q d) : Bd (k + q) d := by
  have b := h.bx
  exact ⟨Nat.lt_of_lt_of_le b.n (Nat.pow_le_pow_right (by decide) (by omega)), b.lo, b.hi⟩

/-! ### Orders of powers -/
theorem ordE_cases : ∀ (a b : List Int), ordE a b = -1 ∨ ordE a b = 0 ∨ ordE a b = 1
  | [], _ => .inr (.inl (by unfold ordE; rfl))
  | _ :: _, [] => .inr (.inl rfl)
  | x :: a, y :: b => by
    unfold ordE
    split
    · exact .inr (.inr rfl)
    · split
      · exact .inl rfl
      · exact ordE_cases a b
theorem ordE_neg : ∀ {a b : List Int}, ordE b a = - ordE a b
  | [], [] => rfl
  | [], _ :: _ => rfl
  | _ :: _, [] => rfl
  | x :: a, y :: b => by
    have ih := ordE_neg (a := a) (b := b)
    unfold ordE
    by_cases h1 : y < x
    · rw [if_neg (by omega), if_pos h1, if_pos h1]
    · by_cases h2 : x < y
      · rw [if_pos h2, if_neg h1, if_pos h2]; rfl
      · rw [if_neg h2, if_neg h1, if_neg h1, if_neg h2]; exact ih
theorem ordE_trans : ∀ {a b c : List Int}, a.length = b.length → b.length = c.length → 0 < ordE a b → 0 < ordE b c → 0 < ordE a c
  | [], [], [], _, _, h, _ => by exact absurd h (by decide)
  | x :: a, y :: b, z :: c, h1, h2, p, q => by
    unfold ordE at *
    by_cases a1 : y < x
    · by_cases a2 : z < y
      · rw [if_pos (by omega)]; decide
      · rw [if_neg a2] at q
        by_cases a3 : y < z
        · rw [if_pos a3] at q; exact absurd q (by decide)
        · rw [if_pos (by omega)]; decide
    · rw [if_neg a1] at p
      by_cases a2 : x < y
      · rw [if_pos a2] at p; exact absurd p (by decide)
      · rw [if_neg a2] at p
        obtain rfl : x = y := by omega
        by_cases a3 : z < x
        · rw [if_pos a3]; decide
        · rw [if_neg a3] at q ⊢
          by_cases a4 : x < z
          · rw [if_pos a4] at q; exact absurd q (by decide)
          · rw [if_neg a4] at q ⊢
            exact ordE_trans (by simpa using h1) (by simpa using h2) p q

/-! ### What is gathered is in order -/
structure SortT (n : Nat) (out : List Te) : Prop where
  len : ∀ t ∈ out, t.e.length = n
  ord : out.Pairwise fun a b => 0 < ordE a.e b.e
theorem insT_mem {t y : Te} : ∀ {out : List Te}, y ∈ insT out t → y = t ∨ ∃ z ∈ out, y.e = z.e ∧ (y = z ∨ y.v = z.v + t.v ∧ z.e.length = t.e.length → True)
  | [], h => by rw [insT_nil] at h; exact .inl (List.mem_singleton.1 h)
  | x :: r, h => by
    rw [insT_cons] at h
    split at h
    · rcases List.mem_cons.1 h with rfl | h
      · exact .inr ⟨_, List.mem_cons_self, rfl, by simp⟩
      · rcases insT_mem h with h | ⟨z, hz, he, _⟩
        · exact .inl h
        · exact .inr ⟨z, List.mem_cons_of_mem _ hz, he, by simp⟩
    · split at h
      · rcases List.mem_cons.1 h with rfl | h
        · exact .inr ⟨x, List.mem_cons_self, rfl, by simp⟩
        · exact .inr ⟨y, List.mem_cons_of_mem _ h, rfl, by simp⟩
      · rcases List.mem_cons.1 h with rfl | h
        · exact .inl rfl
        · exact .inr ⟨y, h, rfl, by simp⟩
theorem insT_e {t y : Te} {out : List Te} (h : y ∈ insT out t) : y.e = t.e ∨ ∃ z ∈ out, y.e = z.e := by
  rcases insT_mem h with rfl | ⟨z, hz, he, _⟩
  · exact .inl rfl
  · exact .inr ⟨z, hz, he⟩
theorem insT_sort {n : Nat} {t : Te} (ht : t.e.length = n) : ∀ {out : List Te}, SortT n out → SortT n (insT out t)
  | [], _ => ⟨fun y hy => by rw [insT_nil] at hy; rw [List.mem_singleton.1 hy]; exact ht, by rw [insT_nil]; exact List.pairwise_singleton _ _⟩
  | x :: r, h => by
    have hx := h.len x List.mem_cons_self
    have hr : SortT n r := ⟨fun y hy => h.len y (List.mem_cons_of_mem _ hy), (List.pairwise_cons.1 h.ord).2⟩
    have ih := insT_sort ht hr
    have hxr := (List.pairwise_cons.1 h.ord).1
    rw [insT_cons]
    split
    · rename_i hp
      refine ⟨fun y hy => ?_, List.pairwise_cons.2 ⟨fun y hy => ?_, ih.ord⟩⟩
      · rcases List.mem_cons.1 hy with rfl | hy
        · exact hx
        · exact ih.len y hy
      · rcases insT_e hy with he | ⟨z, hz, he⟩
        · rw [he]; exact hp
        · rw [he]; exact hxr z hz
    · rename_i hp
      split
      · refine ⟨fun y hy => ?_, List.pairwise_cons.2 ⟨fun y hy => hxr y hy, hr.ord⟩⟩
        rcases List.mem_cons.1 hy with rfl | hy
        · exact hx
        · exact hr.len y hy
      · rename_i h0
        have hneg : 0 < ordE t.e x.e := by
          rw [ordE_neg]
          rcases ordE_cases x.e t.e with h1 | h1 | h1 <;> omega
        refine ⟨fun y hy => ?_, List.pairwise_cons.2 ⟨fun y hy => ?_, h.ord⟩⟩
        · rcases List.mem_cons.1 hy with rfl | hy
          · exact ht
          · exact h.len y hy
        · rcases List.mem_cons.1 hy with rfl | hy
          · exact hneg
          · exact ordE_trans (by rw [ht, hx]) (by rw [hx, hr.len y hy]) hneg (hxr y hy)
theorem gathN_sort {n : Nat} {l : List Te} (h : ∀ t ∈ l, t.e.length = n) : ∀ i, i ≤ l.length → SortT n (gathN l i)
  | 0 => fun _ => ⟨fun t ht => (by cases ht), List.Pairwise.nil⟩
  | i + 1 => fun hi => insT_sort (h _ (gT_mem (by omega))) (gathN_sort h i (by omega))
theorem insT_all {P : List Int → Prop} {t : Te} (ht : P t.e) {out : List Te} (h : ∀ y ∈ out, P y.e) : ∀ y ∈ insT out t, P y.e := fun y hy => by
  rcases insT_e hy with he | ⟨z, hz, he⟩
  · rw [he]; exact ht
  · rw [he]; exact h z hz
theorem gathN_all {P : List Int → Prop} {l : List Te} (h : ∀ t ∈ l, P t.e) : ∀ i, i ≤ l.length → ∀ y ∈ gathN l i, P y.e
  | 0 => fun _ y hy => by cases hy
  | i + 1 => fun hi => insT_all (h _ (gT_mem (by omega))) (gathN_all h i (by omega))
theorem insT_sm {k q : Nat} {t : Te} (ht : Sm k q t.v) : ∀ {out : List Te}, (∀ y ∈ out, Sm k q y.v) → ∀ y ∈ insT out t, Sm (k + 1) q y.v
  | [], _ => fun y hy => by rw [insT_nil] at hy; rw [List.mem_singleton.1 hy]; exact ht.mono (by omega)
  | x :: r, h => fun y hy => by
    have hx := h x List.mem_cons_self
    rw [insT_cons] at hy
    split at hy
    · rcases List.mem_cons.1 hy with rfl | hy
      · exact hx.mono (by omega)
      · exact insT_sm ht (fun z hz => h z (List.mem_cons_of_mem _ hz)) y hy
    · split at hy
      · rcases List.mem_cons.1 hy with rfl | hy
        · exact hx.add ht
        · exact (h y (List.mem_cons_of_mem _ hy)).mono (by omega)
      · rcases List.mem_cons.1 hy with rfl | hy
        · exact ht.mono (by omega)
        · exact (h y hy).mono (by omega)
theorem gathN_sm {k q : Nat} {l : List Te} (h : ∀ t ∈ l, Sm k q t.v) : ∀ i, i ≤ l.length → ∀ y ∈ gathN l i, Sm (k + i) q y.v
  | 0 => fun _ y hy => by cases hy
  | i + 1 => fun hi => insT_sm (k := k + i) ((h _ (gT_mem (by omega))).mono (Nat.le_add_right k i)) (gathN_sm h i (by omega))

/-! ### Polynomials of numbers that fit -/
def moT (t : Te) : Mo := ⟨nuOf t.v, t.e⟩
theorem monoN_ok {out : List Te} (h : ∀ y ∈ out, OkD y.v) : ∀ i, i ≤ out.length → monoN out i = (((out.take i).filter fun t => decide (t.v ≠ 0)).map moT, 0)
  | 0 => fun _ => rfl
  | i + 1 => fun hi => by
    have ih := monoN_ok h i (by omega)
    have ho := h _ (gT_mem (l := out) (i := i) (by omega))
    have ht : out.take (i + 1) = out.take i ++ [gT out i] := by rw [List.take_add_one, gT_at (by omega)]; rfl
    unfold monoN
    rw [ih, if_pos rfl, ht, List.filter_append, List.map_append]
    by_cases h0 : (gT out i).v = 0
    · rw [if_pos h0]
      simp [h0]
    · rw [if_neg h0, numR_ok ho, if_pos rfl]
      simp [h0, moT]
theorem monosB_of {q : List Mo} {n : Int} (h1 : ∀ m ∈ q, monoB m n = true ∧ m.c.w ≠ []) (h2 : q.Pairwise fun a b => cmpE b.e a.e < 0) : monosB q n = true := by
  refine monosB_yes fun i hi => ?_
  obtain ⟨a, b⟩ := h1 _ (gM_mem hi)
  refine ⟨a, b, fun h0 => ?_⟩
  have := List.pairwise_iff_getElem.1 h2 (i - 1) i (by omega) hi (by omega)
  have e1 := gM_at hi
  have e2 := gM_at (l := q) (i := i - 1) (by omega)
  rw [List.getElem?_eq_getElem hi] at e1
  rw [List.getElem?_eq_getElem (show i - 1 < q.length by omega)] at e2
  injection e1 with e1
  injection e2 with e2
  rw [e1, e2] at this
  exact this
theorem nuOf_w {d : Dyadic} (h : d ≠ 0) : (nuOf d).w ≠ [] := by
  rw [nuOf_f]
  exact fun h2 => h (fN_eq_zero.1 ((digs_eq_nil (by decide)).1 h2))
/-- The polynomial of terms whose values fit, of right powers. -/
theorem gathR_ok {n : Nat} {l : List Te} (h1 : 1 ≤ n) (h4 : n ≤ 4) (hl : l.length ≤ 24) (he : ∀ t ∈ l, t.e.length = n ∧ (∀ x ∈ t.e, 0 ≤ x) ∧ t.e.sum ≤ 8) (ho : ∀ y ∈ gathN l l.length, OkD y.v) :
    ∃ q, gathR l = (q, 0) ∧ q = ((gathN l l.length).filter fun t => decide (t.v ≠ 0)).map moT ∧ polyB q (n : Int) = true := by
  unfold gathR
  have e := monoN_ok ho (gathN l l.length).length (Nat.le_refl _)
  rw [List.take_length] at e
  have hs := gathN_sort (n := n) (fun t ht => (he t ht).1) l.length (Nat.le_refl _)
  have ha := gathN_all (P := fun e => (∀ x ∈ e, 0 ≤ x) ∧ e.sum ≤ 8) (fun t ht => (he t ht).2) l.length (Nat.le_refl _)
  have hln := gathN_len l l.length
  generalize gathN l l.length = out at *
  have hq : (((out.filter fun t => decide (t.v ≠ 0)).map moT)).length ≤ 24 := by
    rw [List.length_map]
    exact Nat.le_trans (List.length_filter_le _ _) (by omega)
  refine ⟨_, ?_, rfl, ?_⟩
  · rw [e, if_pos rfl, if_pos hq]
  · unfold polyB
    rw [decide_eq_true (show (1 : Int) ≤ n by omega), decide_eq_true (show (n : Int) ≤ 4 by omega), decide_eq_true hq]
    refine monosB_of (fun m hm => ?_) ?_
    · obtain ⟨t, ht, rfl⟩ := List.mem_map.1 hm
      obtain ⟨ht, h0⟩ := List.mem_filter.1 ht
      have h0 : t.v ≠ 0 := of_decide_eq_true h0
      refine ⟨?_, nuOf_w h0⟩
      unfold monoB moT
      rw [decide_eq_true (show ((t.e.length : Nat) : Int) = n by rw [hs.len t ht]), decide_eq_true (ha t ht).1, decide_eq_true (ha t ht).2, rightB_nuOf, decide_eq_true (ho t ht)]; rfl
    · refine List.Pairwise.map _ (fun a b h => ?_) (List.Pairwise.filter _ (hs.ord.imp_of_mem (S := fun a b => a.e.length = b.e.length ∧ 0 < ordE a.e b.e) fun ha hb h => ⟨by rw [hs.len _ ha, hs.len _ hb], h⟩))
      have := ordE_cmpE h.1
      show cmpE b.e a.e < 0
      omega
end Go.V
namespace Go.V
open Go Go.RowKit Go.Proofs
def qT15_33_6 : List (Nat × Nat) := [(0, 0), (1, 0), (2, 0), (3, 0), (4, 0), (5, 0), (6, 0), (7, 0), (8, 0), (9, 1), (10, 0), (11, 0), (12, 0), (13, 0), (14, 1), (15, 3), (16, 0), (17, 0)]
def qT15_33_8 : List (Nat × Nat) := [(0, 0), (1, 0), (2, 0), (3, 0), (4, 0), (5, 0), (6, 0), (7, 0), (8, 0), (9, 1), (10, 0), (11, 0), (12, 0), (13, 0), (14, 1), (15, 3), (16, 0), (17, 0)]
def qT15_33_9 : List (Nat × Nat) := [(0, 0), (1, 0), (2, 0), (3, 0), (4, 0), (5, 0), (6, 1), (7, 0), (8, 0), (9, 0), (10, 0), (11, 1), (12, 3), (13, 0), (14, 0), (15, 3)]
def qT15_33_22 : PT := (.lin [(0, 0), (3, 0), (4, 0), (5, 0), (6, 0), (7, 2)] (.fork 1 4 (.lin [(2, 4), (8, 3), (9, 0), (10, 3), (11, 3), (12, 0)] .nil) 2 4 (.lin [] (.fork 1 4 (.lin [(8, 3), (9, 0), (10, 3), (11, 3), (12, 0)] .nil) 8 3 (.lin [(1, 4), (9, 0), (10, 3), (11, 3), (12, 0)] .nil)))))
attribute [go_sem] qT15_33_6 qT15_33_8 qT15_33_9 qT15_33_22
/-! ### Rows under one of some names -/
def RowP (P : Nm → Prop) (S : Store) (s : Nat) (d : D) (els : List (List D)) : Prop := (d = .nil ∧ els = []) ∨ ∃ k b cap, P k ∧ d = .own k b 0 els.length cap s ∧ S k = some ⟨b, s, 0, els⟩
theorem RowP.nil {P : Nm → Prop} {S : Store} {s : Nat} : RowP P S s .nil [] := .inl ⟨rfl, rfl⟩
theorem RowP.up {P : Nm → Prop} {S S' : Store} {s : Nat} {d : D} {els : List (List D)} (h : RowP P S s d els) (hS : ∀ k, P k → S' k = S k) : RowP P S' s d els :=
  h.imp id fun ⟨k, b, cap, h0, h1, h2⟩ => ⟨k, b, cap, h0, h1, (hS k h0).trans h2⟩
theorem RowP.app {P : Nm → Prop} {S : Store} {K : D → Store → Prop} {q : SlZ} {kd : Nm} {d src : D} {els new : List (List D)} (h : RowP P S q.s d els) (hp : P kd) (hs : ∀ K, K new → srcD S q.s src K) (hl : els.length + new.length ≤ 140737488355328)
    (hb : (els.length + new.length) * q.bytes ≤ 140737488355328) (hk : ∀ d' S', RowP P S' q.s d' (els ++ new) → (∀ j, ¬ P j → S' j = S j) → S'.g = S.g → K d' S') : appD q S kd d src K := by
  rcases h with ⟨rfl, rfl⟩ | ⟨k, b, cap, h0, rfl, hS⟩
  · rw [appD_nil]
    refine hs _ ⟨by simpa using hl, by simpa using hb, fun h1 => ?_, fun h1 b' cap' => ?_⟩
    · subst h1; exact hk _ _ .nil (fun _ _ => rfl) rfl
    · exact hk _ _ (.inr ⟨kd, b', cap', hp, rfl, updS_at⟩) (fun j hj => updS_ne (fun e => hj (by rw [e]; exact hp))) rfl
  · rw [appD_own, hS]
    refine ⟨rfl, rfl, rfl, rfl, rfl, hs _ ⟨hl, hb, fun b' cap' => ?_⟩⟩
    exact hk _ _ (.inr ⟨k, b', cap', h0, by simp, updS_at⟩) (fun j hj => updS_ne (fun e => hj (by rw [e]; exact h0))) rfl
/-- Such a row gets one name for good. -/
theorem RowP.move {P : Nm → Prop} {N : DEnv → Store → Prop} {e : DEnv} {S : Store} {s : Nat} {els : List (List D)} (i : Nat) (k' : Nm) (hk : ¬ P k') (h : RowP P S s (e i) els) (hN : ∀ d S', RowZ S' k' s d els → (∀ j, ¬ P j → j ≠ k' → S' j = S j) → S'.g = S.g → N (updD e i d) S') : Recast N e S := by
  rcases h with ⟨h1, h2⟩ | ⟨k, b, cap, h0, h1, h2⟩
  · subst h2
    refine Recast.slot i (d := .nil) (fun I w v _ hv => by rw [← h1]; exact hv) ?_
    exact hN _ _ .nil (fun _ _ _ => rfl) rfl
  · have hne : k ≠ k' := fun e => hk (by rw [← e]; exact h0)
    refine Recast.join (Recast.move k k' hne (Recast.slot i (d := .own k' b 0 els.length cap s) (fun I w v _ hv => own_name k' (by rw [← h1]; exact hv)) ?_))
    refine hN _ _ (.inr ⟨b, cap, rfl, by rw [updS_at]; exact h2⟩) (fun j hj hj2 => ?_) rfl
    rw [updS_ne hj2, updS_ne (fun e => hj (by rw [e]; exact h0))]

theorem RowP.appL {P : Nm → Prop} {S : Store} {K : D → Store → Prop} {q : SlZ} {kd k2 : Nm} {dd : D} {els new : List (List D)} {b n cap p : Nat} (h : RowP P S q.s dd els) (hk2 : ¬ P k2) (hp : P kd) (hn : n = new.length) (h1 : ∀ es ∈ new, es.all D.one = true) (hl : els.length + new.length ≤ 140737488355328)
    (hb : (els.length + new.length) * q.bytes ≤ 140737488355328) (hK : ∀ d' S', RowP P S' q.s d' (els ++ new) → (∀ j, ¬ P j → S' j = updS S k2 (some ⟨b, q.s, p, new⟩) j) → S'.g = S.g → K d' S') :
    appD q (updS S k2 (some ⟨b, q.s, p, new⟩)) kd dd (.own k2 b 0 n cap q.s) K := by
  subst hn
  refine RowP.app (h.up fun k hk => updS_ne fun e => hk2 (by rw [← e]; exact hk)) hp (fun K hK => ?_) hl hb hK
  rw [srcD_own, updS_at]
  exact ⟨rfl, rfl, rfl, by simp, h1, by simpa using hK⟩
/-- The last row's cell, a row of the call's own, is frozen. -/
theorem RowZ.frz {N : DEnv → Store → Prop} {e : DEnv} {S : Store} {k k3 : Nm} {s : Nat} {d : D} {els : List (List D)} {es : List D} {b3 n3 cap3 s3 p3 : Nat} {els3 : List (List D)} {gs : List (List G)} (j : Nat) (h : RowZ S k s d (els ++ [es])) (hj : es[j]? = some (.own k3 b3 0 n3 cap3 s3)) (hne : k ≠ k3)
    (hk : S k3 = some ⟨b3, s3, p3, els3⟩) (hg : pureLL ((els3.drop 0).take n3) = some gs) (hn : 0 + n3 ≤ els3.length) (hN : ∀ S', RowZ S' k s d (els ++ [es.set j (.g (.sl gs))]) → (∀ q, q ≠ k → q ≠ k3 → S' q = S q) → S'.g = S.g → N e S') : Recast N e S := by
  rcases h with ⟨_, h2⟩ | ⟨b, cap, h1, h2⟩
  · simp at h2
  · refine Recast.frzCell h2 els.length j (by simp) hj hne hk hg hn (hN _ (.inr ⟨b, cap, ?_, ?_⟩) (fun q h3 h4 => ?_) rfl)
    · rw [h1]; simp
    · rw [updS_at]; simp
    · rw [updS_ne h3, updS_ne h4]

/-! ### Terms as data -/
def eT (t : Te) : List G := [.lit (.bool (fS t.v)), eS (eK .u32) (D32 (fN t.v)), .lit (.int .i64 (fE t.v)), eS eZ t.e]
def TT (l : List Te) : D := .g (eS eT l)
theorem eT_0 {t : Te} : eT t = [.lit (.bool (fS t.v)), eS (eK .u32) (D32 (fN t.v)), .lit (.int .i64 (fE t.v)), eS eZ t.e] := rfl
attribute [go_sem] eT_0
def cT (t : Te) : List D := [bl (fS t.v), W32 (D32 (fN t.v)), i64 (fE t.v), .g (eS eZ t.e)]
theorem rT_at {out : List Te} {k : Nat} (h : k < out.length) : (rS eT out)[k]? = some (cT (gT out k)) := by
  unfold rS gl
  rw [List.getElem?_map, List.getElem?_map, gT_at h]; rfl
theorem rT_set {out : List Te} {k : Nat} {t : Te} : (rS eT out).set k (cT t) = rS eT (out.set k t) := by
  unfold rS gl
  rw [List.map_set, List.map_set]; rfl
theorem rT_all {out : List Te} : ∀ es ∈ rS eT out, es.all D.one = true := by
  intro es h
  unfold rS gl at h
  obtain ⟨x, hx, rfl⟩ := List.mem_map.1 h
  obtain ⟨t, ht, rfl⟩ := List.mem_map.1 hx
  rfl
theorem rT_take {out : List Te} {k : Nat} : (rS eT out).take k = rS eT (out.take k) := by unfold rS gl; rw [List.map_take, List.map_take]
theorem rT_drop {out : List Te} {k : Nat} : (rS eT out).drop k = rS eT (out.drop k) := by unfold rS gl; rw [List.map_drop, List.map_drop]
def LM (s : List Mo × Int) : D := .tup [.g (eS eM s.1), i64 s.2]
def P3 (k : Nm) : Prop := k = .l 75 ∨ k = .l 82 ∨ k = .l 87
theorem P3_r : ¬ P3 (.r 0 0) := by unfold P3; simp
theorem P3_81 : ¬ P3 (.l 81) := by unfold P3; simp
theorem srcD_ZI {S : Store} {xs : List Int} {K : List (List D) → Prop} : srcD S 1 (.g (eS eZ xs)) K = K (rS eZ xs) := srcD_eS fun _ _ => rfl
theorem slD_nilZ {s : Nat} {lo hi mx : Option D} {K : D → Prop} : slD s .nil lo hi mx K = bndD lo 0 fun l => bndD hi 0 fun h => l = 0 ∧ h = 0 ∧ (mx.isSome = true → mx = hi) ∧ K .nil := rfl
theorem litsD_0 {S : Store} {q : SlZ} {k : Nm} {K : D → Store → Prop} : litsD q k S 0 [] [] K = ∀ b, K (.own k b 0 0 0 q.s) (updS S k (some ⟨b, q.s, 0, []⟩)) := by
  simp [litsD]
attribute [go_sem ↓] srcD_ZI slD_nilZ litsD_0
theorem rS_m {l : List Mo} {m : Mo} : rS eM l ++ [[bl m.c.neg, i64 m.c.exp, W64 m.c.w, .g (eS eZ m.e)]] = rS eM (l ++ [m]) := by rw [← rS_app]; rfl
set_option maxHeartbeats 8000000 in
theorem p_gather {l : List Te} {M Q : Nat} (hl : l.length ≤ 10000) (hs : ∀ t ∈ l, Sm M Q t.v) (he : ∀ t ∈ l, t.e.length ≤ 100000) (hk : M + Q + l.length ≤ 60000000) : PC Tryd.prog 33 [TT l] fun d => d = LM (gathR l) := by
  generalize hr : gathR l = r
  have hsm := gathN_sm hs
  have hel := gathN_all (P := fun e => e.length ≤ 100000) he
  have hln := gathN_len l
  unfold TT
  have d1 := @dl 6 qT15_33_6
  have d2 := @dl 8 qT15_33_8
  have d3 := @dl 9 qT15_33_9
  have d4 := @dr 22 qT15_33_22
  refine PB (rs := [.tmp 2, .tmp 3]) Tryd.func33 ?_
  repeat (first | with_reducible refine pv_seq fun K hK => ?_ | ((with_reducible first | refine hK _ _ ?_ | (clear hK; refine hK _ _ ?_) | (clear hK; clear hK; refine hK _ _ ?_)); clear hK; try clear K) | refine W0 ?_ | exact Z | with_reducible intro b)
  have J : ∀ (e : DEnv) (S : Store), RowZ S (.r 0 0) 4 (e 4) (rS eT (gathN l l.length)) → K e S := by
    as_aux_lemma =>
    intro e S hw
    have ho := hsm l.length (Nat.le_refl _)
    have hoe := hel l.length (Nat.le_refl _)
    have hon := hln l.length
    unfold gathR at hr
    generalize gathN l l.length = out at *
    clear hsm hel hln hs he
    rcases hw with ⟨g4, h4⟩ | ⟨b4, cap, g4, s4⟩
    · obtain rfl : out = [] := by have := congrArg List.length h4; rw [rS_len] at this; exact List.eq_nil_of_length_eq_zero this
      have hr2 : r = ([], 0) := by rw [← hr]; rfl
      subst hr2
      have ft := g4
      repeat (first | with_reducible refine pv_seq fun K hK => ?_ | ((with_reducible first | refine hK _ _ ?_ | (clear hK; refine hK _ _ ?_) | (clear hK; clear hK; refine hK _ _ ?_)); clear hK; try clear K) | refine W0 ?_ | exact Z | with_reducible intro b)
      refine pv_loop (fun e T => Hid (e 4 = .nil ∧ e 8 = .nil ∧ e 9 = i64 0)) (fun _ _ => 0) ?_ ?_
      · exact ⟨Zr, Zr, Zr⟩
      · rintro e2 T ⟨g4, g8, g9⟩
        have ft := And.intro g4 (And.intro g8 g9)
        exact Wk
    · rw [rS_len] at g4
      have k4 : ∀ k : Nat, k < out.length → (rS eT out)[k]? = some (cT (gT out k)) := fun k => rT_at
      have hml := monoN_len out
      have ft := g4
      repeat (first | with_reducible refine pv_seq fun K hK => ?_ | ((with_reducible first | refine hK _ _ ?_ | (clear hK; refine hK _ _ ?_) | (clear hK; clear hK; refine hK _ _ ?_)); clear hK; try clear K) | refine W0 ?_ | exact Z | with_reducible intro b)
      have JF : ∀ (e : DEnv) (S : Store), (monoN out out.length).2 = 0 → RowZ S (.l 123) 4 (e 8) (rS eM (monoN out out.length).1) → K e S := by
        intro e S h0 hw
        rw [if_pos h0] at hr
        have hl2 := hml out.length
        generalize monoN out out.length = mm at *
        obtain ⟨mm, em⟩ := mm
        simp only at h0
        subst h0
        simp only at hr hl2 hw
        by_cases h24 : mm.length ≤ 24
        · rw [if_pos h24] at hr
          subst hr
          have k24 : ((24 : Int) < (mm.length : Int)) = False := eq_false (by omega)
          have ft := k24
          repeat (first | with_reducible refine pv_seq fun K hK => ?_ | ((with_reducible first | refine hK _ _ ?_ | (clear hK; refine hK _ _ ?_) | (clear hK; clear hK; refine hK _ _ ?_)); clear hK; try clear K) | refine W0 ?_ | exact Z | with_reducible intro b)
          refine hw.toD.len ?_
          rw [rS_len]
          repeat (first | with_reducible refine pv_seq fun K hK => ?_ | ((with_reducible first | refine hK _ _ ?_ | (clear hK; refine hK _ _ ?_) | (clear hK; clear hK; refine hK _ _ ?_)); clear hK; try clear K) | refine W0 ?_ | exact Z | with_reducible intro b)
          exact hw.toD.coeD fun S' _ _ => rfl
        · rw [if_neg h24] at hr
          subst hr
          have k24 : ((24 : Int) < (mm.length : Int)) = True := eq_true (by omega)
          have ft := k24
          repeat (first | with_reducible refine pv_seq fun K hK => ?_ | ((with_reducible first | refine hK _ _ ?_ | (clear hK; refine hK _ _ ?_) | (clear hK; clear hK; refine hK _ _ ?_)); clear hK; try clear K) | refine W0 ?_ | exact Z | with_reducible intro b)
          refine hw.toD.len ?_
          rw [rS_len]
          exact Wk
      clear hK
      obtain ⟨I, mk, el⟩ := hide fun e S => ∃ i : Nat, i ≤ out.length ∧ e 4 = .own (.r 0 0) b4 0 out.length cap 4 ∧ e 9 = i64 i ∧ S (.r 0 0) = some ⟨b4, 4, 0, rS eT out⟩ ∧ (monoN out i).2 = 0 ∧ RowZ S (.l 123) 4 (e 8) (rS eM (monoN out i).1)
      refine pv_loop I (fun e _ => out.length - (intD (e 9)).toNat) ?_ ?_
      · exact mk _ _ ⟨0, Nat.zero_le _, Zr, Zr, s4, rfl, .inl ⟨Zr, rfl⟩⟩
      · intro e S hI
        obtain ⟨i, hi, g4, g9, s4, hm2, hw⟩ := el e S hI
        clear el hI
        have ft := And.intro g4 g9
        repeat (first | with_reducible refine pv_seq fun K hK => ?_ | ((with_reducible first | refine hK _ _ ?_ | (clear hK; refine hK _ _ ?_) | (clear hK; clear hK; refine hK _ _ ?_)); clear hK; try clear K) | refine W0 ?_ | exact Z | with_reducible intro b)
        refine pv_cdD (fun ht => ?_) (fun ht => ?_)
        · have hil : i < out.length := by omega
          have q1 := k4 i hil
          have wv := ho _ (gT_mem hil)
          have we := hoe _ (gT_mem hil)
          have hst : (monoN out (i + 1)).2 ≠ 0 → r = monoN out (i + 1) := fun h => by
            have e1 := monoN_stuck (n := out.length) h (by omega)
            rw [e1, if_neg h] at hr
            exact hr.symm
          have hsu : monoN out (i + 1) = if (gT out i).v = 0 then monoN out i else if (numR (gT out i).v).2 = 0 then ((monoN out i).1 ++ [⟨(numR (gT out i).v).1, (gT out i).e⟩], 0) else ([], 2) := by
            conv => lhs; unfold monoN
            rw [if_pos hm2]
          have hle := hml i
          have mk2 : ∀ (e : DEnv) (S : Store), e 4 = .own (.r 0 0) b4 0 out.length cap 4 → e 9 = i64 ((i + 1 : Nat) : Int) → S (.r 0 0) = some ⟨b4, 4, 0, rS eT out⟩ → (monoN out (i + 1)).2 = 0 → RowZ S (.l 123) 4 (e 8) (rS eM (monoN out (i + 1)).1) → I e S := fun e S a1 a2 a3 a4 a5 => mk e S ⟨i + 1, by omega, a1, a2, a3, a4, a5⟩
          clear mk hml JF hr k4
          generalize monoN out (i + 1) = m1 at *
          generalize monoN out i = m0 at *
          have pS := p_rSign (d := (gT out i).v)
          have pN := p_rNum wv.bd (by omega)
          have kz : (sgnD (gT out i).v = 0) = ((gT out i).v = 0) := propext sgnD_zero
          repeat (first | with_reducible refine pv_stopB 5 ?_ | with_reducible refine pv_seq fun K hK => ?_ | ((with_reducible first | refine hK _ _ ?_ | (clear hK; refine hK _ _ ?_) | (clear hK; clear hK; refine hK _ _ ?_)); clear hK; try clear K) | refine W ?_ | exact Z | with_reducible intro b)
          refine ⟨fun K1 q1' hC => ?_⟩
          have JE : ∀ (e2 : DEnv) (S : Store), e2 4 = .own (.r 0 0) b4 0 out.length cap 4 → e2 9 = i64 i → S (.r 0 0) = some ⟨b4, 4, 0, rS eT out⟩ → m1.2 = 0 → RowZ S (.l 123) 4 (e2 8) (rS eM m1.1) → K1 e2 S := by
            intro e2 S g4 g9 s4 h0 hw
            refine q1' _ _ ?_
            clear q1' hC
            have ft := And.intro g9 g4
            repeat (first | with_reducible refine pv_seq fun K hK => ?_ | ((with_reducible first | refine hK _ _ ?_ | (clear hK; refine hK _ _ ?_) | (clear hK; clear hK; refine hK _ _ ?_)); clear hK; try clear K) | refine W0 ?_ | exact Z | with_reducible intro b)
            exact ⟨mk2 _ _ Zr Zr s4 h0 hw, by simp only [intD]; omega⟩
          clear q1' mk2
          generalize gT out i = t at *
          obtain ⟨tv, te⟩ := t
          unfold cT at q1
          unfold VA at pS pN
          simp only at *
          generalize hnr : numR tv = nr at *
          obtain ⟨⟨n1, e1, w1⟩, er⟩ := nr
          by_cases h0 : tv = 0
          · rw [if_pos h0] at hsu
            subst hsu
            rw [eq_true h0] at kz
            have ft := And.intro g4 (And.intro g9 (And.intro s4 (And.intro q1 kz)))
            repeat (first | with_reducible refine pv_seq fun K hK => ?_ | ((with_reducible first | refine hK _ _ ?_ | (clear hK; refine hK _ _ ?_) | (clear hK; clear hK; refine hK _ _ ?_)); clear hK; try clear K) | refine W ?_ | exact Z | with_reducible intro b)
            exact JE _ _ Zr Zr s4 hm2 hw
          · rw [if_neg h0] at hsu
            rw [eq_false h0] at kz
            by_cases h1 : er = 0
            · subst h1
              rw [if_pos rfl] at hsu
              subst hsu
              have hnew := rS_m (l := m0.1) (m := ⟨⟨n1, e1, w1⟩, te⟩)
              have ft := And.intro g4 (And.intro g9 (And.intro s4 (And.intro q1 kz)))
              repeat (first | with_reducible refine pv_seq fun K hK => ?_ | ((with_reducible first | refine hK _ _ ?_ | (clear hK; refine hK _ _ ?_) | (clear hK; clear hK; refine hK _ _ ?_)); clear hK; try clear K) | refine W0 ?_ | exact Z | with_reducible intro b)
              repeat' (first | with_reducible refine pv_seq fun K hK => ?_ | ((with_reducible first | refine hK _ _ ?_ | (clear hK; refine hK _ _ ?_) | (clear hK; clear hK; refine hK _ _ ?_)); clear hK; try clear K) | refine W ?_ | exact Z | with_reducible intro b | with_reducible refine And.intro ?_ ?_ | (refine ⟨by rw [rS_len]; omega, by rw [rS_len]; omega, fun b' cap' => ?_⟩) | (refine RowZ.appL (hw.up (by rfl)) (by decide) rfl (by simp [D.one, W64]) ?_ ?_ fun d' S' hr' hS' => ?_))
              all_goals first | (rw [rS_len]; omega) | exact hC _ _ (RowZ.frz (k3 := .l 114) 3 hr' rfl (by decide) ((hS' _ (by decide)).trans (by simp only [updS_apply]; rfl)) (gs := te.map eZ) (by rw [List.drop_zero, List.take_length]; exact pureLL_rS) (by omega) fun S2 hz hf hg2 => JE _ _ Zr Zr ((hf (.r 0 0) (by decide) (by decide)).trans ((hS' _ (by decide)).trans (by simp only [updS_apply]; exact s4))) rfl (by rw [← hnew]; exact hz))
            · rw [if_neg h1] at hsu
              subst hsu
              have hr1 := hst (by decide)
              subst hr1
              have k1 := eq_false h1
              have ft := And.intro g4 (And.intro g9 (And.intro s4 (And.intro q1 (And.intro kz k1))))
              exact Wk
        · obtain rfl : i = out.length := by omega
          repeat (first | with_reducible refine pv_seq fun K hK => ?_ | ((with_reducible first | refine hK _ _ ?_ | (clear hK; refine hK _ _ ?_) | (clear hK; clear hK; refine hK _ _ ?_)); clear hK; try clear K) | refine W0 ?_ | exact Z | with_reducible intro b)
          exact JF _ _ hm2 hw
  clear hK
  obtain ⟨I, mk, el⟩ := hide fun e S => ∃ i : Nat, i ≤ l.length ∧ e 0 = .g (eS eT l) ∧ e 5 = i64 i ∧ RowZ S (.r 0 0) 4 (e 4) (rS eT (gathN l i))
  refine pv_loop I (fun e _ => l.length - (intD (e 5)).toNat) ?_ ?_
  · exact mk _ _ ⟨0, Nat.zero_le _, Zr, Zr, .inl ⟨Zr, rfl⟩⟩
  · intro e S hI
    obtain ⟨i, hi, g0, g5, hw⟩ := el e S hI
    clear el hI
    have hm0 : (intD (e 5)).toNat = i := by rw [g5]; exact Int.toNat_natCast i
    have ft := And.intro g0 g5
    repeat (first | with_reducible refine pv_seq fun K hK => ?_ | ((with_reducible first | refine hK _ _ ?_ | (clear hK; refine hK _ _ ?_) | (clear hK; clear hK; refine hK _ _ ?_)); clear hK; try clear K) | refine W0 ?_ | exact Z | with_reducible intro b)
    refine pv_cdD (fun ht => ?_) (fun ht => ?_)
    · have hil : i < l.length := by omega
      have q2 := gT_at hil
      have wm := he _ (gT_mem hil)
      have ws := hs _ (gT_mem hil)
      have hins : gathN l (i + 1) = insT (gathN l i) (gT l i) := rfl
      have hsi := hsm i hi
      have hei := hel i hi
      have hni := hln i
      have mk2 : ∀ (e2 : DEnv) (S2 : Store), e2 0 = .g (eS eT l) → e2 5 = i64 ((i + 1 : Nat) : Int) → RowZ S2 (.r 0 0) 4 (e2 4) (rS eT (gathN l (i + 1))) → I e2 S2 := fun e2 S2 a1 a2 a3 => mk _ _ ⟨i + 1, by omega, a1, a2, a3⟩
      clear J hsm hel hln mk hs he hr
      generalize gathN l (i + 1) = out1 at *
      generalize gathN l i = out at *
      generalize gT l i = t at *
      repeat (first | with_reducible refine pv_stopB 1 ?_ | with_reducible refine pv_seq fun K hK => ?_ | ((with_reducible first | refine hK _ _ ?_ | (clear hK; refine hK _ _ ?_) | (clear hK; clear hK; refine hK _ _ ?_)); clear hK; try clear K) | refine W ?_ | exact Z | with_reducible intro b)
      refine ⟨fun K1 q1 hC => ?_⟩
      have JE : ∀ (e2 : DEnv) (S : Store), e2 0 = .g (eS eT l) → e2 5 = i64 i → RowZ S (.r 0 0) 4 (e2 4) (rS eT out1) → K1 e2 S := by
        intro e2 S g0 g5 hw
        refine q1 _ _ ?_
        clear q1 hC
        have ft := And.intro g5 g0
        repeat (first | with_reducible refine pv_seq fun K hK => ?_ | ((with_reducible first | refine hK _ _ ?_ | (clear hK; refine hK _ _ ?_) | (clear hK; clear hK; refine hK _ _ ?_)); clear hK; try clear K) | refine W0 ?_ | exact Z | with_reducible intro b)
        exact ⟨mk2 _ _ Zr Zr hw, by simp only [intD]; omega⟩
      have JM : ∀ (e2 : DEnv) (S : Store), e2 0 = .g (eS eT l) → e2 5 = i64 i → RowP P3 S 4 (e2 4) (rS eT out1) → K1 e2 S := by
        intro e2 S g0 g5 hw
        exact hC _ _ (RowP.move 4 (.r 0 0) P3_r hw fun d S' hz _ _ => JE _ _ g0 g5 hz)
      clear q1 hC mk2
      obtain ⟨tv, te⟩ := t
      simp only at *
      rcases hw with ⟨g4, h4⟩ | ⟨b4, cap, g4, s4⟩
      · obtain rfl : out = [] := by have := congrArg List.length h4; rw [rS_len] at this; exact List.eq_nil_of_length_eq_zero this
        rw [insT_nil] at hins
        subst hins
        have ft := And.intro g0 (And.intro g4 g5)
        repeat (first | with_reducible refine pv_seq fun K hK => ?_ | ((with_reducible first | refine hK _ _ ?_ | (clear hK; refine hK _ _ ?_) | (clear hK; clear hK; refine hK _ _ ?_)); clear hK; try clear K) | refine W0 ?_ | exact Z | with_reducible intro b)
        refine pv_loop (fun e T => Hid (e 0 = .g (eS eT l) ∧ e 4 = .nil ∧ e 5 = i64 i ∧ e 6 = i64 0)) (fun _ _ => 0) ?_ ?_
        · exact ⟨Zr, Zr, Zr, Zr⟩
        · rintro e2 T ⟨g0, g4, g5, g6⟩
          have k0 : ((0 : Int) < 0) = False := eq_false (by decide)
          have ft := And.intro g0 (And.intro g4 (And.intro g5 (And.intro g6 q2)))
          repeat (first | with_reducible refine pv_seq fun K hK => ?_ | ((with_reducible first | refine hK _ _ ?_ | (clear hK; refine hK _ _ ?_) | (clear hK; clear hK; refine hK _ _ ?_)); clear hK; try clear K) | refine W0 ?_ | exact Z | with_reducible intro b)
          refine ⟨fun _ => ?_, fun h => absurd h (by decide)⟩
          repeat (first | with_reducible refine pv_seq fun K hK => ?_ | ((with_reducible first | refine hK _ _ ?_ | (clear hK; refine hK _ _ ?_) | (clear hK; clear hK; refine hK _ _ ?_)); clear hK; try clear K) | refine W0 ?_ | exact Z | with_reducible intro b)
          refine ⟨by simp [D.one], fun h => h.elim, fun _ b' cap' => ?_⟩
          repeat (first | with_reducible refine pv_seq fun K hK => ?_ | ((with_reducible first | refine hK _ _ ?_ | (clear hK; refine hK _ _ ?_) | (clear hK; clear hK; refine hK _ _ ?_)); clear hK; try clear K) | refine W0 ?_ | exact Z | with_reducible intro b)
          exact JM _ _ Zr Zr (.inr ⟨.l 82, _, _, .inr (.inl rfl), Zr, by simp only [updS_apply]; rfl⟩)
      · rw [rS_len] at g4
        have k4 : ∀ k : Nat, k < out.length → (rS eT out)[k]? = some (cT (gT out k)) := fun k => rT_at
        have hmx := posT_max (out := out) (e := te)
        have hal := fun j => posT_all (out := out) (e := te) (j := j)
        have hpl := posT_le out te
        unfold insT at hins
        simp only at hins
        generalize hp : posT out te = m at *
        have ft := And.intro g0 (And.intro g4 g5)
        repeat (first | with_reducible refine pv_seq fun K hK => ?_ | ((with_reducible first | refine hK _ _ ?_ | (clear hK; refine hK _ _ ?_) | (clear hK; clear hK; refine hK _ _ ?_)); clear hK; try clear K) | refine W0 ?_ | exact Z | with_reducible intro b)
        refine pv_loop (fun e T => Hid (∃ k : Nat, k ≤ m ∧ e 0 = .g (eS eT l) ∧ e 4 = .own (.r 0 0) b4 0 out.length cap 4 ∧ e 5 = i64 i ∧ e 6 = i64 k ∧ T (.r 0 0) = some ⟨b4, 4, 0, rS eT out⟩)) (fun e _ => m - (intD (e 6)).toNat) ?_ ?_
        · exact ⟨0, Nat.zero_le _, Zr, Zr, Zr, Zr, s4⟩
        · rintro e2 T ⟨k, hkm, g0, g4, g5, g6, s4⟩
          have JX : ∀ (e : DEnv) (S : Store), True := fun _ _ => trivial
          by_cases hk1 : k < out.length
          · have k1 : (k < out.length) = True := eq_true hk1
            have q1 := k4 k hk1
            have hek := hei _ (gT_mem hk1)
            have pC := p_rOrdE (a := (gT out k).e) (b := te) hek wm
            by_cases hkm2 : k < m
            · have h9 := hal k hkm2
              have h9' := eq_true h9
              clear hmx hal hins JE JM hsi hei
              generalize gT out k = x at *
              obtain ⟨xv, xe⟩ := x
              unfold ZI at pC
              unfold cT at q1
              simp only at *
              generalize ordE xe te = o at *
              have ft := And.intro g0 (And.intro g4 (And.intro g5 (And.intro g6 (And.intro s4 (And.intro q1 (And.intro q2 (And.intro k1 h9')))))))
              repeat (first | with_reducible refine pv_seq fun K hK => ?_ | ((with_reducible first | refine hK _ _ ?_ | (clear hK; refine hK _ _ ?_) | (clear hK; clear hK; refine hK _ _ ?_)); clear hK; try clear K) | refine W ?_ | exact Z | with_reducible intro b)
              exact ⟨⟨k + 1, by omega, Zr, Zr, Zr, Zr, s4⟩, by simp only [intD]; omega⟩
            · obtain rfl : k = m := by omega
              have h9 := hmx hk1
              have h9' := eq_false h9
              by_cases h0 : ordE (gT out k).e te = 0
              · rw [if_pos ⟨hk1, h0⟩] at hins
                have h0' := eq_true h0
                have pP := p_rPlus (hsi _ (gT_mem hk1)).bd (ws.mono (show M ≤ M + i by omega)).bd (by omega)
                have hset := rT_set (out := out) (k := k) (t := ⟨(gT out k).v + tv, (gT out k).e⟩)
                clear hmx hal JM hsi hei
                generalize gT out k = x at *
                obtain ⟨xv, xe⟩ := x
                unfold ZI at pC
                unfold cT at q1 hset
                unfold VA at pP
                simp only at *
                generalize ordE xe te = o at *
                have ft := And.intro g0 (And.intro g4 (And.intro g5 (And.intro g6 (And.intro s4 (And.intro q1 (And.intro q2 (And.intro k1 (And.intro h9' h0'))))))))
                repeat (first | with_reducible refine pv_seq fun K hK => ?_ | ((with_reducible first | refine hK _ _ ?_ | (clear hK; refine hK _ _ ?_) | (clear hK; clear hK; refine hK _ _ ?_)); clear hK; try clear K) | refine W ?_ | exact Z | with_reducible intro b)
                exact JE _ _ Zr Zr (.inr ⟨b4, cap, by rw [hins, rS_len, List.length_set]; exact Zr, by rw [hins, ← hset]; simp only [updS_apply]; rfl⟩)
              · rw [if_neg (fun h => h0 h.2)] at hins
                have h0' := eq_false h0
                clear hmx hal hsi hei JE
                generalize gT out k = x at *
                obtain ⟨xv, xe⟩ := x
                unfold ZI at pC
                unfold cT at q1
                simp only at *
                generalize ordE xe te = o at *
                have ft := And.intro g0 (And.intro g4 (And.intro g5 (And.intro g6 (And.intro s4 (And.intro q1 (And.intro q2 (And.intro k1 (And.intro h9' h0'))))))))
                repeat (first | with_reducible refine pv_stop 11 ?_ | with_reducible refine pv_seq fun K hK => ?_ | ((with_reducible first | refine hK _ _ ?_ | (clear hK; refine hK _ _ ?_) | (clear hK; clear hK; refine hK _ _ ?_)); clear hK; try clear K) | refine W ?_ | exact Z | with_reducible intro b)
                refine ⟨fun K2 q2' hC2 => ?_⟩
                have JR : ∀ (e : DEnv) (S : Store), e 0 = .g (eS eT l) → e 4 = .own (.r 0 0) b4 0 out.length cap 4 → e 5 = i64 i → e 6 = i64 k → S (.r 0 0) = some ⟨b4, 4, 0, rS eT out⟩ → RowP P3 S 4 (e 7) (rS eT (out.take k)) → K2 e S := by
                  intro e S g0 g4 g5 g6 s4 hr
                  refine q2' _ _ ?_
                  clear q2' hC2
                  have ft := And.intro g4 (And.intro g0 (And.intro g5 (And.intro g6 q2)))
                  repeat (first | with_reducible refine pv_seq fun K hK => ?_ | ((with_reducible first | refine hK _ _ ?_ | (clear hK; refine hK _ _ ?_) | (clear hK; clear hK; refine hK _ _ ?_)); clear hK; try clear K) | refine W0 ?_ | exact Z | with_reducible intro b)
                  refine RowP.appL (P := P3) hr P3_81 (.inr (.inl rfl)) rfl ?_ ?_ ?_ fun d2 S2 hr2 hf2 hg2 => ?_
                  · simp [D.one]
                  · rw [rS_len, List.length_take]; simp only [List.length_singleton]; omega
                  · rw [rS_len, List.length_take]; simp only [List.length_singleton]; omega
                  have s4'' : S2 (.r 0 0) = some ⟨b4, 4, 0, rS eT out⟩ := (hf2 (.r 0 0) P3_r).trans ((updS_ne (by simp)).trans s4)
                  repeat (first | with_reducible refine pv_seq fun K hK => ?_ | ((with_reducible first | refine hK _ _ ?_ | (clear hK; refine hK _ _ ?_) | (clear hK; clear hK; refine hK _ _ ?_)); clear hK; try clear K) | refine W0 ?_ | exact Z | with_reducible intro b)
                  refine RowP.app (new := rS eT (out.drop k)) hr2 (.inr (.inr rfl)) (fun K hK => ?_) ?_ ?_ fun d3 S3 hr3 hf3 hg3 => ?_
                  · rw [srcD_own, s4'']; exact ⟨rfl, rfl, rfl, by rw [rS_len]; omega, rT_all, by rw [rT_drop, List.take_of_length_le (by rw [rS_len, List.length_drop]; omega)]; exact hK⟩
                  · simp only [List.length_append, rS_len, List.length_take, List.length_drop, List.length_singleton, List.length_nil]; omega
                  · simp only [List.length_append, rS_len, List.length_take, List.length_drop, List.length_singleton, List.length_nil]; omega
                  repeat (first | with_reducible refine pv_seq fun K hK => ?_ | ((with_reducible first | refine hK _ _ ?_ | (clear hK; refine hK _ _ ?_) | (clear hK; clear hK; refine hK _ _ ?_)); clear hK; try clear K) | refine W0 ?_ | exact Z | with_reducible intro b)
                  exact JM _ _ Zr Zr (by rw [hins, show out.take k ++ (⟨tv, te⟩ : Te) :: out.drop k = out.take k ++ [⟨tv, te⟩] ++ out.drop k by simp, ← rS_app, ← rS_app]; exact hr3)
                repeat (first | with_reducible refine pv_seq fun K hK => ?_ | ((with_reducible first | refine hK _ _ ?_ | (clear hK; refine hK _ _ ?_) | (clear hK; clear hK; refine hK _ _ ?_)); clear hK; try clear K) | refine W0 ?_ | exact Z | with_reducible intro b)
                refine ⟨by rw [rS_len]; omega, rT_all, by rw [rT_take, rS_len, List.length_take]; omega, by rw [rT_take, rS_len, List.length_take]; omega, fun h => JR _ _ Zr Zr Zr Zr s4 (.inl ⟨Zr, by rw [← rT_take]; exact h⟩), fun h b' cap' => JR _ _ Zr Zr Zr Zr (by rw [updS_ne (by simp)]; exact s4) (.inr ⟨.l 75, b', cap', .inl rfl, by rw [← rT_take]; exact Zr, by rw [← rT_take]; exact updS_at⟩)⟩
          · obtain rfl : k = m := by omega
            have k1 : (k < out.length) = False := eq_false hk1
            rw [if_neg (fun h => hk1 h.1)] at hins
            clear hmx hal hsi hei JE
            have ft := And.intro g0 (And.intro g4 (And.intro g5 (And.intro g6 (And.intro s4 (And.intro q2 k1)))))
            repeat (first | with_reducible refine pv_stop 11 ?_ | with_reducible refine pv_seq fun K hK => ?_ | ((with_reducible first | refine hK _ _ ?_ | (clear hK; refine hK _ _ ?_) | (clear hK; clear hK; refine hK _ _ ?_)); clear hK; try clear K) | refine W ?_ | exact Z | with_reducible intro b)
            refine ⟨fun K2 q2' hC2 => ?_⟩
            have JR : ∀ (e : DEnv) (S : Store), e 0 = .g (eS eT l) → e 4 = .own (.r 0 0) b4 0 out.length cap 4 → e 5 = i64 i → e 6 = i64 k → S (.r 0 0) = some ⟨b4, 4, 0, rS eT out⟩ → RowP P3 S 4 (e 7) (rS eT (out.take k)) → K2 e S := by
              intro e S g0 g4 g5 g6 s4 hr
              refine q2' _ _ ?_
              clear q2' hC2
              have ft := And.intro g4 (And.intro g0 (And.intro g5 (And.intro g6 q2)))
              repeat (first | with_reducible refine pv_seq fun K hK => ?_ | ((with_reducible first | refine hK _ _ ?_ | (clear hK; refine hK _ _ ?_) | (clear hK; clear hK; refine hK _ _ ?_)); clear hK; try clear K) | refine W0 ?_ | exact Z | with_reducible intro b)
              refine RowP.appL (P := P3) hr P3_81 (.inr (.inl rfl)) rfl ?_ ?_ ?_ fun d2 S2 hr2 hf2 hg2 => ?_
              · simp [D.one]
              · rw [rS_len, List.length_take]; simp only [List.length_singleton]; omega
              · rw [rS_len, List.length_take]; simp only [List.length_singleton]; omega
              have s4'' : S2 (.r 0 0) = some ⟨b4, 4, 0, rS eT out⟩ := (hf2 (.r 0 0) P3_r).trans ((updS_ne (by simp)).trans s4)
              repeat (first | with_reducible refine pv_seq fun K hK => ?_ | ((with_reducible first | refine hK _ _ ?_ | (clear hK; refine hK _ _ ?_) | (clear hK; clear hK; refine hK _ _ ?_)); clear hK; try clear K) | refine W0 ?_ | exact Z | with_reducible intro b)
              refine ⟨fun _ => ?_, ?_⟩
              · refine RowP.app (new := []) hr2 (.inr (.inr rfl)) (fun K hK => ?_) ?_ ?_ fun d3 S3 hr3 hf3 hg3 => ?_
                · rw [srcD_own, s4'']; exact ⟨rfl, rfl, rfl, by rw [rS_len]; omega, rT_all, hK⟩
                · simp only [List.length_append, rS_len, List.length_take, List.length_drop, List.length_singleton, List.length_nil]; omega
                · simp only [List.length_append, rS_len, List.length_take, List.length_drop, List.length_singleton, List.length_nil]; omega
                repeat (first | with_reducible refine pv_seq fun K hK => ?_ | ((with_reducible first | refine hK _ _ ?_ | (clear hK; refine hK _ _ ?_) | (clear hK; clear hK; refine hK _ _ ?_)); clear hK; try clear K) | refine W0 ?_ | exact Z | with_reducible intro b)
                exact JM _ _ Zr Zr (by rw [hins, show out.take k ++ (⟨tv, te⟩ : Te) :: out.drop k = out.take k ++ [⟨tv, te⟩] ++ out.drop k by simp, ← rS_app, ← rS_app]; rw [show out.drop k = [] from List.drop_eq_nil_of_le (by omega)]; exact hr3)
              · refine RowP.app (new := rS eT (out.drop k)) hr2 (.inr (.inr rfl)) (fun K hK => ?_) ?_ ?_ fun d3 S3 hr3 hf3 hg3 => ?_
                · rw [srcD_own, s4'']; exact ⟨rfl, rfl, rfl, by rw [rS_len]; omega, rT_all, by rw [rT_drop, List.take_of_length_le (by rw [rS_len, List.length_drop]; omega)]; exact hK⟩
                · simp only [List.length_append, rS_len, List.length_take, List.length_drop, List.length_singleton, List.length_nil]; omega
                · simp only [List.length_append, rS_len, List.length_take, List.length_drop, List.length_singleton, List.length_nil]; omega
                repeat (first | with_reducible refine pv_seq fun K hK => ?_ | ((with_reducible first | refine hK _ _ ?_ | (clear hK; refine hK _ _ ?_) | (clear hK; clear hK; refine hK _ _ ?_)); clear hK; try clear K) | refine W0 ?_ | exact Z | with_reducible intro b)
                exact JM _ _ Zr Zr (by rw [hins, show out.take k ++ (⟨tv, te⟩ : Te) :: out.drop k = out.take k ++ [⟨tv, te⟩] ++ out.drop k by simp, ← rS_app, ← rS_app]; exact hr3)
            repeat (first | with_reducible refine pv_seq fun K hK => ?_ | ((with_reducible first | refine hK _ _ ?_ | (clear hK; refine hK _ _ ?_) | (clear hK; clear hK; refine hK _ _ ?_)); clear hK; try clear K) | refine W0 ?_ | exact Z | with_reducible intro b)
            refine ⟨by rw [rS_len]; omega, rT_all, by rw [rT_take, rS_len, List.length_take]; omega, by rw [rT_take, rS_len, List.length_take]; omega, fun h => JR _ _ Zr Zr Zr Zr s4 (.inl ⟨Zr, by rw [← rT_take]; exact h⟩), fun h b' cap' => JR _ _ Zr Zr Zr Zr (by rw [updS_ne (by simp)]; exact s4) (.inr ⟨.l 75, b', cap', .inl rfl, by rw [← rT_take]; exact Zr, by rw [← rT_take]; exact updS_at⟩)⟩
    · obtain rfl : i = l.length := by omega
      repeat (first | with_reducible refine pv_seq fun K hK => ?_ | ((with_reducible first | refine hK _ _ ?_ | (clear hK; refine hK _ _ ?_) | (clear hK; clear hK; refine hK _ _ ?_)); clear hK; try clear K) | refine W0 ?_ | exact Z | with_reducible intro b)
      exact J _ _ hw
end Go.V

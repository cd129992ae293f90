/- Package tube over values as data: all pieces with a time of a span. -/
import Derived.Test.YtcmnbpliiopbjaaGreatDoorU4
set_option linter.unusedSimpArgs false
set_option linter.unusedVariables false
set_option maxRecDepth 100000
namespace Go.V
open Go Go.RowKit Go.Proofs
def qU5_18_7 : List (Nat × Nat) := [(0, 2), (1, 1), (2, 4), (3, 4), (4, 3), (5, 3)]
def qU5_18_9_0 : PT := (.lin [(0, 2), (3, 2)] (.fork3 1 4 (.lin [(2, 0)] (.fork3 4 3 (.lin [(5, 0)] (.fork 6 4 (.lin [(7, 4)] .nil) 7 4 (.lin [(6, 4)] .nil))) 6 4 (.lin [] (.fork 4 3 (.lin [(5, 0), (7, 4)] .nil) 7 4 (.lin [(4, 3), (5, 0)] .nil))) 7 4 (.lin [] (.fork 4 3 (.lin [(5, 0), (6, 4)] .nil) 6 4 (.lin [(4, 3), (5, 0)] .nil))))) 6 4 (.lin [] (.fork 1 4 (.lin [(2, 0)] (.fork 4 3 (.lin [(5, 0), (7, 4)] .nil) 7 4 (.lin [(4, 3), (5, 0)] .nil))) 7 4 (.lin [(1, 4), (2, 0), (4, 3), (5, 0)] .nil))) 7 4 (.lin [] (.fork 1 4 (.lin [(2, 0)] (.fork 4 3 (.lin [(5, 0), (6, 4)] .nil) 6 4 (.lin [(4, 3), (5, 0)] .nil))) 6 4 (.lin [(1, 4), (2, 0), (4, 3), (5, 0)] .nil)))))
def qU5_18_9_1 : PT := (.lin [(8, 3), (9, 3)] .nil)
attribute [go_sem] qU5_18_7 qU5_18_9_0 qU5_18_9_1

theorem eG_len {s : Sg} : (eG s).length = 9 := rfl
attribute [go_sem] eG_len
theorem rS_g {l : List Sg} {s : Sg} : rS eG l ++ [[i64 s.fr, i64 s.to, bl s.t0.neg, i64 s.t0.exp, W64 s.t0.w, bl s.t1.neg, i64 s.t1.exp, W64 s.t1.w, .g (eS eI s.box)]] = rS eG (l ++ [s]) := by rw [← rS_app]; rfl
theorem rS_pure {α : Type} {f : α → List G} {xs : List α} : pureLL (((rS f xs).drop 0).take (rS f xs).length) = some (xs.map f) := by
  rw [List.drop_zero, List.take_length]; exact pureLL_gl _

set_option maxHeartbeats 2000000 in
theorem p_Each {l : List Sg} {lo hi : Nu} {r rf rt : Bool} (hl : l.length ≤ 100000) (hlo : lo.w.length ≤ 1099511627776) (hhi : hi.w.length ≤ 1099511627776)
    (pR : PC Tryz.prog 19 [SS l] fun d => d = bl r) (pF : PC Tryz.prog 35 [NU lo] fun d => d = bl rf) (pT : PC Tryz.prog 35 [NU hi] fun d => d = bl rt)
    (hC : ∀ s ∈ l, PC Tryz.prog 41 [SEG s] fun d => d = SEG s) :
    PC Tryz.prog 18 [SS l, NU lo, NU hi] fun d => d = .fn 42 [] [.ip [eS eG (if r && rf && rt then l else [])], .ip (eU lo), .ip (eU hi)] := by
  have pA := p_OfI hlo
  have pB := p_OfI hhi
  obtain ⟨n0, e0, w0⟩ := lo
  obtain ⟨n1, e1, w1⟩ := hi
  have hL : (if r && rf && rt then l else []).length ≤ 100000 := by split <;> simp [hl]
  have hC2 : ∀ s ∈ (if r && rf && rt then l else []), PC Tryz.prog 41 [SEG s] fun d => d = SEG s := by
    intro s hs
    split at hs
    · exact hC s hs
    · cases hs
  have hm : (r && rf && rt) = true → (if r && rf && rt then l else []) = l := fun h => if_pos h
  have hm0 : (r && rf && rt) = false → (if r && rf && rt then l else []) = [] := fun h => by rw [h]; rfl
  generalize (if r && rf && rt then l else []) = m at *
  have d1 := @dl 7 qU5_18_7
  have d2 := @dj Tryz.prog 9 [qU5_18_9_0, qU5_18_9_1]
  refine PZB (rs := [.tmp 6]) Tryz.func18 ?_
  repeat (first | with_reducible refine pv_stopQ 1 ?_ | with_reducible refine pv_seq fun K hK => ?_ | ((with_reducible first | refine hK _ _ ?_ | (clear hK; refine hK _ _ ?_) | (clear hK; clear hK; refine hK _ _ ?_)); clear hK; try clear K) | refine W ?_ | exact Z | with_reducible intro b)
  refine ⟨fun K0 q0 hC0 => ?_⟩
  have J0 : ∀ (e : DEnv) (S : Store) (b4 b5 : Nat), e 0 = .g (eS eG m) → e 4 = .ptr (.l 4) b4 0 0 3 → e 5 = .ptr (.l 5) b5 0 0 3 → S (.l 4) = some ⟨b4, 3, 0, [[bl n0, i64 e0, W64 w0]]⟩ → S (.l 5) = some ⟨b5, 3, 0, [[bl n1, i64 e1, W64 w1]]⟩ → K0 e S := by
    intro e S b4 b5 g0 g4 g5 s4 s5
    refine q0 _ _ ?_
    clear hC0 q0
    have ft := And.intro g0 (And.intro g4 (And.intro g5 (And.intro s4 s5)))
    repeat (first | with_reducible refine pv_stopQ 4 ?_ | with_reducible refine pv_seq fun K hK => ?_ | ((with_reducible first | refine hK _ _ ?_ | (clear hK; refine hK _ _ ?_) | (clear hK; clear hK; refine hK _ _ ?_)); clear hK; try clear K) | refine W ?_ | exact Z | with_reducible intro b)
    refine ⟨fun K q hC1 => ?_⟩
    have J : ∀ (e : DEnv) (S : Store) (b4 b5 b7 : Nat) (d : D), e 4 = .ptr (.l 4) b4 0 0 3 → e 5 = .ptr (.l 5) b5 0 0 3 → e 7 = .ptr (.l 7) b7 0 0 1 → S (.l 4) = some ⟨b4, 3, 0, [[bl n0, i64 e0, W64 w0]]⟩ → S (.l 5) = some ⟨b5, 3, 0, [[bl n1, i64 e1, W64 w1]]⟩ →
        S (.l 7) = some ⟨b7, 1, 0, [[d]]⟩ → RowZ S (.l 35) 9 d (rS eG m) → K e S := by
      intro e S b4 b5 b7 d g4 g5 g7 s4 s5 s7 hw
      have J3 : ∀ (S : Store), S (.l 4) = some ⟨b4, 3, 0, [[bl n0, i64 e0, W64 w0]]⟩ → S (.l 5) = some ⟨b5, 3, 0, [[bl n1, i64 e1, W64 w1]]⟩ → S (.l 7) = some ⟨b7, 1, 0, [[.g (.sl (m.map eG))]]⟩ → K e S := by
        intro S s4 s5 s7
        refine q _ _ ?_
        have ft := And.intro g4 (And.intro g5 (And.intro g7 (And.intro s4 (And.intro s5 s7))))
        repeat (first | with_reducible refine pv_seq fun K hK => ?_ | ((with_reducible first | refine hK _ _ ?_ | (clear hK; refine hK _ _ ?_) | (clear hK; clear hK; refine hK _ _ ?_)); clear hK; try clear K) | refine W0 ?_ | exact Z | with_reducible intro b)
        refine cj fun K2 q2 => ?_
        have J4 : ∀ (e : DEnv) (S : Store) (b10 b11 : Nat), e 7 = .ptr (.l 7) b7 0 0 1 → e 10 = .ptr (.l 10) b10 0 0 3 → e 11 = .ptr (.l 11) b11 0 0 3 → e 39 = .agg [bl n0, i64 e0, W64 w0] → e 42 = .agg [bl n1, i64 e1, W64 w1] →
            S (.l 7) = some ⟨b7, 1, 0, [[.g (.sl (m.map eG))]]⟩ → S (.l 10) = some ⟨b10, 3, 0, [[bl false, i64 0, .nil]]⟩ → S (.l 11) = some ⟨b11, 3, 0, [[bl false, i64 0, .nil]]⟩ → K2 e S := by
          intro e S b10 b11 g7 g10 g11 g39 g42 s7 s10 s11
          refine q2 _ _ ?_
          refine cj fun K hK => ?_
          have ft := And.intro g7 (And.intro g10 (And.intro g11 (And.intro g39 (And.intro g42 (And.intro s7 (And.intro s10 s11))))))
          exact Wk
        clear q2
        have ft := And.intro g7 (And.intro g4 (And.intro g5 (And.intro s4 (And.intro s5 s7))))
        repeat' (first | with_reducible refine pv_seq fun K hK => ?_ | ((with_reducible first | refine hK _ _ ?_ | (clear hK; refine hK _ _ ?_) | (clear hK; clear hK; refine hK _ _ ?_)); clear hK; try clear K) | refine W ?_ | exact Z | with_reducible intro b | with_reducible refine And.intro ?_ ?_ )
        all_goals exact J4 _ _ _ _ Zr Zr Zr Zr Zr Zr Zr Zr
      rcases hw with ⟨rfl, h0⟩ | ⟨b9, cap, rfl, s35⟩
      · have hm0 : m = [] := List.eq_nil_of_length_eq_zero (by rw [← rS_len (f := eG), h0]; rfl)
        refine hC1 _ _ (Recast.cell (i := 0) (j := 0) s7 rfl rfl (fun I H v hv => nil_row hv) ?_)
        refine J3 _ ?_ ?_ ?_
        · simp only [updS_apply]; simpa using s4
        · simp only [updS_apply]; simpa using s5
        · simp only [updS_apply]; rw [hm0]; rfl
      · refine hC1 _ _ (Recast.frzCell (k2 := .l 7) (k := .l 35) s7 0 0 rfl rfl (by decide) s35 rS_pure (by simp) ?_)
        refine J3 _ ?_ ?_ ?_
        · simp only [updS_apply]; simpa using s4
        · simp only [updS_apply]; simpa using s5
        · simp only [updS_apply]; rfl
    clear hC1 q
    have ft := And.intro g0 (And.intro g5 (And.intro g4 (And.intro s4 s5)))
    repeat (first | with_reducible refine pv_seq fun K hK => ?_ | ((with_reducible first | refine hK _ _ ?_ | (clear hK; refine hK _ _ ?_) | (clear hK; clear hK; refine hK _ _ ?_)); clear hK; try clear K) | refine W0 ?_ | exact Z | with_reducible intro b)
    refine pv_loop (fun e S => ∃ (i b4 b5 b7 : Nat) (d : D), i ≤ m.length ∧ e 4 = .ptr (.l 4) b4 0 0 3 ∧ e 5 = .ptr (.l 5) b5 0 0 3 ∧ e 7 = .ptr (.l 7) b7 0 0 1 ∧ e 25 = .g (eS eG m) ∧ e 26 = i64 m.length ∧ e 27 = i64 i ∧
      S (.l 4) = some ⟨b4, 3, 0, [[bl n0, i64 e0, W64 w0]]⟩ ∧ S (.l 5) = some ⟨b5, 3, 0, [[bl n1, i64 e1, W64 w1]]⟩ ∧ S (.l 7) = some ⟨b7, 1, 0, [[d]]⟩ ∧ RowZ S (.l 35) 9 d (rS eG (m.take i))) (fun e S => m.length - (intD (e 27)).toNat) ?_ ?_
    · exact ⟨0, b4, b5, _, .nil, Nat.zero_le _, Zr, Zr, Zr, Zr, Zr, Zr, Zr, Zr, Zr, .inl ⟨rfl, rfl⟩⟩
    · rintro e S ⟨i, b4, b5, b7, d, hi, g4, g5, g7, g25, g26, g27, s4, s5, s7, hw⟩
      have o0 : d.one = true := by rcases hw with ⟨h, _⟩ | ⟨_, _, h, _⟩ <;> rw [h] <;> rfl
      have ft := And.intro g4 (And.intro g5 (And.intro g7 (And.intro g25 (And.intro g26 (And.intro g27 (And.intro s4 (And.intro s5 (And.intro s7 o0))))))))
      repeat (first | with_reducible refine pv_seq fun K hK => ?_ | ((with_reducible first | refine hK _ _ ?_ | (clear hK; refine hK _ _ ?_) | (clear hK; clear hK; refine hK _ _ ?_)); clear hK; try clear K) | refine W0 ?_ | exact Z | with_reducible intro b)
      refine pv_cdD (fun ht => ?_) (fun ht => ?_)
      · have hil : i < m.length := by omega
        have hq : m[i]? = some (gS m i) := by simp [gS, List.getD, List.getElem?_eq_getElem hil]
        have pC := hC2 _ (List.mem_of_getElem? hq)
        have hlt : (rS eG (m.take i)).length = i := by rw [rS_len, List.length_take]; omega
        have hn : rS eG (m.take (i + 1)) = rS eG (m.take i) ++ [[i64 (gS m i).fr, i64 (gS m i).to, bl (gS m i).t0.neg, i64 (gS m i).t0.exp, W64 (gS m i).t0.w, bl (gS m i).t1.neg, i64 (gS m i).t1.exp, W64 (gS m i).t1.w, .g (eS eI (gS m i).box)]] := by
          rw [rS_g]; congr 1; rw [List.take_add_one, hq]; rfl
        generalize gS m i = q at *
        obtain ⟨fr, to, ⟨n2, e2, w2⟩, ⟨n3, e3, w3⟩, bx⟩ := q
        unfold SEG at pC
        have ft := And.intro g4 (And.intro g5 (And.intro g7 (And.intro g25 (And.intro g26 (And.intro g27 (And.intro s4 (And.intro s5 (And.intro s7 (And.intro o0 hq)))))))))
        repeat' (first | with_reducible refine pv_seq fun K hK => ?_ | ((with_reducible first | refine hK _ _ ?_ | (clear hK; refine hK _ _ ?_) | (clear hK; clear hK; refine hK _ _ ?_)); clear hK; try clear K) | refine W ?_ | exact Z | with_reducible intro b | with_reducible refine And.intro ?_ ?_ )
        refine RowZ.appL (hw.up (by rfl)) (by decide) rfl (by simp [D.one, W64]) ?_ ?_ fun d' S' hr' hS' => ?_
        · rw [hlt]; simp; omega
        · rw [hlt]; simp; omega
        · have o1 : d'.one = true := by rcases hr' with ⟨h, _⟩ | ⟨_, _, h, _⟩ <;> rw [h] <;> rfl
          have u4 : S' (.l 4) = some ⟨b4, 3, 0, [[bl n0, i64 e0, W64 w0]]⟩ := by rw [hS' _ (by decide)]; exact Zr
          have u5 : S' (.l 5) = some ⟨b5, 3, 0, [[bl n1, i64 e1, W64 w1]]⟩ := by rw [hS' _ (by decide)]; exact Zr
          have u7 : S' (.l 7) = some ⟨b7, 1, 0, [[d]]⟩ := by rw [hS' _ (by decide)]; exact Zr
          have hr2 : RowZ S' (.l 35) 9 d' (rS eG (m.take (i + 1))) := by rw [hn]; exact hr'
          have ft := And.intro g4 (And.intro g5 (And.intro g7 (And.intro g25 (And.intro g26 (And.intro g27 (And.intro u7 o1))))))
          repeat (first | with_reducible refine pv_seq fun K hK => ?_ | ((with_reducible first | refine hK _ _ ?_ | (clear hK; refine hK _ _ ?_) | (clear hK; clear hK; refine hK _ _ ?_)); clear hK; try clear K) | refine W0 ?_ | exact Z | with_reducible intro b)
          refine ⟨⟨i + 1, b4, b5, b7, d', by omega, Zr, Zr, Zr, Zr, u4, u5, rfl, hr2.up (updS_ne (by decide))⟩, ?_⟩
          simp only [intD]; omega
      · obtain rfl : i = m.length := by omega
        rw [List.take_length] at hw
        repeat (first | with_reducible refine pv_seq fun K hK => ?_ | ((with_reducible first | refine hK _ _ ?_ | (clear hK; refine hK _ _ ?_) | (clear hK; clear hK; refine hK _ _ ?_)); clear hK; try clear K) | refine W0 ?_ | exact Z | with_reducible intro b)
        exact J _ _ b4 b5 b7 d Zr Zr Zr s4 s5 s7 hw
  clear hC2 hL pA pB hC
  have N0 : ∀ (e : DEnv) (S : Store) (b4 b5 : Nat), m = [] → e 0 = .nil → e 4 = .ptr (.l 4) b4 0 0 3 → e 5 = .ptr (.l 5) b5 0 0 3 → S (.l 4) = some ⟨b4, 3, 0, [[bl n0, i64 e0, W64 w0]]⟩ → S (.l 5) = some ⟨b5, 3, 0, [[bl n1, i64 e1, W64 w1]]⟩ → K0 e S := by
    intro e S b4 b5 hm1 g0 g4 g5 s4 s5
    refine hC0 _ _ (Recast.slot 0 (d := .g (.sl [])) (fun I w v _ h => nil_row (by rw [← g0]; exact h)) ?_)
    exact J0 _ _ b4 b5 (by rw [hm1]; rfl) (by rw [← g4]; rfl) (by rw [← g5]; rfl) s4 s5
  clear hC0 q0
  cases r
  · repeat (first | with_reducible refine pv_seq fun K hK => ?_ | ((with_reducible first | refine hK _ _ ?_ | (clear hK; refine hK _ _ ?_) | (clear hK; clear hK; refine hK _ _ ?_)); clear hK; try clear K) | refine W ?_ | exact Z | with_reducible intro b)
    exact N0 _ _ _ _ (hm0 rfl) Zr Zr Zr Zr Zr
  · cases rf
    · repeat (first | with_reducible refine pv_seq fun K hK => ?_ | ((with_reducible first | refine hK _ _ ?_ | (clear hK; refine hK _ _ ?_) | (clear hK; clear hK; refine hK _ _ ?_)); clear hK; try clear K) | refine W ?_ | exact Z | with_reducible intro b)
      exact N0 _ _ _ _ (hm0 rfl) Zr Zr Zr Zr Zr
    · cases rt
      · repeat (first | with_reducible refine pv_seq fun K hK => ?_ | ((with_reducible first | refine hK _ _ ?_ | (clear hK; refine hK _ _ ?_) | (clear hK; clear hK; refine hK _ _ ?_)); clear hK; try clear K) | refine W ?_ | exact Z | with_reducible intro b)
        exact N0 _ _ _ _ (hm0 rfl) Zr Zr Zr Zr Zr
      · have hm1 := hm rfl
        repeat (first | with_reducible refine pv_seq fun K hK => ?_ | ((with_reducible first | refine hK _ _ ?_ | (clear hK; refine hK _ _ ?_) | (clear hK; clear hK; refine hK _ _ ?_)); clear hK; try clear K) | refine W ?_ | exact Z | with_reducible intro b)
        exact J0 _ _ _ _ (by rw [hm1]; rfl) Zr Zr Zr Zr
end Go.V

/- The document's matrices over values as data: columns at right angles, about. -/
import Derived.Test.YtolccagkfobbmaaGreatDoorJ12
set_option linter.unusedSimpArgs false
set_option linter.unusedVariables false
set_option maxRecDepth 100000
namespace Go.V
open Go Go.RowKit Go.Proofs

theorem take_next {l : DL} {i : Nat} (h : i < l.length) : rS eU (nus (l.take i)) ++ [bU (nuOf (gD l i))] = rS eU (nus (l.take (i + 1))) := by
  rw [rS_u, List.take_add_one, List.getElem?_eq_getElem h, gD_get h]; rfl
theorem put_next {ys w : DL} {i : Nat} {y : Dyadic} (hy : ys.length = i) (hi : i < w.length) : (rS eU (nus (ys ++ w.drop i))).set i (bU (nuOf y)) = rS eU (nus ((ys ++ [y]) ++ w.drop (i + 1))) := by
  have h1 : rS eU (nus (ys ++ w.drop i)) = rS eU (nus ys) ++ rS eU (nus (w.drop i)) := by unfold nus; rw [List.map_append, ← rS_app]
  have h2 : rS eU (nus ((ys ++ [y]) ++ w.drop (i + 1))) = rS eU (nus ys) ++ ([bU (nuOf y)] ++ rS eU (nus (w.drop (i + 1)))) := by
    unfold nus; rw [List.map_append, List.map_append, ← rS_app, ← rS_app, List.append_assoc]; rfl
  have h3 : (rS eU (nus ys)).length = i := by rw [rS_len, nus_len, hy]
  rw [h1, h2, List.set_append_right _ _ (by omega), h3, Nat.sub_self, List.drop_eq_getElem_cons hi]
  rfl
theorem get_next {ys w : DL} {i : Nat} (hy : ys.length = i) (hi : i < w.length) : (rS eU (nus (ys ++ w.drop i)))[i]? = some (bU (nuOf (gD w i))) := by
  have : (ys ++ w.drop i)[i]? = some (gD w i) := by
    rw [List.getElem?_append_right (by omega), hy, Nat.sub_self, List.getElem?_drop, Nat.add_zero, gD_get hi, List.getElem?_eq_getElem hi]
  rw [rS_get]; unfold nus; rw [List.getElem?_map, this]; rfl
set_option maxHeartbeats 8000000 in
theorem p_rCols {p : Nat} {a : List DL} (ha : ∀ r ∈ a, OkL r) (hs : ∀ r ∈ a, r.length = a.length) (h1 : 1 ≤ a.length) (h4 : a.length ≤ 4) (h8 : 8 ≤ p) (h256 : p ≤ 256) : PC Tryz.prog 8 [NR a, i64 p] fun d => d = NRE (okR (colsR p a)) := by
  have hmn : ∀ r ∈ a.map nus, ∃ l ∈ a, r = nus l := fun r hr => by obtain ⟨l, h, rfl⟩ := List.mem_map.1 hr; exact ⟨l, h, rfl⟩
  have pQ := p_rPoints (a := a.map nus) (fun r hr x hx => by
      obtain ⟨l, hl, rfl⟩ := hmn r hr
      obtain ⟨d, hd, rfl⟩ := List.mem_map.1 hx
      exact (((ha l hl) d hd).sz).b) (by rw [List.length_map]; omega) (fun r hr => by
      obtain ⟨l, hl, rfl⟩ := hmn r hr
      rw [nus_len, hs l hl]; omega)
  rw [show sqB (a.map nus) = true by
    unfold sqB
    rw [decide_eq_true (show SqR (a.map nus) from fun r hr => by
      obtain ⟨l, hl, rfl⟩ := hmn r hr
      refine ⟨by rw [nus_len, List.length_map, hs l hl], fun x hx => ?_⟩
      obtain ⟨d, hd, rfl⟩ := List.mem_map.1 hx
      rw [rightB_nuOf]; exact decide_eq_true (ha l hl d hd)), List.length_map, decide_eq_true h1, decide_eq_true h4]; rfl] at pQ
  have pV := p_precs6 (p := (p : Int))
  rw [okP_of h8 h256] at pV
  unfold NR
  generalize hr : colsR p a = r
  unfold colsR at hr
  refine PB (rs := [.tmp 4, .tmp 5]) Tryz.func8 ?_
  repeat (first | with_reducible refine pv_seq fun K hK => ?_ | ((with_reducible first | refine hK _ _ ?_ | (clear hK; refine hK _ _ ?_) | (clear hK; clear hK; refine hK _ _ ?_)); clear hK; try clear K) | refine W ?_ | exact Z | with_reducible intro b)
  have Jout : ∀ (e : DEnv) (S : Store) (cols : List DL), colA p a a.length = .ok cols → e 6 = i64 a.length → RowD S (.l 105) 1 (e 7) (rS eR (cols.map nus)) → K e S := by
    intro e S cols hA g6 hmd
    have hcl := colA_ok ha hA
    have hcn := hcl.1
    have er : r = .ok (turned a.length cols) := by rw [← hr, hA]; rfl
    subst er
    rcases hmd with ⟨_, h0⟩ | ⟨b7, c7, p7, g7, s7⟩
    · have := congrArg List.length h0; rw [rS_len, nr_len, hcn, List.length_nil] at this; omega
    · rw [rS_len, nr_len, hcn] at g7
      have hE : ∀ q, q < a.length → (rS eR (cols.map nus))[q]? = some [.g (eS eU (nus (cols.getD q [])))] := fun q hq => by rw [rS_get, nr_get (by omega)]; rfl
      generalize rS eR (cols.map nus) = E at *
      have ft := And.intro g6 (And.intro g7 s7)
      repeat (first | with_reducible refine pv_seq fun K hK => ?_ | ((with_reducible first | refine hK _ _ ?_ | (clear hK; refine hK _ _ ?_) | (clear hK; clear hK; refine hK _ _ ?_)); clear hK; try clear K) | refine W0 ?_ | exact Z | with_reducible intro b)
      have J9 : ∀ (e : DEnv) (S : Store), RowD S (.l 129) 1 (e 19) (rS eR ((turned a.length cols).map nus)) → K e S := by
        intro e S hw
        have ft := true_and
        repeat (first | with_reducible refine pv_seq fun K hK => ?_ | ((with_reducible first | refine hK _ _ ?_ | (clear hK; refine hK _ _ ?_) | (clear hK; clear hK; refine hK _ _ ?_)); clear hK; try clear K) | refine W0 ?_ | exact Z | with_reducible intro b)
        exact hw.coeD fun S' _ _ => rfl
      clear hK
      refine pv_loop (fun e S => ∃ (i : Nat), i ≤ a.length ∧ e 6 = i64 a.length ∧ e 7 = .own (.l 105) b7 0 a.length c7 1 ∧ e 20 = i64 i ∧ S (.l 105) = some ⟨b7, 1, p7, E⟩ ∧ RowD S (.l 129) 1 (e 19) (rS eR (((List.range i).map (rowOf cols)).map nus))) (fun e _ => a.length - (intD (e 20)).toNat) ?_ ?_
      · exact ⟨0, Nat.zero_le _, Zr, Zr, Zr, Zr, .inl ⟨Zr, rfl⟩⟩
      · rintro e S ⟨i, hi, g6, g7, g20, s7, hw⟩
        have hmz : (intD (e 20)).toNat = i := by rw [g20]; rfl
        have ft := And.intro g6 (And.intro g7 (And.intro g20 s7))
        repeat (first | with_reducible refine pv_seq fun K hK => ?_ | ((with_reducible first | refine hK _ _ ?_ | (clear hK; refine hK _ _ ?_) | (clear hK; clear hK; refine hK _ _ ?_)); clear hK; try clear K) | refine W0 ?_ | exact Z | with_reducible intro b)
        refine pv_cdD (fun ht => ?_) (fun ht => ?_)
        · repeat (first | with_reducible refine pv_stopQ 36 ?_ | with_reducible refine pv_seq fun K hK => ?_ | ((with_reducible first | refine hK _ _ ?_ | (clear hK; refine hK _ _ ?_) | (clear hK; clear hK; refine hK _ _ ?_)); clear hK; try clear K) | refine W ?_ | exact Z | with_reducible intro b)
          refine ⟨fun K2 q2 hC => ?_⟩
          repeat (first | with_reducible refine pv_seq fun K hK => ?_ | ((with_reducible first | refine hK _ _ ?_ | (clear hK; refine hK _ _ ?_) | (clear hK; clear hK; refine hK _ _ ?_)); clear hK; try clear K) | refine W0 ?_ | exact Z | with_reducible intro b)
          have J2 : ∀ (e : DEnv) (S : Store), e 6 = i64 a.length → e 7 = .own (.l 105) b7 0 a.length c7 1 → e 20 = i64 i → S (.l 105) = some ⟨b7, 1, p7, E⟩ → RowD S (.l 129) 1 (e 19) (rS eR (((List.range i).map (rowOf cols)).map nus)) → RowD S (.l 125) 3 (e 21) (rS eU (nus (rowOf cols i))) → K2 e S := by
            intro e S g6 g7 g20 s7 hw hl
            refine hC _ _ (Recast.rowSlot 21 hl fun S2 hS2 => ?_)
            refine q2 _ _ ?_
            have s7a : S2 (.l 105) = some ⟨b7, 1, p7, E⟩ := (hS2 _ (by decide)).trans s7
            have ft := And.intro g6 (And.intro g7 (And.intro g20 s7a))
            repeat (first | with_reducible refine pv_seq fun K hK => ?_ | ((with_reducible first | refine hK _ _ ?_ | (clear hK; refine hK _ _ ?_) | (clear hK; clear hK; refine hK _ _ ?_)); clear hK; try clear K) | refine W0 ?_ | exact Z | with_reducible intro b)
            refine RowD.appL (hw.up (hS2 _ (by decide))) (by decide) rfl (by simp [D.one]) ?_ ?_ fun d' S3 hr3 hS3 => ?_
            · rw [rS_len, nr_len]; simp; omega
            · rw [rS_len, nr_len]; simp; omega
            have s7b : S3 (.l 105) = some ⟨b7, 1, p7, E⟩ := by rw [hS3 _ (by decide), updS_ne (by decide)]; exact s7a
            repeat (first | with_reducible refine pv_seq fun K hK => ?_ | ((with_reducible first | refine hK _ _ ?_ | (clear hK; refine hK _ _ ?_) | (clear hK; clear hK; refine hK _ _ ?_)); clear hK; try clear K) | refine W0 ?_ | exact Z | with_reducible intro b)
            rw [rS_r] at hr3
            refine ⟨⟨i + 1, by omega, Zr, s7b, ?_⟩, by rw [hmz]; simp only [intD]; omega⟩
            rw [List.range_succ, List.map_append]; exact hr3
          clear hC q2
          refine pv_loop (fun e S => ∃ (q : Nat), q ≤ a.length ∧ e 6 = i64 a.length ∧ e 7 = .own (.l 105) b7 0 a.length c7 1 ∧ e 20 = i64 i ∧ e 22 = i64 q ∧ S (.l 105) = some ⟨b7, 1, p7, E⟩ ∧ RowD S (.l 129) 1 (e 19) (rS eR (((List.range i).map (rowOf cols)).map nus)) ∧ RowD S (.l 125) 3 (e 21) (rS eU (nus ((rowOf cols i).take q)))) (fun e _ => a.length - (intD (e 22)).toNat) ?_ ?_
          · exact ⟨0, Nat.zero_le _, Zr, Zr, Zr, Zr, Zr, hw, .inl ⟨Zr, rfl⟩⟩
          · rintro e S ⟨q, hq, g6, g7, g20, g22, s7, hw, hl⟩
            have ft := And.intro g6 (And.intro g7 (And.intro g20 (And.intro g22 s7)))
            repeat (first | with_reducible refine pv_seq fun K hK => ?_ | ((with_reducible first | refine hK _ _ ?_ | (clear hK; refine hK _ _ ?_) | (clear hK; clear hK; refine hK _ _ ?_)); clear hK; try clear K) | refine W0 ?_ | exact Z | with_reducible intro b)
            refine pv_cdD (fun hu => ?_) (fun hu => ?_)
            · have eE := hE q hu
              have lc := (hcl.2 _ (gR_mem (a := cols) (i := q) (by omega))).2
              have e2 := nus_get (l := cols.getD q []) (i := i) (by omega)
              have hnx := take_next (l := rowOf cols i) (i := q) (by unfold rowOf; rw [List.length_map]; omega)
              rw [show gD (rowOf cols i) q = gD (cols.getD q []) i by
                unfold rowOf gD
                simp only [List.getD, List.getElem?_map, List.getElem?_eq_getElem (show q < cols.length by omega), Option.map_some, Option.getD_some]] at hnx
              generalize nuOf (gD (cols.getD q []) i) = X at *
              generalize cols.getD q [] = c at *
              have ft := And.intro g6 (And.intro g7 (And.intro g20 (And.intro g22 (And.intro s7 (And.intro eE (And.intro e2 lc))))))
              repeat (first | with_reducible refine pv_seq fun K hK => ?_ | ((with_reducible first | refine hK _ _ ?_ | (clear hK; refine hK _ _ ?_) | (clear hK; clear hK; refine hK _ _ ?_)); clear hK; try clear K) | refine W0 ?_ | exact Z | with_reducible intro b)
              refine RowD.appL hl (by decide) rfl (by simp [D.one, W64]) ?_ ?_ fun d' S3 hr3 hS3 => ?_
              · rw [rS_len, nus_len, List.length_take]; simp; omega
              · rw [rS_len, nus_len, List.length_take]; simp; omega
              have s7b : S3 (.l 105) = some ⟨b7, 1, p7, E⟩ := by rw [hS3 _ (by decide), updS_ne (by decide)]; exact s7
              repeat (first | with_reducible refine pv_seq fun K hK => ?_ | ((with_reducible first | refine hK _ _ ?_ | (clear hK; refine hK _ _ ?_) | (clear hK; clear hK; refine hK _ _ ?_)); clear hK; try clear K) | refine W0 ?_ | exact Z | with_reducible intro b)
              exact ⟨⟨q + 1, by omega, Zr, s7b, hw.up (by rw [hS3 _ (by decide), updS_ne (by decide)]), by rw [← hnx]; exact hr3⟩, by simp only [intD]; omega⟩
            · obtain rfl : q = a.length := by omega
              rw [List.take_of_length_le (by unfold rowOf; rw [List.length_map]; omega)] at hl
              repeat (first | with_reducible refine pv_seq fun K hK => ?_ | ((with_reducible first | refine hK _ _ ?_ | (clear hK; refine hK _ _ ?_) | (clear hK; clear hK; refine hK _ _ ?_)); clear hK; try clear K) | refine W0 ?_ | exact Z | with_reducible intro b)
              exact J2 _ _ Zr Zr Zr s7 hw hl
        · obtain rfl : i = a.length := by omega
          repeat (first | with_reducible refine pv_seq fun K hK => ?_ | ((with_reducible first | refine hK _ _ ?_ | (clear hK; refine hK _ _ ?_) | (clear hK; clear hK; refine hK _ _ ?_)); clear hK; try clear K) | refine W0 ?_ | exact Z | with_reducible intro b)
          exact J9 _ _ hw
  clear hK
  refine pv_loop (fun e S => ∃ (j : Nat) (cols : List DL), j ≤ a.length ∧ colA p a j = .ok cols ∧ e 0 = .g (eS eR (a.map nus)) ∧ e 1 = i64 p ∧ e 6 = i64 a.length ∧ e 8 = i64 j ∧ RowD S (.l 105) 1 (e 7) (rS eR (cols.map nus))) (fun e _ => a.length - (intD (e 8)).toNat) ?_ ?_
  · exact ⟨0, [], Nat.zero_le _, rfl, Zr, Zr, Zr, Zr, .inl ⟨Zr, rfl⟩⟩
  · rintro e S ⟨j, cols, hj, hA, g0, g1, g6, g8, hmd⟩
    have hcol := colA_ok ha hA
    have hmz : (intD (e 8)).toNat = j := by rw [g8]; rfl
    have ft := And.intro g0 (And.intro g1 (And.intro g6 g8))
    repeat (first | with_reducible refine pv_seq fun K hK => ?_ | ((with_reducible first | refine hK _ _ ?_ | (clear hK; refine hK _ _ ?_) | (clear hK; clear hK; refine hK _ _ ?_)); clear hK; try clear K) | refine W0 ?_ | exact Z | with_reducible intro b)
    refine pv_cdD (fun ht => ?_) (fun ht => ?_)
    · have hvl := colOf_len a j
      have okv := colOf_ok ha j
      have st : colA p a (j + 1) = bnd (upR p (colOf a j) cols) fun v => .ok (cols ++ [v]) := runE_step hA
      unfold upR at st
      repeat (first | with_reducible refine pv_seq fun K hK => ?_ | ((with_reducible first | refine hK _ _ ?_ | (clear hK; refine hK _ _ ?_) | (clear hK; clear hK; refine hK _ _ ?_)); clear hK; try clear K) | refine W0 ?_ | exact Z | with_reducible intro b)
      -- a column is whole: what lies along those made ahead is taken off, then it is scaled
      have Jv : ∀ (e : DEnv) (S : Store), e 0 = .g (eS eR (a.map nus)) → e 1 = i64 p → e 6 = i64 a.length → e 8 = i64 j → RowD S (.l 105) 1 (e 7) (rS eR (cols.map nus)) → RowZ S (.l 52) 3 (e 9) (rS eU (nus (colOf a j))) → K e S := by
        intro e S g0 g1 g6 g8 hmd hv
        refine hK _ _ ?_
        clear hK
        refine pv_seq fun K3 q3 => ?_
        have J20 : ∀ (e : DEnv) (S : Store) (kv : Nm) (b9 c9 : Nat) (w : DL), (kv = .l 52 ∨ kv = .r 0 1) → upA p (colOf a j) cols cols.length = .ok w → e 0 = .g (eS eR (a.map nus)) → e 1 = i64 p → e 6 = i64 a.length → e 8 = i64 j → e 9 = .own kv b9 0 a.length c9 3 → S kv = some ⟨b9, 3, 0, rS eU (nus w)⟩ → RowD S (.l 105) 1 (e 7) (rS eR (cols.map nus)) → K3 e S := by
          intro e S kv b9 c9 w hkv hw g0 g1 g6 g8 g9 s9 hmd
          have hw2 := upA_ok okv hw
          have hwl : w.length = a.length := hw2.2.trans hvl
          have g9w : e 9 = .own kv b9 0 w.length c9 3 := by rw [hwl]; exact g9
          have st := st
          rw [hw, bnd_ok] at st
          have m17 : (kv = .l 17) = False := by rcases hkv with rfl | rfl <;> simp
          have n17 : (Nm.l 17 = kv) = False := by rcases hkv with rfl | rfl <;> simp
          have m105 : Nm.l 105 ≠ kv := by rcases hkv with rfl | rfl <;> simp
          refine q3 _ _ ?_
          clear q3
          have ft := And.intro g0 (And.intro g1 (And.intro g6 (And.intro g8 g9w)))
          repeat (first | with_reducible refine pv_seq fun K hK => ?_ | ((with_reducible first | refine hK _ _ ?_ | (clear hK; refine hK _ _ ?_) | (clear hK; clear hK; refine hK _ _ ?_)); clear hK; try clear K) | refine W0 ?_ | exact Z | with_reducible intro b)
          refine p_rTop (vs := w) s9 hw2.1 (by omega) ?_
          rw [stopA_eq]
          by_cases hT : topA w w.length = 0
          · rw [if_pos hT]
            have hz : scaledR w = .error 3 := if_pos hT
            rw [hz, bnd_no] at st
            have er : r = .error 3 := by rw [← hr, show colA p a a.length = .error 3 from runE_err st (by omega)]; rfl
            subst er
            exact Wk
          · rw [if_neg hT]
            have hsc : scaledR w = bldE (fun i => scO (gD w i) (-szD (topD w))) w.length := if_neg hT
            have oT := szD_ok (topA_ok hw2.1 w.length)
            have hzb : -70000 ≤ szD (topA w w.length) ∧ szD (topA w w.length) ≤ 70000 := by unfold szD; omega
            rw [hsc] at st
            unfold topD at st
            generalize szD (topA w w.length) = tz at *
            have hzz : ∀ x, scO x (0 - tz) = scO x (-tz) := fun x => by rw [Int.zero_sub]
            repeat (first | with_reducible refine pv_stopQ 23 ?_ | with_reducible refine pv_seq fun K hK => ?_ | ((with_reducible first | refine hK _ _ ?_ | (clear hK; refine hK _ _ ?_) | (clear hK; clear hK; refine hK _ _ ?_)); clear hK; try clear K) | refine W ?_ | exact Z | with_reducible intro b)
            refine ⟨fun K2 q2 hC => ?_⟩
            have J30 : ∀ (e : DEnv) (S : Store) (ys : DL), bldE (fun i => scO (gD w i) (-tz)) w.length = .ok ys → e 0 = .g (eS eR (a.map nus)) → e 1 = i64 p → e 6 = i64 a.length → e 8 = i64 j → e 9 = .own kv b9 0 a.length c9 3 → S kv = some ⟨b9, 3, 0, rS eU (nus ys)⟩ → RowD S (.l 105) 1 (e 7) (rS eR (cols.map nus)) → K2 e S := by
              intro e S ys hy g0 g1 g6 g8 g9 s9 hmd
              have hyl : ys.length = a.length := (bldE_spec hy).1.trans hwl
              rw [hy, bnd_ok] at st
              refine hC _ _ (Recast.rowSlot 9 (k := kv) (s := 3) (f := eU) (xs := nus ys) (.inr ⟨b9, c9, 0, by rw [rS_len, nus_len, hyl]; exact g9, s9⟩) fun S2 hS2 => ?_)
              refine q2 _ _ ?_
              have ft := And.intro g8 (And.intro g0 (And.intro g1 g6))
              repeat (first | with_reducible refine pv_seq fun K hK => ?_ | ((with_reducible first | refine hK _ _ ?_ | (clear hK; refine hK _ _ ?_) | (clear hK; clear hK; refine hK _ _ ?_)); clear hK; try clear K) | refine W0 ?_ | exact Z | with_reducible intro b)
              refine RowD.appL (hmd.up (hS2 _ m105)) (by decide) rfl (by simp [D.one]) ?_ ?_ fun d' S3 hr3 hS3 => ?_
              · rw [rS_len, nr_len, hcol.1]; simp; omega
              · rw [rS_len, nr_len, hcol.1]; simp; omega
              repeat (first | with_reducible refine pv_seq fun K hK => ?_ | ((with_reducible first | refine hK _ _ ?_ | (clear hK; refine hK _ _ ?_) | (clear hK; clear hK; refine hK _ _ ?_)); clear hK; try clear K) | refine W0 ?_ | exact Z | with_reducible intro b)
              rw [rS_r] at hr3
              exact ⟨⟨j + 1, cols ++ [ys], by omega, st, Zr, hr3⟩, by rw [hmz]; simp only [intD]; omega⟩
            have ft := And.intro g0 (And.intro g1 (And.intro g6 (And.intro g8 g9)))
            repeat (first | with_reducible refine pv_seq fun K hK => ?_ | ((with_reducible first | refine hK _ _ ?_ | (clear hK; refine hK _ _ ?_) | (clear hK; clear hK; refine hK _ _ ?_)); clear hK; try clear K) | refine W0 ?_ | exact Z | with_reducible intro b)
            refine pv_loop (fun e S => ∃ (i : Nat) (ys : DL), i ≤ a.length ∧ bldE (fun i => scO (gD w i) (-tz)) i = .ok ys ∧ e 0 = .g (eS eR (a.map nus)) ∧ e 1 = i64 p ∧ e 6 = i64 a.length ∧ e 8 = i64 j ∧ e 9 = .own kv b9 0 a.length c9 3 ∧ e 14 = i64 tz ∧ e 16 = i64 i ∧ S kv = some ⟨b9, 3, 0, rS eU (nus (ys ++ w.drop i))⟩ ∧ RowD S (.l 105) 1 (e 7) (rS eR (cols.map nus))) (fun e _ => a.length - (intD (e 16)).toNat) ?_ ?_
            · exact ⟨0, [], Nat.zero_le _, rfl, Zr, Zr, Zr, Zr, Zr, Zr, Zr, s9, hmd⟩
            · rintro e S ⟨i, ys, hi, hy, g0, g1, g6, g8, g9, g14, g16, s9, hmd⟩
              have ft := And.intro g0 (And.intro g1 (And.intro g6 (And.intro g8 (And.intro g9 (And.intro g14 (And.intro g16 (And.intro s9 (And.intro m17 n17))))))))
              repeat (first | with_reducible refine pv_seq fun K hK => ?_ | ((with_reducible first | refine hK _ _ ?_ | (clear hK; refine hK _ _ ?_) | (clear hK; clear hK; refine hK _ _ ?_)); clear hK; try clear K) | refine W0 ?_ | exact Z | with_reducible intro b)
              refine pv_cdD (fun hu => ?_) (fun hu => ?_)
              · have hyl := (bldE_spec hy).1
                have eE := get_next hyl (show i < w.length by omega)
                have pSc := p_rScale (x := nuOf (gD w i)) (j := 0 - tz) ((hw2.1.at i).sz).b (by unfold R64; omega)
                rw [scR_O (hw2.1.at i) (by omega) (by omega), hzz] at pSc
                cases hx : scO (gD w i) (-tz) with
                | ok y =>
                  have hst := bldE_step hy hx
                  have hput := put_next (y := y) hyl (show i < w.length by omega)
                  rw [hx, okN_ok] at pSc
                  generalize rS eU (nus (ys ++ w.drop i)) = E at *
                  generalize nuOf (gD w i) = X at *
                  unfold bU at eE
                  have ft := And.intro g0 (And.intro g1 (And.intro g6 (And.intro g8 (And.intro g9 (And.intro g14 (And.intro g16 (And.intro s9 (And.intro m17 (And.intro n17 eE)))))))))
                  repeat' (first | with_reducible refine pv_seq fun K hK => ?_ | ((with_reducible first | refine hK _ _ ?_ | (clear hK; refine hK _ _ ?_) | (clear hK; clear hK; refine hK _ _ ?_)); clear hK; try clear K) | refine W ?_ | exact Z | with_reducible intro b | with_reducible refine And.intro ?_ ?_ )
                  all_goals first | (simp only [intD]; omega) | exact ⟨i + 1, ys ++ [y], by omega, hst, Zr, by rw [← hput]; exact Zr, hmd.up (by rw [updS_ne m105]; simp only [updS]; rfl)⟩
                | error c =>
                  obtain rfl := scO_c hx
                  have er : r = .error 2 := by
                    rw [bldE_no hy hx (show i < w.length by omega), bnd_no] at st
                    rw [← hr, show colA p a a.length = .error 2 from runE_err st (by omega)]; rfl
                  subst er
                  rw [hx, okN_no] at pSc
                  generalize rS eU (nus (ys ++ w.drop i)) = E at *
                  generalize nuOf (gD w i) = X at *
                  unfold bU at eE
                  have ft := And.intro g0 (And.intro g1 (And.intro g6 (And.intro g8 (And.intro g9 (And.intro g14 (And.intro g16 (And.intro s9 (And.intro m17 (And.intro n17 eE)))))))))
                  repeat' (first | with_reducible refine pv_seq fun K hK => ?_ | ((with_reducible first | refine hK _ _ ?_ | (clear hK; refine hK _ _ ?_) | (clear hK; clear hK; refine hK _ _ ?_)); clear hK; try clear K) | refine W ?_ | exact Z | with_reducible intro b | with_reducible refine And.intro ?_ ?_ )
                  all_goals rfl
              · obtain rfl : i = a.length := by omega
                rw [← hwl, List.drop_length, List.append_nil] at s9
                rw [← hwl] at hy
                have ft := And.intro g0 (And.intro g1 (And.intro g6 (And.intro g8 (And.intro g9 (And.intro g14 g16)))))
                repeat (first | with_reducible refine pv_seq fun K hK => ?_ | ((with_reducible first | refine hK _ _ ?_ | (clear hK; refine hK _ _ ?_) | (clear hK; clear hK; refine hK _ _ ?_)); clear hK; try clear K) | refine W0 ?_ | exact Z | with_reducible intro b)
                exact J30 _ _ ys hy Zr Zr Zr Zr Zr s9 hmd
        clear q3
        rcases hv with ⟨_, h0⟩ | ⟨b9, c9, g9, s9⟩
        · have := congrArg List.length h0; rw [rS_len, nus_len, hvl, List.length_nil] at this; omega
        rw [rS_len, nus_len, hvl] at g9
        rcases hmd with ⟨g7, h0⟩ | ⟨b7, c7, p7, g7, s7⟩
        · have hc0 : cols.length = 0 := by have := congrArg List.length h0; rw [rS_len, nr_len, List.length_nil] at this; exact this
          have ft := And.intro g0 (And.intro g1 (And.intro g6 (And.intro g8 (And.intro g9 g7))))
          repeat (first | with_reducible refine pv_seq fun K hK => ?_ | ((with_reducible first | refine hK _ _ ?_ | (clear hK; refine hK _ _ ?_) | (clear hK; clear hK; refine hK _ _ ?_)); clear hK; try clear K) | refine W0 ?_ | exact Z | with_reducible intro b)
          refine pv_loop (fun e S => e 0 = .g (eS eR (a.map nus)) ∧ e 1 = i64 p ∧ e 6 = i64 a.length ∧ e 8 = i64 j ∧ e 7 = .nil ∧ e 9 = .own (.l 52) b9 0 a.length c9 3 ∧ e 11 = i64 0 ∧ S (.l 52) = some ⟨b9, 3, 0, rS eU (nus (colOf a j))⟩) (fun _ _ => 0) ?_ ?_
          · exact ⟨Zr, Zr, Zr, Zr, Zr, Zr, Zr, s9⟩
          · rintro e S ⟨g0, g1, g6, g8, g7, g9, g11, s9⟩
            have ft := And.intro g0 (And.intro g1 (And.intro g6 (And.intro g8 (And.intro g9 (And.intro g7 g11)))))
            repeat (first | with_reducible refine pv_seq fun K hK => ?_ | ((with_reducible first | refine hK _ _ ?_ | (clear hK; refine hK _ _ ?_) | (clear hK; clear hK; refine hK _ _ ?_)); clear hK; try clear K) | refine W0 ?_ | exact Z | with_reducible intro b)
            exact J20 _ _ (.l 52) b9 c9 (colOf a j) (.inl rfl) (by rw [hc0]; rfl) Zr Zr Zr Zr Zr s9 (.inl ⟨Zr, h0⟩)
        · rw [rS_len, nr_len] at g7
          have hEl : (rS eR (cols.map nus)).length = cols.length := by rw [rS_len, nr_len]
          have hE : ∀ q, q < cols.length → (rS eR (cols.map nus))[q]? = some [.g (eS eU (nus (cols.getD q [])))] := fun q hq => by rw [rS_get, nr_get (by omega)]; rfl
          generalize rS eR (cols.map nus) = E at *
          have ft := And.intro g0 (And.intro g1 (And.intro g6 (And.intro g8 (And.intro g9 (And.intro g7 s7)))))
          repeat (first | with_reducible refine pv_seq fun K hK => ?_ | ((with_reducible first | refine hK _ _ ?_ | (clear hK; refine hK _ _ ?_) | (clear hK; clear hK; refine hK _ _ ?_)); clear hK; try clear K) | refine W0 ?_ | exact Z | with_reducible intro b)
          refine pv_loop (fun e S => ∃ (k : Nat) (kv : Nm) (b9 c9 : Nat) (w : DL), k ≤ cols.length ∧ (kv = .l 52 ∨ kv = .r 0 1) ∧ upA p (colOf a j) cols k = .ok w ∧ e 0 = .g (eS eR (a.map nus)) ∧ e 1 = i64 p ∧ e 6 = i64 a.length ∧ e 8 = i64 j ∧ e 7 = .own (.l 105) b7 0 cols.length c7 1 ∧ e 9 = .own kv b9 0 a.length c9 3 ∧ e 11 = i64 k ∧ S (.l 105) = some ⟨b7, 1, p7, E⟩ ∧ S kv = some ⟨b9, 3, 0, rS eU (nus w)⟩) (fun e _ => cols.length - (intD (e 11)).toNat) ?_ ?_
          · exact ⟨0, .l 52, b9, c9, colOf a j, Nat.zero_le _, .inl rfl, rfl, Zr, Zr, Zr, Zr, Zr, Zr, Zr, s7, s9⟩
          · rintro e S ⟨k, kv, b9, c9, w, hk, hkv, hw, g0, g1, g6, g8, g7, g9, g11, s7, s9⟩
            have m105 : Nm.l 105 ≠ kv := by rcases hkv with rfl | rfl <;> simp
            have hw2 := upA_ok okv hw
            have hwl : w.length = a.length := hw2.2.trans hvl
            have ft := And.intro g0 (And.intro g1 (And.intro g6 (And.intro g8 (And.intro g7 (And.intro g9 (And.intro g11 (And.intro s7 s9)))))))
            repeat (first | with_reducible refine pv_seq fun K hK => ?_ | ((with_reducible first | refine hK _ _ ?_ | (clear hK; refine hK _ _ ?_) | (clear hK; clear hK; refine hK _ _ ?_)); clear hK; try clear K) | refine W0 ?_ | exact Z | with_reducible intro b)
            refine pv_cdD (fun hu => ?_) (fun hu => ?_)
            · have hku : k < cols.length := by omega
              have eE := hE k hku
              have hc := hcol.2 _ (gR_mem (a := cols) (i := k) hku)
              have hL : (rS eU (nus w)).length = a.length := by rw [rS_len, nus_len, hwl]
              have hT := List.take_of_length_le (Nat.le_of_eq hL)
              have hP := pureLL_rS (f := eU) (xs := nus w)
              have st2 : upA p (colOf a j) cols (k + 1) = lessR p w (cols.getD k []) := runE_step hw
              generalize rS eU (nus w) = E9 at *
              generalize cols.getD k [] = c at *
              have ft := And.intro g0 (And.intro g1 (And.intro g6 (And.intro g8 (And.intro g7 (And.intro g9 (And.intro g11 (And.intro s7 (And.intro s9 (And.intro eE (And.intro hL (And.intro hT hP)))))))))))
              repeat (first | with_reducible refine pv_seq fun K hK => ?_ | ((with_reducible first | refine hK _ _ ?_ | (clear hK; refine hK _ _ ?_) | (clear hK; clear hK; refine hK _ _ ?_)); clear hK; try clear K) | refine W0 ?_ | exact Z | with_reducible intro b)
              refine PFC.coe ?_
              try simp -implicitDefEqProofs only [ft, go_sem, seval]
              refine p_rWithout (vs := w) (us := c) hw2.1 hc.1 (by omega) (by omega) (by omega) h8 h256 (fun l b' cap S' hl h9 hk9 => ?_) (fun x S' hl hk9 => ?_)
              · rw [hl] at st2
                have hln : l.length = a.length := (lessR_ok hl).2.trans hwl
                have s7a : S' (.l 105) = some ⟨b7, 1, p7, E⟩ := by rw [hk9 _ (by simp), updS_ne m105]; exact s7
                have ft := And.intro g0 (And.intro g1 (And.intro g6 (And.intro g8 (And.intro g7 (And.intro g11 hln)))))
                repeat (first | with_reducible refine pv_seq fun K hK => ?_ | ((with_reducible first | refine hK _ _ ?_ | (clear hK; refine hK _ _ ?_) | (clear hK; clear hK; refine hK _ _ ?_)); clear hK; try clear K) | refine W0 ?_ | exact Z | with_reducible intro b)
                exact ⟨⟨k + 1, .r 0 1, b', cap, l, by omega, .inr rfl, st2, Zr, Zr, s7a, h9⟩, by simp only [intD]; omega⟩
              · rw [hl] at st2
                have er : r = .error x := by
                  rw [show upA p (colOf a j) cols cols.length = .error x from runE_err st2 (by omega), bnd_no, bnd_no] at st
                  rw [← hr, show colA p a a.length = .error x from runE_err st (by omega)]; rfl
                subst er
                rcases lessR_c hl with rfl | rfl
                · have ft := And.intro g0 (And.intro g1 (And.intro g6 (And.intro g8 (And.intro g7 g11))))
                  exact Wk
                · have ft := And.intro g0 (And.intro g1 (And.intro g6 (And.intro g8 (And.intro g7 g11))))
                  exact Wk
            · obtain rfl : k = cols.length := by omega
              have ft := And.intro g0 (And.intro g1 (And.intro g6 (And.intro g8 (And.intro g7 (And.intro g9 g11)))))
              repeat (first | with_reducible refine pv_seq fun K hK => ?_ | ((with_reducible first | refine hK _ _ ?_ | (clear hK; refine hK _ _ ?_) | (clear hK; clear hK; refine hK _ _ ?_)); clear hK; try clear K) | refine W0 ?_ | exact Z | with_reducible intro b)
              exact J20 _ _ kv b9 c9 w hkv hw Zr Zr Zr Zr Zr s9 (.inr ⟨b7, c7, p7, by rw [hEl]; exact Zr, s7⟩)
      clear hK
      refine pv_loop (fun e S => ∃ (i : Nat), i ≤ a.length ∧ e 0 = .g (eS eR (a.map nus)) ∧ e 1 = i64 p ∧ e 6 = i64 a.length ∧ e 8 = i64 j ∧ e 10 = i64 i ∧ RowD S (.l 105) 1 (e 7) (rS eR (cols.map nus)) ∧ RowZ S (.l 52) 3 (e 9) (rS eU (nus ((colOf a j).take i)))) (fun e _ => a.length - (intD (e 10)).toNat) ?_ ?_
      · exact ⟨0, Nat.zero_le _, Zr, Zr, Zr, Zr, Zr, hmd, .inl ⟨Zr, rfl⟩⟩
      · rintro e S ⟨i, hi, g0, g1, g6, g8, g10, hmd, hv⟩
        have ft := And.intro g0 (And.intro g1 (And.intro g6 (And.intro g8 g10)))
        repeat (first | with_reducible refine pv_seq fun K hK => ?_ | ((with_reducible first | refine hK _ _ ?_ | (clear hK; refine hK _ _ ?_) | (clear hK; clear hK; refine hK _ _ ?_)); clear hK; try clear K) | refine W0 ?_ | exact Z | with_reducible intro b)
        refine pv_cdD (fun hu => ?_) (fun hu => ?_)
        · have e1 := nr_get (a := a) hu
          have hrl := hs _ (gR_mem hu)
          have e2 := nus_get (l := a.getD i []) (i := j) (by rw [hrl]; exact ht)
          have hnx := take_next (l := colOf a j) (i := i) (by omega)
          rw [gD_colOf hu] at hnx
          generalize nuOf (gD (a.getD i []) j) = X at *
          generalize a.getD i [] = row at *
          have ft := And.intro g0 (And.intro g1 (And.intro g6 (And.intro g8 (And.intro g10 (And.intro e1 (And.intro e2 hrl))))))
          repeat (first | with_reducible refine pv_seq fun K hK => ?_ | ((with_reducible first | refine hK _ _ ?_ | (clear hK; refine hK _ _ ?_) | (clear hK; clear hK; refine hK _ _ ?_)); clear hK; try clear K) | refine W0 ?_ | exact Z | with_reducible intro b)
          refine RowZ.appL hv (by decide) rfl (by simp [D.one, W64]) ?_ ?_ fun d' S3 hr3 hS3 => ?_
          · rw [rS_len, nus_len, List.length_take]; simp; omega
          · rw [rS_len, nus_len, List.length_take]; simp; omega
          repeat (first | with_reducible refine pv_seq fun K hK => ?_ | ((with_reducible first | refine hK _ _ ?_ | (clear hK; refine hK _ _ ?_) | (clear hK; clear hK; refine hK _ _ ?_)); clear hK; try clear K) | refine W0 ?_ | exact Z | with_reducible intro b)
          exact ⟨⟨i + 1, by omega, Zr, hmd.up (by rw [hS3 _ (by decide), updS_ne (by decide)]), by rw [← hnx]; exact hr3⟩, by simp only [intD]; omega⟩
        · obtain rfl : i = a.length := by omega
          rw [List.take_of_length_le (by omega)] at hv
          repeat (first | with_reducible refine pv_seq fun K hK => ?_ | ((with_reducible first | refine hK _ _ ?_ | (clear hK; refine hK _ _ ?_) | (clear hK; clear hK; refine hK _ _ ?_)); clear hK; try clear K) | refine W0 ?_ | exact Z | with_reducible intro b)
          exact Jv _ _ Zr Zr Zr Zr hmd hv
    · obtain rfl : j = a.length := by omega
      repeat (first | with_reducible refine pv_seq fun K hK => ?_ | ((with_reducible first | refine hK _ _ ?_ | (clear hK; refine hK _ _ ?_) | (clear hK; clear hK; refine hK _ _ ?_)); clear hK; try clear K) | refine W0 ?_ | exact Z | with_reducible intro b)
      exact Jout _ _ cols hA Zr hmd
end Go.V

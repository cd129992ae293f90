/- The document's gathering of terms over values as data. The document's polynomials of monomials over values as data; the seat's deck: powers, monomials, polynomials. What the statements of layer 14 tell of all of it; the statement SeriesDrawn. Plain laws: of parts of the coefficients' intervals the polynomial's coefficient is in that of the whole ones. The statement SeriesLess of layer 14. -/
import Derived.Test.YtklilekbokialaaGreatDoorZI1
import Derived.Test.YtklilekbokialaaGreatDoorZI0
set_option linter.unusedSimpArgs false
set_option linter.unusedVariables false
set_option maxRecDepth 100000
namespace Go.V
open Go Go.RowKit Go.Proofs
def qT15_78_6 : List (Nat × Nat) := [(0, 0), (1, 0), (2, 0), (3, 0), (4, 0), (5, 0), (6, 0), (7, 0), (8, 0), (9, 1), (10, 0), (11, 0), (12, 0), (13, 0), (14, 1), (15, 3), (16, 0), (17, 0)]
def qT15_78_8 : List (Nat × Nat) := [(0, 0), (1, 0), (2, 0), (3, 0), (4, 0), (5, 0), (6, 0), (7, 0), (8, 0), (9, 1), (10, 0), (11, 0), (12, 0), (13, 0), (14, 1), (15, 3), (16, 0), (17, 0)]
def qT15_78_9 : List (Nat × Nat) := [(0, 0), (1, 0), (2, 0), (3, 0), (4, 0), (5, 0), (6, 1), (7, 0), (8, 0), (9, 0), (10, 0), (11, 1), (12, 3), (13, 0), (14, 0), (15, 3)]
def qT15_78_22 : PT := (.lin [(0, 0), (3, 0), (4, 0), (5, 0), (6, 0), (7, 2)] (.fork 1 4 (.lin [(2, 4), (8, 3), (9, 0), (10, 3), (11, 3), (12, 0)] .nil) 2 4 (.lin [] (.fork 1 4 (.lin [(8, 3), (9, 0), (10, 3), (11, 3), (12, 0)] .nil) 8 3 (.lin [(1, 4), (9, 0), (10, 3), (11, 3), (12, 0)] .nil)))))
attribute [go_sem] qT15_78_6 qT15_78_8 qT15_78_9 qT15_78_22
/-! ### Rows under one of some names -/
def RowP (P : Nm → Prop) (S : Store) (s : Nat) (d : D) (els : List (List D)) : Prop := (d = .nil ∧ els = []) ∨ ∃ k b cap, P k ∧ d = .own k b 0 els.length cap s ∧ S k = some ⟨b, s, 0, els⟩
theorem RowP.nil {P : Nm → Prop} {S : Store} {s : Nat} : RowP P S s .nil [] := .inl ⟨rfl, rfl⟩
theorem RowP.up {P : Nm → Prop} {S S' : Store} {s : Nat} {d : D} {els : List (List D)} (h : RowP P S s d els) (hS : ∀ k, P k → S' k = S k) : RowP P S' s d els :=
  h.imp id fun ⟨k, b, cap, h0, h1, h2⟩ => ⟨k, b, cap, h0, h1, (hS k h0).trans h2⟩
theorem RowP.app {P : Nm → Prop} {S : Store} {K : D → Store → Prop} {q : SlZ} {kd : Nm} {d src : D} {els new : List (List D)} (h : RowP P S q.s d els) (hp : P kd) (hs : ∀ K, K new → srcD S q.s src K) (hl : els.length + new.length ≤ 140737488355328)
    (hb : (els.length + new.length) * q.bytes ≤ 140737488355328) (hk : ∀ d' S', RowP P S' q.s d' (els ++ new) → (∀ j, ¬ P j → S' j = S j) → S'.g = S.g → K d' S') : appD q S kd d src K := by
  rcases h with ⟨rfl, rfl⟩ | ⟨k, b, cap, h0, rfl, hS⟩
  · rw [appD_nil]
    refine hs _ ⟨by simpa using hl, by simpa using hb, fun h1 => ?_, fun h1 b' cap' => ?_⟩
    · subst h1; exact hk _ _ .nil (fun _ _ => rfl) rfl
    · exact hk _ _ (.inr ⟨kd, b', cap', hp, rfl, updS_at⟩) (fun j hj => updS_ne (fun e => hj (by rw [e]; exact hp))) rfl
  · rw [appD_own, hS]
    refine ⟨rfl, rfl, rfl, rfl, rfl, hs _ ⟨hl, hb, fun b' cap' => ?_⟩⟩
    exact hk _ _ (.inr ⟨k, b', cap', h0, by simp, updS_at⟩) (fun j hj => updS_ne (fun e => hj (by rw [e]; exact h0))) rfl
/-- Such a row gets one name for good. -/
theorem RowP.move {P : Nm → Prop} {N : DEnv → Store → Prop} {e : DEnv} {S : Store} {s : Nat} {els : List (List D)} (i : Nat) (k' : Nm) (hk : ¬ P k') (h : RowP P S s (e i) els) (hN : ∀ d S', RowZ S' k' s d els → (∀ j, ¬ P j → j ≠ k' → S' j = S j) → S'.g = S.g → N (updD e i d) S') : Recast N e S := by
  rcases h with ⟨h1, h2⟩ | ⟨k, b, cap, h0, h1, h2⟩
  · subst h2
    refine Recast.slot i (d := .nil) (fun I w v _ hv => by rw [← h1]; exact hv) ?_
    exact hN _ _ .nil (fun _ _ _ => rfl) rfl
  · have hne : k ≠ k' := fun e => hk (by rw [← e]; exact h0)
    refine Recast.join (Recast.move k k' hne (Recast.slot i (d := .own k' b 0 els.length cap s) (fun I w v _ hv => own_name k' (by rw [← h1]; exact hv)) ?_))
    refine hN _ _ (.inr ⟨b, cap, rfl, by rw [updS_at]; exact h2⟩) (fun j hj hj2 => ?_) rfl
    rw [updS_ne hj2, updS_ne (fun e => hj (by rw [e]; exact h0))]

theorem RowP.appL {P : Nm → Prop} {S : Store} {K : D → Store → Prop} {q : SlZ} {kd k2 : Nm} {dd : D} {els new : List (List D)} {b n cap p : Nat} (h : RowP P S q.s dd els) (hk2 : ¬ P k2) (hp : P kd) (hn : n = new.length) (h1 : ∀ es ∈ new, es.all D.one = true) (hl : els.length + new.length ≤ 140737488355328)
    (hb : (els.length + new.length) * q.bytes ≤ 140737488355328) (hK : ∀ d' S', RowP P S' q.s d' (els ++ new) → (∀ j, ¬ P j → S' j = updS S k2 (some ⟨b, q.s, p, new⟩) j) → S'.g = S.g → K d' S') :
    appD q (updS S k2 (some ⟨b, q.s, p, new⟩)) kd dd (.own k2 b 0 n cap q.s) K := by
  subst hn
  refine RowP.app (h.up fun k hk => updS_ne fun e => hk2 (by rw [← e]; exact hk)) hp (fun K hK => ?_) hl hb hK
  rw [srcD_own, updS_at]
  exact ⟨rfl, rfl, rfl, by simp, h1, by simpa using hK⟩
/-- The last row's cell, a row of the call's own, is frozen. -/
theorem RowZ.frz {N : DEnv → Store → Prop} {e : DEnv} {S : Store} {k k3 : Nm} {s : Nat} {d : D} {els : List (List D)} {es : List D} {b3 n3 cap3 s3 p3 : Nat} {els3 : List (List D)} {gs : List (List G)} (j : Nat) (h : RowZ S k s d (els ++ [es])) (hj : es[j]? = some (.own k3 b3 0 n3 cap3 s3)) (hne : k ≠ k3)
    (hk : S k3 = some ⟨b3, s3, p3, els3⟩) (hg : pureLL ((els3.drop 0).take n3) = some gs) (hn : 0 + n3 ≤ els3.length) (hN : ∀ S', RowZ S' k s d (els ++ [es.set j (.g (.sl gs))]) → (∀ q, q ≠ k → q ≠ k3 → S' q = S q) → S'.g = S.g → N e S') : Recast N e S := by
  rcases h with ⟨_, h2⟩ | ⟨b, cap, h1, h2⟩
  · simp at h2
  · refine Recast.frzCell h2 els.length j (by simp) hj hne hk hg hn (hN _ (.inr ⟨b, cap, ?_, ?_⟩) (fun q h3 h4 => ?_) rfl)
    · rw [h1]; simp
    · rw [updS_at]; simp
    · rw [updS_ne h3, updS_ne h4]

/-! ### Terms as data -/
def eT (t : Te) : List G := [.lit (.bool (fS t.v)), eS (eK .u32) (D32 (fN t.v)), .lit (.int .i64 (fE t.v)), eS eZ t.e]
def TT (l : List Te) : D := .g (eS eT l)
theorem eT_0 {t : Te} : eT t = [.lit (.bool (fS t.v)), eS (eK .u32) (D32 (fN t.v)), .lit (.int .i64 (fE t.v)), eS eZ t.e] := rfl
attribute [go_sem] eT_0
def cT (t : Te) : List D := [bl (fS t.v), W32 (D32 (fN t.v)), i64 (fE t.v), .g (eS eZ t.e)]
theorem rT_at {out : List Te} {k : Nat} (h : k < out.length) : (rS eT out)[k]? = some (cT (gT out k)) := by
  unfold rS gl
  rw [List.getElem?_map, List.getElem?_map, gT_at h]; rfl
theorem rT_set {out : List Te} {k : Nat} {t : Te} : (rS eT out).set k (cT t) = rS eT (out.set k t) := by
  unfold rS gl
  rw [List.map_set, List.map_set]; rfl
theorem rT_all {out : List Te} : ∀ es ∈ rS eT out, es.all D.one = true := by
  intro es h
  unfold rS gl at h
  obtain ⟨x, hx, rfl⟩ := List.mem_map.1 h
  obtain ⟨t, ht, rfl⟩ := List.mem_map.1 hx
  rfl
theorem rT_take {out : List Te} {k : Nat} : (rS eT out).take k = rS eT (out.take k) := by unfold rS gl; rw [List.map_take, List.map_take]
theorem rT_drop {out : List Te} {k : Nat} : (rS eT out).drop k = rS eT (out.drop k) := by unfold rS gl; rw [List.map_drop, List.map_drop]
def LM (s : List Mo × Int) : D := .tup [.g (eS eM s.1), i64 s.2]
def P3 (k : Nm) : Prop := k = .l 75 ∨ k = .l 82 ∨ k = .l 87
theorem P3_r : ¬ P3 (.r 0 0) := by unfold P3; simp
theorem P3_81 : ¬ P3 (.l 81) := by unfold P3; simp
theorem srcD_ZI {S : Store} {xs : List Int} {K : List (List D) → Prop} : srcD S 1 (.g (eS eZ xs)) K = K (rS eZ xs) := srcD_eS fun _ _ => rfl
theorem slD_nilZ {s : Nat} {lo hi mx : Option D} {K : D → Prop} : slD s .nil lo hi mx K = bndD lo 0 fun l => bndD hi 0 fun h => l = 0 ∧ h = 0 ∧ (mx.isSome = true → mx = hi) ∧ K .nil := rfl
theorem litsD_0 {S : Store} {q : SlZ} {k : Nm} {K : D → Store → Prop} : litsD q k S 0 [] [] K = ∀ b, K (.own k b 0 0 0 q.s) (updS S k (some ⟨b, q.s, 0, []⟩)) := by
  simp [litsD]
attribute [go_sem ↓] srcD_ZI slD_nilZ litsD_0
theorem rS_m {l : List Mo} {m : Mo} : rS eM l ++ [[bl m.c.neg, i64 m.c.exp, W64 m.c.w, .g (eS eZ m.e)]] = rS eM (l ++ [m]) := by rw [← rS_app]; rfl
set_option maxHeartbeats 8000000 in
theorem p_gather {l : List Te} {M Q : Nat} (hl : l.length ≤ 10000) (hs : ∀ t ∈ l, Sm M Q t.v) (he : ∀ t ∈ l, t.e.length ≤ 100000) (hk : M + Q + l.length ≤ 60000000) : PC Tryz.prog 78 [TT l] fun d => d = LM (gathR l) := by
  generalize hr : gathR l = r
  have hsm := gathN_sm hs
  have hel := gathN_all (P := fun e => e.length ≤ 100000) he
  have hln := gathN_len l
  unfold TT
  have d1 := @dl 6 qT15_78_6
  have d2 := @dl 8 qT15_78_8
  have d3 := @dl 9 qT15_78_9
  have d4 := @dr 22 qT15_78_22
  refine PB (rs := [.tmp 2, .tmp 3]) Tryz.func78 ?_
  repeat (first | with_reducible refine pv_seq fun K hK => ?_ | ((with_reducible first | refine hK _ _ ?_ | (clear hK; refine hK _ _ ?_) | (clear hK; clear hK; refine hK _ _ ?_)); clear hK; try clear K) | refine W0 ?_ | exact Z | with_reducible intro b)
  have J : ∀ (e : DEnv) (S : Store), RowZ S (.r 0 0) 4 (e 4) (rS eT (gathN l l.length)) → K e S := by
    as_aux_lemma =>
    intro e S hw
    have ho := hsm l.length (Nat.le_refl _)
    have hoe := hel l.length (Nat.le_refl _)
    have hon := hln l.length
    unfold gathR at hr
    generalize gathN l l.length = out at *
    clear hsm hel hln hs he
    rcases hw with ⟨g4, h4⟩ | ⟨b4, cap, g4, s4⟩
    · obtain rfl : out = [] := by have := congrArg List.length h4; rw [rS_len] at this; exact List.eq_nil_of_length_eq_zero this
      have hr2 : r = ([], 0) := by rw [← hr]; rfl
      subst hr2
      have ft := g4
      repeat (first | with_reducible refine pv_seq fun K hK => ?_ | ((with_reducible first | refine hK _ _ ?_ | (clear hK; refine hK _ _ ?_) | (clear hK; clear hK; refine hK _ _ ?_)); clear hK; try clear K) | refine W0 ?_ | exact Z | with_reducible intro b)
      refine pv_loop (fun e T => Hid (e 4 = .nil ∧ e 8 = .nil ∧ e 9 = i64 0)) (fun _ _ => 0) ?_ ?_
      · exact ⟨Zr, Zr, Zr⟩
      · rintro e2 T ⟨g4, g8, g9⟩
        have ft := And.intro g4 (And.intro g8 g9)
        exact Wk
    · rw [rS_len] at g4
      have k4 : ∀ k : Nat, k < out.length → (rS eT out)[k]? = some (cT (gT out k)) := fun k => rT_at
      have hml := monoN_len out
      have ft := g4
      repeat (first | with_reducible refine pv_seq fun K hK => ?_ | ((with_reducible first | refine hK _ _ ?_ | (clear hK; refine hK _ _ ?_) | (clear hK; clear hK; refine hK _ _ ?_)); clear hK; try clear K) | refine W0 ?_ | exact Z | with_reducible intro b)
      have JF : ∀ (e : DEnv) (S : Store), (monoN out out.length).2 = 0 → RowZ S (.l 123) 4 (e 8) (rS eM (monoN out out.length).1) → K e S := by
        intro e S h0 hw
        rw [if_pos h0] at hr
        have hl2 := hml out.length
        generalize monoN out out.length = mm at *
        obtain ⟨mm, em⟩ := mm
        simp only at h0
        subst h0
        simp only at hr hl2 hw
        by_cases h24 : mm.length ≤ 24
        · rw [if_pos h24] at hr
          subst hr
          have k24 : ((24 : Int) < (mm.length : Int)) = False := eq_false (by omega)
          have ft := k24
          repeat (first | with_reducible refine pv_seq fun K hK => ?_ | ((with_reducible first | refine hK _ _ ?_ | (clear hK; refine hK _ _ ?_) | (clear hK; clear hK; refine hK _ _ ?_)); clear hK; try clear K) | refine W0 ?_ | exact Z | with_reducible intro b)
          refine hw.toD.len ?_
          rw [rS_len]
          repeat (first | with_reducible refine pv_seq fun K hK => ?_ | ((with_reducible first | refine hK _ _ ?_ | (clear hK; refine hK _ _ ?_) | (clear hK; clear hK; refine hK _ _ ?_)); clear hK; try clear K) | refine W0 ?_ | exact Z | with_reducible intro b)
          exact hw.toD.coeD fun S' _ _ => rfl
        · rw [if_neg h24] at hr
          subst hr
          have k24 : ((24 : Int) < (mm.length : Int)) = True := eq_true (by omega)
          have ft := k24
          repeat (first | with_reducible refine pv_seq fun K hK => ?_ | ((with_reducible first | refine hK _ _ ?_ | (clear hK; refine hK _ _ ?_) | (clear hK; clear hK; refine hK _ _ ?_)); clear hK; try clear K) | refine W0 ?_ | exact Z | with_reducible intro b)
          refine hw.toD.len ?_
          rw [rS_len]
          exact Wk
      clear hK
      obtain ⟨I, mk, el⟩ := hide fun e S => ∃ i : Nat, i ≤ out.length ∧ e 4 = .own (.r 0 0) b4 0 out.length cap 4 ∧ e 9 = i64 i ∧ S (.r 0 0) = some ⟨b4, 4, 0, rS eT out⟩ ∧ (monoN out i).2 = 0 ∧ RowZ S (.l 123) 4 (e 8) (rS eM (monoN out i).1)
      refine pv_loop I (fun e _ => out.length - (intD (e 9)).toNat) ?_ ?_
      · exact mk _ _ ⟨0, Nat.zero_le _, Zr, Zr, s4, rfl, .inl ⟨Zr, rfl⟩⟩
      · intro e S hI
        obtain ⟨i, hi, g4, g9, s4, hm2, hw⟩ := el e S hI
        clear el hI
        have ft := And.intro g4 g9
        repeat (first | with_reducible refine pv_seq fun K hK => ?_ | ((with_reducible first | refine hK _ _ ?_ | (clear hK; refine hK _ _ ?_) | (clear hK; clear hK; refine hK _ _ ?_)); clear hK; try clear K) | refine W0 ?_ | exact Z | with_reducible intro b)
        refine pv_cdD (fun ht => ?_) (fun ht => ?_)
        · have hil : i < out.length := by omega
          have q1 := k4 i hil
          have wv := ho _ (gT_mem hil)
          have we := hoe _ (gT_mem hil)
          have hst : (monoN out (i + 1)).2 ≠ 0 → r = monoN out (i + 1) := fun h => by
            have e1 := monoN_stuck (n := out.length) h (by omega)
            rw [e1, if_neg h] at hr
            exact hr.symm
          have hsu : monoN out (i + 1) = if (gT out i).v = 0 then monoN out i else if (numR (gT out i).v).2 = 0 then ((monoN out i).1 ++ [⟨(numR (gT out i).v).1, (gT out i).e⟩], 0) else ([], 2) := by
            conv => lhs; unfold monoN
            rw [if_pos hm2]
          have hle := hml i
          have mk2 : ∀ (e : DEnv) (S : Store), e 4 = .own (.r 0 0) b4 0 out.length cap 4 → e 9 = i64 ((i + 1 : Nat) : Int) → S (.r 0 0) = some ⟨b4, 4, 0, rS eT out⟩ → (monoN out (i + 1)).2 = 0 → RowZ S (.l 123) 4 (e 8) (rS eM (monoN out (i + 1)).1) → I e S := fun e S a1 a2 a3 a4 a5 => mk e S ⟨i + 1, by omega, a1, a2, a3, a4, a5⟩
          clear mk hml JF hr k4
          generalize monoN out (i + 1) = m1 at *
          generalize monoN out i = m0 at *
          have pS := p_rSign (d := (gT out i).v)
          have pN := p_rNum wv.bd (by omega)
          have kz : (sgnD (gT out i).v = 0) = ((gT out i).v = 0) := propext sgnD_zero
          repeat (first | with_reducible refine pv_stopB 5 ?_ | with_reducible refine pv_seq fun K hK => ?_ | ((with_reducible first | refine hK _ _ ?_ | (clear hK; refine hK _ _ ?_) | (clear hK; clear hK; refine hK _ _ ?_)); clear hK; try clear K) | refine W ?_ | exact Z | with_reducible intro b)
          refine ⟨fun K1 q1' hC => ?_⟩
          have JE : ∀ (e2 : DEnv) (S : Store), e2 4 = .own (.r 0 0) b4 0 out.length cap 4 → e2 9 = i64 i → S (.r 0 0) = some ⟨b4, 4, 0, rS eT out⟩ → m1.2 = 0 → RowZ S (.l 123) 4 (e2 8) (rS eM m1.1) → K1 e2 S := by
            intro e2 S g4 g9 s4 h0 hw
            refine q1' _ _ ?_
            clear q1' hC
            have ft := And.intro g9 g4
            repeat (first | with_reducible refine pv_seq fun K hK => ?_ | ((with_reducible first | refine hK _ _ ?_ | (clear hK; refine hK _ _ ?_) | (clear hK; clear hK; refine hK _ _ ?_)); clear hK; try clear K) | refine W0 ?_ | exact Z | with_reducible intro b)
            exact ⟨mk2 _ _ Zr Zr s4 h0 hw, by simp only [intD]; omega⟩
          clear q1' mk2
          generalize gT out i = t at *
          obtain ⟨tv, te⟩ := t
          unfold cT at q1
          unfold VA at pS pN
          simp only at *
          generalize hnr : numR tv = nr at *
          obtain ⟨⟨n1, e1, w1⟩, er⟩ := nr
          by_cases h0 : tv = 0
          · rw [if_pos h0] at hsu
            subst hsu
            rw [eq_true h0] at kz
            have ft := And.intro g4 (And.intro g9 (And.intro s4 (And.intro q1 kz)))
            repeat (first | with_reducible refine pv_seq fun K hK => ?_ | ((with_reducible first | refine hK _ _ ?_ | (clear hK; refine hK _ _ ?_) | (clear hK; clear hK; refine hK _ _ ?_)); clear hK; try clear K) | refine W ?_ | exact Z | with_reducible intro b)
            exact JE _ _ Zr Zr s4 hm2 hw
          · rw [if_neg h0] at hsu
            rw [eq_false h0] at kz
            by_cases h1 : er = 0
            · subst h1
              rw [if_pos rfl] at hsu
              subst hsu
              have hnew := rS_m (l := m0.1) (m := ⟨⟨n1, e1, w1⟩, te⟩)
              have ft := And.intro g4 (And.intro g9 (And.intro s4 (And.intro q1 kz)))
              repeat (first | with_reducible refine pv_seq fun K hK => ?_ | ((with_reducible first | refine hK _ _ ?_ | (clear hK; refine hK _ _ ?_) | (clear hK; clear hK; refine hK _ _ ?_)); clear hK; try clear K) | refine W0 ?_ | exact Z | with_reducible intro b)
              repeat' (first | with_reducible refine pv_seq fun K hK => ?_ | ((with_reducible first | refine hK _ _ ?_ | (clear hK; refine hK _ _ ?_) | (clear hK; clear hK; refine hK _ _ ?_)); clear hK; try clear K) | refine W ?_ | exact Z | with_reducible intro b | with_reducible refine And.intro ?_ ?_ | (refine ⟨by rw [rS_len]; omega, by rw [rS_len]; omega, fun b' cap' => ?_⟩) | (refine RowZ.appL (hw.up (by rfl)) (by decide) rfl (by simp [D.one, W64]) ?_ ?_ fun d' S' hr' hS' => ?_))
              all_goals first | (rw [rS_len]; omega) | exact hC _ _ (RowZ.frz (k3 := .l 114) 3 hr' rfl (by decide) ((hS' _ (by decide)).trans (by simp only [updS_apply]; rfl)) (gs := te.map eZ) (by rw [List.drop_zero, List.take_length]; exact pureLL_rS) (by omega) fun S2 hz hf hg2 => JE _ _ Zr Zr ((hf (.r 0 0) (by decide) (by decide)).trans ((hS' _ (by decide)).trans (by simp only [updS_apply]; exact s4))) rfl (by rw [← hnew]; exact hz))
            · rw [if_neg h1] at hsu
              subst hsu
              have hr1 := hst (by decide)
              subst hr1
              have k1 := eq_false h1
              have ft := And.intro g4 (And.intro g9 (And.intro s4 (And.intro q1 (And.intro kz k1))))
              exact Wk
        · obtain rfl : i = out.length := by omega
          repeat (first | with_reducible refine pv_seq fun K hK => ?_ | ((with_reducible first | refine hK _ _ ?_ | (clear hK; refine hK _ _ ?_) | (clear hK; clear hK; refine hK _ _ ?_)); clear hK; try clear K) | refine W0 ?_ | exact Z | with_reducible intro b)
          exact JF _ _ hm2 hw
  clear hK
  obtain ⟨I, mk, el⟩ := hide fun e S => ∃ i : Nat, i ≤ l.length ∧ e 0 = .g (eS eT l) ∧ e 5 = i64 i ∧ RowZ S (.r 0 0) 4 (e 4) (rS eT (gathN l i))
  refine pv_loop I (fun e _ => l.length - (intD (e 5)).toNat) ?_ ?_
  · exact mk _ _ ⟨0, Nat.zero_le _, Zr, Zr, .inl ⟨Zr, rfl⟩⟩
  · intro e S hI
    obtain ⟨i, hi, g0, g5, hw⟩ := el e S hI
    clear el hI
    have hm0 : (intD (e 5)).toNat = i := by rw [g5]; exact Int.toNat_natCast i
    have ft := And.intro g0 g5
    repeat (first | with_reducible refine pv_seq fun K hK => ?_ | ((with_reducible first | refine hK _ _ ?_ | (clear hK; refine hK _ _ ?_) | (clear hK; clear hK; refine hK _ _ ?_)); clear hK; try clear K) | refine W0 ?_ | exact Z | with_reducible intro b)
    refine pv_cdD (fun ht => ?_) (fun ht => ?_)
    · have hil : i < l.length := by omega
      have q2 := gT_at hil
      have wm := he _ (gT_mem hil)
      have ws := hs _ (gT_mem hil)
      have hins : gathN l (i + 1) = insT (gathN l i) (gT l i) := rfl
      have hsi := hsm i hi
      have hei := hel i hi
      have hni := hln i
      have mk2 : ∀ (e2 : DEnv) (S2 : Store), e2 0 = .g (eS eT l) → e2 5 = i64 ((i + 1 : Nat) : Int) → RowZ S2 (.r 0 0) 4 (e2 4) (rS eT (gathN l (i + 1))) → I e2 S2 := fun e2 S2 a1 a2 a3 => mk _ _ ⟨i + 1, by omega, a1, a2, a3⟩
      clear J hsm hel hln mk hs he hr
      generalize gathN l (i + 1) = out1 at *
      generalize gathN l i = out at *
      generalize gT l i = t at *
      repeat (first | with_reducible refine pv_stopB 1 ?_ | with_reducible refine pv_seq fun K hK => ?_ | ((with_reducible first | refine hK _ _ ?_ | (clear hK; refine hK _ _ ?_) | (clear hK; clear hK; refine hK _ _ ?_)); clear hK; try clear K) | refine W ?_ | exact Z | with_reducible intro b)
      refine ⟨fun K1 q1 hC => ?_⟩
      have JE : ∀ (e2 : DEnv) (S : Store), e2 0 = .g (eS eT l) → e2 5 = i64 i → RowZ S (.r 0 0) 4 (e2 4) (rS eT out1) → K1 e2 S := by
        intro e2 S g0 g5 hw
        refine q1 _ _ ?_
        clear q1 hC
        have ft := And.intro g5 g0
        repeat (first | with_reducible refine pv_seq fun K hK => ?_ | ((with_reducible first | refine hK _ _ ?_ | (clear hK; refine hK _ _ ?_) | (clear hK; clear hK; refine hK _ _ ?_)); clear hK; try clear K) | refine W0 ?_ | exact Z | with_reducible intro b)
        exact ⟨mk2 _ _ Zr Zr hw, by simp only [intD]; omega⟩
      have JM : ∀ (e2 : DEnv) (S : Store), e2 0 = .g (eS eT l) → e2 5 = i64 i → RowP P3 S 4 (e2 4) (rS eT out1) → K1 e2 S := by
        intro e2 S g0 g5 hw
        exact hC _ _ (RowP.move 4 (.r 0 0) P3_r hw fun d S' hz _ _ => JE _ _ g0 g5 hz)
      clear q1 hC mk2
      obtain ⟨tv, te⟩ := t
      simp only at *
      rcases hw with ⟨g4, h4⟩ | ⟨b4, cap, g4, s4⟩
      · obtain rfl : out = [] := by have := congrArg List.length h4; rw [rS_len] at this; exact List.eq_nil_of_length_eq_zero this
        rw [insT_nil] at hins
        subst hins
        have ft := And.intro g0 (And.intro g4 g5)
        repeat (first | with_reducible refine pv_seq fun K hK => ?_ | ((with_reducible first | refine hK _ _ ?_ | (clear hK; refine hK _ _ ?_) | (clear hK; clear hK; refine hK _ _ ?_)); clear hK; try clear K) | refine W0 ?_ | exact Z | with_reducible intro b)
        refine pv_loop (fun e T => Hid (e 0 = .g (eS eT l) ∧ e 4 = .nil ∧ e 5 = i64 i ∧ e 6 = i64 0)) (fun _ _ => 0) ?_ ?_
        · exact ⟨Zr, Zr, Zr, Zr⟩
        · rintro e2 T ⟨g0, g4, g5, g6⟩
          have k0 : ((0 : Int) < 0) = False := eq_false (by decide)
          have ft := And.intro g0 (And.intro g4 (And.intro g5 (And.intro g6 q2)))
          repeat (first | with_reducible refine pv_seq fun K hK => ?_ | ((with_reducible first | refine hK _ _ ?_ | (clear hK; refine hK _ _ ?_) | (clear hK; clear hK; refine hK _ _ ?_)); clear hK; try clear K) | refine W0 ?_ | exact Z | with_reducible intro b)
          refine ⟨fun _ => ?_, fun h => absurd h (by decide)⟩
          repeat (first | with_reducible refine pv_seq fun K hK => ?_ | ((with_reducible first | refine hK _ _ ?_ | (clear hK; refine hK _ _ ?_) | (clear hK; clear hK; refine hK _ _ ?_)); clear hK; try clear K) | refine W0 ?_ | exact Z | with_reducible intro b)
          refine ⟨by simp [D.one], fun h => h.elim, fun _ b' cap' => ?_⟩
          repeat (first | with_reducible refine pv_seq fun K hK => ?_ | ((with_reducible first | refine hK _ _ ?_ | (clear hK; refine hK _ _ ?_) | (clear hK; clear hK; refine hK _ _ ?_)); clear hK; try clear K) | refine W0 ?_ | exact Z | with_reducible intro b)
          exact JM _ _ Zr Zr (.inr ⟨.l 82, _, _, .inr (.inl rfl), Zr, by simp only [updS_apply]; rfl⟩)
      · rw [rS_len] at g4
        have k4 : ∀ k : Nat, k < out.length → (rS eT out)[k]? = some (cT (gT out k)) := fun k => rT_at
        have hmx := posT_max (out := out) (e := te)
        have hal := fun j => posT_all (out := out) (e := te) (j := j)
        have hpl := posT_le out te
        unfold insT at hins
        simp only at hins
        generalize hp : posT out te = m at *
        have ft := And.intro g0 (And.intro g4 g5)
        repeat (first | with_reducible refine pv_seq fun K hK => ?_ | ((with_reducible first | refine hK _ _ ?_ | (clear hK; refine hK _ _ ?_) | (clear hK; clear hK; refine hK _ _ ?_)); clear hK; try clear K) | refine W0 ?_ | exact Z | with_reducible intro b)
        refine pv_loop (fun e T => Hid (∃ k : Nat, k ≤ m ∧ e 0 = .g (eS eT l) ∧ e 4 = .own (.r 0 0) b4 0 out.length cap 4 ∧ e 5 = i64 i ∧ e 6 = i64 k ∧ T (.r 0 0) = some ⟨b4, 4, 0, rS eT out⟩)) (fun e _ => m - (intD (e 6)).toNat) ?_ ?_
        · exact ⟨0, Nat.zero_le _, Zr, Zr, Zr, Zr, s4⟩
        · rintro e2 T ⟨k, hkm, g0, g4, g5, g6, s4⟩
          have JX : ∀ (e : DEnv) (S : Store), True := fun _ _ => trivial
          by_cases hk1 : k < out.length
          · have k1 : (k < out.length) = True := eq_true hk1
            have q1 := k4 k hk1
            have hek := hei _ (gT_mem hk1)
            have pC := p_rOrdE (a := (gT out k).e) (b := te) hek wm
            by_cases hkm2 : k < m
            · have h9 := hal k hkm2
              have h9' := eq_true h9
              clear hmx hal hins JE JM hsi hei
              generalize gT out k = x at *
              obtain ⟨xv, xe⟩ := x
              unfold ZI at pC
              unfold cT at q1
              simp only at *
              generalize ordE xe te = o at *
              have ft := And.intro g0 (And.intro g4 (And.intro g5 (And.intro g6 (And.intro s4 (And.intro q1 (And.intro q2 (And.intro k1 h9')))))))
              repeat (first | with_reducible refine pv_seq fun K hK => ?_ | ((with_reducible first | refine hK _ _ ?_ | (clear hK; refine hK _ _ ?_) | (clear hK; clear hK; refine hK _ _ ?_)); clear hK; try clear K) | refine W ?_ | exact Z | with_reducible intro b)
              exact ⟨⟨k + 1, by omega, Zr, Zr, Zr, Zr, s4⟩, by simp only [intD]; omega⟩
            · obtain rfl : k = m := by omega
              have h9 := hmx hk1
              have h9' := eq_false h9
              by_cases h0 : ordE (gT out k).e te = 0
              · rw [if_pos ⟨hk1, h0⟩] at hins
                have h0' := eq_true h0
                have pP := p_rPlus (hsi _ (gT_mem hk1)).bd (ws.mono (show M ≤ M + i by omega)).bd (by omega)
                have hset := rT_set (out := out) (k := k) (t := ⟨(gT out k).v + tv, (gT out k).e⟩)
                clear hmx hal JM hsi hei
                generalize gT out k = x at *
                obtain ⟨xv, xe⟩ := x
                unfold ZI at pC
                unfold cT at q1 hset
                unfold VA at pP
                simp only at *
                generalize ordE xe te = o at *
                have ft := And.intro g0 (And.intro g4 (And.intro g5 (And.intro g6 (And.intro s4 (And.intro q1 (And.intro q2 (And.intro k1 (And.intro h9' h0'))))))))
                repeat (first | with_reducible refine pv_seq fun K hK => ?_ | ((with_reducible first | refine hK _ _ ?_ | (clear hK; refine hK _ _ ?_) | (clear hK; clear hK; refine hK _ _ ?_)); clear hK; try clear K) | refine W ?_ | exact Z | with_reducible intro b)
                exact JE _ _ Zr Zr (.inr ⟨b4, cap, by rw [hins, rS_len, List.length_set]; exact Zr, by rw [hins, ← hset]; simp only [updS_apply]; rfl⟩)
              · rw [if_neg (fun h => h0 h.2)] at hins
                have h0' := eq_false h0
                clear hmx hal hsi hei JE
                generalize gT out k = x at *
                obtain ⟨xv, xe⟩ := x
                unfold ZI at pC
                unfold cT at q1
                simp only at *
                generalize ordE xe te = o at *
                have ft := And.intro g0 (And.intro g4 (And.intro g5 (And.intro g6 (And.intro s4 (And.intro q1 (And.intro q2 (And.intro k1 (And.intro h9' h0'))))))))
                repeat (first | with_reducible refine pv_stop 11 ?_ | with_reducible refine pv_seq fun K hK => ?_ | ((with_reducible first | refine hK _ _ ?_ | (clear hK; refine hK _ _ ?_) | (clear hK; clear hK; refine hK _ _ ?_)); clear hK; try clear K) | refine W ?_ | exact Z | with_reducible intro b)
                refine ⟨fun K2 q2' hC2 => ?_⟩
                have JR : ∀ (e : DEnv) (S : Store), e 0 = .g (eS eT l) → e 4 = .own (.r 0 0) b4 0 out.length cap 4 → e 5 = i64 i → e 6 = i64 k → S (.r 0 0) = some ⟨b4, 4, 0, rS eT out⟩ → RowP P3 S 4 (e 7) (rS eT (out.take k)) → K2 e S := by
                  intro e S g0 g4 g5 g6 s4 hr
                  refine q2' _ _ ?_
                  clear q2' hC2
                  have ft := And.intro g4 (And.intro g0 (And.intro g5 (And.intro g6 q2)))
                  repeat (first | with_reducible refine pv_seq fun K hK => ?_ | ((with_reducible first | refine hK _ _ ?_ | (clear hK; refine hK _ _ ?_) | (clear hK; clear hK; refine hK _ _ ?_)); clear hK; try clear K) | refine W0 ?_ | exact Z | with_reducible intro b)
                  refine RowP.appL (P := P3) hr P3_81 (.inr (.inl rfl)) rfl ?_ ?_ ?_ fun d2 S2 hr2 hf2 hg2 => ?_
                  · simp [D.one]
                  · rw [rS_len, List.length_take]; simp only [List.length_singleton]; omega
                  · rw [rS_len, List.length_take]; simp only [List.length_singleton]; omega
                  have s4'' : S2 (.r 0 0) = some ⟨b4, 4, 0, rS eT out⟩ := (hf2 (.r 0 0) P3_r).trans ((updS_ne (by simp)).trans s4)
                  repeat (first | with_reducible refine pv_seq fun K hK => ?_ | ((with_reducible first | refine hK _ _ ?_ | (clear hK; refine hK _ _ ?_) | (clear hK; clear hK; refine hK _ _ ?_)); clear hK; try clear K) | refine W0 ?_ | exact Z | with_reducible intro b)
                  refine RowP.app (new := rS eT (out.drop k)) hr2 (.inr (.inr rfl)) (fun K hK => ?_) ?_ ?_ fun d3 S3 hr3 hf3 hg3 => ?_
                  · rw [srcD_own, s4'']; exact ⟨rfl, rfl, rfl, by rw [rS_len]; omega, rT_all, by rw [rT_drop, List.take_of_length_le (by rw [rS_len, List.length_drop]; omega)]; exact hK⟩
                  · simp only [List.length_append, rS_len, List.length_take, List.length_drop, List.length_singleton, List.length_nil]; omega
                  · simp only [List.length_append, rS_len, List.length_take, List.length_drop, List.length_singleton, List.length_nil]; omega
                  repeat (first | with_reducible refine pv_seq fun K hK => ?_ | ((with_reducible first | refine hK _ _ ?_ | (clear hK; refine hK _ _ ?_) | (clear hK; clear hK; refine hK _ _ ?_)); clear hK; try clear K) | refine W0 ?_ | exact Z | with_reducible intro b)
                  exact JM _ _ Zr Zr (by rw [hins, show out.take k ++ (⟨tv, te⟩ : Te) :: out.drop k = out.take k ++ [⟨tv, te⟩] ++ out.drop k by simp, ← rS_app, ← rS_app]; exact hr3)
                repeat (first | with_reducible refine pv_seq fun K hK => ?_ | ((with_reducible first | refine hK _ _ ?_ | (clear hK; refine hK _ _ ?_) | (clear hK; clear hK; refine hK _ _ ?_)); clear hK; try clear K) | refine W0 ?_ | exact Z | with_reducible intro b)
                refine ⟨by rw [rS_len]; omega, rT_all, by rw [rT_take, rS_len, List.length_take]; omega, by rw [rT_take, rS_len, List.length_take]; omega, fun h => JR _ _ Zr Zr Zr Zr s4 (.inl ⟨Zr, by rw [← rT_take]; exact h⟩), fun h b' cap' => JR _ _ Zr Zr Zr Zr (by rw [updS_ne (by simp)]; exact s4) (.inr ⟨.l 75, b', cap', .inl rfl, by rw [← rT_take]; exact Zr, by rw [← rT_take]; exact updS_at⟩)⟩
          · obtain rfl : k = m := by omega
            have k1 : (k < out.length) = False := eq_false hk1
            rw [if_neg (fun h => hk1 h.1)] at hins
            clear hmx hal hsi hei JE
            have ft := And.intro g0 (And.intro g4 (And.intro g5 (And.intro g6 (And.intro s4 (And.intro q2 k1)))))
            repeat (first | with_reducible refine pv_stop 11 ?_ | with_reducible refine pv_seq fun K hK => ?_ | ((with_reducible first | refine hK _ _ ?_ | (clear hK; refine hK _ _ ?_) | (clear hK; clear hK; refine hK _ _ ?_)); clear hK; try clear K) | refine W ?_ | exact Z | with_reducible intro b)
            refine ⟨fun K2 q2' hC2 => ?_⟩
            have JR : ∀ (e : DEnv) (S : Store), e 0 = .g (eS eT l) → e 4 = .own (.r 0 0) b4 0 out.length cap 4 → e 5 = i64 i → e 6 = i64 k → S (.r 0 0) = some ⟨b4, 4, 0, rS eT out⟩ → RowP P3 S 4 (e 7) (rS eT (out.take k)) → K2 e S := by
              intro e S g0 g4 g5 g6 s4 hr
              refine q2' _ _ ?_
              clear q2' hC2
              have ft := And.intro g4 (And.intro g0 (And.intro g5 (And.intro g6 q2)))
              repeat (first | with_reducible refine pv_seq fun K hK => ?_ | ((with_reducible first | refine hK _ _ ?_ | (clear hK; refine hK _ _ ?_) | (clear hK; clear hK; refine hK _ _ ?_)); clear hK; try clear K) | refine W0 ?_ | exact Z | with_reducible intro b)
              refine RowP.appL (P := P3) hr P3_81 (.inr (.inl rfl)) rfl ?_ ?_ ?_ fun d2 S2 hr2 hf2 hg2 => ?_
              · simp [D.one]
              · rw [rS_len, List.length_take]; simp only [List.length_singleton]; omega
              · rw [rS_len, List.length_take]; simp only [List.length_singleton]; omega
              have s4'' : S2 (.r 0 0) = some ⟨b4, 4, 0, rS eT out⟩ := (hf2 (.r 0 0) P3_r).trans ((updS_ne (by simp)).trans s4)
              repeat (first | with_reducible refine pv_seq fun K hK => ?_ | ((with_reducible first | refine hK _ _ ?_ | (clear hK; refine hK _ _ ?_) | (clear hK; clear hK; refine hK _ _ ?_)); clear hK; try clear K) | refine W0 ?_ | exact Z | with_reducible intro b)
              refine ⟨fun _ => ?_, ?_⟩
              · refine RowP.app (new := []) hr2 (.inr (.inr rfl)) (fun K hK => ?_) ?_ ?_ fun d3 S3 hr3 hf3 hg3 => ?_
                · rw [srcD_own, s4'']; exact ⟨rfl, rfl, rfl, by rw [rS_len]; omega, rT_all, hK⟩
                · simp only [List.length_append, rS_len, List.length_take, List.length_drop, List.length_singleton, List.length_nil]; omega
                · simp only [List.length_append, rS_len, List.length_take, List.length_drop, List.length_singleton, List.length_nil]; omega
                repeat (first | with_reducible refine pv_seq fun K hK => ?_ | ((with_reducible first | refine hK _ _ ?_ | (clear hK; refine hK _ _ ?_) | (clear hK; clear hK; refine hK _ _ ?_)); clear hK; try clear K) | refine W0 ?_ | exact Z | with_reducible intro b)
                exact JM _ _ Zr Zr (by rw [hins, show out.take k ++ (⟨tv, te⟩ : Te) :: out.drop k = out.take k ++ [⟨tv, te⟩] ++ out.drop k by simp, ← rS_app, ← rS_app]; rw [show out.drop k = [] from List.drop_eq_nil_of_le (by omega)]; exact hr3)
              · refine RowP.app (new := rS eT (out.drop k)) hr2 (.inr (.inr rfl)) (fun K hK => ?_) ?_ ?_ fun d3 S3 hr3 hf3 hg3 => ?_
                · rw [srcD_own, s4'']; exact ⟨rfl, rfl, rfl, by rw [rS_len]; omega, rT_all, by rw [rT_drop, List.take_of_length_le (by rw [rS_len, List.length_drop]; omega)]; exact hK⟩
                · simp only [List.length_append, rS_len, List.length_take, List.length_drop, List.length_singleton, List.length_nil]; omega
                · simp only [List.length_append, rS_len, List.length_take, List.length_drop, List.length_singleton, List.length_nil]; omega
                repeat (first | with_reducible refine pv_seq fun K hK => ?_ | ((with_reducible first | refine hK _ _ ?_ | (clear hK; refine hK _ _ ?_) | (clear hK; clear hK; refine hK _ _ ?_)); clear hK; try clear K) | refine W0 ?_ | exact Z | with_reducible intro b)
                exact JM _ _ Zr Zr (by rw [hins, show out.take k ++ (⟨tv, te⟩ : Te) :: out.drop k = out.take k ++ [⟨tv, te⟩] ++ out.drop k by simp, ← rS_app, ← rS_app]; exact hr3)
            repeat (first | with_reducible refine pv_seq fun K hK => ?_ | ((with_reducible first | refine hK _ _ ?_ | (clear hK; refine hK _ _ ?_) | (clear hK; clear hK; refine hK _ _ ?_)); clear hK; try clear K) | refine W0 ?_ | exact Z | with_reducible intro b)
            refine ⟨by rw [rS_len]; omega, rT_all, by rw [rT_take, rS_len, List.length_take]; omega, by rw [rT_take, rS_len, List.length_take]; omega, fun h => JR _ _ Zr Zr Zr Zr s4 (.inl ⟨Zr, by rw [← rT_take]; exact h⟩), fun h b' cap' => JR _ _ Zr Zr Zr Zr (by rw [updS_ne (by simp)]; exact s4) (.inr ⟨.l 75, b', cap', .inl rfl, by rw [← rT_take]; exact Zr, by rw [← rT_take]; exact updS_at⟩)⟩
    · obtain rfl : i = l.length := by omega
      repeat (first | with_reducible refine pv_seq fun K hK => ?_ | ((with_reducible first | refine hK _ _ ?_ | (clear hK; refine hK _ _ ?_) | (clear hK; clear hK; refine hK _ _ ?_)); clear hK; try clear K) | refine W0 ?_ | exact Z | with_reducible intro b)
      exact J _ _ hw
end Go.V
namespace Go.V
open Go Go.RowKit Go.Proofs
def qT16_41_9 : List (Nat × Nat) := [(0, 0), (1, 0), (2, 0), (3, 0), (4, 0), (5, 1), (7, 0), (8, 0), (9, 0), (10, 0), (11, 2), (6, 4), (12, 0), (13, 3), (14, 3), (15, 0)]
attribute [go_sem] qT16_41_9
theorem rS_t {l : List Te} {t : Te} : rS eT l ++ [[bl (fS t.v), W32 (D32 (fN t.v)), i64 (fE t.v), .g (eS eZ t.e)]] = rS eT (l ++ [t]) := by rw [← rS_app]; rfl
theorem allM_no {q : List Mo} {n : Int} {i : Nat} (hi : i < q.length) (h : monoB (gM q i) n = false) : allM q n = false := decide_eq_false fun h2 => by rw [h2 _ (gM_mem hi)] at h; cases h
theorem allM_yes {q : List Mo} {n : Int} (h : ∀ i, i < q.length → monoB (gM q i) n = true) : allM q n = true := decide_eq_true fun m hm => by
  obtain ⟨i, hi⟩ := List.mem_iff_getElem?.1 hm
  have hil : i < q.length := (List.getElem?_eq_some_iff.1 hi).1
  have := h i hil
  rw [gM_at hil] at hi
  injection hi with hi
  rwa [hi] at this
theorem monoB_right {m : Mo} {n : Int} (h : monoB m n = true) : rightB m.c = true := by
  unfold monoB at h
  rw [Bool.and_eq_true] at h
  exact h.2
set_option maxHeartbeats 2000000 in
theorem p_rPMake {q : List Mo} {n : Int} (hq : WfM q) (hl : q.length ≤ 10000) : PC Tryz.prog 41 [MM q, i64 n] fun d => d = LM (pmkR q n) := by
  unfold MM
  by_cases h1 : 1 ≤ n
  · by_cases h4 : n ≤ 4
    · have k1 : (n < 1) = False := eq_false (by omega)
      have k2 : (4 < n) = False := eq_false (by omega)
      generalize hr : pmkR q n = r
      have hno : allM q n = false → r = ([], 1) := fun h => by rw [← hr]; unfold pmkR; rw [h, Bool.and_false]; rfl
      have hyes : allM q n = true → r = gathR (q.map teM) := fun h => by rw [← hr]; unfold pmkR; rw [h, decide_eq_true h1, decide_eq_true h4]; rfl
      clear hr
      have d1 := @dl 9 qT16_41_9
      refine PB (rs := [.tmp 4, .tmp 5]) Tryz.func41 ?_
      have ft := And.intro k1 k2
      repeat (first | with_reducible refine pv_seq fun K hK => ?_ | ((with_reducible first | refine hK _ _ ?_ | (clear hK; refine hK _ _ ?_) | (clear hK; clear hK; refine hK _ _ ?_)); clear hK; try clear K) | refine W0 ?_ | exact Z | with_reducible intro b)
      have J : ∀ (e : DEnv) (S : Store), (∀ j, j < q.length → monoB (gM q j) n = true) → RowZ S (.l 41) 4 (e 6) (rS eT (q.map teM)) → K e S := by
        intro e S hz hw
        have hry := hyes (allM_yes hz)
        have pG := p_gather (l := q.map teM) (M := 135168) (Q := 65536) (by rw [List.length_map]; omega) (fun t ht => by
          obtain ⟨m, hm, rfl⟩ := List.mem_map.1 ht
          obtain ⟨i, hi⟩ := List.mem_iff_getElem?.1 hm
          have hil : i < q.length := (List.getElem?_eq_some_iff.1 hi).1
          have h5 := hz i hil
          rw [gM_at hil] at hi
          injection hi with hi
          rw [hi] at h5
          obtain ⟨d, hd, e⟩ := right_is (hq.w m hm).c.b (monoB_right h5)
          show Sm _ _ m.c.val
          rw [e, val_nuOf]
          exact okD_sm hd) (fun t ht => by
          obtain ⟨m, hm, rfl⟩ := List.mem_map.1 ht
          exact (hq.w m hm).n) (by rw [List.length_map]; omega)
        rw [← hry] at pG
        unfold TT LM at pG
        obtain ⟨r1, r2⟩ := r
        have ft := true_and
        repeat (first | with_reducible refine pv_seq fun K hK => ?_ | ((with_reducible first | refine hK _ _ ?_ | (clear hK; refine hK _ _ ?_) | (clear hK; clear hK; refine hK _ _ ?_)); clear hK; try clear K) | refine W0 ?_ | exact Z | with_reducible intro b)
        refine PFC.coe ?_
        refine hw.toD.coe1 fun S' _ _ => ?_
        exact Wk
      clear hK
      obtain ⟨I, mk, el⟩ := hide fun e S => ∃ i : Nat, i ≤ q.length ∧ e 0 = .g (eS eM q) ∧ e 1 = i64 n ∧ e 7 = i64 i ∧ (∀ j, j < i → monoB (gM q j) n = true) ∧ RowZ S (.l 41) 4 (e 6) (rS eT ((q.take i).map teM))
      refine pv_loop I (fun e _ => q.length - (intD (e 7)).toNat) ?_ ?_
      · have ft := true_and
        exact mk _ _ ⟨0, Nat.zero_le _, Zr, Zr, Zr, fun j hj => by omega, .inl ⟨Zr, rfl⟩⟩
      · intro e S hI
        obtain ⟨i, hi, g0, g1, g7, hz, hw⟩ := el e S hI
        clear el hI
        have ft := And.intro g0 (And.intro g1 g7)
        repeat (first | with_reducible refine pv_seq fun K hK => ?_ | ((with_reducible first | refine hK _ _ ?_ | (clear hK; refine hK _ _ ?_) | (clear hK; clear hK; refine hK _ _ ?_)); clear hK; try clear K) | refine W0 ?_ | exact Z | with_reducible intro b)
        refine pv_cdD (fun ht => ?_) (fun ht => ?_)
        · have hil : i < q.length := by omega
          have q1 := gM_at hil
          have wm := hq.at_ hil
          have pM := p_rMono (n := n) wm h4
          have hno := fun h => hno (allM_no hil h)
          have hz2 : monoB (gM q i) n = true → ∀ j, j < i + 1 → monoB (gM q j) n = true := fun h j hj => by
            rcases Nat.lt_or_ge j i with h1 | h1
            · exact hz j h1
            · obtain rfl : j = i := by omega
              exact h
          have hrt := fun (h : monoB (gM q i) n = true) => right_is wm.c.b (monoB_right h)
          have htk : (q.take (i + 1)).map teM = (q.take i).map teM ++ [teM (gM q i)] := by rw [List.take_add_one, q1, List.map_append]; rfl
          have hlt : ((q.take i).map teM).length = i := by rw [List.length_map, List.length_take]; omega
          clear hyes J
          generalize monoB (gM q i) n = t at *
          generalize gM q i = m at *
          obtain ⟨⟨n1, e1, w1⟩, z⟩ := m
          cases t
          · have h := hno rfl
            subst h
            have ft := And.intro g0 (And.intro g1 (And.intro g7 q1))
            exact Wk
          · obtain ⟨d, hd, hc⟩ := hrt rfl
            have pO := p_rOf hd
            simp only at hc
            rw [← hc] at pO
            have hv : teM ⟨⟨n1, e1, w1⟩, z⟩ = ⟨d, z⟩ := by unfold teM; simp only; rw [hc, val_nuOf]
            rw [hv] at htk
            have hnew := rS_t (l := (q.take i).map teM) (t := ⟨d, z⟩)
            unfold VA at pO
            simp only at hnew
            have ft := And.intro g0 (And.intro g1 (And.intro g7 q1))
            repeat' (first | with_reducible refine pv_seq fun K hK => ?_ | ((with_reducible first | refine hK _ _ ?_ | (clear hK; refine hK _ _ ?_) | (clear hK; clear hK; refine hK _ _ ?_)); clear hK; try clear K) | refine W ?_ | exact Z | with_reducible intro b | with_reducible refine And.intro ?_ ?_ | (refine RowZ.appL (hw.up (by rfl)) (by decide) rfl (by simp [D.one, W32]) ?_ ?_ fun d' S' hr' hS' => ?_))
            all_goals first | (rw [rS_len, hlt]; omega) | (simp only [intD]; omega) | exact mk _ _ ⟨i + 1, by omega, Zr, Zr, Zr, hz2 rfl, by rw [htk, ← hnew]; exact hr'⟩
        · obtain rfl : i = q.length := by omega
          rw [List.take_length] at hw
          repeat (first | with_reducible refine pv_seq fun K hK => ?_ | ((with_reducible first | refine hK _ _ ?_ | (clear hK; refine hK _ _ ?_) | (clear hK; clear hK; refine hK _ _ ?_)); clear hK; try clear K) | refine W0 ?_ | exact Z | with_reducible intro b)
          exact J _ _ hz hw
    · have k1 : (n < 1) = False := eq_false (by omega)
      have k2 : (4 < n) = True := eq_true (by omega)
      have hr : pmkR q n = ([], 1) := by unfold pmkR; rw [decide_eq_false h4, Bool.and_false]; rfl
      rw [hr]
      have d1 := @dl 9 qT16_41_9
      refine PB (rs := [.tmp 4, .tmp 5]) Tryz.func41 ?_
      have ft := And.intro k1 k2
      exact Wk
  · have k1 : (n < 1) = True := eq_true (by omega)
    have hr : pmkR q n = ([], 1) := by unfold pmkR; rw [decide_eq_false h1]; rfl
    rw [hr]
    have d1 := @dl 9 qT16_41_9
    refine PB (rs := [.tmp 4, .tmp 5]) Tryz.func41 ?_
    have ft := k1
    exact Wk

/-! ### The deck -/
theorem rZ_at {z : List Int} {k : Nat} (h : k < z.length) : (rS eZ z)[k]? = some [i64 (z.getD k 0)] := by
  rw [rS_get, zget h]; rfl
theorem rZ_set {z : List Int} {k : Nat} {x : Int} : (rS eZ z).set k [i64 x] = rS eZ (z.set k x) := by
  unfold rS gl
  rw [List.map_set, List.map_set]; rfl
theorem rZ_rep {n : Nat} : List.replicate n [i64 0] = rS eZ (List.replicate n 0) := by
  unfold rS gl
  rw [List.map_replicate, List.map_replicate]; rfl
theorem sum_inc : ∀ {z : List Int} {k : Nat}, k < z.length → (z.set k (z.getD k 0 + 1)).sum = z.sum + 1
  | x :: z, 0, _ => by show (x + 1) + z.sum = x + z.sum + 1; omega
  | x :: z, k + 1, h => by
    have := sum_inc (z := z) (k := k) (by simpa using h)
    show x + (z.set k (z.getD k 0 + 1)).sum = x + z.sum + 1
    omega
theorem nn_inc {z : List Int} {k : Nat} (hk : k < z.length) (h : ∀ x ∈ z, 0 ≤ x) : ∀ x ∈ z.set k (z.getD k 0 + 1), 0 ≤ x := fun x hx => by
  rcases List.mem_or_eq_of_mem_set hx with h1 | h1
  · exact h x h1
  · have := h _ (List.mem_of_getElem? (zget hk)); omega
/-- Powers of n variables, together deg at most. -/
structure Pw (n deg : Nat) (z : List Int) : Prop where
  len : z.length = n
  nn : ∀ x ∈ z, 0 ≤ x
  sum : z.sum ≤ deg
set_option maxHeartbeats 2000000 in
theorem p_dPowers {k : Nm} {S : Store} {Q : D → Store → Prop} {bd i n deg : Nat} {w : List Nat} (hS : S k = some ⟨bd, 2, 0, [[W64 w, i64 i]]⟩) (hb : B64 w) (hi : i ≤ 700000000) (h1 : 1 ≤ n) (h4 : n ≤ 4) (h8 : deg ≤ 8)
    (hQ : ∀ (z : List Int) (j : Nat), Pw n deg z → j ≤ i + 9 → Q (.g (eS eZ z)) (updS S k (some ⟨bd, 2, 0, [[W64 w, i64 j]]⟩))) :
    PFC Tryz.prog 79 [.ptr k bd 0 0 2, i64 n, i64 deg] S Q := by
  refine PFB (rs := [.tmp 6]) Tryz.func79 ?_
  repeat (first | with_reducible refine pv_seq fun K hK => ?_ | ((with_reducible first | refine hK _ _ ?_ | (clear hK; refine hK _ _ ?_) | (clear hK; clear hK; refine hK _ _ ?_)); clear hK; try clear K) | refine W0 ?_ | exact Z | with_reducible intro b)
  refine p_dN (n := deg + 1) (i := i) (by simp -implicitDefEqProofs only [updS, upS]; exact hS) hb (by omega) (by omega) (by omega) (fun r hr => ?_)
  repeat (first | with_reducible refine pv_seq fun K hK => ?_ | ((with_reducible first | refine hK _ _ ?_ | (clear hK; refine hK _ _ ?_) | (clear hK; clear hK; refine hK _ _ ?_)); clear hK; try clear K) | refine W0 ?_ | exact Z | with_reducible intro b)
  have J : ∀ (e : DEnv) (T : Store) (z : List Int) (j b7 : Nat), Pw n deg z → j ≤ i + 9 → e 7 = .own (.l 10) b7 0 n n 1 → T (.l 10) = some ⟨b7, 1, 0, rS eZ z⟩ → Dk S k T (some ⟨bd, 2, 0, [[W64 w, i64 j]]⟩) → K e T := by
    intro e T z j b7 hz hj g7 s7 hd
    have hw : RowD T (.l 10) 1 (e 7) (rS eZ z) := by rw [g7]; exact RowD.own (by rw [rS_len, hz.len]) s7
    repeat (first | with_reducible refine pv_seq fun K hK => ?_ | ((with_reducible first | refine hK _ _ ?_ | (clear hK; refine hK _ _ ?_) | (clear hK; clear hK; refine hK _ _ ?_)); clear hK; try clear K) | refine W0 ?_ | exact Z | with_reducible intro b)
    exact hw.coeD fun T2 _ hT2 => by rw [(hd.of hT2).dn]; exact hQ z j hz hj
  clear hK
  obtain ⟨I, mk, el⟩ := hide fun e T => ∃ (t j b7 : Nat) (z : List Int), t + z.sum.toNat ≤ deg ∧ z.length = n ∧ (∀ x ∈ z, 0 ≤ x) ∧ 0 ≤ z.sum ∧ j ≤ i + 1 + z.sum.toNat ∧ e 0 = .ptr (.up k) bd 0 0 2 ∧ e 1 = i64 n ∧ e 8 = i64 t ∧ e 7 = .own (.l 10) b7 0 n n 1 ∧ T (.l 10) = some ⟨b7, 1, 0, rS eZ z⟩ ∧ Dk S k T (some ⟨bd, 2, 0, [[W64 w, i64 j]]⟩)
  refine pv_loop I (fun e _ => (intD (e 8)).toNat) ?_ ?_
  · have hsum : (List.replicate n (0 : Int)).sum = 0 := by simp
    refine mk _ _ ⟨r, i + 1, _, List.replicate n 0, by rw [hsum]; simp; omega, by simp, fun x hx => by rw [(List.mem_replicate.1 hx).2]; decide, by rw [hsum]; decide, by omega, Zr, Zr, Zr, Zr, ?_, ?_⟩
    · rw [← rZ_rep]; simp only [updS_apply]; rfl
    · exact ((Dk.up hS).l).set
  · intro e T hI
    obtain ⟨t, j, b7, z, htz, hzl, hnn, hs0, hj, g0, g1, g8, g7, s7, hd⟩ := el e T hI
    clear el hI
    have ft := And.intro g0 (And.intro g1 (And.intro g8 g7))
    repeat (first | with_reducible refine pv_seq fun K hK => ?_ | ((with_reducible first | refine hK _ _ ?_ | (clear hK; refine hK _ _ ?_) | (clear hK; clear hK; refine hK _ _ ?_)); clear hK; try clear K) | refine W0 ?_ | exact Z | with_reducible intro b)
    refine pv_cdD (fun ht => ?_) (fun ht => ?_)
    · obtain ⟨t, rfl⟩ : ∃ t2, t = t2 + 1 := ⟨t - 1, by omega⟩
      have hm0 : (intD (e 8)).toNat = t + 1 := by rw [g8]; exact Int.toNat_natCast _
      repeat (first | with_reducible refine pv_seq fun K hK => ?_ | ((with_reducible first | refine hK _ _ ?_ | (clear hK; refine hK _ _ ?_) | (clear hK; clear hK; refine hK _ _ ?_)); clear hK; try clear K) | refine W0 ?_ | exact Z | with_reducible intro b)
      refine p_dN (n := n) hd.at_ hb (by omega) (by omega) (by omega) (fun c hc => ?_)
      have q1 := rZ_at (z := z) (k := c) (by omega)
      have hset := rZ_set (z := z) (k := c) (x := z.getD c 0 + 1)
      have hsi := sum_inc (z := z) (k := c) (by omega)
      have hni := nn_inc (z := z) (k := c) (by omega) hnn
      have hsub : (((t + 1 : Nat) : Int) - 1) = (t : Int) := by omega
      have hx8 : z.getD c 0 ≤ 8 := by
        have := le_sum hnn c (by omega)
        omega
      have hx0 : 0 ≤ z.getD c 0 := hnn _ (List.mem_of_getElem? (zget (by omega)))
      generalize z.getD c 0 = x at *
      have hc2 : (c : Int).toNat = c := by omega
      have ft := And.intro g0 (And.intro g1 (And.intro g8 (And.intro g7 (And.intro s7 (And.intro q1 hsub)))))
      repeat (first | with_reducible refine pv_seq fun K hK => ?_ | ((with_reducible first | refine hK _ _ ?_ | (clear hK; refine hK _ _ ?_) | (clear hK; clear hK; refine hK _ _ ?_)); clear hK; try clear K) | refine W0 ?_ | exact Z | with_reducible intro b)
      exact ⟨mk _ _ ⟨t, j + 1, b7, z.set c (x + 1), by rw [hsi]; omega, by rw [List.length_set]; exact hzl, hni, by rw [hsi]; omega, by rw [hsi]; omega, Zr, Zr, Zr, Zr, by rw [← hset]; simp only [updS_apply]; rfl, (hd.set).l⟩, by simp only [intD]; omega⟩
    · obtain rfl : t = 0 := by omega
      have ft := And.intro g0 (And.intro g1 (And.intro g7 g8))
      repeat (first | with_reducible refine pv_seq fun K hK => ?_ | ((with_reducible first | refine hK _ _ ?_ | (clear hK; refine hK _ _ ?_) | (clear hK; clear hK; refine hK _ _ ?_)); clear hK; try clear K) | refine W0 ?_ | exact Z | with_reducible intro b)
      exact J _ _ z j b7 ⟨hzl, hnn, by omega⟩ (by omega) g7 s7 hd

/-- Monomials that the deck draws. -/
structure DrM (n deg : Nat) (m : Mo) : Prop where
  c : ∃ d, m.c = nuOf d ∧ Sm 14 6 d
  e : Pw n deg m.e
theorem DrM.wm {n deg : Nat} {m : Mo} (h : DrM n deg m) (hn : n ≤ 100000) : Wm m := by
  obtain ⟨d, hd, hs⟩ := h.c
  exact ⟨by rw [hd]; exact ((hs.ok (by decide) (by decide)).sz).wl, by rw [h.e.len]; exact hn⟩
set_option maxHeartbeats 2000000 in
theorem p_dMonos {k : Nm} {S : Store} {Q : D → Store → Prop} {bd i n most deg : Nat} {w : List Nat} (hS : S k = some ⟨bd, 2, 0, [[W64 w, i64 i]]⟩) (hb : B64 w) (hi : i ≤ 500000000) (h1 : 1 ≤ n) (h4 : n ≤ 4) (h8 : deg ≤ 8) (hm : most ≤ 1000)
    (hQ : ∀ (q : List Mo) (j : Nat), q.length ≤ most → (∀ m ∈ q, DrM n deg m) → j ≤ i + 1 + 10 * most → Q (MM q) (updS S k (some ⟨bd, 2, 0, [[W64 w, i64 j]]⟩))) :
    PFC Tryz.prog 42 [.ptr k bd 0 0 2, i64 n, i64 most, i64 deg] S Q := by
  refine PFB (rs := [.tmp 8]) Tryz.func42 ?_
  repeat (first | with_reducible refine pv_seq fun K hK => ?_ | ((with_reducible first | refine hK _ _ ?_ | (clear hK; refine hK _ _ ?_) | (clear hK; clear hK; refine hK _ _ ?_)); clear hK; try clear K) | refine W0 ?_ | exact Z | with_reducible intro b)
  refine p_dN (n := most + 1) (i := i) (by simp -implicitDefEqProofs only [updS, upS]; exact hS) hb (by omega) (by omega) (by omega) (fun r hr => ?_)
  repeat (first | with_reducible refine pv_seq fun K hK => ?_ | ((with_reducible first | refine hK _ _ ?_ | (clear hK; refine hK _ _ ?_) | (clear hK; clear hK; refine hK _ _ ?_)); clear hK; try clear K) | refine W0 ?_ | exact Z | with_reducible intro b)
  have J : ∀ (e : DEnv) (T : Store) (q : List Mo) (j : Nat), q.length ≤ most → (∀ m ∈ q, DrM n deg m) → j ≤ i + 1 + 10 * most → RowZ T (.l 28) 4 (e 9) (rS eM q) → Dk S k T (some ⟨bd, 2, 0, [[W64 w, i64 j]]⟩) → K e T := by
    intro e T q j hq hd hj hw hk
    repeat (first | with_reducible refine pv_seq fun K hK => ?_ | ((with_reducible first | refine hK _ _ ?_ | (clear hK; refine hK _ _ ?_) | (clear hK; clear hK; refine hK _ _ ?_)); clear hK; try clear K) | refine W0 ?_ | exact Z | with_reducible intro b)
    exact hw.toD.coeD fun T2 _ hT2 => by rw [(hk.of hT2).dn]; exact hQ q j hq hd hj
  clear hK
  obtain ⟨I, mk, el⟩ := hide fun e T => ∃ (t j : Nat) (q : List Mo), t + q.length ≤ most ∧ (∀ m ∈ q, DrM n deg m) ∧ j ≤ i + 1 + 10 * q.length ∧ e 0 = .ptr (.up k) bd 0 0 2 ∧ e 1 = i64 n ∧ e 3 = i64 deg ∧ e 10 = i64 t ∧ RowZ T (.l 28) 4 (e 9) (rS eM q) ∧ Dk S k T (some ⟨bd, 2, 0, [[W64 w, i64 j]]⟩)
  refine pv_loop I (fun e _ => (intD (e 10)).toNat) ?_ ?_
  · exact mk _ _ ⟨r, i + 1, [], by simp; omega, fun m hm => (by cases hm), by simp, Zr, Zr, Zr, Zr, .inl ⟨Zr, rfl⟩, (Dk.up hS).set⟩
  · intro e T hI
    obtain ⟨t, j, q, htq, hd, hj, g0, g1, g3, g10, hw, hk⟩ := el e T hI
    clear el hI
    have ft := And.intro g0 (And.intro g1 (And.intro g3 g10))
    repeat (first | with_reducible refine pv_seq fun K hK => ?_ | ((with_reducible first | refine hK _ _ ?_ | (clear hK; refine hK _ _ ?_) | (clear hK; clear hK; refine hK _ _ ?_)); clear hK; try clear K) | refine W0 ?_ | exact Z | with_reducible intro b)
    refine pv_cdD (fun ht => ?_) (fun ht => ?_)
    · obtain ⟨t, rfl⟩ : ∃ t2, t = t2 + 1 := ⟨t - 1, by omega⟩
      have hsub : (((t + 1 : Nat) : Int) - 1) = (t : Int) := by omega
      have ft := And.intro g0 (And.intro g1 (And.intro g10 (And.intro g3 hsub)))
      repeat (first | with_reducible refine pv_seq fun K hK => ?_ | ((with_reducible first | refine hK _ _ ?_ | (clear hK; refine hK _ _ ?_) | (clear hK; clear hK; refine hK _ _ ?_)); clear hK; try clear K) | refine W0 ?_ | exact Z | with_reducible intro b)
      refine p_smallD hk.at_ hb (by omega) fun x sx _ => ?_
      repeat (first | with_reducible refine pv_seq fun K hK => ?_ | ((with_reducible first | refine hK _ _ ?_ | (clear hK; refine hK _ _ ?_) | (clear hK; clear hK; refine hK _ _ ?_)); clear hK; try clear K) | refine W0 ?_ | exact Z | with_reducible intro b)
      refine p_dPowers (i := j + 1) (n := n) (deg := deg) (by (try simp -implicitDefEqProofs only [updS_apply, if_true, eq_self]); try rfl) hb (by omega) h1 h4 h8 fun z j2 hz hj2 => ?_
      have hnew := rS_m (l := q) (m := ⟨nuOf x, z⟩)
      have hdr : DrM n deg ⟨nuOf x, z⟩ := ⟨⟨x, rfl, sx⟩, hz⟩
      simp only at hnew
      generalize nuOf x = X at *
      obtain ⟨n1, e1, w1⟩ := X
      repeat (first | with_reducible refine pv_seq fun K hK => ?_ | ((with_reducible first | refine hK _ _ ?_ | (clear hK; refine hK _ _ ?_) | (clear hK; clear hK; refine hK _ _ ?_)); clear hK; try clear K) | refine W0 ?_ | exact Z | with_reducible intro b)
      refine RowZ.appL (hw.up ?_) (by decide) rfl (by simp [D.one, W64]) ?_ ?_ fun d' S3 hr3 hS3 => ?_
      · simp only [updS_apply, reduceCtorEq, if_false]
      · rw [rS_len]; simp only [List.length_singleton]; omega
      · rw [rS_len]; simp only [List.length_singleton]; omega
      repeat (first | with_reducible refine pv_seq fun K hK => ?_ | ((with_reducible first | refine hK _ _ ?_ | (clear hK; refine hK _ _ ?_) | (clear hK; clear hK; refine hK _ _ ?_)); clear hK; try clear K) | refine W0 ?_ | exact Z | with_reducible intro b)
      refine ⟨mk _ _ ⟨t, j2, q ++ [⟨⟨n1, e1, w1⟩, z⟩], by simp; omega, fun m hm => ?_, by simp; omega, Zr, Zr, Zr, Zr, by rw [← hnew]; exact hr3, ?_⟩, by simp only [intD]; omega⟩
      · rcases List.mem_append.1 hm with h | h
        · exact hd m h
        · rw [List.mem_singleton.1 h]; exact hdr
      · exact ((hk.set.set).l).of hS3
    · obtain rfl : t = 0 := by omega
      repeat (first | with_reducible refine pv_seq fun K hK => ?_ | ((with_reducible first | refine hK _ _ ?_ | (clear hK; refine hK _ _ ?_) | (clear hK; clear hK; refine hK _ _ ?_)); clear hK; try clear K) | refine W0 ?_ | exact Z | with_reducible intro b)
      exact J _ _ q j (by omega) hd (by omega) hw hk

/-- A polynomial that the deck draws. -/
structure DrP (n most deg : Nat) (q : List Mo) : Prop where
  right : polyB q (n : Int) = true
  len : q.length ≤ most
  c : ∀ m ∈ q, ∃ d, m.c = nuOf d ∧ d ≠ 0 ∧ Sm (14 + most) 6 d
  e : ∀ m ∈ q, Pw n deg m.e
theorem DrP.wf {n most deg : Nat} {q : List Mo} (h : DrP n most deg q) (hn : n ≤ 100000) (hm : most ≤ 1000) : WfM q := ⟨by have := h.len; omega, fun m hm2 => by
  obtain ⟨d, hd, _, hs⟩ := h.c m hm2
  exact ⟨by rw [hd]; exact (((hs.ok2 (by omega) (by decide))).sz).wl, by rw [(h.e m hm2).len]; exact hn⟩⟩
theorem drP_of {n most deg : Nat} {q : List Mo} (h1 : 1 ≤ n) (h4 : n ≤ 4) (h8 : deg ≤ 8) (hm : most ≤ 24) (hl : q.length ≤ most) (h : ∀ m ∈ q, DrM n deg m) : ∃ p, pmkR q (n : Int) = (p, 0) ∧ DrP n most deg p := by
  have hall : allM q (n : Int) = true := decide_eq_true fun m hm => by
    obtain ⟨d, hd, hs⟩ := (h m hm).c
    have he := (h m hm).e
    unfold monoB
    have hsum := he.sum
    rw [decide_eq_true (show ((m.e.length : Nat) : Int) = n by rw [he.len]), decide_eq_true he.nn, decide_eq_true (show m.e.sum ≤ 8 by omega), hd, rightB_nuOf, decide_eq_true (hs.ok (by decide) (by decide))]; rfl
  have hv : ∀ t ∈ q.map teM, Sm 14 6 t.v := fun t ht => by
    obtain ⟨m, hm, rfl⟩ := List.mem_map.1 ht
    obtain ⟨d, hd, hs⟩ := (h m hm).c
    show Sm 14 6 m.c.val
    rw [hd, val_nuOf]; exact hs
  have he : ∀ t ∈ q.map teM, Pw n deg t.e := fun t ht => by
    obtain ⟨m, hm, rfl⟩ := List.mem_map.1 ht
    exact (h m hm).e
  have hlm : (q.map teM).length = q.length := List.length_map _
  have hsm := gathN_sm hv (q.map teM).length (Nat.le_refl _)
  have hel := gathN_all (P := Pw n deg) he (q.map teM).length (Nat.le_refl _)
  have hsm2 : ∀ y ∈ gathN (q.map teM) (q.map teM).length, Sm (14 + most) 6 y.v := fun y hy => (hsm y hy).mono (by omega)
  have hlen := gathN_len (q.map teM) (q.map teM).length
  obtain ⟨p, e1, e2, e3⟩ := gathR_ok (n := n) (l := q.map teM) h1 h4 (by omega) (fun t ht => ⟨(he t ht).len, (he t ht).nn, by have := (he t ht).sum; omega⟩) (fun y hy => (hsm2 y hy).ok2 (by omega) (by decide))
  refine ⟨p, ?_, e3, ?_, ?_, ?_⟩
  · unfold pmkR
    rw [hall, decide_eq_true (show (1 : Int) ≤ n by omega), decide_eq_true (show (n : Int) ≤ 4 by omega)]
    exact e1
  · rw [e2, List.length_map]
    exact Nat.le_trans (List.length_filter_le _ _) (by omega)
  · intro m hm
    rw [e2] at hm
    obtain ⟨t, ht, rfl⟩ := List.mem_map.1 hm
    obtain ⟨ht, h0⟩ := List.mem_filter.1 ht
    exact ⟨t.v, rfl, of_decide_eq_true h0, hsm2 t ht⟩
  · intro m hm
    rw [e2] at hm
    obtain ⟨t, ht, rfl⟩ := List.mem_map.1 hm
    exact hel t (List.mem_filter.1 ht).1
set_option maxHeartbeats 1000000 in
theorem p_dPoly {k : Nm} {S : Store} {Q : D → Store → Prop} {bd i n most deg : Nat} {w : List Nat} (hS : S k = some ⟨bd, 2, 0, [[W64 w, i64 i]]⟩) (hb : B64 w) (hi : i ≤ 500000000) (h1 : 1 ≤ n) (h4 : n ≤ 4) (h8 : deg ≤ 8) (hm : most ≤ 24)
    (hQ : ∀ (q : List Mo) (j : Nat), DrP n most deg q → j ≤ i + 1 + 10 * most → Q (MM q) (updS S k (some ⟨bd, 2, 0, [[W64 w, i64 j]]⟩))) :
    PFC Tryz.prog 16 [.ptr k bd 0 0 2, i64 n, i64 most, i64 deg] S Q := by
  refine PFB (rs := [.tmp 8]) Tryz.func16 ?_
  repeat (first | with_reducible refine pv_seq fun K hK => ?_ | ((with_reducible first | refine hK _ _ ?_ | (clear hK; refine hK _ _ ?_) | (clear hK; clear hK; refine hK _ _ ?_)); clear hK; try clear K) | refine W0 ?_ | exact Z | with_reducible intro b)
  refine p_dMonos (i := i) (n := n) (most := most) (deg := deg) (by simp -implicitDefEqProofs only [updS, upS]; exact hS) hb hi h1 h4 h8 (by omega) fun q j hq hd hj => ?_
  have pM := p_rPMake (n := (n : Int)) (q := q) ⟨by omega, fun m hm => (hd m hm).wm (by omega)⟩ (by omega)
  obtain ⟨p, e1, e2⟩ := drP_of h1 h4 h8 hm hq hd
  rw [e1] at pM
  have hq2 := hQ p j e2 hj
  unfold MM LM at *
  repeat (first | with_reducible refine pv_seq fun K hK => ?_ | ((with_reducible first | refine hK _ _ ?_ | (clear hK; refine hK _ _ ?_) | (clear hK; clear hK; refine hK _ _ ?_)); clear hK; try clear K) | refine W ?_ | exact Z | with_reducible intro b)
  exact hq2
end Go.V
namespace Go.V
open Go Go.RowKit Go.Proofs
theorem rS_l {l : List (List Iv)} {a : List Iv} : rS eL l ++ [[.g (eS eI a)]] = rS eL (l ++ [a]) := by rw [← rS_app]; rfl
end Go.V
namespace Go.V
open Go Go.RowKit Go.Proofs

theorem gI_snoc {l : List Iv} {a : Iv} {i : Nat} (h : i = l.length) : gI (l ++ [a]) i = a := by subst h; exact gI_last
/-- Two lists of n right ones, the second within the first. -/
structure LS (n K Q : Nat) (s t : List Iv × Int) : Prop where
  e : s.2 = 0
  e' : t.2 = 0
  l : s.1.length = n
  l' : t.1.length = n
  sm : SmL K Q n s.1
  sm' : SmL K Q n t.1
  inn : ∀ i, i < n → inV (gI t.1 i) (gI s.1 i)
theorem LS.mono {n K Q M : Nat} {s t : List Iv × Int} (h : LS n K Q s t) (hm : K ≤ M) : LS n M Q s t := ⟨h.e, h.e', h.l, h.l', fun i hi => (h.sm i hi).mono hm, fun i hi => (h.sm' i hi).mono hm, h.inn⟩
theorem times_ls {p k K Q m r : Nat} {a a' b b' : List Iv} (la : a.length = k + 1) (la' : a'.length = k + 1) (lb : b.length = k + 1) (lb' : b'.length = k + 1) (sa : SmL K Q (k + 1) a) (sa' : SmL K Q (k + 1) a') (sb : SmL m r (k + 1) b) (sb' : SmL m r (k + 1) b')
    (ha : ∀ i, i < k + 1 → inV (gI a' i) (gI a i)) (hb : ∀ i, i < k + 1 → inV (gI b' i) (gI b i)) (h8 : 8 ≤ p) (h256 : p ≤ 256) (hk : K + m + 2 * k ≤ 1400) (hq : Q + r ≤ 1400) (h10 : k ≤ 10) :
    ∀ j, j ≤ k + 1 → LS j (K + m + 3 + 2 * k) (Q + r) (timesN (p : Int) a b j) (timesN (p : Int) a' b' j)
  | 0 => fun _ => ⟨rfl, rfl, rfl, rfl, fun i hi => by omega, fun i hi => by omega, fun i hi => by omega⟩
  | j + 1 => fun hj => by
    have h := times_ls la la' lb lb' sa sa' sb sb' ha hb h8 h256 hk hq h10 j (by omega)
    obtain ⟨e1, s1⟩ := coefR_sm (p := p) (n := j) (a := a) (b := b) (fun i hi => sa i (by omega)) (fun i hi => sb i (by omega)) (by omega) (by omega) h8 h256 (by omega) hq (by omega)
    obtain ⟨e2, s2⟩ := coefR_sm (p := p) (n := j) (a := a') (b := b') (fun i hi => sa' i (by omega)) (fun i hi => sb' i (by omega)) (by omega) (by omega) h8 h256 (by omega) hq (by omega)
    have hin := coefV_in (p := p) (n := j) (by omega) (fun i hi => ha i (by omega)) (fun i hi => hb i (by omega)) (fun i hi => sa' i (by omega)) (fun i hi => sb' i (by omega)) (j + 1) (Nat.le_refl _)
    have u1 : timesN (p : Int) a b (j + 1) = ((timesN (p : Int) a b j).1 ++ [coefV p a b j (j + 1)], 0) := by
      rw [timesN, if_pos h.e, e1, if_pos rfl]
    have u2 : timesN (p : Int) a' b' (j + 1) = ((timesN (p : Int) a' b' j).1 ++ [coefV p a' b' j (j + 1)], 0) := by
      rw [timesN, if_pos h.e', e2, if_pos rfl]
    rw [u1, u2]
    refine ⟨rfl, rfl, by simp [h.l], by simp [h.l'], fun i hi => ?_, fun i hi => ?_, fun i hi => ?_⟩
    · by_cases hi2 : i < j
      · rw [gI_app (by rw [h.l]; exact hi2)]; exact h.sm i hi2
      · rw [gI_snoc (by rw [h.l]; omega)]; exact s1.mono (by omega)
    · by_cases hi2 : i < j
      · rw [gI_app (by rw [h.l']; exact hi2)]; exact h.sm' i hi2
      · rw [gI_snoc (by rw [h.l']; omega)]; exact s2.mono (by omega)
    · by_cases hi2 : i < j
      · rw [gI_app (by rw [h.l']; exact hi2), gI_app (by rw [h.l]; exact hi2)]; exact h.inn i hi2
      · rw [gI_snoc (by rw [h.l']; omega), gI_snoc (by rw [h.l]; omega)]; exact hin
/-- Two series, the second within the first. -/
structure L2 (k : Nat) (x y : List Iv) : Prop where
  l : x.length = k + 1
  l' : y.length = k + 1
  sm : SmL 18 9 (k + 1) x
  sm' : SmL 18 9 (k + 1) y
  inn : ∀ i, i < k + 1 → inV (gI y i) (gI x i)
theorem mulS_ls {p k K Q : Nat} {x y : List Iv} {s t : List Iv × Int} (hx : L2 k x y) (h : LS (k + 1) K Q s t) (h8 : 8 ≤ p) (h256 : p ≤ 256) (hk : k ≤ 3) :
    ∀ n, K + 27 * n ≤ 1300 → Q + 9 * n ≤ 1300 → LS (k + 1) (K + 27 * n) (Q + 9 * n) (mulS (p : Int) x k s n) (mulS (p : Int) y k t n)
  | 0 => fun _ _ => h
  | n + 1 => fun h1 h2 => by
    have ih := mulS_ls (p := p) hx h h8 h256 hk n (by omega) (by omega)
    have u := times_ls (p := p) ih.l ih.l' hx.l hx.l' ih.sm ih.sm' hx.sm hx.sm' ih.inn hx.inn h8 h256 (by omega) (by omega) (by omega) (k + 1) (Nat.le_refl _)
    rw [mulS, if_pos ih.e, mulS, if_pos ih.e', show Q + 9 * (n + 1) = Q + 9 * n + 9 by omega]
    exact u.mono (by omega)
/-- How many multiplications there are. -/
def cntE (e : List Int) : Nat → Nat
  | 0 => 0
  | i + 1 => cntE e i + (e.getD i 0).toNat
theorem cntE_sum {e : List Int} (h : ∀ x ∈ e, 0 ≤ x) : ∀ i, i ≤ e.length → ((cntE e i : Nat) : Int) = (e.take i).sum
  | 0 => fun _ => by simp [cntE]
  | i + 1 => fun hi => by
    have ih := cntE_sum h i (by omega)
    have hg := zget (l := e) (i := i) (by omega)
    have h0 : 0 ≤ e.getD i 0 := h _ (List.mem_of_getElem? hg)
    rw [sum_take_succ hg, ← ih, cntE]
    omega
theorem overN_ls {p k K Q : Nat} {xs ys : List (List Iv)} {e : List Int} {s t : List Iv × Int} (hx : ∀ i, i < e.length → L2 k (xs.getD i []) (ys.getD i [])) (h : LS (k + 1) K Q s t) (h8 : 8 ≤ p) (h256 : p ≤ 256) (hk : k ≤ 3) :
    ∀ i, i ≤ e.length → K + 27 * cntE e i ≤ 1300 → Q + 9 * cntE e i ≤ 1300 → LS (k + 1) (K + 27 * cntE e i) (Q + 9 * cntE e i) (overN (p : Int) xs k e s i) (overN (p : Int) ys k e t i)
  | 0 => fun _ _ _ => h
  | i + 1 => fun hi h1 h2 => by
    have c : cntE e (i + 1) = cntE e i + (e.getD i 0).toNat := rfl
    have ih := overN_ls (p := p) hx h h8 h256 hk i (by omega) (by omega) (by omega)
    have u := mulS_ls (p := p) (hx i (by omega)) ih h8 h256 hk (e.getD i 0).toNat (by omega) (by omega)
    rw [overN, overN, c, show K + 27 * (cntE e i + (e.getD i 0).toNat) = K + 27 * cntE e i + 27 * (e.getD i 0).toNat by omega, show Q + 9 * (cntE e i + (e.getD i 0).toNat) = Q + 9 * cntE e i + 9 * (e.getD i 0).toNat by omega]
    exact u
theorem onS_ls {k : Nat} {d : Dyadic} (h : Sm 18 6 d) : LS (k + 1) 18 6 (onS (nuOf d) k) (onS (nuOf d) k) := by
  have hs : SmL 18 6 (k + 1) (onS (nuOf d) k).1 := fun i hi => by
    cases i with
    | zero => exact ⟨d, d, rfl, h, h, Dyadic.le_refl _⟩
    | succ i =>
      have : gI (onS (nuOf d) k).1 (i + 1) = iv0 := by
        show ((⟨nuOf d, nuOf d⟩ : Iv) :: List.replicate k iv0).getD (i + 1) iv0 = iv0
        simp only [List.getD, List.getElem?_cons_succ, List.getElem?_replicate]
        split <;> rfl
      rw [this]; exact SmV.zero
  exact ⟨rfl, rfl, by simp [onS], by simp [onS], hs, hs, fun i _ => inV_refl⟩
theorem over_ls {p k n : Nat} {xs ys : List (List Iv)} {m : Mo} {d : Dyadic} (hd : m.c = nuOf d) (hs : Sm 17 6 d) (he : Pw n 4 m.e) (hx : ∀ i, i < n → L2 k (xs.getD i []) (ys.getD i [])) (h8 : 8 ≤ p) (h256 : p ≤ 256) (hk : k ≤ 3) :
    (overR (p : Int) xs k m).2 = 0 ∧ (overR (p : Int) ys k m).2 = 0 ∧ SmV 162 42 (gI (overR (p : Int) xs k m).1 k) ∧ SmV 162 42 (gI (overR (p : Int) ys k m).1 k) ∧ inV (gI (overR (p : Int) ys k m).1 k) (gI (overR (p : Int) xs k m).1 k) := by
  have hc : cntE m.e m.e.length ≤ 4 := by
    have h1 := cntE_sum he.nn m.e.length (Nat.le_refl _)
    rw [List.take_length] at h1
    have h2 := he.sum
    omega
  have u := overN_ls (p := p) (k := k) (xs := xs) (ys := ys) (e := m.e) (fun i hi => hx i (by rw [he.len] at hi; exact hi)) (onS_ls (k := k) (hs.mono (show 17 ≤ 18 by decide))) h8 h256 hk m.e.length (Nat.le_refl _) (by omega) (by omega)
  unfold overR
  rw [hd]
  have l1 := (u.sm k (by omega)).lift (36 - 9 * cntE m.e m.e.length)
  have l2 := (u.sm' k (by omega)).lift (36 - 9 * cntE m.e m.e.length)
  rw [show 6 + 9 * cntE m.e m.e.length + (36 - 9 * cntE m.e m.e.length) = 42 by omega] at l1 l2
  exact ⟨u.e, u.e', l1.mono (by omega), l2.mono (by omega), u.inn k (by omega)⟩
theorem ofN_ls {p k n : Nat} {xs ys : List (List Iv)} {q : List Mo} (hq : ∀ m ∈ q, ∃ d, m.c = nuOf d ∧ Sm 17 6 d) (he : ∀ m ∈ q, Pw n 4 m.e) (hx : ∀ i, i < n → L2 k (xs.getD i []) (ys.getD i [])) (h8 : 8 ≤ p) (h256 : p ≤ 256) (hk : k ≤ 3) :
    ∀ i, i ≤ q.length → i ≤ 100 → ∃ a b, ofN (p : Int) q xs k i = (a, 0) ∧ ofN (p : Int) q ys k i = (b, 0) ∧ SmV (162 + 2 * i) 42 a ∧ SmV (162 + 2 * i) 42 b ∧ inV b a
  | 0 => fun _ _ => ⟨iv0, iv0, rfl, rfl, SmV.zero, SmV.zero, inV_refl⟩
  | i + 1 => fun hi h100 => by
    obtain ⟨a, b, ea, eb, sa, sb, hin⟩ := ofN_ls (p := p) hq he hx h8 h256 hk i (by omega) (by omega)
    obtain ⟨d, hd, hs⟩ := hq _ (gM_mem (l := q) (i := i) (by omega))
    obtain ⟨o1, o2, s1, s2, ho⟩ := over_ls (p := p) hd hs (he _ (gM_mem (l := q) (i := i) (by omega))) hx h8 h256 hk
    obtain ⟨e1, t1⟩ := addV_sm (p := p) sa (s1.mono (show 162 ≤ 162 + 2 * i by omega)) h8 h256 (by omega) (by omega)
    obtain ⟨e2, t2⟩ := addV_sm (p := p) sb (s2.mono (show 162 ≤ 162 + 2 * i by omega)) h8 h256 (by omega) (by omega)
    refine ⟨_, _, ?_, ?_, t1.mono (by omega), t2.mono (by omega), addV_in (by omega) hin ho⟩
    · rw [ofN, ea, if_pos rfl, if_pos o1]; exact e1
    · rw [ofN, eb, if_pos rfl, if_pos o2]; exact e2
theorem ofR_ls {p k n : Nat} {xs ys : List (List Iv)} {q : List Mo} (hq : DrP n 3 4 q) (lx : xs.length = n) (ly : ys.length = n) (hx : ∀ i, i < n → L2 k (xs.getD i []) (ys.getD i [])) (h8 : 8 ≤ p) (h256 : p ≤ 256) (hk : k ≤ 3) :
    ∃ a b, ofR (p : Int) q xs (k : Int) = (a, 0) ∧ ofR (p : Int) q ys (k : Int) = (b, 0) ∧ SmV 170 42 a ∧ SmV 170 42 b ∧ inV b a := by
  have hl := hq.len
  obtain ⟨a, b, ea, eb, sa, sb, hin⟩ := ofN_ls (p := p) (q := q) (fun m hm => by obtain ⟨d, h1, _, h2⟩ := hq.c m hm; exact ⟨d, h1, h2⟩) hq.e hx h8 h256 hk q.length (Nat.le_refl _) (by omega)
  have hr : ∀ (zs : List (List Iv)), zs.length = n → (∀ i, i < n → (zs.getD i []).length = k + 1 ∧ SmL 18 9 (k + 1) (zs.getD i [])) → ofR (p : Int) q zs (k : Int) = ofN (p : Int) q zs k q.length := fun zs lz hz => by
    have h1 : ∀ x ∈ zs, rightTo x k = true := fun x hx2 => by
      obtain ⟨i, hi⟩ := List.getElem?_of_mem hx2
      have hi2 : i < zs.length := (List.getElem?_eq_some_iff.1 hi).1
      have hg : zs.getD i [] = x := by simp [List.getD, hi]
      obtain ⟨z1, z2⟩ := hz i (by omega)
      rw [hg] at z1 z2
      exact rightTo_sm z2 (by omega) (by decide) (by decide)
    unfold ofR okK
    rw [Int.toNat_natCast, lz, hq.right, okP_of h8 h256, decide_eq_true (by omega), decide_eq_true (by omega), decide_eq_true h1]
    rfl
  exact ⟨a, b, (hr xs lx fun i hi => ⟨(hx i hi).l, (hx i hi).sm⟩).trans ea, (hr ys ly fun i hi => ⟨(hx i hi).l', (hx i hi).sm'⟩).trans eb, sa.mono (by omega), sb.mono (by omega), hin⟩
end Go.V
namespace Go.V
open Go Go.RowKit Go.Proofs

theorem in_yes {k q : Nat} {a b : Iv} (ha : SmV k q a) (hb : SmV k q b) (h : inV b a) (hk : k ≤ 4000) (hq : q ≤ 4000) : PC Tryz.prog 30 [IV b, IV a] fun d => d = bl true := by
  obtain ⟨x, y, rfl, ox, oy, h1⟩ := ha.v hk hq
  obtain ⟨u, v, rfl, ou, ov, h2⟩ := hb.v hk hq
  have p := p_InI (wi_D ou ov) (wi_D ox oy)
  unfold inV at h
  rw [ivD_l, ivD_h, ivD_l, ivD_h] at h
  rw [endsR_in ox oy ou ov h.1 h2 h.2] at p
  exact p
theorem xg_app {xs : List (List Iv)} {a : List Iv} {i : Nat} (h : i < xs.length) : (xs ++ [a]).getD i [] = xs.getD i [] := by simp [List.getD, List.getElem?_append_left h]
theorem xg_last {xs : List (List Iv)} {a : List Iv} {i : Nat} (h : xs.length = i) : (xs ++ [a]).getD i [] = a := by subst h; simp [List.getD]
set_option maxHeartbeats 8000000 in
theorem p_SeriesLess {w : List Nat} (hb : B64 w) : PC Tryz.prog 6 [W64 w] fun d => d = bl true := by
  have pK := p_known14
  refine PB (rs := [.tmp 2]) Tryz.func6 ?_
  repeat (first | with_reducible refine pv_seq fun K hK => ?_ | ((with_reducible first | refine hK _ _ ?_ | (clear hK; refine hK _ _ ?_) | (clear hK; clear hK; refine hK _ _ ?_)); clear hK; try clear K) | refine W ?_ | exact Z | with_reducible intro b)
  refine p_Of (fun b0 => ?_)
  repeat (first | with_reducible refine pv_seq fun K hK => ?_ | ((with_reducible first | refine hK _ _ ?_ | (clear hK; refine hK _ _ ?_) | (clear hK; clear hK; refine hK _ _ ?_)); clear hK; try clear K) | refine W0 ?_ | exact Z | with_reducible intro b)
  refine p_dN (n := 3) (i := 0) (by simp -implicitDefEqProofs only [updS, upS, if_true]; rfl) hb (by omega) (by decide) (by decide) (fun r hr => ?_)
  repeat (first | with_reducible refine pv_seq fun K hK => ?_ | ((with_reducible first | refine hK _ _ ?_ | (clear hK; refine hK _ _ ?_) | (clear hK; clear hK; refine hK _ _ ?_)); clear hK; try clear K) | refine W0 ?_ | exact Z | with_reducible intro b)
  refine p_dN (n := 4) (i := 1) (by simp -implicitDefEqProofs only [updS, upS, if_true]; rfl) hb (by omega) (by decide) (by decide) (fun k hk => ?_)
  repeat (first | with_reducible refine pv_seq fun K hK => ?_ | ((with_reducible first | refine hK _ _ ?_ | (clear hK; refine hK _ _ ?_) | (clear hK; clear hK; refine hK _ _ ?_)); clear hK; try clear K) | refine W0 ?_ | exact Z | with_reducible intro b)
  refine p_dPrec (i := 2) (by simp -implicitDefEqProofs only [updS, upS, if_true]; rfl) hb (by omega) (fun p j1 h8 h256 l1 => ?_)
  repeat (first | with_reducible refine pv_stopQ 6 ?_ | with_reducible refine pv_seq fun K hK => ?_ | ((with_reducible first | refine hK _ _ ?_ | (clear hK; refine hK _ _ ?_) | (clear hK; clear hK; refine hK _ _ ?_)); clear hK; try clear K) | refine W ?_ | exact Z | with_reducible intro b)
  refine ⟨fun K q0 hC => ?_⟩
  have hn1 : (1 + (r : Int)) = ((r + 1 : Nat) : Int) := by omega
  have J : ∀ (e : DEnv) (S : Store) (j : Nat) (xs ys : List (List Iv)), xs.length = r + 1 → ys.length = r + 1 → (∀ i, i < r + 1 → L2 k (xs.getD i []) (ys.getD i [])) → j ≤ 1000 → e 3 = .ptr (.r 0 0) b0 0 0 2 → e 4 = i64 ((r + 1 : Nat) : Int) → e 5 = i64 k → e 6 = i64 p → e 7 = .g (eS eL xs) → e 8 = .g (eS eL ys) → S (.r 0 0) = some ⟨b0, 2, 0, [[W64 w, i64 j]]⟩ → K e S := by
    as_aux_lemma =>
    intro e S j xs ys hx hy hin hj g3 g4 g5 g6 g7 g8 s0
    refine q0 _ _ ?_
    clear q0 hC
    have wx : WfX xs := ⟨by omega, fun l hl => by
      obtain ⟨i, hi⟩ := List.getElem?_of_mem hl
      have hi2 : i < xs.length := (List.getElem?_eq_some_iff.1 hi).1
      have hg : xs.getD i [] = l := by simp [List.getD, hi]
      have h := hin i (by omega)
      rw [hg] at h
      exact ⟨by have := h.l; omega, fun a ha => by
        obtain ⟨t, ht⟩ := List.getElem?_of_mem ha
        have ht2 : t < l.length := (List.getElem?_eq_some_iff.1 ht).1
        have hg2 : gI l t = a := by simp [gI, List.getD, ht]
        rw [← hg2]
        exact ((h.sm t (by have := h.l; omega)).v (by decide) (by decide)).ok.1⟩⟩
    have wy : WfX ys := ⟨by omega, fun l hl => by
      obtain ⟨i, hi⟩ := List.getElem?_of_mem hl
      have hi2 : i < ys.length := (List.getElem?_eq_some_iff.1 hi).1
      have hg : ys.getD i [] = l := by simp [List.getD, hi]
      have h := hin i (by omega)
      rw [hg] at h
      exact ⟨by have := h.l'; omega, fun a ha => by
        obtain ⟨t, ht⟩ := List.getElem?_of_mem ha
        have ht2 : t < l.length := (List.getElem?_eq_some_iff.1 ht).1
        have hg2 : gI l t = a := by simp [gI, List.getD, ht]
        rw [← hg2]
        exact ((h.sm' t (by have := h.l'; omega)).v (by decide) (by decide)).ok.1⟩⟩
    have ft := And.intro g3 (And.intro g4 (And.intro g5 (And.intro g6 (And.intro g7 (And.intro g8 s0)))))
    repeat (first | with_reducible refine pv_seq fun K hK => ?_ | ((with_reducible first | refine hK _ _ ?_ | (clear hK; refine hK _ _ ?_) | (clear hK; clear hK; refine hK _ _ ?_)); clear hK; try clear K) | refine W0 ?_ | exact Z | with_reducible intro b)
    refine p_dPoly (n := r + 1) (most := 3) (deg := 4) (i := j) s0 hb (by omega) (by omega) (by omega) (by decide) (by decide) fun q j5 hq l5 => ?_
    obtain ⟨a, v, ea, ev, sa, sv, hav⟩ := ofR_ls (p := p) hq hx hy hin h8 h256 (by omega)
    have d1 := p_sOf (k := (k : Int)) (p := (p : Int)) (hq.wf (by omega) (by decide)) wx
    have d2 := p_sOf (k := (k : Int)) (p := (p : Int)) (hq.wf (by omega) (by decide)) wy
    rw [ea] at d1
    rw [ev] at d2
    have pI := in_yes sa sv hav (by decide) (by decide)
    clear ea ev sa sv hav hin hx hy wx wy
    obtain ⟨⟨n1, e1, z1⟩, ⟨n2, e2, z2⟩⟩ := a
    obtain ⟨⟨n3, e3, z3⟩, ⟨n4, e4, z4⟩⟩ := v
    unfold MM LL at *
    exact Wk
  clear q0
  obtain ⟨I, mk, el⟩ := hide fun e S => ∃ (t j : Nat) (xs ys : List (List Iv)), t ≤ r + 1 ∧ xs.length = t ∧ ys.length = t ∧ (∀ i, i < t → L2 k (xs.getD i []) (ys.getD i [])) ∧ j ≤ 10 + 40 * t ∧ e 3 = .ptr (.r 0 0) b0 0 0 2 ∧ e 4 = i64 ((r + 1 : Nat) : Int) ∧ e 5 = i64 k ∧ e 6 = i64 p ∧ e 9 = i64 t ∧ S (.r 0 0) = some ⟨b0, 2, 0, [[W64 w, i64 j]]⟩ ∧ RowZ S (.l 39) 1 (e 7) (rS eL xs) ∧ RowZ S (.l 45) 1 (e 8) (rS eL ys)
  repeat (first | with_reducible refine pv_seq fun K hK => ?_ | ((with_reducible first | refine hK _ _ ?_ | (clear hK; refine hK _ _ ?_) | (clear hK; clear hK; refine hK _ _ ?_)); clear hK; try clear K) | refine W0 ?_ | exact Z | with_reducible intro b)
  refine pv_loop I (fun e _ => r + 1 - (intD (e 9)).toNat) ?_ ?_
  · exact mk _ _ ⟨0, j1, [], [], Nat.zero_le _, rfl, rfl, fun i hi => by omega, by omega, Zr, by rw [← hn1]; exact Zr, Zr, Zr, Zr, by simp only [updS_apply]; rfl, .inl ⟨Zr, rfl⟩, .inl ⟨Zr, rfl⟩⟩
  · intro e S hI
    obtain ⟨t, j, xs, ys, ht, hx, hy, hin, hj, g3, g4, g5, g6, g9, s0, hw, hv⟩ := el e S hI
    clear el hI
    have ft := And.intro g3 (And.intro g4 (And.intro g5 (And.intro g6 g9)))
    repeat (first | with_reducible refine pv_seq fun K hK => ?_ | ((with_reducible first | refine hK _ _ ?_ | (clear hK; refine hK _ _ ?_) | (clear hK; clear hK; refine hK _ _ ?_)); clear hK; try clear K) | refine W0 ?_ | exact Z | with_reducible intro b)
    refine pv_cdD (fun ht1 => ?_) (fun ht1 => ?_)
    · have htl : t < r + 1 := by omega
      repeat (first | with_reducible refine pv_seq fun K hK => ?_ | ((with_reducible first | refine hK _ _ ?_ | (clear hK; refine hK _ _ ?_) | (clear hK; clear hK; refine hK _ _ ?_)); clear hK; try clear K) | refine W0 ?_ | exact Z | with_reducible intro b)
      refine p_dSmallBox (n := k + 1) (i := j) s0 hb (by omega) (by omega) (fun a j2 la sa l2 => ?_)
      have hnew := rS_l (l := xs) (a := a)
      unfold II
      repeat (first | with_reducible refine pv_seq fun K hK => ?_ | ((with_reducible first | refine hK _ _ ?_ | (clear hK; refine hK _ _ ?_) | (clear hK; clear hK; refine hK _ _ ?_)); clear hK; try clear K) | refine W0 ?_ | exact Z | with_reducible intro b)
      refine RowZ.appL (hw.up ?_) (by decide) rfl (by simp [D.one]) ?_ ?_ fun d' S3 hr3 hS3 => ?_
      · simp only [updS_apply, reduceCtorEq, if_false]
      · rw [rS_len]; simp only [List.length_singleton]; omega
      · rw [rS_len]; simp only [List.length_singleton]; omega
      rw [hnew] at hr3
      have s3 : S3 (.r 0 0) = some ⟨b0, 2, 0, [[W64 w, i64 j2]]⟩ := by rw [hS3 _ (by decide)]; simp only [updS_apply]; rfl
      have hv3 : RowZ S3 (.l 45) 1 (e 8) (rS eL ys) := hv.up (by rw [hS3 _ (by decide)]; simp only [updS_apply]; rfl)
      clear hS3
      repeat (first | with_reducible refine pv_seq fun K hK => ?_ | ((with_reducible first | refine hK _ _ ?_ | (clear hK; refine hK _ _ ?_) | (clear hK; clear hK; refine hK _ _ ?_)); clear hK; try clear K) | refine W0 ?_ | exact Z | with_reducible intro b)
      refine p_dPartBox (l := a) (i := j2) s3 hb (by omega) (by omega) sa (fun v lv sv iv => ?_)
      have hnew2 := rS_l (l := ys) (a := v)
      unfold II
      repeat (first | with_reducible refine pv_seq fun K hK => ?_ | ((with_reducible first | refine hK _ _ ?_ | (clear hK; refine hK _ _ ?_) | (clear hK; clear hK; refine hK _ _ ?_)); clear hK; try clear K) | refine W0 ?_ | exact Z | with_reducible intro b)
      refine RowZ.appL (hv3.up ?_) (by decide) rfl (by simp [D.one]) ?_ ?_ fun d2 S4 hr4 hS4 => ?_
      · simp only [updS_apply, reduceCtorEq, if_false]
      · rw [rS_len]; simp only [List.length_singleton]; omega
      · rw [rS_len]; simp only [List.length_singleton]; omega
      rw [hnew2] at hr4
      repeat (first | with_reducible refine pv_seq fun K hK => ?_ | ((with_reducible first | refine hK _ _ ?_ | (clear hK; refine hK _ _ ?_) | (clear hK; clear hK; refine hK _ _ ?_)); clear hK; try clear K) | refine W0 ?_ | exact Z | with_reducible intro b)
      refine ⟨mk _ _ ⟨t + 1, j2 + 2 * a.length, xs ++ [a], ys ++ [v], by omega, by simp [hx], by simp [hy], fun i hi => ?_, by omega, Zr, Zr, Zr, Zr, Zr, ?_, ?_, hr4⟩, by simp only [intD]; omega⟩
      · by_cases hi2 : i < t
        · rw [xg_app (by omega), xg_app (by omega)]; exact hin i hi2
        · obtain rfl : i = t := by omega
          rw [xg_last hx, xg_last hy]
          exact ⟨la, by omega, fun z hz => ((sa _ (gI_mem (by omega))).lift 3).mono (by decide), fun z hz => sv _ (gI_mem (by omega)), fun z hz => iv z (by omega)⟩
      · rw [hS4 _ (by decide)]; simp only [updS_apply]; rfl
      · exact hr3.up (by rw [hS4 _ (by decide)]; simp only [updS_apply]; rfl)
    · obtain rfl : t = r + 1 := by omega
      have ft := And.intro g3 (And.intro g4 (And.intro g5 (And.intro g9 g6)))
      repeat (first | with_reducible refine pv_seq fun K hK => ?_ | ((with_reducible first | refine hK _ _ ?_ | (clear hK; refine hK _ _ ?_) | (clear hK; clear hK; refine hK _ _ ?_)); clear hK; try clear K) | refine W0 ?_ | exact Z | with_reducible intro b)
      refine hC _ _ (Recast.join (Recast.rowSlot 7 hw.toD fun S' hk' => Recast.rowSlot 8 (k := .l 45) (xs := ys) (by exact hv.toD.up (hk' _ (by decide))) fun S2 hk2 => ?_))
      exact J _ _ j xs ys hx hy hin (by omega) g3 g4 g5 g6 rfl rfl (by rw [hk2 _ (by decide), hk' _ (by decide)]; exact s0)
end Go.V

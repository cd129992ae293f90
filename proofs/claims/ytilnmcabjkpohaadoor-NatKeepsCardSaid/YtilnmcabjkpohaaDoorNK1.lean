/- What sums and trimmed words answer is the caller's own. A slice's room. -/
import Derived.Test.YtilnmcabjkpohaaDoorM
import Derived.Test.YtilnmcabjkpohaaDoorPV
import Derived.Test.YtilnmcabjkpohaaDoorPC
set_option linter.unusedSimpArgs false
set_option linter.unusedVariables false
set_option maxRecDepth 100000
namespace Go.V
open Go Go.RowKit Go.Proofs

/-- A new row that is answered is the caller's. -/
theorem pfc_own {P : Program} {f : FuncId} {args : List D} {S : Store} {K : D → Store → Prop} {k : IntKind} {el : TypeId} {xs : List Nat} (nm : Nm) (h47 : xs.length ≤ 140737488355328)
    (h : ∀ w I vs, GI I w → RdL I w.heap args vs → FC P f vs.toArray w fun r w' => Ext w w' ∧ w'.ownsRow w.heap.size el 1 r xs.length (wc k xs))
    (hK : ∀ d S', RowZ S' nm 1 d (rS (eK k) xs) → Keep nm S S' → K d S') : PFC P f args S K := by
  intro w I vs hR hv
  refine (h w I vs hR.gi hv).mono ?_
  rintro r w' ⟨hE, hlen, hown⟩
  have hIs : ∀ b j, I b j → I b j := fun _ _ h => h
  have r1 := hR.ext hE hIs (fun _ _ h => .inl h) (fun b j hj => Nat.lt_of_lt_of_le (hR.old b j hj) hE.size)
  have s1 := Stp.of_ext (S := S) hE hIs (fun _ _ h => .inl h) hR.old
  rcases hown with ⟨rfl, h0⟩ | ⟨g, cap, cur, rfl, hgb, hb, hn, hcm, hcs, htake⟩
  · have hx : xs = [] := List.eq_nil_of_length_eq_zero h0
    subst hx
    exact ⟨I, S, .nil, s1, r1, .nil, hK _ _ .nil .rfl⟩
  · have hcell : ∀ (i x : Nat), xs[i]? = some x → cur[i]? = some (.int k (x : Int)) := by
      intro i x hx
      have hi : i < xs.length := (List.getElem?_eq_some_iff.1 hx).1
      have h3 : (cur.toList.take (xs.length * 1))[i]? = (wc k xs)[i]? := by rw [htake]
      rw [List.getElem?_take, if_pos (by omega)] at h3
      simp only [Array.getElem?_toList] at h3
      rw [h3]
      simp [wc, hx]
    have hlt : ∀ q B, S q = some B → B.b ≠ g := fun q B hq e => by have := hR.lt hq; omega
    refine ⟨I, updS S nm (some ⟨g, 1, 0, rS (eK k) xs⟩), .own nm g 0 xs.length cap 1, ⟨s1.os, s1.tape, s1.output, s1.size, s1.dr, s1.sub, s1.new, s1.ev, s1.frame, fun q C hq => ?_, s1.liveG⟩, ⟨r1.gi, fun q C hq => ?_, fun q q' C C' hq hq' hbb => ?_, r1.gho⟩, ?_, hK _ _ (.inr ⟨g, cap, by rw [rS_len], updS_at⟩) .upd⟩
    · rw [updS_apply] at hq
      split at hq
      · injection hq with hq; subst hq; exact .inl hgb
      · exact s1.live q C hq
    · rw [updS_apply] at hq
      split at hq
      · injection hq with hq; subst hq
        refine ⟨cur, el, hb, by rw [rS_len]; show xs.length * 1 ≤ cur.size; omega, fun i es he => ?_, fun i es j d he hd => ?_, fun j hj => ?_, Nat.zero_le _⟩
        · rw [rS_get] at he
          cases hx : xs[i]? with
          | none => rw [hx] at he; cases he
          | some x => rw [hx] at he; injection he with he; rw [← he]; rfl
        · rw [rS_get] at he
          cases hx : xs[i]? with
          | none => rw [hx] at he; cases he
          | some x =>
            rw [hx] at he
            injection he with he
            subst he
            match j with
            | 0 =>
              simp only [eK, List.map_cons, List.map_nil, List.getElem?_cons_zero, Option.some.injEq] at hd
              subst hd
              exact ⟨_, by simpa using hcell i x hx, .g (.lit _ rfl)⟩
            | j + 1 => simp [eK] at hd
        · have := hR.old g j hj; omega
      · exact r1.has q C hq
    · rw [updS_apply] at hq hq'
      split at hq <;> split at hq'
      · rename_i e1 e2; rw [e1, e2]
      · rename_i e1 _; injection hq with hq; subst hq; exact (hlt q' C' hq' hbb.symm).elim
      · rename_i _ e2; injection hq' with hq'; subst hq'; exact (hlt q C hq hbb).elim
      · exact r1.inj q q' C C' hq hq' hbb
    · have := RdD.own (I := I) (H := w'.heap) nm g 0 xs.length cap 1 cur el (0, 0) hn hcm h47 hb (by omega)
      simpa using this

theorem o_Add {xs ys : List Nat} (hx : B64 xs) (hy : B64 ys) (hl : xs.length ≤ 100) (hl' : ys.length ≤ 100) {S : Store} {K : D → Store → Prop} (nm : Nm) (hK : ∀ d S', RowZ S' nm 1 d (rS (eK .u64) (D64 (N64 xs + N64 ys))) → Keep nm S S' → K d S') : PFC Tryd.prog 24 [W64 xs, W64 ys] S K := by
  have hb : (D64 (N64 xs + N64 ys)).length ≤ 140737488355328 := by
    have h1 : N64 xs < Mw 100 := Nat.lt_of_lt_of_le (nval_lt (by decide) xs hx) (Mw_mono hl)
    have h2 : N64 ys < Mw 100 := Nat.lt_of_lt_of_le (nval_lt (by decide) ys hy) (Mw_mono hl')
    exact Nat.le_trans (digs_len_le two64 (Mw_add h1 h2)) (by decide)
  refine pfc_own (el := 27) nm hb (fun w I vs hG hv => ?_) hK
  obtain ⟨v, v', rfl, h, h'⟩ := hv.two
  exact (nat_Add (rd_w64 h hx) (rd_w64 h' hy) (by omega) (by omega)).mono fun r w' ⟨hE, hr⟩ => ⟨hE, hr.own⟩
theorem o_Trim {xs : List Nat} (hx : B64 xs) (hl : xs.length ≤ 100) {S : Store} {K : D → Store → Prop} (nm : Nm) (hK : ∀ d S', RowZ S' nm 1 d (rS (eK .u64) (D64 (N64 xs))) → Keep nm S S' → K d S') : PFC Tryd.prog 15 [W64 xs] S K := by
  have hb : (D64 (N64 xs)).length ≤ 140737488355328 := by
    have h1 : N64 xs < Mw 100 := Nat.lt_of_lt_of_le (nval_lt (by decide) xs hx) (Mw_mono hl)
    exact Nat.le_trans (digs_len_le two64 h1) (by decide)
  refine pfc_own (el := 27) nm hb (fun w I vs hG hv => ?_) hK
  obtain ⟨v, rfl, h⟩ := hv.one
  exact (nat_TrimO (rd_w64 h hx) (by omega)).mono fun r w' ⟨hE, hr⟩ => ⟨hE, hr.own⟩
/-- A slice's length is not beyond its room. -/
theorem Recast.room {N : DEnv → Store → Prop} {e : DEnv} {S : Store} (i : Nat) {k : Nm} {b o n cap s : Nat} (hi : e i = .own k b o n cap s) (h : n ≤ cap → N e S) : Recast N e S := fun I w e' hR he =>
  ⟨I, S, e, Stp.refl _ _ _, hR, he, h (by
    have h1 := he i
    rw [hi] at h1
    generalize e' i = v at h1
    cases h1
    assumption)⟩

/-! ### Rows with two words behind them -/
def R7 (a : List Nat) : List (List D) := rS (eK .u64) (a ++ [77, 77])
theorem R7_len {a : List Nat} : (R7 a).length = a.length + 2 := by unfold R7; rw [rS_len]; simp
theorem pure7 {a : List Nat} : pureLL (((R7 a).drop 0).take a.length) = some (a.map (eK .u64)) := by
  unfold R7
  rw [List.drop_zero, rS_take, List.take_left' rfl]; exact pureLL_rS
theorem coe_part {a : List Nat} {k : Nm} {b cap p : Nat} {S : Store} {K : D → Store → Prop} (hS : S k = some ⟨b, 1, p, R7 a⟩) (h : K (W64 a) (updS S k (some ⟨b, 1, max p (0 + a.length), R7 a⟩))) : coeC (.own k b 0 a.length cap 1) S K := by
  rw [coeC_own, hS]
  refine ⟨rfl, rfl, by rw [R7_len]; omega, ?_⟩
  show optLL (pureLL (((R7 a).drop 0).take a.length)) _
  rw [pure7]; exact h
/-- The rows of both numbers lie there. -/
structure XP2 (a b : List Nat) (b1 b2 : Nat) (S : Store) : Prop where
  x : ∃ p, S (.l 21) = some ⟨b1, 1, p, R7 a⟩
  y : ∃ p, S (.l 29) = some ⟨b2, 1, p, R7 b⟩
section
variable {P : Program} {f : FuncId} {a b : List Nat} {b1 b2 c1 c2 : Nat} {S : Store} {K : D → Store → Prop}
theorem XP2.up {S' : Store} (h : XP2 a b b1 b2 S) (h1 : S' (.l 21) = S (.l 21)) (h2 : S' (.l 29) = S (.l 29)) : XP2 a b b1 b2 S' := ⟨by rw [h1]; exact h.x, by rw [h2]; exact h.y⟩
theorem own2 (h : XP2 a b b1 b2 S) (hk : ∀ S', XP2 a b b1 b2 S' → (∀ k, k ≠ .l 21 → k ≠ .l 29 → S' k = S k) → PFC P f [W64 a, W64 b] S' K) : PFC P f [.own (.l 21) b1 0 a.length c1 1, .own (.l 29) b2 0 b.length c2 1] S K := by
  obtain ⟨⟨p, hx⟩, ⟨q, hy⟩⟩ := h
  refine PFC.coe ?_
  rw [coeDs_cons, coeD_own]
  refine coe_part hx ?_
  rw [coeDs_cons, coeD_own]
  refine coe_part (p := q) (by rw [updS_ne (by decide)]; exact hy) ?_
  rw [coeDs_nil]
  exact hk _ ⟨⟨_, by rw [updS_ne (by decide), updS_at]⟩, ⟨_, updS_at⟩⟩ fun k h1 h2 => by rw [updS_ne h2, updS_ne h1]
theorem own1 (h : XP2 a b b1 b2 S) (hk : ∀ S', XP2 a b b1 b2 S' → (∀ k, k ≠ .l 21 → k ≠ .l 29 → S' k = S k) → PFC P f [W64 a] S' K) : PFC P f [.own (.l 21) b1 0 a.length c1 1] S K := by
  obtain ⟨⟨p, hx⟩, ⟨q, hy⟩⟩ := h
  refine PFC.coe ?_
  rw [coeDs_cons, coeD_own]
  refine coe_part hx ?_
  rw [coeDs_nil]
  exact hk _ ⟨⟨_, updS_at⟩, ⟨q, by rw [updS_ne (by decide)]; exact hy⟩⟩ fun k h1 h2 => by rw [updS_ne h1]
theorem own1i {n : Int} (h : XP2 a b b1 b2 S) (hk : ∀ S', XP2 a b b1 b2 S' → (∀ k, k ≠ .l 21 → k ≠ .l 29 → S' k = S k) → PFC P f [W64 a, i64 n] S' K) : PFC P f [.own (.l 21) b1 0 a.length c1 1, i64 n] S K := by
  obtain ⟨⟨p, hx⟩, ⟨q, hy⟩⟩ := h
  refine PFC.coe ?_
  rw [coeDs_cons, coeD_own]
  refine coe_part hx ?_
  rw [coeDs_cons]
  show coeD (.g _) _ _
  rw [coeD_g, coeDs_nil]
  exact hk _ ⟨⟨_, updS_at⟩, ⟨q, by rw [updS_ne (by decide)]; exact hy⟩⟩ fun k h1 h2 => by rw [updS_ne h1]
theorem coe_all {P : Program} {a : List Nat} {k : Nm} {b cap p : Nat} {S : Store} {K : D → Store → Prop} (hS : S k = some ⟨b, 1, p, R7 a⟩) (h : K (W64 (a ++ [77, 77])) (updS S k (some ⟨b, 1, max p (0 + (a.length + 2)), R7 a⟩))) : coeC (.own k b 0 (a.length + 2) cap 1) S K := by
  rw [coeC_own, hS]
  refine ⟨rfl, rfl, by rw [R7_len]; omega, ?_⟩
  show optLL (pureLL (((R7 a).drop 0).take (a.length + 2))) _
  rw [List.drop_zero, List.take_of_length_le (by rw [R7_len]; omega)]
  unfold R7 at *
  rw [pureLL_rS]; exact h
/-- A row of such words and another one with the same, all of both. -/
theorem ownW {k1 k2 : Nm} {b1 b2 c1 c2 p1 p2 : Nat} (h1 : S k1 = some ⟨b1, 1, p1, R7 a⟩) (h2 : S k2 = some ⟨b2, 1, p2, R7 b⟩) (hne : k2 ≠ k1) (hk : ∀ S', (∀ k, k ≠ k1 → k ≠ k2 → S' k = S k) → PFC P f [W64 (a ++ [77, 77]), W64 (b ++ [77, 77])] S' K) : PFC P f [.own k1 b1 0 (a.length + 2) c1 1, .own k2 b2 0 (b.length + 2) c2 1] S K := by
  refine PFC.coe ?_
  rw [coeDs_cons, coeD_own]
  refine coe_all (P := P) h1 ?_
  rw [coeDs_cons, coeD_own]
  refine coe_all (P := P) (p := p2) (by rw [updS_ne hne]; exact h2) ?_
  rw [coeDs_nil]
  exact hk _ fun k h1 h2 => by rw [updS_ne h2, updS_ne h1]
/-- Words appended to a row that is all of its block. -/
theorem app_own {q : SlZ} {kd k : Nm} {bk n cap p : Nat} {src : D} {els new : List (List D)} {Kd : D → Store → Prop} (hS : S k = some ⟨bk, q.s, p, els⟩) (hn : els.length = n) (hs : ∀ K, K new → srcD S q.s src K) (hl : n + new.length ≤ 140737488355328) (hb : (n + new.length) * q.bytes ≤ 140737488355328)
    (hK : ∀ b' cap', Kd (.own k b' 0 (n + new.length) cap' q.s) (updS S k (some ⟨b', q.s, p, els ++ new⟩))) : appD q S kd (.own k bk 0 n cap q.s) src Kd := by
  rw [appD_own, hS]
  exact ⟨rfl, rfl, rfl, rfl, hn, hs _ ⟨hl, hb, fun b' cap' => hK b' cap'⟩⟩
end
theorem litsD_0 {S : Store} {q : SlZ} {k : Nm} {K : D → Store → Prop} : litsD q k S 0 [] [] K = ∀ b, K (.own k b 0 0 0 q.s) (updS S k (some ⟨b, q.s, 0, []⟩)) := by
  simp [litsD]
attribute [go_sem ↓] litsD_0
theorem hide (I0 : DEnv → Store → Prop) : ∃ I : DEnv → Store → Prop, (∀ e S, I0 e S → I e S) ∧ ∀ e S, I e S → I0 e S := ⟨I0, fun _ _ h => h, fun _ _ h => h⟩
theorem call_any {P : Program} {f : FuncId} {args : List D} {r : D} {K : D → Store → Prop} {S : Store} (h : PC P f args fun d => d = r) (hk : ∀ d, K d S) : PFC P f args S K := call_is h (hk r)
end Go.V

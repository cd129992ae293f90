/- A plan's check by bit masks: quick enough for the kernel at a region of a hundred operations. -/
import Derived.Test.YtkmoeenhboicmaaDoorZ
namespace Go.V
open Go Go.RowKit

def forceN (n : Nat) (k : Nat → Bool) : Bool := Nat.rec (k 0) (fun m _ => k (m + 1)) n
theorem forceN_eq (n : Nat) (k : Nat → Bool) : forceN n k = k n := by cases n <;> rfl

structure QO where
  dep : Nat
  look : Nat
  dst : Option Nat
  md : Nat

def maskOf : List Nat → Nat
  | [] => 0
  | d :: r => (1 <<< d) ||| maskOf r
theorem test_one (i k : Nat) : (1 <<< i).testBit k = (k == i) := by
  rw [Nat.one_shiftLeft, Nat.testBit_two_pow]
  by_cases h : i = k
  · simp [h]
  · have : k ≠ i := fun e => h e.symm
    simp [h, this]
theorem maskOf_test (l : List Nat) (k : Nat) : (maskOf l).testBit k = l.contains k := by
  induction l with
  | nil => simp [maskOf]
  | cons d r ih => rw [maskOf, Nat.testBit_or, ih, test_one, List.contains_cons]

def depM (o : Oper) : Nat := maskOf ((o.after.toList.filter (Region.binds .any)).map (·.on))
theorem depM_test (o : Oper) (k : Nat) : (depM o).testBit k = true ↔ ∃ e ∈ o.after, Region.binds .any e = true ∧ e.on = k := by
  unfold depM
  rw [maskOf_test]
  simp only [List.contains_iff_mem, List.mem_map, List.mem_filter, Array.mem_toList_iff]
  constructor
  · rintro ⟨e, ⟨h1, h2⟩, h3⟩; exact ⟨e, h1, h2, h3⟩
  · rintro ⟨e, h1, h2, h3⟩; exact ⟨e, ⟨h1, h2⟩, h3⟩
theorem dep_any (o : Oper) (M : Nat) : (depM o &&& M != 0) = true ↔ ∃ e ∈ o.after, Region.binds .any e = true ∧ M.testBit e.on = true := by
  rw [bne_iff_ne]
  constructor
  · intro h
    obtain ⟨k, hk⟩ := Nat.exists_testBit_of_ne_zero h
    rw [Nat.testBit_and, Bool.and_eq_true] at hk
    obtain ⟨e, h1, h2, h3⟩ := (depM_test o k).1 hk.1
    exact ⟨e, h1, h2, h3 ▸ hk.2⟩
  · rintro ⟨e, h1, h2, h3⟩ h0
    have := congrArg (fun x => x.testBit e.on) h0
    simp only [Nat.testBit_and, Nat.zero_testBit, h3, Bool.and_true] at this
    rw [(depM_test o e.on).2 ⟨e, h1, h2, rfl⟩] at this
    cases this
theorem dep_all (o : Oper) (L : Nat) : (depM o &&& L == depM o) = true ↔ ∀ e ∈ o.after, Region.binds .any e = true → L.testBit e.on = true := by
  rw [beq_iff_eq]
  constructor
  · intro h e h1 h2
    have := congrArg (fun x => x.testBit e.on) h
    simp only [Nat.testBit_and, (depM_test o e.on).2 ⟨e, h1, h2, rfl⟩, Bool.true_and] at this
    exact this
  · intro h
    apply Nat.eq_of_testBit_eq
    intro k
    rw [Nat.testBit_and]
    cases hd : (depM o).testBit k
    · rfl
    · obtain ⟨e, h1, h2, h3⟩ := (depM_test o k).1 hd
      rw [← h3, h e h1 h2]; rfl

def qsOf (all : Array Oper) (mode : Nat → Nat) : List Oper → Nat → List QO
  | [], _ => []
  | o :: r, j => ⟨depM o, maskOf (o.looksAt all), o.dst, mode j⟩ :: qsOf all mode r (j + 1)
def mkQ (all : Array Oper) (mode : Nat → Nat) : List Oper → Nat → (List QO → Bool) → Bool
  | [], _, k => k []
  | o :: r, j, k => forceN (depM o) fun d => forceN (maskOf (o.looksAt all)) fun l => forceN (mode j) fun m => mkQ all mode r (j + 1) (fun qs => k (⟨d, l, o.dst, m⟩ :: qs))
theorem mkQ_eq {all : Array Oper} {mode : Nat → Nat} (l : List Oper) : ∀ (j : Nat) (k : List QO → Bool), mkQ all mode l j k = k (qsOf all mode l j) := by
  induction l with
  | nil => intro j k; rfl
  | cons o r ih => intro j k; simp only [mkQ, forceN_eq, ih, qsOf]
theorem qsOf_get {all : Array Oper} {mode : Nat → Nat} (l : List Oper) : ∀ (j t : Nat), (qsOf all mode l j)[t]? = (l[t]?).map (fun o => ⟨depM o, maskOf (o.looksAt all), o.dst, mode (j + t)⟩) := by
  induction l with
  | nil => intro j t; simp [qsOf]
  | cons o r ih =>
    intro j t
    cases t with
    | zero => simp [qsOf]
    | succ t => simp [qsOf, ih, Nat.add_assoc, Nat.add_comm 1 t]

def rdyF : List QO → Nat → Nat → List Nat
  | [], _, _ => []
  | q :: r, L, j => bif !L.testBit j && (q.dep &&& L == q.dep) then j :: rdyF r L (j + 1) else rdyF r L (j + 1)

def apartF (di : Option Nat) (li : Nat) (q : QO) : Bool :=
  (match di with
   | some d => !q.look.testBit d && q.dst != some d
   | none => true) &&
  (match q.dst with
   | some d => !li.testBit d
   | none => true)
def qgo (i m : Nat) (di : Option Nat) (li L : Nat) : List QO → Nat → Nat → Bool
  | [], _, _ => true
  | q :: r, j, D =>
    (j == i || L.testBit j || q.dep.testBit i || apartF di li q) &&
    bif (q.dep &&& (D ||| 1 <<< i)) != 0 then !L.testBit j && forceN (D ||| 1 <<< j) (qgo i m di li L r (j + 1)) else (L.testBit j || j == i || beside m q.md) && qgo i m di li L r (j + 1) D
def quietF (qs : List QO) (L i m : Nat) : Bool := match qs[i]? with
  | none => false
  | some q => !L.testBit i && (q.dep &&& L == q.dep) && decide (q.md ≤ 2) && qgo i m q.dst q.look L qs 0 0
def planFF (qs : List QO) : List (Nat × Nat) → Nat → Bool
  | [], L => (rdyF qs L 0).isEmpty
  | (i, m) :: r, L => (if m ≤ 2 then quietF qs L i m else (match qs[i]? with | some q => q.md == m | none => false) && rdyF qs L 0 == [i]) && forceN (L ||| 1 <<< i) (planFF qs r)
def planFast (ops : Array Oper) (pl : List (Nat × Nat)) : Bool := (Region.noSelect ops && pl.length == ops.size) && mkQ ops (modeIn pl) ops.toList 0 (fun qs => planFF qs pl 0)

/-- The listed ones, as a mask. -/
structure LR (n : Nat) (listed : Array Bool) (L : Nat) : Prop where
  size : listed.size = n
  bit : ∀ k, listed.getD k false = L.testBit k
theorem LR.bitT {n : Nat} {listed : Array Bool} {L k : Nat} (h : LR n listed L) (hk : k < n) : listed.getD k true = L.testBit k := by
  rw [← h.bit k]
  have : k < listed.size := h.size ▸ hk
  simp [Array.getD, this]

theorem ready_eq {ops : List Oper} {mode : Nat → Nat} {listed : Array Bool} {L : Nat} (h : LR ops.length listed L) : Region.ready .any ops.toArray listed = rdyF (qsOf ops.toArray mode ops 0) L 0 := by
  unfold Region.ready
  have key : ∀ (suf : List Oper) (j : Nat), (∀ t o, suf[t]? = some o → ops[j + t]? = some o) → j + suf.length ≤ ops.length →
      (List.range' j suf.length).filter (fun i => !listed.getD i true && ((ops.toArray[i]?).map (fun o : Oper => o.after.all fun e => !Region.binds .any e || listed.getD e.on false)).getD false) = rdyF (qsOf ops.toArray mode suf j) L j := by
    intro suf
    induction suf with
    | nil => intro j _ _; rfl
    | cons o r ih =>
      intro j hs hl
      have hj : ops.toArray[j]? = some o := by have := hs 0 o rfl; simpa using this
      have hlt : j < ops.length := by simp at hl; omega
      have ih := ih (j + 1) (fun t o' ht => by have := hs (t + 1) o' (by simpa using ht); rwa [show j + (t + 1) = j + 1 + t by omega] at this) (by simp at hl; omega)
      rw [List.length_cons, List.range'_succ, List.filter_cons, ih]
      have e1 : (o.after.all fun e => !Region.binds .any e || listed.getD e.on false) = (depM o &&& L == depM o) := by
        rw [Bool.eq_iff_iff, dep_all, Array.all_eq_true']
        constructor
        · intro hh e he hb; have := hh e he; rw [hb, h.bit] at this; simpa using this
        · intro hh e he; cases hb : Region.binds .any e
          · rfl
          · rw [h.bit, hh e he hb]; rfl
      rw [hj, h.bitT hlt]
      simp only [Option.map_some, Option.getD_some, e1, qsOf, rdyF, Bool.cond_eq_ite]
  have := key ops 0 (fun t o ht => by simpa using ht) (by simp)
  rw [← this, List.range_eq_range']
  simp

theorem push_getD (A : Array Bool) (b : Bool) (k : Nat) : (A.push b).getD k false = if k = A.size then b else A.getD k false := by
  simp only [Array.getD, Array.size_push]
  by_cases h1 : k < A.size
  · rw [dif_pos h1, dif_pos (by omega), if_neg (by omega)]
    simp [Array.getInternal_eq_getElem, Array.getElem_push, h1]
  · by_cases h2 : k = A.size
    · subst h2; simp [Array.getInternal_eq_getElem]
    · rw [dif_neg h1, dif_neg (by omega), if_neg h2]

theorem qgo_sound {ops : List Oper} {mode : Nat → Nat} {i m L : Nat} {listed : Array Bool} {oi : Oper} (hL : LR ops.length listed L) :
    ∀ (suf : List Oper) (j : Nat) (Dp : Array Bool) (D : Nat), Dp.size = j → (∀ k, Dp.getD k false = D.testBit k) → (∀ t o, suf[t]? = some o → ops[j + t]? = some o) →
      qgo i m oi.dst (maskOf (oi.looksAt ops.toArray)) L (qsOf ops.toArray mode suf j) j D = true →
      (∀ k, Dp.getD k false = true → (suf.foldl (fun D o => D.push (o.after.any fun e => Region.binds .any e && (e.on == i || D.getD e.on false))) Dp).getD k false = true) ∧
      (∀ k, k < j → (suf.foldl (fun D o => D.push (o.after.any fun e => Region.binds .any e && (e.on == i || D.getD e.on false))) Dp).getD k false = Dp.getD k false) ∧
      ∀ t o, suf[t]? = some o →
        (((suf.foldl (fun D o => D.push (o.after.any fun e => Region.binds .any e && (e.on == i || D.getD e.on false))) Dp).getD (j + t) false = true → listed.getD (j + t) false = false ∧
            ∃ e ∈ o.after, Region.binds .any e = true ∧ (e.on = i ∨ (suf.foldl (fun D o => D.push (o.after.any fun e => Region.binds .any e && (e.on == i || D.getD e.on false))) Dp).getD e.on false = true)) ∧
          ((suf.foldl (fun D o => D.push (o.after.any fun e => Region.binds .any e && (e.on == i || D.getD e.on false))) Dp).getD (j + t) false = false → listed.getD (j + t) true = true ∨ j + t = i ∨ beside m (mode (j + t)) = true)) ∧
        (j + t = i ∨ listed.getD (j + t) true = true ∨ (∃ e ∈ o.after, Region.binds .any e = true ∧ e.on = i) ∨ oi.apart ops.toArray o = true) := by
  intro suf
  induction suf with
  | nil => intro j Dp D _ _ _ _; exact ⟨fun k h => h, fun k _ => rfl, fun t o h => by simp at h⟩
  | cons o r ih =>
    intro j Dp D hsz hD hs hq
    have hj : ops[j]? = some o := by have := hs 0 o rfl; simpa using this
    have hlt : j < ops.length := (List.getElem?_eq_some_iff.1 hj).1
    have hsr : ∀ t o', r[t]? = some o' → ops[j + 1 + t]? = some o' := fun t o' ht => by have := hs (t + 1) o' (by simpa using ht); rwa [show j + (t + 1) = j + 1 + t by omega] at this
    simp only [qsOf, qgo, Bool.and_eq_true, Bool.or_eq_true, beq_iff_eq, Bool.cond_eq_ite, forceN_eq] at hq
    obtain ⟨hfr, hq⟩ := hq
    have hb : (o.after.any fun e => Region.binds .any e && (e.on == i || Dp.getD e.on false)) = ((depM o &&& (D ||| 1 <<< i)) != 0) := by
      rw [Bool.eq_iff_iff, dep_any, Array.any_eq_true']
      constructor
      · rintro ⟨e, he, h2⟩
        simp only [Bool.and_eq_true, Bool.or_eq_true, beq_iff_eq] at h2
        refine ⟨e, he, h2.1, ?_⟩
        rw [Nat.testBit_or, test_one, ← hD]
        rcases h2.2 with h3 | h3
        · simp [h3]
        · rw [h3]; rfl
      · rintro ⟨e, he, h2, h3⟩
        refine ⟨e, he, ?_⟩
        rw [Nat.testBit_or, test_one, ← hD] at h3
        simp only [Bool.and_eq_true, Bool.or_eq_true, beq_iff_eq] at h3 ⊢
        exact ⟨h2, h3.symm⟩
    have hF : j = i ∨ listed.getD j true = true ∨ (∃ e ∈ o.after, Region.binds .any e = true ∧ e.on = i) ∨ oi.apart ops.toArray o = true := by
      rcases hfr with ((h | h) | h) | h
      · exact .inl h
      · exact .inr (.inl (by rw [hL.bitT hlt]; exact h))
      · exact .inr (.inr (.inl ((depM_test o i).1 h)))
      · refine .inr (.inr (.inr ?_))
        rw [← h]; unfold Oper.apart apartF
        simp only [maskOf_test]
        cases oi.dst <;> cases o.dst <;> rfl
    rw [List.foldl_cons, hb]
    cases hw : (depM o &&& (D ||| 1 <<< i)) != 0 with
    | true =>
      rw [hw, if_pos rfl] at hq
      simp only [Bool.and_eq_true, Bool.not_eq_true'] at hq
      have ih := ih (j + 1) (Dp.push true) (D ||| 1 <<< j) (by simp [hsz]) (fun k => by
        rw [push_getD, Nat.testBit_or, test_one, hsz, hD]
        by_cases h : k = j
        · simp [h]
        · simp [h]) hsr hq.2
      obtain ⟨i1, i2, i3⟩ := ih
      have mono : ∀ k, Dp.getD k false = true → (Dp.push true).getD k false = true := fun k hk => by rw [push_getD]; split <;> simp_all
      have self : (r.foldl (fun D o => D.push (o.after.any fun e => Region.binds .any e && (e.on == i || D.getD e.on false))) (Dp.push true)).getD j false = true := by
        rw [i2 j (by omega), push_getD, if_pos hsz.symm]
      refine ⟨fun k hk => i1 k (mono k hk), fun k hk => ?_, fun t o' ht => ?_⟩
      · rw [i2 k (by omega), push_getD, if_neg (by omega)]
      · cases t with
        | zero =>
          cases (show o = o' by simpa using ht)
          refine ⟨⟨fun _ => ⟨by rw [Nat.add_zero, hL.bit]; exact hq.1, ?_⟩, fun h0 => by rw [Nat.add_zero, self] at h0; cases h0⟩, hF⟩
          rw [hw] at hb
          obtain ⟨e, he, h2⟩ := Array.any_eq_true'.1 hb
          simp only [Bool.and_eq_true, Bool.or_eq_true, beq_iff_eq] at h2
          exact ⟨e, he, h2.1, h2.2.imp id fun h => i1 _ (mono _ h)⟩
        | succ t => rw [show j + (t + 1) = j + 1 + t by omega]; exact i3 t o' (by simpa using ht)
    | false =>
      rw [hw, if_neg (by decide)] at hq
      simp only [Bool.and_eq_true, Bool.or_eq_true, beq_iff_eq] at hq
      have ih := ih (j + 1) (Dp.push false) D (by simp [hsz]) (fun k => by
        rw [push_getD]
        by_cases h : k = Dp.size
        · rw [if_pos h, ← hD]; simp [Array.getD, h]
        · rw [if_neg h, hD]) hsr hq.2
      obtain ⟨i1, i2, i3⟩ := ih
      have mono : ∀ k, Dp.getD k false = true → (Dp.push false).getD k false = true := fun k hk => by
        rw [push_getD]; split
        · rename_i h; rw [h] at hk; simp [Array.getD] at hk
        · exact hk
      have self : (r.foldl (fun D o => D.push (o.after.any fun e => Region.binds .any e && (e.on == i || D.getD e.on false))) (Dp.push false)).getD j false = false := by
        rw [i2 j (by omega), push_getD, if_pos hsz.symm]
      refine ⟨fun k hk => i1 k (mono k hk), fun k hk => ?_, fun t o' ht => ?_⟩
      · rw [i2 k (by omega), push_getD, if_neg (by omega)]
      · cases t with
        | zero =>
          cases (show o = o' by simpa using ht)
          refine ⟨⟨fun h0 => (by rw [Nat.add_zero, self] at h0; cases h0), fun _ => ?_⟩, hF⟩
          rcases hq.1 with (h | h) | h
          · exact .inl (by rw [Nat.add_zero, hL.bitT hlt]; exact h)
          · exact .inr (.inl h)
          · exact .inr (.inr h)
        | succ t => rw [show j + (t + 1) = j + 1 + t by omega]; exact i3 t o' (by simpa using ht)

theorem quietF_sound {ops : List Oper} {mode : Nat → Nat} {i m L : Nat} {listed : Array Bool} (hL : LR ops.length listed L) (h : quietF (qsOf ops.toArray mode ops 0) L i m = true) : quietOk ops.toArray mode listed i m = true ∧ i < ops.length := by
  unfold quietF at h
  rw [qsOf_get] at h
  cases ho : ops[i]? with
  | none => rw [ho] at h; cases h
  | some oi =>
    rw [ho] at h
    simp only [Option.map_some, Bool.and_eq_true, Nat.zero_add, decide_eq_true_eq, Bool.not_eq_true'] at h
    obtain ⟨⟨⟨h1, h2⟩, h3⟩, h4⟩ := h
    have hi : i < ops.length := (List.getElem?_eq_some_iff.1 ho).1
    have hoA : ops.toArray[i]? = some oi := by simpa using ho
    obtain ⟨_, _, q⟩ := qgo_sound (oi := oi) hL ops 0 #[] 0 rfl (fun k => by simp [Array.getD]) (fun t o ht => by simpa using ht) h4
    have hW : waits ops.toArray i = ops.foldl (fun D o => D.push (o.after.any fun e => Region.binds .any e && (e.on == i || D.getD e.on false))) #[] := by
      unfold waits; simp
    rw [← hW] at q
    refine ⟨?_, hi⟩
    unfold quietOk
    simp only [Bool.and_eq_true, List.all_eq_true, List.mem_range, decide_eq_true_eq]
    refine ⟨⟨⟨?_, ?_⟩, h3⟩, ?_⟩
    · simp only [Region.ready, List.contains_iff_mem, List.mem_filter, List.mem_range, hoA, hL.bitT hi, h1, Option.map_some, Option.getD_some, Bool.not_false, Bool.true_and]
      refine ⟨by simpa using hi, ?_⟩
      rw [Array.all_eq_true']
      intro e he
      cases hb : Region.binds .any e
      · rfl
      · rw [hL.bit, (dep_all oi L).1 h2 e he hb]; rfl
    · unfold Region.free
      rw [hoA]
      simp only [List.all_eq_true, List.mem_range]
      intro j hj
      have hj' : j < ops.length := by simpa using hj
      have := (q j ops[j] (by simp)).2
      rw [Nat.zero_add] at this
      have hjA : ops.toArray[j]? = some ops[j] := by simp
      rw [hjA]
      simp only [Bool.or_eq_true, beq_iff_eq]
      rcases this with h | h | h | h
      · exact .inl (.inl h)
      · exact .inl (.inr h)
      · obtain ⟨e, he, hb, hon⟩ := h
        refine .inr (.inl (Array.any_eq_true'.2 ⟨e, he, ?_⟩))
        simp [hb, hon]
      · exact .inr (.inr h)
    · intro j hj
      have hj' : j < ops.length := by simpa using hj
      have := (q j ops[j] (by simp)).1
      rw [Nat.zero_add] at this
      have hjA : ops.toArray[j]? = some ops[j] := by simp
      rw [hjA]
      cases hd : (waits ops.toArray i).getD j false with
      | true =>
        obtain ⟨h5, e, he, hb, h6⟩ := this.1 hd
        rw [h5]
        simp only [Bool.not_true, Bool.false_or, Bool.not_false, Bool.true_and, Bool.or_true, Bool.true_or]
        refine ⟨Array.any_eq_true'.2 ⟨e, he, ?_⟩, trivial⟩
        simpa [hb] using h6
      | false =>
        have h5 := this.2 hd
        simp only [Bool.not_false, Bool.true_or, Bool.or_false, Bool.or_eq_true, beq_iff_eq, true_and]
        rcases h5 with h | h | h
        · exact .inl (.inl h)
        · exact .inl (.inr h)
        · exact .inr h

theorem LR.put {n i L : Nat} {listed : Array Bool} (h : LR n listed L) (hi : i < n) : LR n (listed.setIfInBounds i true) (L ||| 1 <<< i) := by
  refine ⟨by simp [h.size], fun k => ?_⟩
  rw [Nat.testBit_or, test_one, ← h.bit]
  have hs := h.size
  by_cases e : k = i
  · subst e; simp [Array.getD, hs, hi, Array.getInternal_eq_getElem]
  · have e' : i ≠ k := fun x => e x.symm
    have hb : (k == i) = false := by simpa using e
    rw [hb, Bool.or_false]
    by_cases hk : k < listed.size
    · simp [Array.getD, hk, Array.getInternal_eq_getElem, e']
    · simp [Array.getD, hk]

theorem planFF_sound {ops : List Oper} {mode : Nat → Nat} : ∀ (pl : List (Nat × Nat)) (L : Nat) (listed : Array Bool), LR ops.length listed L → planFF (qsOf ops.toArray mode ops 0) pl L = true → planFrom ops.toArray mode pl listed = true
  | [], L, listed, h, hp => by
    simp only [planFF] at hp
    simp only [planFrom]
    rw [ready_eq (mode := mode) h]; exact hp
  | (i, m) :: r, L, listed, h, hp => by
    simp only [planFF, Bool.and_eq_true, forceN_eq] at hp
    simp only [planFrom, Bool.and_eq_true]
    obtain ⟨h1, h2⟩ := hp
    by_cases hm : m ≤ 2
    · rw [if_pos hm] at h1 ⊢
      obtain ⟨h3, h4⟩ := quietF_sound h h1
      exact ⟨h3, planFF_sound r _ _ (h.put h4) h2⟩
    · rw [if_neg hm] at h1 ⊢
      simp only [Bool.and_eq_true] at h1
      rw [qsOf_get] at h1
      cases ho : ops[i]? with
      | none => rw [ho] at h1; cases h1.1
      | some oi =>
        rw [ho] at h1
        simp only [Option.map_some, Nat.zero_add] at h1
        have hi : i < ops.length := (List.getElem?_eq_some_iff.1 ho).1
        refine ⟨?_, planFF_sound r _ _ (h.put hi) h2⟩
        rw [ready_eq (mode := mode) h, Bool.and_eq_true]
        exact h1
theorem planFast_sound {ops : List Oper} {pl : List (Nat × Nat)} (h : planFast ops.toArray pl = true) : planOk ops.toArray pl = true := by
  unfold planFast at h
  unfold planOk
  rw [mkQ_eq] at h
  simp only [Bool.and_eq_true] at h ⊢
  refine ⟨h.1, planFF_sound pl 0 _ ⟨by simp, fun k => ?_⟩ h.2⟩
  simp [Array.getD]
variable {P : Program} {N : DEnv → Store → Prop} {X : Nat → DEnv → Store → Prop} {R : DEnv → Store → Prop} {e : DEnv} {S : Store}
theorem pv_drawF {id : Nat} {l : List Oper} (pl : List (Nat × Nat)) (hp : planFast l.toArray pl = true) (h : runD P N (compD l pl) e S) : pvc P (.region id l.toArray true) N X R e S := pv_draw pl (planFast_sound hp) h
end Go.V

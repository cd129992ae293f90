/- Columns at right angles, about: the plain laws of sizes, and of columns that are at right angles already. No program in sight. -/
import Derived.Test.YtolccagkfobbmaaGreatDoorJP
set_option linter.unusedSimpArgs false
set_option linter.unusedVariables false
namespace Go.V
open Go Go.RowKit Go.Proofs

theorem nnm {a b : Dyadic} (ha : 0 ≤ a) (hb : 0 ≤ b) : 0 ≤ a * b := by
  apply Dyadic.toRat_le_toRat_iff.1
  rw [Dyadic.toRat_mul]
  exact Rat.mul_nonneg (Dyadic.toRat_le_toRat_iff.2 ha) (Dyadic.toRat_le_toRat_iff.2 hb)
def tw (j : Int) : Dyadic := dy false 1 j
theorem tw_pos (j : Int) : 0 < tw j := dy_pos.2 ⟨rfl, by decide⟩
theorem sc_mul (x : Dyadic) (j : Int) : dy (fS x) (fN x) (fE x + j) = x * tw j := by
  have h := dy_mul (fS x) false (fN x) 1 (fE x) j
  rw [dy_f] at h
  unfold tw
  rw [h, Nat.mul_one, Bool.bne_false]
theorem f_tw {x : Dyadic} (h : x ≠ 0) (j : Int) : fS (x * tw j) = fS x ∧ fN (x * tw j) = fN x ∧ fE (x * tw j) = fE x + j := by
  rw [← sc_mul]
  exact ⟨fS_odd (fN_mod h), fN_odd (fN_mod h), fE_odd (fN_mod h)⟩
theorem abD_tw (x : Dyadic) (j : Int) : abD (x * tw j) = abD x * tw j := by
  by_cases h : x = 0
  · subst h; rw [show (0 : Dyadic) * tw j = 0 by grind, abD_zero.2 rfl]; grind
  · obtain ⟨_, h2, h3⟩ := f_tw h j
    unfold abD
    rw [h2, h3]
    unfold tw
    rw [dy_mul, Nat.mul_one]; rfl
theorem abD_neg (x : Dyadic) : abD (-x) = abD x := by
  by_cases h : x = 0
  · subst h; rw [show (-0 : Dyadic) = 0 by grind]
  · obtain ⟨_, h2, h3⟩ := f_neg x h
    unfold abD; rw [h2, h3]
theorem abD_ab (x : Dyadic) : abD (abD x) = abD x := by
  by_cases h : x = 0
  · subst h; rw [abD_zero.2 rfl, abD_zero.2 rfl]
  · unfold abD; rw [fN_odd (fN_mod h), fE_odd (fN_mod h)]
theorem tw_lt {a b : Dyadic} (j : Int) : a * tw j < b * tw j ↔ a < b := by
  have h1 := mul_le_r (a := b) (b := a) (tw_pos j)
  constructor
  · intro h; by_cases h2 : a < b
    · exact h2
    · have := h1.2 (by grind); grind
  · intro h; by_cases h2 : a * tw j < b * tw j
    · exact h2
    · have := h1.1 (by grind); grind
theorem topA_tw {vs ws : DL} {j : Int} (h : ∀ i, gD ws i = gD vs i * tw j) : ∀ n, topA ws n = topA vs n * tw j
  | 0 => by unfold topA; grind
  | n + 1 => by
    unfold topA
    rw [topA_tw h n, h n, abD_tw]
    by_cases h1 : topA vs n < abD (gD vs n)
    · rw [if_pos h1, if_pos ((tw_lt j).2 h1)]
    · rw [if_neg h1, if_neg (fun e => h1 ((tw_lt j).1 e))]
theorem szD_tw {x : Dyadic} (h : x ≠ 0) (j : Int) : szD (x * tw j) = szD x + j := by
  obtain ⟨_, h2, h3⟩ := f_tw h j
  unfold szD; rw [h2, h3]; omega
theorem half_le {x : Dyadic} (h : x ≠ 0) (hs : szD x = 0) : dy false 1 (-1) ≤ abD x ∧ abD x < dy false 1 0 := by
  have hn : fN x ≠ 0 := fun e => h (fN_eq_zero.1 e)
  have hl := bit_lo hn
  have hh := bit_hi (fN x)
  have hb : bitLen (fN x) ≠ 0 := fun e => by rw [e] at hh; omega
  unfold szD at hs
  unfold abD
  have e1 := dy_shl false 1 (bitLen (fN x) - 1) (fE x)
  have e2 := dy_shl false 1 (bitLen (fN x)) (fE x)
  rw [Nat.one_mul] at e1 e2
  rw [show fE x + ((bitLen (fN x) - 1 : Nat) : Int) = -1 by omega] at e1
  rw [show fE x + ((bitLen (fN x) : Nat) : Int) = 0 by omega] at e2
  rw [← e1, ← e2]
  exact ⟨dy_le.2 hl, dy_lt.2 hh⟩

theorem scaledR_map {vs l : DL} (h : scaledR vs = .ok l) : topD vs ≠ 0 ∧ l.length = vs.length ∧ ∀ i, gD l i = gD vs i * tw (-szD (topD vs)) := by
  unfold scaledR at h
  split at h
  · cases h
  · rename_i h0
    obtain ⟨h1, h2⟩ := bldE_spec h
    refine ⟨h0, h1, fun i => ?_⟩
    by_cases hi : i < l.length
    · have := okO_cases (h2 i hi)
      rw [gD_get hi, this.1, sc_mul]
    · unfold gD
      simp only [List.getD, List.getElem?_eq_none (Nat.le_of_not_lt hi), List.getElem?_eq_none (show vs.length ≤ i by omega), Option.getD_none]
      grind
/-- The greatest amount of a scaled column. -/
theorem scaled_size {vs l : DL} (h : scaledR vs = .ok l) : dy false 1 (-1) ≤ topA l l.length ∧ topA l l.length < dy false 1 0 := by
  obtain ⟨h0, h1, h2⟩ := scaledR_map h
  rw [h1, topA_tw h2]
  obtain ⟨i, _, e1, e2⟩ := (topA_or vs vs.length).resolve_left h0
  have hT : topD vs = abD (gD vs i) := e1
  rw [e1, hT, szD_ab e2, ← abD_tw]
  refine half_le (fun e => ?_) (by rw [szD_tw e2]; omega)
  have := f_tw e2 (-szD (gD vs i))
  rw [e, fN_zero] at this
  exact e2 (fN_eq_zero.1 this.2.1.symm)

theorem szD_bx {m l : Nat} {d : Dyadic} (h : Bx m l d) : -(l : Int) ≤ szD d ∧ szD d ≤ l + m := by
  have h1 := h.lo; have h2 := h.hi; have h3 := bitLen_le h.n
  unfold szD; omega
theorem Bx.tw {m l q : Nat} {d : Dyadic} (h : Bx m l d) {j : Int} (h1 : -(q : Int) ≤ j) (h2 : j ≤ q) : Bx m (l + q) (d * Go.V.tw j) := by
  by_cases h0 : d = 0
  · subst h0; rw [show (0 : Dyadic) * Go.V.tw j = 0 by grind]; exact Bx.zero
  · obtain ⟨_, e2, e3⟩ := f_tw h0 j
    have a := h.lo; have b := h.hi
    exact ⟨by rw [e2]; exact h.n, by rw [e3]; omega, by rw [e3]; omega⟩
theorem Bx.abs {m l : Nat} {d : Dyadic} (h : Bx m l d) : Bx m l (abD d) := by
  by_cases h0 : d = 0
  · subst h0; rw [abD_zero.2 rfl]; exact Bx.zero
  · unfold abD
    exact ⟨by rw [fN_odd (fN_mod h0)]; exact h.n, by rw [fE_odd (fN_mod h0)]; exact h.lo, by rw [fE_odd (fN_mod h0)]; exact h.hi⟩
theorem topA_bx {m l : Nat} {vs : DL} (h : ∀ i, Bx m l (gD vs i)) : ∀ n, Bx m l (topA vs n)
  | 0 => Bx.zero
  | n + 1 => by unfold topA; split; exact (h n).abs; exact topA_bx h n
theorem gD_all {Q : Dyadic → Prop} (h0 : Q 0) {l : DL} (h : ∀ x ∈ l, Q x) (i : Nat) : Q (gD l i) := by
  by_cases hi : i < l.length
  · exact h _ (gD_mem hi)
  · unfold gD; simp only [List.getD, List.getElem?_eq_none (Nat.le_of_not_lt hi), Option.getD_none]; exact h0
/-- The first column: by a power of two. -/
theorem first_col {p : Nat} {v l : DL} (h : upR p v [] = .ok l) : scaledR v = .ok l := h
theorem scaled_small {m q : Nat} {vs l : DL} (hv : ∀ i, Bx m q (gD vs i)) (h : scaledR vs = .ok l) (i k : Nat) : gD l i * gD vs k = gD l k * gD vs i ∧ Bx (m + m) (q + (q + m) + q) (gD l i * gD vs k) := by
  obtain ⟨h0, h1, h2⟩ := scaledR_map h
  have hs := szD_bx (topA_bx hv vs.length)
  rw [h2 i, h2 k]
  refine ⟨by grind, ?_⟩
  refine (Bx.tw (q := q + m) (hv i) ?_ ?_).mul (hv k) <;> (unfold topD; omega)
/-- A matrix's columns: each is scaled, the first one is of the first one handed in. -/
theorem colA_col {p : Nat} {a cols : List DL} {n : Nat} (h : colA p a n = .ok cols) : cols.length = n ∧ ∀ j, j < n → ∃ w, scaledR w = .ok (cols.getD j []) ∧ (j = 0 → w = colOf a 0) := by
  refine runE_all (t := cols) (fun n cols => cols.length = n ∧ ∀ j, j < n → ∃ w, scaledR w = .ok (cols.getD j []) ∧ (j = 0 → w = colOf a 0)) ⟨rfl, fun j hj => by cases hj⟩ (fun n s s' hq hs => ?_) n cols h
  obtain ⟨v, h1, h2⟩ := bnd_cases hs
  injection h2 with h2; subst h2
  obtain ⟨w, h3, h4⟩ := bnd_cases h1
  refine ⟨by simp [hq.1], fun j hj => ?_⟩
  by_cases e : j = n
  · subst e
    refine ⟨w, ?_, fun e0 => ?_⟩
    · rw [show (s ++ [v]).getD j [] = v by simp [List.getD, ← hq.1]]; exact h4
    · subst e0
      have : s = [] := List.eq_nil_of_length_eq_zero hq.1
      subst this
      injection h3 with h3; exact h3.symm
  · obtain ⟨w', h5, h6⟩ := hq.2 j (by omega)
    refine ⟨w', ?_, h6⟩
    rw [show (s ++ [v]).getD j [] = s.getD j [] by simp [List.getD, List.getElem?_append_left (show j < s.length by omega)]]
    exact h5

/-! ### Two columns at right angles -/
theorem Pb.mul {m k p : Nat} {a b : Dyadic} (ha : fN a < 2 ^ m) (hb : fN b < 2 ^ k) (h : m + k ≤ p) : Pb p (a * b) := by
  unfold Pb
  by_cases ha0 : a = 0
  · subst ha0; rw [show (0 : Dyadic) * b = 0 by grind, fN_zero]; exact Nat.two_pow_pos p
  · by_cases hb0 : b = 0
    · subst hb0; rw [show a * (0 : Dyadic) = 0 by grind, fN_zero]; exact Nat.two_pow_pos p
    · rw [(mul_odd ha0 hb0).2.1]
      exact Nat.lt_of_lt_of_le (Nat.mul_lt_mul'' ha hb) (by rw [← Nat.pow_add]; exact Nat.pow_le_pow_right (by decide) h)
theorem f_twN (x : Dyadic) (j : Int) : fN (x * tw j) = fN x := by
  by_cases h : x = 0
  · subst h; rw [show (0 : Dyadic) * tw j = 0 by grind]
  · exact (f_tw h j).2.1

def l2 (x y : Dyadic) : DL := [x, y]
theorem dot2 {p : Nat} {a b c d x y s : Dyadic} (h1 : mulO p a c = .ok x) (h2 : mulO p b d = .ok y) (h3 : okO (rd p false (x + y)) = .ok s) : dotR p [a, b] [c, d] = .ok s := by
  unfold dotR dotA
  show runE 0 (dotS p [a, b] [c, d]) 2 = .ok s
  have e1 : runE 0 (dotS p [a, b] [c, d]) 1 = .ok x := by
    rw [runE_step (n := 0) rfl]
    unfold dotS
    rw [show gD [a, b] 0 = a from rfl, show gD [c, d] 0 = c from rfl, h1]; rfl
  rw [runE_step e1]
  unfold dotS
  rw [show gD [a, b] 1 = b from rfl, show gD [c, d] 1 = d from rfl, h2]
  exact h3
theorem topD2 (x y : Dyadic) : topD [x, y] = if abD x < abD y then abD y else abD x := by
  show topA [x, y] 2 = _
  unfold topA
  unfold topA
  rw [show topA [x, y] 0 = 0 from rfl, show gD [x, y] 0 = x from rfl, show gD [x, y] 1 = y from rfl]
  have := abD_nn x; have := abD_nn y
  by_cases h : 0 < abD x
  · rw [if_pos h]
  · rw [if_neg h, show abD x = 0 by grind]

theorem bx6 {x : Dyadic} {m l : Nat} (h : Bx m l x) (hm : m ≤ 200) (hl : l ≤ 2000) : okO x = .ok x := okO_ok (h.ok (by omega) (by omega))
/-- (x, y) and (-y, x), few bits, not both 0: the columns are at right angles, exactly. -/
theorem right_cols {p l : Nat} {x y : Dyadic} (hp : 12 ≤ p) (hp2 : p ≤ 256) (hx : Bx 6 l x) (hy : Bx 6 l y) (hl : l ≤ 100) (h0 : ¬ (x = 0 ∧ y = 0)) : ∃ j : Int, -200 ≤ j ∧ j ≤ 200 ∧ colsR p [[x, -y], [y, x]] = .ok [[x * tw j, -y * tw j], [y * tw j, x * tw j]] := by
  have hy' : Bx 6 l (-y) := by
    by_cases e : y = 0
    · subst e; rw [show (-0 : Dyadic) = 0 by grind]; exact Bx.zero
    · obtain ⟨_, h2, h3⟩ := f_neg y e
      exact ⟨by rw [h2]; exact hy.n, by rw [h3]; exact hy.lo, by rw [h3]; exact hy.hi⟩
  have ht0 : topD [x, y] ≠ 0 := by
    rw [topD2]
    intro e
    have h1 := abD_nn x; have h2 := abD_nn y
    refine h0 ⟨abD_zero.1 ?_, abD_zero.1 ?_⟩ <;> (split at e <;> grind)
  have htt : topD [-y, x] = topD [x, y] := by
    rw [topD2, topD2, abD_neg]
    split <;> split <;> grind
  have hbT : Bx 6 l (topD [x, y]) := topA_bx (gD_all Bx.zero fun z hz => by
    rcases List.mem_cons.1 hz with e | hz
    · rw [e]; exact hx
    · rw [List.mem_singleton.1 hz]; exact hy) 2
  have hsz := szD_bx hbT
  refine ⟨-szD (topD [x, y]), by omega, by omega, ?_⟩
  generalize hj : -szD (topD [x, y]) = j
  have hjl : -((l + 6 : Nat) : Int) ≤ j ∧ j ≤ ((l + 6 : Nat) : Int) := by omega
  have bt : ∀ {z : Dyadic}, Bx 6 l z → Bx 6 (l + (l + 6)) (z * tw j) := fun h => h.tw hjl.1 hjl.2
  have sc2 : ∀ {u v : Dyadic}, Bx 6 l u → Bx 6 l v → topD [u, v] = topD [x, y] → scaledR [u, v] = .ok [u * tw j, v * tw j] := fun {u v} hu hv ht => by
    unfold scaledR
    rw [if_neg (by rw [ht]; exact ht0), ht, hj]
    have := bldE_of (f := fun i => scO (gD [u, v] i) j) (g := fun i => gD [u, v] i * tw j) (n := 2) fun i hi => by
      unfold scO
      rw [sc_mul]
      refine okO_ok (Bx.ok (m := 6) (l := l + (l + 6)) ?_ (by omega) (by omega))
      rcases (show i = 0 ∨ i = 1 by omega) with rfl | rfl
      · exact bt hu
      · exact bt hv
    exact this
  have mO : ∀ {u v : Dyadic}, Bx 6 l v → Bx 6 l u → mulO p (u * tw j) v = .ok (u * tw j * v) := fun {u v} hv hu => by
    unfold mulO
    rw [rd_fix (Pb.mul (by rw [f_twN]; exact hu.n) hv.n (by omega))]
    exact bx6 ((bt hu).mul hv) (by omega) (by omega)
  have mT : ∀ {u v : Dyadic}, Bx 6 l v → Bx 6 l u → mulO p (u * tw j) (v * tw j) = .ok (u * tw j * (v * tw j)) := fun {u v} hv hu => by
    unfold mulO
    rw [rd_fix (Pb.mul (by rw [f_twN]; exact hu.n) (by rw [f_twN]; exact hv.n) (by omega))]
    exact bx6 ((bt hu).mul (bt hv)) (by omega) (by omega)
  have dA : dotR p [x * tw j, y * tw j] [-y, x] = .ok 0 := dot2 (mO hy' hx) (mO hx hy) (by
    rw [show x * tw j * -y + y * tw j * x = 0 by grind, rd_zero]; exact okO_ok OkD.zero)
  -- the sum of the squares is above 0 and fits
  have hq : ∀ {z : Dyadic}, 0 ≤ z * tw j * (z * tw j) := fun {z} => by
    by_cases h : 0 ≤ z * tw j
    · exact nnm h h
    · have := nnm (a := -(z * tw j)) (b := -(z * tw j)) (by grind) (by grind)
      grind
  have hne : ∀ {z : Dyadic}, z ≠ 0 → z * tw j * (z * tw j) ≠ 0 := fun {z} hz e => by
    have h1 : z * tw j ≠ 0 := fun e1 => hz (fN_eq_zero.1 (by rw [← f_twN z j, e1, fN_zero]))
    have := (mul_odd h1 h1).2.1
    rw [e, fN_zero] at this
    have h2 := fN_mod h1
    rcases Nat.mul_eq_zero.1 this.symm with h3 | h3 <;> omega
  have pbq : ∀ {z : Dyadic}, Bx 6 l z → Pb p (z * tw j * (z * tw j)) := fun {z} hz => Pb.mul (by rw [f_twN]; exact hz.n) (by rw [f_twN]; exact hz.n) (by omega)
  have hok : OkD (rd p false (x * tw j * (x * tw j) + y * tw j * (y * tw j))) := by
    have sm : ∀ {z : Dyadic} {m q : Nat}, Bx m q z → Sm (m + q + q) q z := fun {z m q} hz => by
      have a := hz.lo; have b := hz.hi
      refine ⟨sg (fS z) (fN z * 2 ^ (fE z + q).toNat), ?_, ?_⟩
      · rw [show Dyadic.ofIntWithPrec (sg (fS z) (fN z * 2 ^ (fE z + q).toNat)) q = dy (fS z) (fN z * 2 ^ (fE z + q).toNat) (-(q : Int)) by unfold dy; rw [Int.neg_neg], dy_shl, show -(q : Int) + ((fE z + q).toNat : Int) = fE z by omega, dy_f]
      · rw [sg_abs, Nat.pow_add, Nat.pow_add, Nat.mul_assoc]
        refine Nat.lt_of_lt_of_le (Nat.mul_lt_mul_of_pos_right hz.n (Nat.two_pow_pos _)) (Nat.mul_le_mul_left _ ?_)
        rw [← Nat.pow_add]; exact Nat.pow_le_pow_right (by decide) (by omega)
    have := ((sm ((bt hx).mul (bt hx))).add (sm ((bt hy).mul (bt hy)))).bx
    exact (this.rd (by omega)).ok (by omega) (by omega)
  have hb0 : rd p false (x * tw j * (x * tw j) + y * tw j * (y * tw j)) ≠ 0 := by
    intro e
    have key : ∀ {c : Dyadic}, Pb p c → 0 ≤ c → c ≠ 0 → c ≤ x * tw j * (x * tw j) + y * tw j * (y * tw j) → False := fun {c} h1 h2 h3 h4 => by
      have := dn_max (p := p) (by omega) h1 h4
      rw [e] at this
      grind
    by_cases hx0 : x = 0
    · have hy0 : y ≠ 0 := fun e2 => h0 ⟨hx0, e2⟩
      exact key (pbq hy) hq (hne hy0) (by have := hq (z := x); grind)
    · exact key (pbq hx) hq (hne hx0) (by have := hq (z := y); grind)
  have dB : dotR p [x * tw j, y * tw j] [x * tw j, y * tw j] = .ok (rd p false (x * tw j * (x * tw j) + y * tw j * (y * tw j))) := dot2 (mT hx hx) (mT hy hy) (okO_ok hok)
  have aw : ∀ {v : Dyadic}, Bx 6 l v → ∀ u, awayO p v 0 u = .ok v := fun {v} hv u => by
    unfold awayO mulO
    rw [show (0 : Dyadic) * u = 0 by grind, rd_zero, okO_ok OkD.zero, bnd_ok, show v - 0 = v by grind, rd_fix (by unfold Pb; exact Nat.lt_of_lt_of_le hv.n (Nat.pow_le_pow_right (by decide) (by omega)))]
    exact bx6 hv (by omega) (by omega)
  have hL : lessR p [-y, x] [x * tw j, y * tw j] = .ok [-y, x] := by
    unfold lessR
    rw [dA, bnd_ok, dB, bnd_ok]
    unfold divO
    rw [if_neg hb0, quo_zero, rd_zero, okO_ok OkD.zero, bnd_ok]
    exact bldE_of (f := fun i => awayO p (gD [-y, x] i) 0 (gD [x * tw j, y * tw j] i)) (g := fun i => gD [-y, x] i) (n := 2) fun i hi => by
      rcases (show i = 0 ∨ i = 1 by omega) with rfl | rfl
      · exact aw hy' _
      · exact aw hx _
  have c1 : colA p [[x, -y], [y, x]] 1 = .ok [[x * tw j, y * tw j]] := by
    unfold colA
    rw [runE_step (n := 0) rfl]
    show bnd (upR p [x, y] []) _ = _
    rw [show upR p [x, y] [] = scaledR [x, y] from rfl, sc2 hx hy rfl]; rfl
  have c2 : colA p [[x, -y], [y, x]] 2 = .ok [[x * tw j, y * tw j], [-y * tw j, x * tw j]] := by
    unfold colA at c1 ⊢
    rw [runE_step c1]
    show bnd (upR p [-y, x] [[x * tw j, y * tw j]]) _ = _
    rw [show upR p [-y, x] [[x * tw j, y * tw j]] = bnd (lessR p [-y, x] [x * tw j, y * tw j]) scaledR from rfl, hL, bnd_ok, sc2 hy' hx htt]; rfl
  show bnd (colA p [[x, -y], [y, x]] 2) _ = _
  rw [c2]; rfl

end Go.V

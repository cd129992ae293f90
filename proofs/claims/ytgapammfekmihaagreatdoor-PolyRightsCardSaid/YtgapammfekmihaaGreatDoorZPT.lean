/- The document's numbers: trim, digit, over values as data. One digit less. What the concrete contracts give: the functions of package nat and of the library, over values as data. -/
import Derived.Test.YtgapammfekmihaaGreatDoorZPC
import Derived.Test.YtgapammfekmihaaGreatDoorZPM
set_option linter.unusedSimpArgs false
set_option linter.unusedVariables false
set_option maxRecDepth 100000
namespace Go.V
open Go Go.RowKit Go.Proofs
def intD : D → Int | .g (.lit (.int _ q)) => q | _ => 0

end Go.V
namespace Go.V
open Go Go.RowKit Go.Proofs

end Go.V
namespace Go.V
open Go Go.RowKit Go.Proofs

theorem rd_ws {I : CI} {H : Array Obj} {k : IntKind} {B : Nat} {v : Value} {xs : List Nat} (h : RdG I H (eS (eK k) xs) v) (hx : ∀ x ∈ xs, x < B) : Ws k B H v xs := by
  refine ⟨?_, hx⟩
  unfold eS at h
  generalize hE : xs.map (eK k) = els at h
  have hlen : els.length = xs.length := by rw [← hE]; simp
  cases h with
  | nil =>
    have : xs = [] := by have := hlen.symm; simpa using this
    subst this
    exact ⟨by simp, .inl ⟨⟨_, rfl⟩, rfl⟩⟩
  | nilA a =>
    have : xs = [] := by have := hlen.symm; simpa using this
    subst this
    exact ⟨by simp, .inl ⟨⟨_, rfl⟩, rfl⟩⟩
  | sl _ b off n cap s cur el fr f hn h1 h2 hb hl hc hr =>
    subst hn
    rw [hlen] at h1 h2 ⊢
    refine ⟨by omega, .inr ⟨b, off, cap, cur, el, fr, rfl, h1, hb, fun j hj => ?_⟩⟩
    have hj' : j < xs.length := by omega
    have he : els[j]? = some (eK k (xs.getD j 0)) := by rw [← hE, List.getElem?_map, getD_some hj']; rfl
    have h3 := (hc j _ 0 (.lit (.int k ((xs.getD j 0 : Nat) : Int))) he rfl).2
    have hs : s = 1 := (hl _ (List.mem_of_getElem? he)).symm
    have h4 := (hr j _ 0 (.lit (.int k ((xs.getD j 0 : Nat) : Int))) he rfl).lit_inv
    rw [hs, h4] at h3
    simpa using h3

theorem rd_w64 {I : CI} {H : Array Obj} {v : Value} {xs : List Nat} (h : RdD I H (W64 xs) v) (hx : B64 xs) : U64s H v xs := rd_ws h.g_inv hx
theorem own_rd {I : CI} {w w' : World} {el : TypeId} {k : IntKind} {B : Nat} {v : Value} {xs : List Nat} (h : OW el k B w' w.heap.size v xs) : RdG (nI I w w') w'.heap (eS (eK k) xs) v := by
  obtain ⟨h1, h2⟩ := h.own
  unfold eS
  rcases h2 with ⟨rfl, h0⟩ | ⟨g, cap, cur, rfl, hgb, hb, hn, hcm, hcs, htake⟩
  · have : xs = [] := List.eq_nil_of_length_eq_zero h0
    subst this
    exact .nil
  · have hlt : g < w'.heap.size := (Array.getElem?_eq_some_iff.1 hb).1
    have hat : ∀ (i : Nat) (es : List G), (xs.map (eK k))[i]? = some es → ∃ x, xs[i]? = some x ∧ es = eK k x := by
      intro i es he
      rw [List.getElem?_map] at he
      cases hx : xs[i]? with
      | none => rw [hx] at he; cases he
      | some x => rw [hx] at he; injection he with he; exact ⟨x, rfl, he.symm⟩
    have hcell : ∀ (i x : Nat), xs[i]? = some x → cur[i]? = some (.int k (x : Int)) := by
      intro i x hx
      have hi : i < xs.length := (List.getElem?_eq_some_iff.1 hx).1
      have h3 : (cur.toList.take (xs.length * 1))[i]? = (wc k xs)[i]? := by rw [htake]
      rw [List.getElem?_take, if_pos (by omega)] at h3
      simp only [Array.getElem?_toList] at h3
      rw [h3]
      simp [wc, hx]
    refine .sl _ g 0 _ cap 1 cur el (0, 0) (fun i _ => .int k ((xs.getD i 0 : Nat) : Int)) (by simp) (by simpa using hn) (by simpa using h.le) hb (fun es he => ?_) (fun i es j y he hg => ?_) (fun i es j y he hg => ?_)
    · obtain ⟨x, _, rfl⟩ := List.mem_map.1 he; rfl
    · obtain ⟨x, hx, rfl⟩ := hat i es he
      cases j with
      | zero =>
        refine ⟨.inr ⟨hgb, hlt⟩, ?_⟩
        have hi : i < xs.length := (List.getElem?_eq_some_iff.1 hx).1
        rw [getD_some hi] at hx
        injection hx with hx
        have := hcell i _ (getD_some hi)
        simpa using this
      | succ j => simp [eK] at hg
    · obtain ⟨x, hx, rfl⟩ := hat i es he
      cases j with
      | zero =>
        simp [eK] at hg
        subst hg
        have hi : i < xs.length := (List.getElem?_eq_some_iff.1 hx).1
        rw [getD_some hi] at hx
        injection hx with hx
        subst hx
        exact .lit _ rfl
      | succ j => simp [eK] at hg

theorem own_w64 {I : CI} {w w' : World} {v : Value} {xs : List Nat} (h : O64 w' w.heap.size v xs) : RdD (nI I w w') w'.heap (W64 xs) v := .g (own_rd h)

theorem gi_tab {I : CI} {w : World} (h : GI I w) : Tab w.heap := by
  have := h.gl _ (List.mem_singleton.2 rfl)
  cases this with
  | ip _ b o cur el fr f hb hc hr =>
    intro i hi
    have hg : ((List.range 64).map fun i => G.lit (.int .u8 ((Lib.deBruijn64tab.getD i 0 : Nat) : Int)))[i]? = some (.lit (.int .u8 ((Lib.deBruijn64tab.getD i 0 : Nat) : Int))) := by simp [hi]
    have h1 := (hc i _ hg).2
    rw [(hr i _ hg).lit_inv] at h1
    simp only [Nat.zero_add] at h1
    simp only [cellH, hb]
    simpa using h1

/-! ### Package nat -/
section
variable {xs ys : List Nat}

theorem p_Right (hx : B64 xs) : PC Tryz.prog 117 [W64 xs] fun d => d = bl (decide ((D64 (N64 xs)).length = xs.length)) := pc_lit fun w I vs hG hv => by
  obtain ⟨v, rfl, h⟩ := hv.one
  exact (nat_Right (rd_w64 h hx)).mono fun r w' ⟨hE, hr⟩ => ⟨hE, by rw [hr]; rfl, by rw [hr]; rfl⟩
theorem p_Bits (hx : B64 xs) (hl : xs.length ≤ 1099511627776) : PC Tryz.prog 97 [W64 xs] fun d => d = i64 (bitLen (N64 xs) : Nat) := pc_lit fun w I vs hG hv => by
  obtain ⟨v, rfl, h⟩ := hv.one
  exact (nat_Bits (rd_w64 h hx) (by omega)).mono fun r w' ⟨hE, hr⟩ => ⟨hE, by rw [hr]; rfl, by rw [hr]; rfl⟩
theorem p_Zeros (hx : B64 xs) (hl : xs.length ≤ 1099511627776) : PC Tryz.prog 98 [W64 xs] fun d => d = i64 (tz (N64 xs) : Nat) := pc_lit fun w I vs hG hv => by
  obtain ⟨v, rfl, h⟩ := hv.one
  exact (nat_Zeros (gi_tab hG) (rd_w64 h hx) (by omega)).mono fun r w' ⟨hE, hr⟩ => ⟨hE, by rw [hr]; rfl, by rw [hr]; rfl⟩
theorem p_Cmp (hx : B64 xs) (hy : B64 ys) (hl : xs.length ≤ 1099511627776) (hl' : ys.length ≤ 1099511627776) : PC Tryz.prog 131 [W64 xs, W64 ys] fun d => d = i64 (cmpI (N64 xs) (N64 ys)) := pc_lit fun w I vs hG hv => by
  obtain ⟨v, v', rfl, h, h'⟩ := hv.two
  exact (nat_Cmp (rd_w64 h hx) (rd_w64 h' hy) (by omega) (by omega)).mono fun r w' ⟨hE, hr⟩ => ⟨hE, by rw [hr]; rfl, by rw [hr]; rfl⟩
theorem p_Add (hx : B64 xs) (hy : B64 ys) (hl : xs.length ≤ 1099511627776) (hl' : ys.length ≤ 1099511627776) : PC Tryz.prog 95 [W64 xs, W64 ys] fun d => d = W64 (D64 (N64 xs + N64 ys)) := pc_new fun w I vs hG hv => by
  obtain ⟨v, v', rfl, h, h'⟩ := hv.two
  exact (nat_Add (rd_w64 h hx) (rd_w64 h' hy) hl hl').mono fun r w' ⟨hE, hr⟩ => ⟨hE, _, own_w64 hr, rfl⟩
theorem p_Sub (hx : B64 xs) (hy : B64 ys) (hl : xs.length ≤ 1099511627776) (hl' : ys.length ≤ 1099511627776) :
    PC Tryz.prog 96 [W64 xs, W64 ys] fun d => d = if N64 ys ≤ N64 xs then .tup [W64 (D64 (N64 xs - N64 ys)), bl true] else .tup [W64 [], bl false] := pc_new fun w I vs hG hv => by
  obtain ⟨v, v', rfl, h, h'⟩ := hv.two
  refine (nat_Sub (rd_w64 h hx) (rd_w64 h' hy) hl hl').mono ?_
  rintro r w' ⟨hE, ⟨hle, d, rfl, hd⟩ | ⟨hlt, rfl⟩⟩
  · exact ⟨hE, _, RdD.ofT (.cons (own_w64 hd) (.cons (.g (.lit _ rfl)) .nil)), by rw [if_pos hle]; rfl⟩
  · exact ⟨hE, _, RdD.ofT (.cons (.g .nil) (.cons (.g (.lit _ rfl)) .nil)), by rw [if_neg (by omega)]; rfl⟩
theorem p_Mul (hx : B64 xs) (hy : B64 ys) (hl : xs.length ≤ 1099511627776) (hl' : ys.length ≤ 1099511627776) : PC Tryz.prog 118 [W64 xs, W64 ys] fun d => d = W64 (D64 (N64 xs * N64 ys)) := pc_new fun w I vs hG hv => by
  obtain ⟨v, v', rfl, h, h'⟩ := hv.two
  exact (nat_Mul (rd_w64 h hx) (rd_w64 h' hy) hl hl').mono fun r w' ⟨hE, hr⟩ => ⟨hE, _, own_w64 hr, rfl⟩
theorem p_Up {n : Nat} (hx : B64 xs) (hl : xs.length ≤ 1099511627776) (hn : n ≤ 1099511627776) : PC Tryz.prog 94 [W64 xs, i64 n] fun d => d = W64 (D64 (N64 xs * 2 ^ n)) := pc_new fun w I vs hG hv => by
  obtain ⟨v, v', rfl, h, h'⟩ := hv.two
  obtain rfl := h'.lit_inv
  exact (nat_Up (rd_w64 h hx) hl hn).mono fun r w' ⟨hE, hr⟩ => ⟨hE, _, own_w64 hr, rfl⟩
theorem p_Down {n : Nat} (hx : B64 xs) (hl : xs.length ≤ 1099511627776) (hn : n ≤ 1099511627776) : PC Tryz.prog 99 [W64 xs, i64 n] fun d => d = W64 (D64 (N64 xs / 2 ^ n)) := pc_new fun w I vs hG hv => by
  obtain ⟨v, v', rfl, h, h'⟩ := hv.two
  obtain rfl := h'.lit_inv
  exact (nat_Down (rd_w64 h hx) hl hn).mono fun r w' ⟨hE, hr⟩ => ⟨hE, _, own_w64 hr, rfl⟩
end

/-! ### The document's numbers -/
theorem p_hWords {xs ys : List Nat} (hx : B64 xs) (hy : B64 ys) (hl : xs.length ≤ 1099511627776) (hl' : ys.length ≤ 1099511627776) : PC Tryz.prog 44 [W64 xs, W64 ys] fun d => d = bl (decide (xs = ys)) := pc_lit fun w I vs hG hv => by
  obtain ⟨v, v', rfl, h, h'⟩ := hv.two
  exact (h_Words (rd_w64 h hx) (rd_w64 h' hy) hl hl').mono fun r w' ⟨hE, hr⟩ => ⟨hE, by rw [hr]; rfl, by rw [hr]; rfl⟩

end Go.V

/- The statements' own small functions: few; words that tell a number. -/
import Derived.Test.YtilnmcabjkpohaaDoorA2
set_option linter.unusedSimpArgs false
set_option linter.unusedVariables false
set_option maxRecDepth 100000
namespace Go.V
open Go Go.RowKit Go.Proofs

theorem p_few {xss : List (List Nat)} (hl : xss.length ≤ 1000) : PC Tryd.prog 11 [WW xss] fun d => d = bl (decide (∀ xs ∈ xss, xs.length ≤ 40)) := by
  refine PB (rs := [.tmp 2]) Tryd.func11 ?_
  repeat (first | with_reducible refine pv_seq fun K hK => ?_ | ((with_reducible first | refine hK _ _ ?_ | (clear hK; refine hK _ _ ?_) | (clear hK; clear hK; refine hK _ _ ?_)); clear hK; try clear K) | refine W0 ?_ | exact Z | with_reducible intro b)
  have J : ∀ (e : DEnv) (S : Store), (∀ xs ∈ xss, xs.length ≤ 40) → K e S := by
    intro e S h
    repeat (first | with_reducible refine pv_seq fun K hK => ?_ | ((with_reducible first | refine hK _ _ ?_ | (clear hK; refine hK _ _ ?_) | (clear hK; clear hK; refine hK _ _ ?_)); clear hK; try clear K) | refine W0 ?_ | exact Z | with_reducible intro b)
    rw [decide_eq_true h]
  clear hK
  refine pv_loop (fun e S => ∃ i : Nat, i ≤ xss.length ∧ e 0 = WW xss ∧ e 3 = i64 i ∧ ∀ j, j < i → (xss.getD j []).length ≤ 40) (fun e _ => xss.length - (intD (e 3)).toNat) ?_ ?_
  · exact ⟨0, Nat.zero_le _, Z, Z, fun j hj => by omega⟩
  · rintro e S ⟨i, hi, g0, g3, hz⟩
    have ft := And.intro g0 g3
    repeat (first | with_reducible refine pv_seq fun K hK => ?_ | ((with_reducible first | refine hK _ _ ?_ | (clear hK; refine hK _ _ ?_) | (clear hK; clear hK; refine hK _ _ ?_)); clear hK; try clear K) | refine W0 ?_ | exact Z | with_reducible intro b)
    refine pv_cdD (fun ht1 => ?_) (fun ht => ?_)
    · repeat (first | with_reducible refine pv_seq fun K hK => ?_ | ((with_reducible first | refine hK _ _ ?_ | (clear hK; refine hK _ _ ?_) | (clear hK; clear hK; refine hK _ _ ?_)); clear hK; try clear K) | refine W0 ?_ | exact Z | with_reducible intro b)
      refine pv_cdD (fun ht => ?_) (fun ht => ?_)
      · repeat (first | with_reducible refine pv_seq fun K hK => ?_ | ((with_reducible first | refine hK _ _ ?_ | (clear hK; refine hK _ _ ?_) | (clear hK; clear hK; refine hK _ _ ?_)); clear hK; try clear K) | refine W0 ?_ | exact Z | with_reducible intro b)
        rw [decide_eq_false]
        intro h
        have hm : xss.getD i [] ∈ xss := by simp [List.getD, List.getElem?_eq_getElem ht1]
        have := h _ hm
        omega
      · repeat (first | with_reducible refine pv_seq fun K hK => ?_ | ((with_reducible first | refine hK _ _ ?_ | (clear hK; refine hK _ _ ?_) | (clear hK; clear hK; refine hK _ _ ?_)); clear hK; try clear K) | refine W0 ?_ | exact Z | with_reducible intro b)
        refine ⟨⟨i + 1, by omega, rfl, fun j hj => ?_⟩, by simp only [intD]; omega⟩
        rcases Nat.lt_or_ge j i with h | h
        · exact hz j h
        · obtain rfl : j = i := by omega
          omega
    · repeat (first | with_reducible refine pv_seq fun K hK => ?_ | ((with_reducible first | refine hK _ _ ?_ | (clear hK; refine hK _ _ ?_) | (clear hK; clear hK; refine hK _ _ ?_)); clear hK; try clear K) | refine W0 ?_ | exact Z | with_reducible intro b)
      refine J _ _ fun xs hx => ?_
      obtain ⟨j, hj⟩ := List.mem_iff_getElem?.1 hx
      have hjl : j < xss.length := (List.getElem?_eq_some_iff.1 hj).1
      have := hz j (by omega)
      simpa [List.getD, hj] using this

def Mw (k : Nat) : Nat := 18446744073709551616 ^ k
theorem Mw_add {a b k : Nat} (ha : a < Mw k) (hb : b < Mw k) : a + b < Mw (k + 1) := by
  have : Mw (k + 1) = Mw k * 18446744073709551616 := Nat.pow_succ ..
  omega
theorem Mw_mul {a b k j : Nat} (ha : a < Mw k) (hb : b < Mw j) : a * b < Mw (k + j) := by
  have : Mw (k + j) = Mw k * Mw j := Nat.pow_add ..
  rw [this]; exact Nat.mul_lt_mul'' ha hb
theorem Mw_mono {k j : Nat} (h : k ≤ j) : Mw k ≤ Mw j := Nat.pow_le_pow_right (by decide) h
theorem Mw_up {a k j : Nat} (ha : a < Mw k) (h : k ≤ j) : a < Mw j := Nat.lt_of_lt_of_le ha (Mw_mono h)

/-- Words that tell a number. -/
def Wd (xs : List Nat) (n : Nat) : Prop := B64 xs ∧ N64 xs = n ∧ xs.length ≤ 1099511627776
theorem Wd.d {n : Nat} (h : n < Mw 1000) : Wd (D64 n) n := ⟨digs_lt two64 n, nval_digs two64 n, Nat.le_trans (digs_len_le two64 h) (by decide)⟩
theorem Wd.x {xs : List Nat} (h : B64 xs) (hl : xs.length ≤ 40) : Wd xs (N64 xs) := ⟨h, rfl, by omega⟩
theorem nlt {xs : List Nat} (h : B64 xs) (hl : xs.length ≤ 40) : N64 xs < Mw 40 := Nat.lt_of_lt_of_le (nval_lt (by decide) xs h) (Mw_mono hl)
theorem w_Add {xs ys : List Nat} {m n : Nat} (hx : Wd xs m) (hy : Wd ys n) : PC Tryd.prog 24 [W64 xs, W64 ys] fun d => d = W64 (D64 (m + n)) := by
  obtain ⟨a, rfl, b⟩ := hx; obtain ⟨a', rfl, b'⟩ := hy
  exact p_Add a a' b b'
theorem w_Mul {xs ys : List Nat} {m n : Nat} (hx : Wd xs m) (hy : Wd ys n) : PC Tryd.prog 28 [W64 xs, W64 ys] fun d => d = W64 (D64 (m * n)) := by
  obtain ⟨a, rfl, b⟩ := hx; obtain ⟨a', rfl, b'⟩ := hy
  exact p_Mul a a' b b'
theorem w_Right {n : Nat} : PC Tryd.prog 13 [W64 (D64 n)] fun d => d = bl true :=
  (p_Right (digs_lt two64 n)).mono fun d hd => hd.trans (congrArg bl (decide_eq_true (by rw [N64, nval_digs two64 n])))
theorem w_Words {m n : Nat} (hm : m < Mw 1000) (h : m = n) : PC Tryd.prog 14 [W64 (D64 m), W64 (D64 n)] fun d => d = bl true := by
  subst h
  exact (p_hWords (Wd.d hm).1 (Wd.d hm).1 (Wd.d hm).2.2 (Wd.d hm).2.2).mono fun d hd => hd.trans (congrArg bl (decide_eq_true rfl))

end Go.V

/- The statements' own small functions: known. -/
import Derived.Test.YtilnmcabjkpohaaDoorPT
set_option linter.unusedSimpArgs false
set_option linter.unusedVariables false
set_option maxRecDepth 100000
namespace Go.V
open Go Go.RowKit Go.Proofs

theorem D64_is {n : Nat} {xs : List Nat} (h : N64 xs = n) (hb : B64 xs) (ht : ∀ x, xs.getLast? = some x → x ≠ 0) : D64 n = xs := by rw [← h]; exact digs_nval two64 xs hb ht

set_option maxHeartbeats 1000000 in
theorem p_known : PC Tryd.prog 10 [] fun d => d = bl true := by
  have q1 : PC Tryd.prog _ _ fun d => d = .tup [W64 [3], W64 [1], bl true] := ((p_DivH (xs := [7]) (ys := [2]) (by decide) (by decide) (by decide) (by decide) (.inl (by rw [D64_is (n := N64 [2]) (xs := [2]) rfl (by decide) (by simp)]; decide))).mono fun d hd => hd.trans (by rw [if_neg (by decide), D64_is (n := N64 [7] / N64 [2]) (xs := [3]) (by decide) (by decide) (by simp), D64_is (n := N64 [7] % N64 [2]) (xs := [1]) (by decide) (by decide) (by simp)]))
  have q2 : PC Tryd.prog _ _ fun d => d = .tup [W64 [2], bl true] := ((p_Sub (xs := [5]) (ys := [3]) (by decide) (by decide) (by decide) (by decide)).mono fun d hd => hd.trans (by rw [if_pos (by decide), D64_is (n := N64 [5] - N64 [3]) (xs := [2]) (by decide) (by decide) (by simp)]))
  have q3 : PC Tryd.prog _ _ fun d => d = W64 [0, 1] := ((p_Add (xs := [18446744073709551615]) (ys := [1]) (by decide) (by decide) (by decide) (by decide)).mono fun d hd => hd.trans (by rw [D64_is (n := N64 [18446744073709551615] + N64 [1]) (xs := [0, 1]) (by decide) (by decide) (by simp)]))
  have q4 : PC Tryd.prog _ _ fun d => d = bl true := ((p_hWords (xs := [0, 1]) (ys := [0, 1]) (by decide) (by decide) (by decide) (by decide)).mono fun d hd => hd)
  have q5 : PC Tryd.prog _ _ fun d => d = W64 [2] := ((p_Shift (xs := [5]) (n := -1) (by decide) (by decide)).mono fun d hd => hd.trans (by rw [D64_is (n := shiftN (N64 [5]) (-1)) (xs := [2]) (by decide) (by decide) (by simp)]))
  have q6 : PC Tryd.prog _ _ fun d => d = bl true := ((p_hWords (xs := [2]) (ys := [2]) (by decide) (by decide) (by decide) (by decide)).mono fun d hd => hd)
  have q7 : PC Tryd.prog _ _ fun d => d = bl true := ((p_hWords (xs := [3]) (ys := [3]) (by decide) (by decide) (by decide) (by decide)).mono fun d hd => hd)
  have q8 : PC Tryd.prog _ _ fun d => d = bl true := ((p_hWords (xs := [1]) (ys := [1]) (by decide) (by decide) (by decide) (by decide)).mono fun d hd => hd)
  have q9 : PC Tryd.prog _ _ fun d => d = bl true := ((p_hWords (xs := [2]) (ys := [2]) (by decide) (by decide) (by decide) (by decide)).mono fun d hd => hd)
  have q10 : PC Tryd.prog _ _ fun d => d = W64 [12] := ((p_Mul (xs := [3]) (ys := [4]) (by decide) (by decide) (by decide) (by decide)).mono fun d hd => hd.trans (by rw [D64_is (n := N64 [3] * N64 [4]) (xs := [12]) (by decide) (by decide) (by simp)]))
  have q11 : PC Tryd.prog _ _ fun d => d = bl true := ((p_hWords (xs := [12]) (ys := [12]) (by decide) (by decide) (by decide) (by decide)).mono fun d hd => hd)
  have q12 : PC Tryd.prog _ _ fun d => d = i64 1 := ((p_Cmp (xs := [2]) (ys := [1]) (by decide) (by decide) (by decide) (by decide)).mono fun d hd => hd.trans (congrArg i64 (by decide)))
  have q13 : PC Tryd.prog _ _ fun d => d = i64 3 := ((p_Bits (xs := [4]) (by decide) (by decide)).mono fun d hd => hd.trans (by rw [show bitLen (N64 [4]) = 3 from by decide]; rfl))
  have q14 : PC Tryd.prog _ _ fun d => d = i64 2 := ((p_Zeros (xs := [4]) (by decide) (by decide)).mono fun d hd => hd.trans (by rw [show tz (N64 [4]) = 2 from tz_form (k := 2) (m := 0)]; rfl))
  have q15 : PC Tryd.prog _ _ fun d => d = bl true := ((p_Right (xs := [1]) (by decide)).mono fun d hd => hd.trans (by rw [D64_is (n := N64 [1]) (xs := [1]) rfl (by decide) (by simp)]; rfl))
  have q16 : PC Tryd.prog _ _ fun d => d = W64 [1] := ((p_Trim (xs := [1, 0]) (by decide) (by decide)).mono fun d hd => hd.trans (by rw [D64_is (n := N64 [1, 0]) (xs := [1]) (by decide) (by decide) (by simp)]))
  have q17 : PC Tryd.prog _ _ fun d => d = bl true := ((p_hWords (xs := [1]) (ys := [1]) (by decide) (by decide) (by decide) (by decide)).mono fun d hd => hd)
  refine PB (rs := [.tmp 0]) Tryd.func10 ?_
  exact Wk

end Go.V

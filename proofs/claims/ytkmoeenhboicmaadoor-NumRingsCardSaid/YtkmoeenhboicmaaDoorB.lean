/- Rows of words as data, and what the concrete contracts give. -/
import Derived.Test.YtkmoeenhboicmaaDoorT
import Derived.Test.YtkmoeenhboicmaaDoorR1
set_option linter.unusedSimpArgs false
set_option linter.unusedVariables false
namespace Go.V
open Go Go.RowKit Go.Proofs

def eK (k : IntKind) (x : Nat) : List G := [.lit (.int k (x : Int))]
theorem eK_len {k : IntKind} {x : Nat} : (eK k x).length = 1 := rfl
theorem eK_len1 {k : IntKind} {xs : List Nat} : ∀ x ∈ xs, (eK k x).length = 1 := fun _ _ => rfl
theorem eK_map {k : IntKind} {x : Nat} : (eK k x).map D.g = [.g (.lit (.int k (x : Int)))] := rfl
/-- Words, digits of 32 bits, as data. -/
def W64 (xs : List Nat) : D := .g (eS (eK .u64) xs)
def W32 (xs : List Nat) : D := .g (eS (eK .u32) xs)
abbrev B64 (xs : List Nat) : Prop := ∀ x ∈ xs, x < 18446744073709551616
abbrev B32 (xs : List Nat) : Prop := ∀ x ∈ xs, x < 4294967296
def i64 (n : Int) : D := .g (.lit (.int .i64 n))
def bl (b : Bool) : D := .g (.lit (.bool b))

theorem getD_some {xs : List Nat} {i : Nat} (h : i < xs.length) : xs[i]? = some (xs.getD i 0) := by simp [List.getD, List.getElem?_eq_getElem h]
theorem get_lt {B : Nat} {xs : List Nat} (h : ∀ x ∈ xs, x < B) (hB : 0 < B) (i : Nat) : xs.getD i 0 < B := by
  by_cases hi : i < xs.length
  · simp only [List.getD, List.getElem?_eq_getElem hi, Option.getD_some]; exact h _ (List.getElem_mem hi)
  · simp only [List.getD, List.getElem?_eq_none (Nat.le_of_not_lt hi), Option.getD_none]; exact hB

theorem W64_l1 {i : Int} (h : 0 ≤ i) : D.g (.sl [[.lit (.int .u64 i)]]) = W64 [i.toNat] := by
  obtain ⟨n, rfl⟩ := Int.eq_ofNat_of_zero_le h; rfl
theorem W64_l2 {i j : Int} (h : 0 ≤ i) (h' : 0 ≤ j) : D.g (.sl [[.lit (.int .u64 i)], [.lit (.int .u64 j)]]) = W64 [i.toNat, j.toNat] := by
  obtain ⟨n, rfl⟩ := Int.eq_ofNat_of_zero_le h
  obtain ⟨m, rfl⟩ := Int.eq_ofNat_of_zero_le h'; rfl
theorem W32_l1 {i : Int} (h : 0 ≤ i) : D.g (.sl [[.lit (.int .u32 i)]]) = W32 [i.toNat] := by
  obtain ⟨n, rfl⟩ := Int.eq_ofNat_of_zero_le h; rfl
/-- A list of rows of words. -/
def eW (xs : List Nat) : List G := [eS (eK .u64) xs]
def WW (xss : List (List Nat)) : D := .g (eS eW xss)
theorem toG_W64 {xs : List Nat} : (W64 xs).toG = some (eS (eK .u64) xs) := rfl
theorem WW_1 {a : List Nat} : D.g (.sl [[eS (eK .u64) a]]) = WW [a] := rfl
theorem WW_2 {a b : List Nat} : D.g (.sl [[eS (eK .u64) a], [eS (eK .u64) b]]) = WW [a, b] := rfl
theorem WW_3 {a b c : List Nat} : D.g (.sl [[eS (eK .u64) a], [eS (eK .u64) b], [eS (eK .u64) c]]) = WW [a, b, c] := rfl
theorem lenD_WW {xss : List (List Nat)} {K : D → Prop} : lenD (WW xss) K = K (.g (.lit (.int .i64 xss.length))) := lenD_eS
theorem ixD_WW {xss : List (List Nat)} {i : Int} {K : D → Prop} : ixD 1 (WW xss) i K = (0 ≤ i ∧ i < xss.length ∧ K (.ip [eS (eK .u64) (xss.getD i.toNat [])])) := by
  rw [WW, ixD_eS, eq_iff_iff]
  constructor
  · rintro ⟨h0, h1, h2⟩
    refine ⟨h0, h1, ?_⟩
    have : xss[i.toNat]? = some (xss.getD i.toNat []) := by simp [List.getD, List.getElem?_eq_getElem (show i.toNat < xss.length by omega)]
    rw [this] at h2; exact h2.2
  · rintro ⟨h0, h1, h2⟩
    refine ⟨h0, h1, ?_⟩
    have : xss[i.toNat]? = some (xss.getD i.toNat []) := by simp [List.getD, List.getElem?_eq_getElem (show i.toNat < xss.length by omega)]
    rw [this]; exact ⟨rfl, h2⟩
theorem rS_w {k : IntKind} {x : Nat} : [[D.g (G.lit (Value.int k (x : Int)))]] = rS (eK k) [x] := rfl
section
variable {S : Store} {xs : List Nat}
theorem lenD_W64 {K : D → Prop} : lenD (W64 xs) K = K (.g (.lit (.int .i64 xs.length))) := lenD_eS
theorem lenD_W32 {K : D → Prop} : lenD (W32 xs) K = K (.g (.lit (.int .i64 xs.length))) := lenD_eS
theorem ixD_W64 {i : Int} {K : D → Prop} : ixD 1 (W64 xs) i K = (0 ≤ i ∧ i < xs.length ∧ K (.ip (eK .u64 (xs.getD i.toNat 0)))) := by
  rw [W64, ixD_eS, eq_iff_iff]
  constructor
  · rintro ⟨h0, h1, h2⟩
    refine ⟨h0, h1, ?_⟩
    rw [getD_some (by omega)] at h2; exact h2.2
  · rintro ⟨h0, h1, h2⟩
    refine ⟨h0, h1, ?_⟩
    rw [getD_some (by omega)]; exact ⟨rfl, h2⟩
theorem ixD_W32 {i : Int} {K : D → Prop} : ixD 1 (W32 xs) i K = (0 ≤ i ∧ i < xs.length ∧ K (.ip (eK .u32 (xs.getD i.toNat 0)))) := by
  rw [W32, ixD_eS, eq_iff_iff]
  constructor
  · rintro ⟨h0, h1, h2⟩
    refine ⟨h0, h1, ?_⟩
    rw [getD_some (by omega)] at h2; exact h2.2
  · rintro ⟨h0, h1, h2⟩
    refine ⟨h0, h1, ?_⟩
    rw [getD_some (by omega)]; exact ⟨rfl, h2⟩
theorem slD_W64 {lo hi mx : Option D} {K : D → Prop} : slD 1 (W64 xs) lo hi mx K = bndD lo 0 fun l => bndD hi xs.length fun h => 0 ≤ l ∧ l ≤ h ∧ h ≤ xs.length ∧ (mx.isSome = true → mx = hi) ∧ K (W64 ((xs.take h.toNat).drop l.toNat)) := slD_eS eK_len1
theorem slD_W32 {lo hi mx : Option D} {K : D → Prop} : slD 1 (W32 xs) lo hi mx K = bndD lo 0 fun l => bndD hi xs.length fun h => 0 ≤ l ∧ l ≤ h ∧ h ≤ xs.length ∧ (mx.isSome = true → mx = hi) ∧ K (W32 ((xs.take h.toNat).drop l.toNat)) := slD_eS eK_len1
theorem coeD_W64 {K : D → Store → Prop} : coeD (W64 xs) S K = K (W64 xs) S := rfl
theorem coeD_W32 {K : D → Store → Prop} : coeD (W32 xs) S K = K (W32 xs) S := rfl
theorem coeC_W64 {K : D → Store → Prop} : coeC (W64 xs) S K = K (W64 xs) S := rfl
theorem coeC_W32 {K : D → Store → Prop} : coeC (W32 xs) S K = K (W32 xs) S := rfl
theorem srcD_W64 {K : List (List D) → Prop} : srcD S 1 (W64 xs) K = K (rS (eK .u64) xs) := srcD_eS eK_len1
theorem srcD_W32 {K : List (List D) → Prop} : srcD S 1 (W32 xs) K = K (rS (eK .u32) xs) := srcD_eS eK_len1
theorem W64_nil : D.g (.sl []) = W64 [] := rfl
theorem W32_nil : D.g (.sl []) = W32 [] := rfl
theorem one_W64 : (W64 xs).one = true := rfl
theorem one_W32 : (W32 xs).one = true := rfl
theorem cells_W64 : (W64 xs).cells = [W64 xs] := rfl
theorem cells_W32 : (W32 xs).cells = [W32 xs] := rfl
end

attribute [go_sem ↓] lenD_W64 lenD_WW ixD_WW lenD_W32 ixD_W64 ixD_W32 slD_W64 slD_W32 srcD_W64 srcD_W32
attribute [go_sem] lenD_W64 lenD_WW ixD_WW lenD_W32 ixD_W64 ixD_W32 slD_W64 slD_W32 srcD_W64 srcD_W32 i64 bl coeD_W64 coeD_W32 coeC_W64 coeC_W32 W64_nil W32_nil one_W64 one_W32 cells_W64 cells_W32 eK_map
attribute [go_sem] pureLL pureL tg_g tg_nil Nat.zero_add Nat.le_refl W64_l1 W64_l2 W32_l1 toG_W64 WW_1 WW_2 WW_3

end Go.V

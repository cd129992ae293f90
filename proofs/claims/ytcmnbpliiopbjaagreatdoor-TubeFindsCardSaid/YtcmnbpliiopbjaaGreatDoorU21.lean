/- Package tube over values as data: all pieces with a time of a span, and the first one with a time, for right pieces. -/
import Derived.Test.YtcmnbpliiopbjaaGreatDoorU19
set_option linter.unusedSimpArgs false
set_option linter.unusedVariables false
set_option maxRecDepth 100000
namespace Go.V
open Go Go.RowKit Go.Proofs

/-- The pieces, if they are a tube. -/
def ownL (l : List Sg) : List Sg := if tubeB l then l else []
theorem ownL_t {l : List Sg} (h : tubeB l = true) : ownL l = l := by unfold ownL; rw [h]; rfl
theorem ownL_f {l : List Sg} (h : tubeB l = false) : ownL l = [] := by unfold ownL; rw [h]; rfl
theorem ownL_mem {l : List Sg} {s : Sg} (h : s ∈ ownL l) : s ∈ l := by
  unfold ownL at h
  split at h
  · exact h
  · cases h
theorem ownL_len {l : List Sg} : (ownL l).length ≤ l.length := by unfold ownL; split <;> simp
theorem OkB.l2 {l : List Iv} (h : OkB l) (hn : l.length ≤ 100000) : OkL2 l := ⟨hn, fun a ha => by have := (h a ha).1.lo.len; have := (h a ha).1.hi.len; omega⟩
theorem OkP.cp {s : Sg} (h : OkP s) : PC Tryz.prog 41 [SEG s] fun d => d = SEG s :=
  p_Copied (by have := h.a.len; omega) (by have := h.b.len; omega) (h.bx.l2 h.n)
theorem p_EachS {l : List Sg} {lo hi : Nu} (ll : l.length ≤ 100000) (ga : ∀ s ∈ l, OkP s) (o1 : Wl 65536 lo) (o2 : Wl 65536 hi) (r1 : rightB lo = true) (r2 : rightB hi = true) :
    PC Tryz.prog 18 [SS l, NU lo, NU hi] fun d => d = .fn 42 [] [.ip [eS eG (ownL l)], .ip (eU lo), .ip (eU hi)] := by
  have pA := p_nRight o1.b
  have pB := p_nRight o2.b
  rw [r1] at pA
  rw [r2] at pB
  have := p_Each (l := l) ll (by have := o1.len; omega) (by have := o2.len; omega) (p_tRight ll ga) pA pB fun s hs => (ga s hs).cp
  rw [Bool.and_true, Bool.and_true] at this
  exact this
theorem p_EachI {l : List Sg} {lo hi : Nu} (ll : l.length ≤ 100000) (ga : ∀ s ∈ l, OkP s) (o1 : Wl 65536 lo) (o2 : Wl 65536 hi) (r1 : rightB lo = true) (r2 : rightB hi = true) :
    Iter Tryz.prog 42 [.ip [eS eG (ownL l)], .ip (eU lo), .ip (eU hi)] (eachL lo hi (ownL l)) :=
  p_eachIt (by have := ownL_len (l := l); omega) o1 o2 r1 r2 (fun s hs => (ga s (ownL_mem hs)).toOkG) fun s hs => (ga s (ownL_mem hs)).cp
theorem p_FindS {l : List Sg} {t : Nu} (ll : l.length ≤ 100000) (ga : ∀ s ∈ l, OkP s) (o : Wl 65536 t) (r : rightB t = true) : PC Tryz.prog 11 [SS l, NU t] fun d => d = fndD (firstS t (ownL l)) := by
  have pA := p_nRight o.b
  rw [r] at pA
  exact p_Find pA (p_EachS ll ga o o r r) (p_EachI ll ga o o r r)
/-- Natural numbers as ints. -/
def NI (xs : List Nat) : D := .g (eS (eK .i64) xs)
theorem lenD_NI {xs : List Nat} {K : D → Prop} : lenD (.g (eS (eK .i64) xs)) K = K (.g (.lit (.int .i64 xs.length))) := lenD_eS
theorem ixD_NI {xs : List Nat} {i : Int} {K : D → Prop} : ixD 1 (.g (eS (eK .i64) xs)) i K = (0 ≤ i ∧ i < xs.length ∧ optA xs[i.toNat]? fun x => K (.ip [.lit (.int .i64 (x : Int))])) := by
  rw [ixD_eS]
  cases xs[i.toNat]? <;> simp [optA, eK]
attribute [go_sem ↓] lenD_NI ixD_NI
attribute [go_sem] lenD_NI ixD_NI eK_len
theorem rS_n {xs : List Nat} {i : Nat} : rS (eK .i64) xs ++ [[i64 i]] = rS (eK .i64) (xs ++ [i]) := by rw [← rS_app]; rfl
theorem allI_refl {p : Iv → Iv → Bool} (h : ∀ a, p a a = true) (l : List Iv) : allI p l l = true := by
  unfold allI
  rw [decide_eq_true rfl, Bool.true_and]
  exact decide_eq_true fun i _ => h _
theorem sameG_refl (s : Sg) : sameG s s = true := by
  unfold sameG
  rw [allI_refl (fun a => by unfold sameI; rw [decide_eq_true rfl, decide_eq_true rfl]; rfl)]
  simp
end Go.V

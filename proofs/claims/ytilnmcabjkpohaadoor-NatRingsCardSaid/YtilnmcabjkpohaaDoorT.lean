/- The program's types: sizes, places, zero values. -/
import Derived.Test.YtilnmcabjkpohaaDoorRows
import Derived.Test.YtilnmcabjkpohaaDoorO2
set_option linter.unusedSimpArgs false
set_option linter.unusedVariables false
namespace Go.V
open Go Go.RowKit Go.Proofs

theorem ty_b_4 : (Tryd.prog).underlying 4 = some .bool := by kernel_rfl
theorem ty_c_22 {l : List D} {K : D → Prop} : cellsD Tryd.prog 22 l K = optD l[0]? K := cellsD_one ⟨by kernel_rfl, by kernel_rfl⟩
theorem ty_c_27 {l : List D} {K : D → Prop} : cellsD Tryd.prog 27 l K = optD l[0]? K := cellsD_one ⟨by kernel_rfl, by kernel_rfl⟩
theorem ty_c_51 {l : List D} {K : D → Prop} : cellsD Tryd.prog 51 l K = optD l[0]? K := cellsD_one ⟨by kernel_rfl, by kernel_rfl⟩
theorem ty_l_22 : slS Tryd.prog 22 = some 1 := by kernel_rfl
theorem ty_l_25 : slS Tryd.prog 25 = some 1 := by kernel_rfl
theorem ty_l_50 : slS Tryd.prog 50 = some 1 := by kernel_rfl
theorem ty_q_22 : slZ Tryd.prog 22 = some ⟨27, 1, 8, [.g (.lit (.int .u64 0))]⟩ := by kernel_rfl
theorem ty_q_25 : slZ Tryd.prog 25 = some ⟨51, 1, 4, [.g (.lit (.int .u32 0))]⟩ := by kernel_rfl
theorem ty_q_50 : slZ Tryd.prog 50 = some ⟨22, 1, 24, [.nil]⟩ := by kernel_rfl
theorem ty_s_27 {off : Nat} {x : D} {es : List D} {K : List D → Prop} : stCells Tryd.prog 27 off x es K = (x.one = true ∧ off < es.length ∧ K (es.set off x)) := stCells_one ⟨by kernel_rfl, by kernel_rfl⟩
theorem ty_s_51 {off : Nat} {x : D} {es : List D} {K : List D → Prop} : stCells Tryd.prog 51 off x es K = (x.one = true ∧ off < es.length ∧ K (es.set off x)) := stCells_one ⟨by kernel_rfl, by kernel_rfl⟩
theorem ty_v_27_51 {k' : IntKind} {n : Int} {K : Value → Prop} : pconv Tryd.prog 27 51 (.int k' n) K = K (.int .u32 (IntKind.u32.wrap n)) := pconv_is (by kernel_rfl) (by kernel_rfl)
theorem ty_v_5_3 {k' : IntKind} {n : Int} {K : Value → Prop} : pconv Tryd.prog 5 3 (.int k' n) K = K (.int .i64 (IntKind.i64.wrap n)) := pconv_is (by kernel_rfl) (by kernel_rfl)
theorem ty_v_51_27 {k' : IntKind} {n : Int} {K : Value → Prop} : pconv Tryd.prog 51 27 (.int k' n) K = K (.int .u64 (IntKind.u64.wrap n)) := pconv_is (by kernel_rfl) (by kernel_rfl)

end Go.V

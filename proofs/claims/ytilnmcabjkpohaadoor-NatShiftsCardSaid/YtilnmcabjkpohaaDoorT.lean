/- The program's types: sizes, places, zero values. -/
import Derived.Test.YtilnmcabjkpohaaDoorRows
import Derived.Test.YtilnmcabjkpohaaDoorO2
set_option linter.unusedSimpArgs false
set_option linter.unusedVariables false
namespace Go.V
open Go Go.RowKit Go.Proofs

variable {N : DEnv → Store → Prop} {e : DEnv} {S : Store} {d : Option Nat} {t : TypeId} {r : List Ci} {r' : List (Option Ci × Nat)}
theorem ty_b_4 : (Tryd.prog).underlying 4 = some .bool := by kernel_rfl
theorem ty_c_22 {l : List D} {K : D → Prop} : cellsD Tryd.prog 22 l K = optD l[0]? K := cellsD_one ⟨by kernel_rfl, by kernel_rfl⟩
theorem ty_c_27 {l : List D} {K : D → Prop} : cellsD Tryd.prog 27 l K = optD l[0]? K := cellsD_one ⟨by kernel_rfl, by kernel_rfl⟩
theorem ty_c_51 {l : List D} {K : D → Prop} : cellsD Tryd.prog 51 l K = optD l[0]? K := cellsD_one ⟨by kernel_rfl, by kernel_rfl⟩
theorem ty_l_22 : slS Tryd.prog 22 = some 1 := by kernel_rfl
theorem ty_l_22_rv_slice {x : Operand} {lo hi mx : Option Operand} : runV Tryd.prog N (⟨d, none, .slice 22 x lo hi mx, t⟩ :: r) e S = slD 1 (pev e x) (lo.map (pev e)) (hi.map (pev e)) (mx.map (pev e)) (Kq (Kr Tryd.prog N r e d) S) := rv_slice ty_l_22
theorem ty_l_22_rd0_slice {x : Operand} {lo hi mx : Option Operand} : runD Tryd.prog N ((some ⟨d, none, .slice 22 x lo hi mx, t⟩, 0) :: r') e S = slD 1 (pev e x) (lo.map (pev e)) (hi.map (pev e)) (mx.map (pev e)) (Kq (Kd Tryd.prog N r' e d) S) := rd0_slice ty_l_22
theorem ty_l_22_rv_ixaddr {x i : Operand} : runV Tryd.prog N (⟨d, none, .indexAddr 22 x i, t⟩ :: r) e S = idxD (pev e i) (Ki 1 (pev e x) (Kq (Kr Tryd.prog N r e d) S)) := rv_ixaddr ty_l_22
theorem ty_l_22_rd0_ixaddr {x i : Operand} : runD Tryd.prog N ((some ⟨d, none, .indexAddr 22 x i, t⟩, 0) :: r') e S = idxD (pev e i) (Ki 1 (pev e x) (Kq (Kd Tryd.prog N r' e d) S)) := rd0_ixaddr ty_l_22
theorem ty_l_22_rv_len {x : Operand} : runV Tryd.prog N (⟨d, none, .call { callee := .builtin .len, args := #[x], argTypes := #[22] }, t⟩ :: r) e S = lenD (pev e x) (Kq (Kr Tryd.prog N r e d) S) := rv_len ty_l_22
theorem ty_l_22_rd0_len {x : Operand} : runD Tryd.prog N ((some ⟨d, none, .call { callee := .builtin .len, args := #[x], argTypes := #[22] }, t⟩, 0) :: r') e S = lenD (pev e x) (Kq (Kd Tryd.prog N r' e d) S) := rd0_len ty_l_22
theorem ty_l_25 : slS Tryd.prog 25 = some 1 := by kernel_rfl
theorem ty_l_25_rv_slice {x : Operand} {lo hi mx : Option Operand} : runV Tryd.prog N (⟨d, none, .slice 25 x lo hi mx, t⟩ :: r) e S = slD 1 (pev e x) (lo.map (pev e)) (hi.map (pev e)) (mx.map (pev e)) (Kq (Kr Tryd.prog N r e d) S) := rv_slice ty_l_25
theorem ty_l_25_rd0_slice {x : Operand} {lo hi mx : Option Operand} : runD Tryd.prog N ((some ⟨d, none, .slice 25 x lo hi mx, t⟩, 0) :: r') e S = slD 1 (pev e x) (lo.map (pev e)) (hi.map (pev e)) (mx.map (pev e)) (Kq (Kd Tryd.prog N r' e d) S) := rd0_slice ty_l_25
theorem ty_l_25_rv_ixaddr {x i : Operand} : runV Tryd.prog N (⟨d, none, .indexAddr 25 x i, t⟩ :: r) e S = idxD (pev e i) (Ki 1 (pev e x) (Kq (Kr Tryd.prog N r e d) S)) := rv_ixaddr ty_l_25
theorem ty_l_25_rd0_ixaddr {x i : Operand} : runD Tryd.prog N ((some ⟨d, none, .indexAddr 25 x i, t⟩, 0) :: r') e S = idxD (pev e i) (Ki 1 (pev e x) (Kq (Kd Tryd.prog N r' e d) S)) := rd0_ixaddr ty_l_25
theorem ty_l_25_rv_len {x : Operand} : runV Tryd.prog N (⟨d, none, .call { callee := .builtin .len, args := #[x], argTypes := #[25] }, t⟩ :: r) e S = lenD (pev e x) (Kq (Kr Tryd.prog N r e d) S) := rv_len ty_l_25
theorem ty_l_25_rd0_len {x : Operand} : runD Tryd.prog N ((some ⟨d, none, .call { callee := .builtin .len, args := #[x], argTypes := #[25] }, t⟩, 0) :: r') e S = lenD (pev e x) (Kq (Kd Tryd.prog N r' e d) S) := rd0_len ty_l_25
theorem ty_l_50 : slS Tryd.prog 50 = some 1 := by kernel_rfl
theorem ty_l_50_rv_slice {x : Operand} {lo hi mx : Option Operand} : runV Tryd.prog N (⟨d, none, .slice 50 x lo hi mx, t⟩ :: r) e S = slD 1 (pev e x) (lo.map (pev e)) (hi.map (pev e)) (mx.map (pev e)) (Kq (Kr Tryd.prog N r e d) S) := rv_slice ty_l_50
theorem ty_l_50_rd0_slice {x : Operand} {lo hi mx : Option Operand} : runD Tryd.prog N ((some ⟨d, none, .slice 50 x lo hi mx, t⟩, 0) :: r') e S = slD 1 (pev e x) (lo.map (pev e)) (hi.map (pev e)) (mx.map (pev e)) (Kq (Kd Tryd.prog N r' e d) S) := rd0_slice ty_l_50
theorem ty_l_50_rv_ixaddr {x i : Operand} : runV Tryd.prog N (⟨d, none, .indexAddr 50 x i, t⟩ :: r) e S = idxD (pev e i) (Ki 1 (pev e x) (Kq (Kr Tryd.prog N r e d) S)) := rv_ixaddr ty_l_50
theorem ty_l_50_rd0_ixaddr {x i : Operand} : runD Tryd.prog N ((some ⟨d, none, .indexAddr 50 x i, t⟩, 0) :: r') e S = idxD (pev e i) (Ki 1 (pev e x) (Kq (Kd Tryd.prog N r' e d) S)) := rd0_ixaddr ty_l_50
theorem ty_l_50_rv_len {x : Operand} : runV Tryd.prog N (⟨d, none, .call { callee := .builtin .len, args := #[x], argTypes := #[50] }, t⟩ :: r) e S = lenD (pev e x) (Kq (Kr Tryd.prog N r e d) S) := rv_len ty_l_50
theorem ty_l_50_rd0_len {x : Operand} : runD Tryd.prog N ((some ⟨d, none, .call { callee := .builtin .len, args := #[x], argTypes := #[50] }, t⟩, 0) :: r') e S = lenD (pev e x) (Kq (Kd Tryd.prog N r' e d) S) := rd0_len ty_l_50
theorem ty_q_22 : slZ Tryd.prog 22 = some ⟨27, 1, 8, [.g (.lit (.int .u64 0))]⟩ := by kernel_rfl
theorem ty_q_22_rv_lit {n : Nat} {ps : List (Nat × Operand)} : runV Tryd.prog N (⟨d, none, .buildSlice 22 n ps.toArray, t⟩ :: r) e S = litsD (⟨27, 1, 8, ([.g (.lit (.int .u64 0))] : List D)⟩ : SlZ) (.l (d.getD 0)) S n (ps.map (·.1)) (ps.map (Ky e)) (Kr Tryd.prog N r e d) := rv_lit ty_q_22
theorem ty_q_22_rd3_lit {n : Nat} {ps : List (Nat × Operand)} : runD Tryd.prog N ((some ⟨d, none, .buildSlice 22 n ps.toArray, t⟩, 3) :: r') e S = litsD (⟨27, 1, 8, ([.g (.lit (.int .u64 0))] : List D)⟩ : SlZ) (.l (d.getD 0)) S n (ps.map (·.1)) (ps.map (Ky e)) (Kd Tryd.prog N r' e d) := rd3_lit ty_q_22
theorem ty_q_22_rd4_lit {n : Nat} {ps : List (Nat × Operand)} : runD Tryd.prog N ((some ⟨d, none, .buildSlice 22 n ps.toArray, t⟩, 4) :: r') e S = litsD (⟨27, 1, 8, ([.g (.lit (.int .u64 0))] : List D)⟩ : SlZ) (.l (d.getD 0)) S n (ps.map (·.1)) (ps.map (Ky e)) (Kd Tryd.prog N r' e d) := rd4_lit ty_q_22
theorem ty_q_22_rv_make {l c : Operand} : runV Tryd.prog N (⟨d, none, .makeSlice 22 l c, t⟩ :: r) e S = makeD (⟨27, 1, 8, ([.g (.lit (.int .u64 0))] : List D)⟩ : SlZ) (.l (d.getD 0)) S (pev e l) (pev e c) (Kr Tryd.prog N r e d) := rv_make ty_q_22
theorem ty_q_22_rd3_make {l c : Operand} : runD Tryd.prog N ((some ⟨d, none, .makeSlice 22 l c, t⟩, 3) :: r') e S = makeD (⟨27, 1, 8, ([.g (.lit (.int .u64 0))] : List D)⟩ : SlZ) (.l (d.getD 0)) S (pev e l) (pev e c) (Kd Tryd.prog N r' e d) := rd3_make ty_q_22
theorem ty_q_22_rd4_make {l c : Operand} : runD Tryd.prog N ((some ⟨d, none, .makeSlice 22 l c, t⟩, 4) :: r') e S = makeD (⟨27, 1, 8, ([.g (.lit (.int .u64 0))] : List D)⟩ : SlZ) (.l (d.getD 0)) S (pev e l) (pev e c) (Kd Tryd.prog N r' e d) := rd4_make ty_q_22
theorem ty_q_22_rv_app {x y : Operand} : runV Tryd.prog N (⟨d, none, .call { callee := .builtin .append, args := #[x, y], argTypes := #[22, 22] }, t⟩ :: r) e S = appD (⟨27, 1, 8, ([.g (.lit (.int .u64 0))] : List D)⟩ : SlZ) S (.l (d.getD 0)) (pev e x) (pev e y) (Kr Tryd.prog N r e d) := rv_app ty_q_22
theorem ty_q_22_rd3_app {x y : Operand} : runD Tryd.prog N ((some ⟨d, none, .call { callee := .builtin .append, args := #[x, y], argTypes := #[22, 22] }, t⟩, 3) :: r') e S = appD (⟨27, 1, 8, ([.g (.lit (.int .u64 0))] : List D)⟩ : SlZ) S (.l (d.getD 0)) (pev e x) (pev e y) (Kd Tryd.prog N r' e d) := rd3_app ty_q_22
theorem ty_q_25 : slZ Tryd.prog 25 = some ⟨51, 1, 4, [.g (.lit (.int .u32 0))]⟩ := by kernel_rfl
theorem ty_q_25_rv_lit {n : Nat} {ps : List (Nat × Operand)} : runV Tryd.prog N (⟨d, none, .buildSlice 25 n ps.toArray, t⟩ :: r) e S = litsD (⟨51, 1, 4, ([.g (.lit (.int .u32 0))] : List D)⟩ : SlZ) (.l (d.getD 0)) S n (ps.map (·.1)) (ps.map (Ky e)) (Kr Tryd.prog N r e d) := rv_lit ty_q_25
theorem ty_q_25_rd3_lit {n : Nat} {ps : List (Nat × Operand)} : runD Tryd.prog N ((some ⟨d, none, .buildSlice 25 n ps.toArray, t⟩, 3) :: r') e S = litsD (⟨51, 1, 4, ([.g (.lit (.int .u32 0))] : List D)⟩ : SlZ) (.l (d.getD 0)) S n (ps.map (·.1)) (ps.map (Ky e)) (Kd Tryd.prog N r' e d) := rd3_lit ty_q_25
theorem ty_q_25_rd4_lit {n : Nat} {ps : List (Nat × Operand)} : runD Tryd.prog N ((some ⟨d, none, .buildSlice 25 n ps.toArray, t⟩, 4) :: r') e S = litsD (⟨51, 1, 4, ([.g (.lit (.int .u32 0))] : List D)⟩ : SlZ) (.l (d.getD 0)) S n (ps.map (·.1)) (ps.map (Ky e)) (Kd Tryd.prog N r' e d) := rd4_lit ty_q_25
theorem ty_q_25_rv_make {l c : Operand} : runV Tryd.prog N (⟨d, none, .makeSlice 25 l c, t⟩ :: r) e S = makeD (⟨51, 1, 4, ([.g (.lit (.int .u32 0))] : List D)⟩ : SlZ) (.l (d.getD 0)) S (pev e l) (pev e c) (Kr Tryd.prog N r e d) := rv_make ty_q_25
theorem ty_q_25_rd3_make {l c : Operand} : runD Tryd.prog N ((some ⟨d, none, .makeSlice 25 l c, t⟩, 3) :: r') e S = makeD (⟨51, 1, 4, ([.g (.lit (.int .u32 0))] : List D)⟩ : SlZ) (.l (d.getD 0)) S (pev e l) (pev e c) (Kd Tryd.prog N r' e d) := rd3_make ty_q_25
theorem ty_q_25_rd4_make {l c : Operand} : runD Tryd.prog N ((some ⟨d, none, .makeSlice 25 l c, t⟩, 4) :: r') e S = makeD (⟨51, 1, 4, ([.g (.lit (.int .u32 0))] : List D)⟩ : SlZ) (.l (d.getD 0)) S (pev e l) (pev e c) (Kd Tryd.prog N r' e d) := rd4_make ty_q_25
theorem ty_q_25_rv_app {x y : Operand} : runV Tryd.prog N (⟨d, none, .call { callee := .builtin .append, args := #[x, y], argTypes := #[25, 25] }, t⟩ :: r) e S = appD (⟨51, 1, 4, ([.g (.lit (.int .u32 0))] : List D)⟩ : SlZ) S (.l (d.getD 0)) (pev e x) (pev e y) (Kr Tryd.prog N r e d) := rv_app ty_q_25
theorem ty_q_25_rd3_app {x y : Operand} : runD Tryd.prog N ((some ⟨d, none, .call { callee := .builtin .append, args := #[x, y], argTypes := #[25, 25] }, t⟩, 3) :: r') e S = appD (⟨51, 1, 4, ([.g (.lit (.int .u32 0))] : List D)⟩ : SlZ) S (.l (d.getD 0)) (pev e x) (pev e y) (Kd Tryd.prog N r' e d) := rd3_app ty_q_25
theorem ty_q_50 : slZ Tryd.prog 50 = some ⟨22, 1, 24, [.nil]⟩ := by kernel_rfl
theorem ty_q_50_rv_lit {n : Nat} {ps : List (Nat × Operand)} : runV Tryd.prog N (⟨d, none, .buildSlice 50 n ps.toArray, t⟩ :: r) e S = litsD (⟨22, 1, 24, ([.nil] : List D)⟩ : SlZ) (.l (d.getD 0)) S n (ps.map (·.1)) (ps.map (Ky e)) (Kr Tryd.prog N r e d) := rv_lit ty_q_50
theorem ty_q_50_rd3_lit {n : Nat} {ps : List (Nat × Operand)} : runD Tryd.prog N ((some ⟨d, none, .buildSlice 50 n ps.toArray, t⟩, 3) :: r') e S = litsD (⟨22, 1, 24, ([.nil] : List D)⟩ : SlZ) (.l (d.getD 0)) S n (ps.map (·.1)) (ps.map (Ky e)) (Kd Tryd.prog N r' e d) := rd3_lit ty_q_50
theorem ty_q_50_rd4_lit {n : Nat} {ps : List (Nat × Operand)} : runD Tryd.prog N ((some ⟨d, none, .buildSlice 50 n ps.toArray, t⟩, 4) :: r') e S = litsD (⟨22, 1, 24, ([.nil] : List D)⟩ : SlZ) (.l (d.getD 0)) S n (ps.map (·.1)) (ps.map (Ky e)) (Kd Tryd.prog N r' e d) := rd4_lit ty_q_50
theorem ty_q_50_rv_make {l c : Operand} : runV Tryd.prog N (⟨d, none, .makeSlice 50 l c, t⟩ :: r) e S = makeD (⟨22, 1, 24, ([.nil] : List D)⟩ : SlZ) (.l (d.getD 0)) S (pev e l) (pev e c) (Kr Tryd.prog N r e d) := rv_make ty_q_50
theorem ty_q_50_rd3_make {l c : Operand} : runD Tryd.prog N ((some ⟨d, none, .makeSlice 50 l c, t⟩, 3) :: r') e S = makeD (⟨22, 1, 24, ([.nil] : List D)⟩ : SlZ) (.l (d.getD 0)) S (pev e l) (pev e c) (Kd Tryd.prog N r' e d) := rd3_make ty_q_50
theorem ty_q_50_rd4_make {l c : Operand} : runD Tryd.prog N ((some ⟨d, none, .makeSlice 50 l c, t⟩, 4) :: r') e S = makeD (⟨22, 1, 24, ([.nil] : List D)⟩ : SlZ) (.l (d.getD 0)) S (pev e l) (pev e c) (Kd Tryd.prog N r' e d) := rd4_make ty_q_50
theorem ty_q_50_rv_app {x y : Operand} : runV Tryd.prog N (⟨d, none, .call { callee := .builtin .append, args := #[x, y], argTypes := #[50, 50] }, t⟩ :: r) e S = appD (⟨22, 1, 24, ([.nil] : List D)⟩ : SlZ) S (.l (d.getD 0)) (pev e x) (pev e y) (Kr Tryd.prog N r e d) := rv_app ty_q_50
theorem ty_q_50_rd3_app {x y : Operand} : runD Tryd.prog N ((some ⟨d, none, .call { callee := .builtin .append, args := #[x, y], argTypes := #[50, 50] }, t⟩, 3) :: r') e S = appD (⟨22, 1, 24, ([.nil] : List D)⟩ : SlZ) S (.l (d.getD 0)) (pev e x) (pev e y) (Kd Tryd.prog N r' e d) := rd3_app ty_q_50
theorem ty_s_27 {off : Nat} {x : D} {es : List D} {K : List D → Prop} : stCells Tryd.prog 27 off x es K = (x.one = true ∧ off < es.length ∧ K (es.set off x)) := stCells_one ⟨by kernel_rfl, by kernel_rfl⟩
theorem ty_s_51 {off : Nat} {x : D} {es : List D} {K : List D → Prop} : stCells Tryd.prog 51 off x es K = (x.one = true ∧ off < es.length ∧ K (es.set off x)) := stCells_one ⟨by kernel_rfl, by kernel_rfl⟩
theorem ty_v_27_51 {k' : IntKind} {n : Int} {K : Value → Prop} : pconv Tryd.prog 27 51 (.int k' n) K = K (.int .u32 (IntKind.u32.wrap n)) := pconv_is (by kernel_rfl) (by kernel_rfl)
theorem ty_v_5_3 {k' : IntKind} {n : Int} {K : Value → Prop} : pconv Tryd.prog 5 3 (.int k' n) K = K (.int .i64 (IntKind.i64.wrap n)) := pconv_is (by kernel_rfl) (by kernel_rfl)
theorem ty_v_51_27 {k' : IntKind} {n : Int} {K : Value → Prop} : pconv Tryd.prog 51 27 (.int k' n) K = K (.int .u64 (IntKind.u64.wrap n)) := pconv_is (by kernel_rfl) (by kernel_rfl)
attribute [go_sem ↓] ty_c_22 ty_c_27 ty_c_51 ty_l_22_rv_slice ty_l_22_rd0_slice ty_l_22_rv_ixaddr ty_l_22_rd0_ixaddr ty_l_22_rv_len ty_l_22_rd0_len ty_l_25_rv_slice ty_l_25_rd0_slice ty_l_25_rv_ixaddr ty_l_25_rd0_ixaddr ty_l_25_rv_len ty_l_25_rd0_len ty_l_50_rv_slice ty_l_50_rd0_slice ty_l_50_rv_ixaddr ty_l_50_rd0_ixaddr ty_l_50_rv_len ty_l_50_rd0_len ty_q_22_rv_lit ty_q_22_rd3_lit ty_q_22_rd4_lit
attribute [go_sem ↓] ty_q_22_rv_make ty_q_22_rd3_make ty_q_22_rd4_make ty_q_22_rv_app ty_q_22_rd3_app ty_q_25_rv_lit ty_q_25_rd3_lit ty_q_25_rd4_lit ty_q_25_rv_make ty_q_25_rd3_make ty_q_25_rd4_make ty_q_25_rv_app ty_q_25_rd3_app ty_q_50_rv_lit ty_q_50_rd3_lit ty_q_50_rd4_lit ty_q_50_rv_make ty_q_50_rd3_make ty_q_50_rd4_make ty_q_50_rv_app ty_q_50_rd3_app ty_s_27 ty_s_51 ty_v_27_51
attribute [go_sem ↓] ty_v_5_3 ty_v_51_27
attribute [go_sem] ty_b_4 ty_c_22 ty_c_27 ty_c_51 ty_s_27 ty_s_51 ty_v_27_51 ty_v_5_3 ty_v_51_27

end Go.V

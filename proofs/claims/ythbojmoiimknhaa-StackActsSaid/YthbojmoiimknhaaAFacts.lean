/- Closed facts on this program's types and functions, as the abstract machine asks them: printed by facts.py. No conditions. -/
import Derived.Test.YthbojmoiimknhaaProg
import Derived.Test.YthbojmoiimknhaaAx10
import Derived.KernelRfl
namespace Go.Ax

theorem kT_3 : kT Go.Proofs.Try.prog 3 = .int .i64 := by kernel_rfl
theorem kT_4 : kT Go.Proofs.Try.prog 4 = .bool := by kernel_rfl
theorem kT_5 : kT Go.Proofs.Try.prog 5 = .int .u8 := by kernel_rfl
theorem kT_22 : kT Go.Proofs.Try.prog 22 = .slice 33 := by kernel_rfl
theorem kT_24 : kT Go.Proofs.Try.prog 24 = .ptr := by kernel_rfl
theorem kT_25 : kT Go.Proofs.Try.prog 25 = .int .i64 := by kernel_rfl
theorem kT_28 : kT Go.Proofs.Try.prog 28 = .slice 31 := by kernel_rfl
theorem kT_29 : kT Go.Proofs.Try.prog 29 = .slice 3 := by kernel_rfl
theorem kT_31 : kT Go.Proofs.Try.prog 31 = .row := by kernel_rfl
theorem kT_33 : kT Go.Proofs.Try.prog 33 = .row := by kernel_rfl
theorem kT_38 : kT Go.Proofs.Try.prog 38 = .int .u64 := by kernel_rfl
theorem kT_48 : kT Go.Proofs.Try.prog 48 = .slice 29 := by kernel_rfl
theorem kT_54 : kT Go.Proofs.Try.prog 54 = .map 3 3 := by kernel_rfl
theorem kT_64 : kT Go.Proofs.Try.prog 64 = .row := by kernel_rfl
theorem kT_70 : kT Go.Proofs.Try.prog 70 = .slice 4 := by kernel_rfl
theorem kT_72 : kT Go.Proofs.Try.prog 72 = .row := by kernel_rfl
theorem kT_75 : kT Go.Proofs.Try.prog 75 = .slice 70 := by kernel_rfl
theorem tkT_3 : tkT Go.Proofs.Try.prog 3 = some false := by kernel_rfl
theorem szT_3 : szT Go.Proofs.Try.prog 3 = 1 := by kernel_rfl
theorem byT_3 : byT Go.Proofs.Try.prog 3 = 8 := by kernel_rfl
theorem tkT_4 : tkT Go.Proofs.Try.prog 4 = some false := by kernel_rfl
theorem szT_4 : szT Go.Proofs.Try.prog 4 = 1 := by kernel_rfl
theorem byT_4 : byT Go.Proofs.Try.prog 4 = 1 := by kernel_rfl
theorem tkT_5 : tkT Go.Proofs.Try.prog 5 = some false := by kernel_rfl
theorem szT_5 : szT Go.Proofs.Try.prog 5 = 1 := by kernel_rfl
theorem byT_5 : byT Go.Proofs.Try.prog 5 = 1 := by kernel_rfl
theorem tkT_28 : tkT Go.Proofs.Try.prog 28 = some false := by kernel_rfl
theorem szT_28 : szT Go.Proofs.Try.prog 28 = 1 := by kernel_rfl
theorem byT_28 : byT Go.Proofs.Try.prog 28 = 24 := by kernel_rfl
theorem tkT_29 : tkT Go.Proofs.Try.prog 29 = some false := by kernel_rfl
theorem szT_29 : szT Go.Proofs.Try.prog 29 = 1 := by kernel_rfl
theorem byT_29 : byT Go.Proofs.Try.prog 29 = 24 := by kernel_rfl
theorem tkT_31 : tkT Go.Proofs.Try.prog 31 = some true := by kernel_rfl
theorem szT_31 : szT Go.Proofs.Try.prog 31 = 4 := by kernel_rfl
theorem byT_31 : byT Go.Proofs.Try.prog 31 = 48 := by kernel_rfl
theorem tkT_33 : tkT Go.Proofs.Try.prog 33 = some true := by kernel_rfl
theorem szT_33 : szT Go.Proofs.Try.prog 33 = 6 := by kernel_rfl
theorem byT_33 : byT Go.Proofs.Try.prog 33 = 64 := by kernel_rfl
theorem tkT_48 : tkT Go.Proofs.Try.prog 48 = some false := by kernel_rfl
theorem szT_48 : szT Go.Proofs.Try.prog 48 = 1 := by kernel_rfl
theorem byT_48 : byT Go.Proofs.Try.prog 48 = 24 := by kernel_rfl
theorem tkT_64 : tkT Go.Proofs.Try.prog 64 = some true := by kernel_rfl
theorem szT_64 : szT Go.Proofs.Try.prog 64 = 2 := by kernel_rfl
theorem byT_64 : byT Go.Proofs.Try.prog 64 = 32 := by kernel_rfl
theorem tkT_70 : tkT Go.Proofs.Try.prog 70 = some false := by kernel_rfl
theorem szT_70 : szT Go.Proofs.Try.prog 70 = 1 := by kernel_rfl
theorem byT_70 : byT Go.Proofs.Try.prog 70 = 24 := by kernel_rfl
theorem tkT_72 : tkT Go.Proofs.Try.prog 72 = some true := by kernel_rfl
theorem szT_72 : szT Go.Proofs.Try.prog 72 = 8 := by kernel_rfl
theorem byT_72 : byT Go.Proofs.Try.prog 72 = 160 := by kernel_rfl
theorem zeroT_3 : zeroT Go.Proofs.Try.prog 3 = some (.prim (.int .i64 0)) := by kernel_rfl
theorem zeroT_4 : zeroT Go.Proofs.Try.prog 4 = some (.prim (.bool false)) := by kernel_rfl
theorem zeroT_28 : zeroT Go.Proofs.Try.prog 28 = some (.list .full []) := by kernel_rfl
theorem zeroT_29 : zeroT Go.Proofs.Try.prog 29 = some (.list .full []) := by kernel_rfl
theorem zeroT_31 : zeroT Go.Proofs.Try.prog 31 = some (.agg [.prim (.int .i64 0), .prim (.int .i64 0), .prim (.int .i64 0), .list .full []]) := by kernel_rfl
theorem zeroT_33 : zeroT Go.Proofs.Try.prog 33 = some (.agg [.prim (.int .u8 0), .prim (.int .i64 0), .prim (.int .i64 0), .prim (.int .i64 0), .list .full [], .prim (.int .i64 0)]) := by kernel_rfl
theorem zeroT_64 : zeroT Go.Proofs.Try.prog 64 = some (.agg [.list .full [], .prim (.int .i64 0)]) := by kernel_rfl
theorem zeroT_70 : zeroT Go.Proofs.Try.prog 70 = some (.list .full []) := by kernel_rfl
theorem zeroT_72 : zeroT Go.Proofs.Try.prog 72 = some (.agg [.list .full [], .list .full [], .list .full [], .list .full [], .list .full [], .prim (.int .i64 0), .list .full [], .prim (.int .i64 0)]) := by kernel_rfl
theorem fieldsT_31 : fieldsT Go.Proofs.Try.prog 31 = some [(0, 1), (1, 1), (2, 1), (3, 1)] := by kernel_rfl
theorem fieldTypeT_31_0 : fieldTypeT Go.Proofs.Try.prog 31 0 = some (0, 3) := by kernel_rfl
theorem fieldTypeT_31_1 : fieldTypeT Go.Proofs.Try.prog 31 1 = some (1, 3) := by kernel_rfl
theorem fieldTypeT_31_2 : fieldTypeT Go.Proofs.Try.prog 31 2 = some (2, 3) := by kernel_rfl
theorem fieldTypeT_31_3 : fieldTypeT Go.Proofs.Try.prog 31 3 = some (3, 29) := by kernel_rfl
theorem fieldsT_33 : fieldsT Go.Proofs.Try.prog 33 = some [(0, 1), (1, 4), (5, 1)] := by kernel_rfl
theorem fieldTypeT_33_0 : fieldTypeT Go.Proofs.Try.prog 33 0 = some (0, 5) := by kernel_rfl
theorem fieldTypeT_33_1 : fieldTypeT Go.Proofs.Try.prog 33 1 = some (1, 31) := by kernel_rfl
theorem fieldTypeT_33_2 : fieldTypeT Go.Proofs.Try.prog 33 2 = some (5, 3) := by kernel_rfl
theorem fieldsT_64 : fieldsT Go.Proofs.Try.prog 64 = some [(0, 1), (1, 1)] := by kernel_rfl
theorem fieldTypeT_64_0 : fieldTypeT Go.Proofs.Try.prog 64 0 = some (0, 29) := by kernel_rfl
theorem fieldTypeT_64_1 : fieldTypeT Go.Proofs.Try.prog 64 1 = some (1, 3) := by kernel_rfl
theorem fieldsT_72 : fieldsT Go.Proofs.Try.prog 72 = some [(0, 1), (1, 1), (2, 1), (3, 1), (4, 1), (5, 1), (6, 1), (7, 1)] := by kernel_rfl
theorem fieldTypeT_72_0 : fieldTypeT Go.Proofs.Try.prog 72 0 = some (0, 48) := by kernel_rfl
theorem fieldTypeT_72_1 : fieldTypeT Go.Proofs.Try.prog 72 1 = some (1, 29) := by kernel_rfl
theorem fieldTypeT_72_2 : fieldTypeT Go.Proofs.Try.prog 72 2 = some (2, 29) := by kernel_rfl
theorem fieldTypeT_72_3 : fieldTypeT Go.Proofs.Try.prog 72 3 = some (3, 70) := by kernel_rfl
theorem fieldTypeT_72_4 : fieldTypeT Go.Proofs.Try.prog 72 4 = some (4, 29) := by kernel_rfl
theorem fieldTypeT_72_5 : fieldTypeT Go.Proofs.Try.prog 72 5 = some (5, 3) := by kernel_rfl
theorem fieldTypeT_72_6 : fieldTypeT Go.Proofs.Try.prog 72 6 = some (6, 29) := by kernel_rfl
theorem fieldTypeT_72_7 : fieldTypeT Go.Proofs.Try.prog 72 7 = some (7, 3) := by kernel_rfl
theorem bodyT_12 : bodyT Go.Proofs.Try.prog 12 = true := by kernel_rfl
theorem bodyT_13 : bodyT Go.Proofs.Try.prog 13 = true := by kernel_rfl
theorem bodyT_14 : bodyT Go.Proofs.Try.prog 14 = true := by kernel_rfl
theorem bodyT_15 : bodyT Go.Proofs.Try.prog 15 = true := by kernel_rfl
theorem bodyT_16 : bodyT Go.Proofs.Try.prog 16 = true := by kernel_rfl
theorem bodyT_17 : bodyT Go.Proofs.Try.prog 17 = true := by kernel_rfl
theorem bodyT_18 : bodyT Go.Proofs.Try.prog 18 = true := by kernel_rfl
theorem bodyT_19 : bodyT Go.Proofs.Try.prog 19 = true := by kernel_rfl
theorem bodyT_20 : bodyT Go.Proofs.Try.prog 20 = true := by kernel_rfl
theorem bodyT_21 : bodyT Go.Proofs.Try.prog 21 = true := by kernel_rfl
theorem bodyT_22 : bodyT Go.Proofs.Try.prog 22 = true := by kernel_rfl
theorem bodyT_23 : bodyT Go.Proofs.Try.prog 23 = true := by kernel_rfl
theorem bodyT_24 : bodyT Go.Proofs.Try.prog 24 = true := by kernel_rfl
theorem bodyT_25 : bodyT Go.Proofs.Try.prog 25 = true := by kernel_rfl
theorem bodyT_26 : bodyT Go.Proofs.Try.prog 26 = true := by kernel_rfl
theorem bodyT_27 : bodyT Go.Proofs.Try.prog 27 = true := by kernel_rfl
theorem bodyT_28 : bodyT Go.Proofs.Try.prog 28 = true := by kernel_rfl
theorem bodyT_29 : bodyT Go.Proofs.Try.prog 29 = true := by kernel_rfl
theorem bodyT_30 : bodyT Go.Proofs.Try.prog 30 = true := by kernel_rfl
theorem bodyT_31 : bodyT Go.Proofs.Try.prog 31 = true := by kernel_rfl
theorem bodyT_32 : bodyT Go.Proofs.Try.prog 32 = true := by kernel_rfl
theorem bodyT_33 : bodyT Go.Proofs.Try.prog 33 = true := by kernel_rfl
theorem bodyT_34 : bodyT Go.Proofs.Try.prog 34 = true := by kernel_rfl
theorem bodyT_35 : bodyT Go.Proofs.Try.prog 35 = true := by kernel_rfl
theorem bodyT_36 : bodyT Go.Proofs.Try.prog 36 = true := by kernel_rfl
theorem bodyT_37 : bodyT Go.Proofs.Try.prog 37 = true := by kernel_rfl
theorem bodyT_38 : bodyT Go.Proofs.Try.prog 38 = true := by kernel_rfl
theorem bodyT_39 : bodyT Go.Proofs.Try.prog 39 = true := by kernel_rfl
theorem bodyT_40 : bodyT Go.Proofs.Try.prog 40 = true := by kernel_rfl
theorem bodyT_41 : bodyT Go.Proofs.Try.prog 41 = true := by kernel_rfl
theorem bodyT_42 : bodyT Go.Proofs.Try.prog 42 = true := by kernel_rfl
theorem bodyT_43 : bodyT Go.Proofs.Try.prog 43 = true := by kernel_rfl
theorem bodyT_44 : bodyT Go.Proofs.Try.prog 44 = true := by kernel_rfl
theorem bodyT_45 : bodyT Go.Proofs.Try.prog 45 = true := by kernel_rfl

attribute [go_sem] kT_3 kT_4 kT_5 kT_22 kT_24 kT_25 kT_28 kT_29 kT_31 kT_33 kT_38 kT_48 kT_54 kT_64 kT_70 kT_72 kT_75 tkT_3 szT_3 byT_3 tkT_4 szT_4 byT_4 tkT_5 szT_5 byT_5 tkT_28 szT_28 byT_28 tkT_29 szT_29 byT_29 tkT_31 szT_31 byT_31 tkT_33 szT_33 byT_33 tkT_48 szT_48 byT_48 tkT_64 szT_64 byT_64 tkT_70 szT_70 byT_70 tkT_72 szT_72 byT_72 zeroT_3 zeroT_4 zeroT_28 zeroT_29 zeroT_31 zeroT_33 zeroT_64 zeroT_70 zeroT_72 fieldsT_31 fieldTypeT_31_0 fieldTypeT_31_1 fieldTypeT_31_2 fieldTypeT_31_3 fieldsT_33 fieldTypeT_33_0 fieldTypeT_33_1 fieldTypeT_33_2 fieldsT_64 fieldTypeT_64_0 fieldTypeT_64_1 fieldsT_72 fieldTypeT_72_0 fieldTypeT_72_1 fieldTypeT_72_2 fieldTypeT_72_3 fieldTypeT_72_4 fieldTypeT_72_5 fieldTypeT_72_6 fieldTypeT_72_7 bodyT_12 bodyT_13 bodyT_14 bodyT_15 bodyT_16 bodyT_17 bodyT_18 bodyT_19 bodyT_20 bodyT_21 bodyT_22 bodyT_23 bodyT_24 bodyT_25 bodyT_26 bodyT_27 bodyT_28 bodyT_29 bodyT_30 bodyT_31 bodyT_32 bodyT_33 bodyT_34 bodyT_35 bodyT_36 bodyT_37 bodyT_38 bodyT_39 bodyT_40 bodyT_41 bodyT_42 bodyT_43 bodyT_44 bodyT_45
end Go.Ax

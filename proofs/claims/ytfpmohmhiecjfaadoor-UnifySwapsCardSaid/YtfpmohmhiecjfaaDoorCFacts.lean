/- Closed facts on this program's types and functions, as the abstract machine asks them: printed by facts.py. No conditions. -/
import Derived.Test.YtfpmohmhiecjfaaDoorProg
import Derived.Test.YtfpmohmhiecjfaaDoorAx11
import Derived.KernelRfl
namespace Go.Ax

theorem kT_3 : kT Go.Proofs.Tryd.prog 3 = .int .i64 := by kernel_rfl
theorem kT_4 : kT Go.Proofs.Tryd.prog 4 = .bool := by kernel_rfl
theorem kT_5 : kT Go.Proofs.Tryd.prog 5 = .int .u8 := by kernel_rfl
theorem kT_9 : kT Go.Proofs.Tryd.prog 9 = .str := by kernel_rfl
theorem kT_22 : kT Go.Proofs.Tryd.prog 22 = .slice 33 := by kernel_rfl
theorem kT_26 : kT Go.Proofs.Tryd.prog 26 = .map 3 30 := by kernel_rfl
theorem kT_27 : kT Go.Proofs.Tryd.prog 27 = .slice 68 := by kernel_rfl
theorem kT_28 : kT Go.Proofs.Tryd.prog 28 = .slice 30 := by kernel_rfl
theorem kT_30 : kT Go.Proofs.Tryd.prog 30 = .row := by kernel_rfl
theorem kT_33 : kT Go.Proofs.Tryd.prog 33 = .slice 61 := by kernel_rfl
theorem kT_35 : kT Go.Proofs.Tryd.prog 35 = .int .i64 := by kernel_rfl
theorem kT_42 : kT Go.Proofs.Tryd.prog 42 = .map 3 4 := by kernel_rfl
theorem kT_43 : kT Go.Proofs.Tryd.prog 43 = .slice 3 := by kernel_rfl
theorem kT_46 : kT Go.Proofs.Tryd.prog 46 = .int .u64 := by kernel_rfl
theorem kT_59 : kT Go.Proofs.Tryd.prog 59 = .int .i8 := by kernel_rfl
theorem kT_61 : kT Go.Proofs.Tryd.prog 61 = .row := by kernel_rfl
theorem kT_62 : kT Go.Proofs.Tryd.prog 62 = .slice 9 := by kernel_rfl
theorem kT_68 : kT Go.Proofs.Tryd.prog 68 = .row := by kernel_rfl
theorem kT_70 : kT Go.Proofs.Tryd.prog 70 = .func := by kernel_rfl
theorem kT_71 : kT Go.Proofs.Tryd.prog 71 = .map 3 3 := by kernel_rfl
theorem kT_79 : kT Go.Proofs.Tryd.prog 79 = .row := by kernel_rfl
theorem tkT_3 : tkT Go.Proofs.Tryd.prog 3 = some false := by kernel_rfl
theorem szT_3 : szT Go.Proofs.Tryd.prog 3 = 1 := by kernel_rfl
theorem byT_3 : byT Go.Proofs.Tryd.prog 3 = 8 := by kernel_rfl
theorem tkT_4 : tkT Go.Proofs.Tryd.prog 4 = some false := by kernel_rfl
theorem szT_4 : szT Go.Proofs.Tryd.prog 4 = 1 := by kernel_rfl
theorem byT_4 : byT Go.Proofs.Tryd.prog 4 = 1 := by kernel_rfl
theorem tkT_5 : tkT Go.Proofs.Tryd.prog 5 = some false := by kernel_rfl
theorem szT_5 : szT Go.Proofs.Tryd.prog 5 = 1 := by kernel_rfl
theorem byT_5 : byT Go.Proofs.Tryd.prog 5 = 1 := by kernel_rfl
theorem tkT_9 : tkT Go.Proofs.Tryd.prog 9 = some false := by kernel_rfl
theorem szT_9 : szT Go.Proofs.Tryd.prog 9 = 1 := by kernel_rfl
theorem byT_9 : byT Go.Proofs.Tryd.prog 9 = 16 := by kernel_rfl
theorem tkT_28 : tkT Go.Proofs.Tryd.prog 28 = some false := by kernel_rfl
theorem szT_28 : szT Go.Proofs.Tryd.prog 28 = 1 := by kernel_rfl
theorem byT_28 : byT Go.Proofs.Tryd.prog 28 = 24 := by kernel_rfl
theorem tkT_30 : tkT Go.Proofs.Tryd.prog 30 = some true := by kernel_rfl
theorem szT_30 : szT Go.Proofs.Tryd.prog 30 = 3 := by kernel_rfl
theorem byT_30 : byT Go.Proofs.Tryd.prog 30 = 48 := by kernel_rfl
theorem tkT_33 : tkT Go.Proofs.Tryd.prog 33 = some false := by kernel_rfl
theorem szT_33 : szT Go.Proofs.Tryd.prog 33 = 1 := by kernel_rfl
theorem byT_33 : byT Go.Proofs.Tryd.prog 33 = 24 := by kernel_rfl
theorem tkT_42 : tkT Go.Proofs.Tryd.prog 42 = some false := by kernel_rfl
theorem szT_42 : szT Go.Proofs.Tryd.prog 42 = 1 := by kernel_rfl
theorem byT_42 : byT Go.Proofs.Tryd.prog 42 = 8 := by kernel_rfl
theorem tkT_43 : tkT Go.Proofs.Tryd.prog 43 = some false := by kernel_rfl
theorem szT_43 : szT Go.Proofs.Tryd.prog 43 = 1 := by kernel_rfl
theorem byT_43 : byT Go.Proofs.Tryd.prog 43 = 24 := by kernel_rfl
theorem tkT_59 : tkT Go.Proofs.Tryd.prog 59 = some false := by kernel_rfl
theorem szT_59 : szT Go.Proofs.Tryd.prog 59 = 1 := by kernel_rfl
theorem byT_59 : byT Go.Proofs.Tryd.prog 59 = 1 := by kernel_rfl
theorem tkT_61 : tkT Go.Proofs.Tryd.prog 61 = some true := by kernel_rfl
theorem szT_61 : szT Go.Proofs.Tryd.prog 61 = 3 := by kernel_rfl
theorem byT_61 : byT Go.Proofs.Tryd.prog 61 = 3 := by kernel_rfl
theorem tkT_68 : tkT Go.Proofs.Tryd.prog 68 = some true := by kernel_rfl
theorem szT_68 : szT Go.Proofs.Tryd.prog 68 = 4 := by kernel_rfl
theorem byT_68 : byT Go.Proofs.Tryd.prog 68 = 56 := by kernel_rfl
theorem tkT_70 : tkT Go.Proofs.Tryd.prog 70 = some false := by kernel_rfl
theorem szT_70 : szT Go.Proofs.Tryd.prog 70 = 1 := by kernel_rfl
theorem byT_70 : byT Go.Proofs.Tryd.prog 70 = 8 := by kernel_rfl
theorem tkT_79 : tkT Go.Proofs.Tryd.prog 79 = some true := by kernel_rfl
theorem szT_79 : szT Go.Proofs.Tryd.prog 79 = 2 := by kernel_rfl
theorem byT_79 : byT Go.Proofs.Tryd.prog 79 = 32 := by kernel_rfl
theorem zeroT_3 : zeroT Go.Proofs.Tryd.prog 3 = some (.prim (.int .i64 0)) := by kernel_rfl
theorem zeroT_4 : zeroT Go.Proofs.Tryd.prog 4 = some (.prim (.bool false)) := by kernel_rfl
theorem zeroT_9 : zeroT Go.Proofs.Tryd.prog 9 = some (.prim (.string ⟨#[]⟩)) := by kernel_rfl
theorem zeroT_30 : zeroT Go.Proofs.Tryd.prog 30 = some (.agg [.prim (.int .i64 0), .prim (.string ⟨#[]⟩), .list .full []]) := by kernel_rfl
theorem zeroT_42 : zeroT Go.Proofs.Tryd.prog 42 = some (.prim (.map none)) := by kernel_rfl
theorem zeroT_43 : zeroT Go.Proofs.Tryd.prog 43 = some (.list .full []) := by kernel_rfl
theorem zeroT_68 : zeroT Go.Proofs.Tryd.prog 68 = some (.agg [.prim (.int .i64 0), .prim (.int .i64 0), .prim (.string ⟨#[]⟩), .list .full []]) := by kernel_rfl
theorem zeroT_70 : zeroT Go.Proofs.Tryd.prog 70 = some (.prim .nilFunc) := by kernel_rfl
theorem zeroT_79 : zeroT Go.Proofs.Tryd.prog 79 = some (.agg [.prim (.pointer none), .list .full []]) := by kernel_rfl
theorem fieldsT_30 : fieldsT Go.Proofs.Tryd.prog 30 = some [(0, 1), (1, 1), (2, 1)] := by kernel_rfl
theorem fieldTypeT_30_0 : fieldTypeT Go.Proofs.Tryd.prog 30 0 = some (0, 3) := by kernel_rfl
theorem fieldTypeT_30_1 : fieldTypeT Go.Proofs.Tryd.prog 30 1 = some (1, 9) := by kernel_rfl
theorem fieldTypeT_30_2 : fieldTypeT Go.Proofs.Tryd.prog 30 2 = some (2, 28) := by kernel_rfl
theorem fieldsT_61 : fieldsT Go.Proofs.Tryd.prog 61 = some [(0, 1), (1, 1), (2, 1)] := by kernel_rfl
theorem fieldTypeT_61_0 : fieldTypeT Go.Proofs.Tryd.prog 61 0 = some (0, 59) := by kernel_rfl
theorem fieldTypeT_61_1 : fieldTypeT Go.Proofs.Tryd.prog 61 1 = some (1, 5) := by kernel_rfl
theorem fieldTypeT_61_2 : fieldTypeT Go.Proofs.Tryd.prog 61 2 = some (2, 5) := by kernel_rfl
theorem fieldsT_68 : fieldsT Go.Proofs.Tryd.prog 68 = some [(0, 1), (1, 3)] := by kernel_rfl
theorem fieldTypeT_68_0 : fieldTypeT Go.Proofs.Tryd.prog 68 0 = some (0, 3) := by kernel_rfl
theorem fieldTypeT_68_1 : fieldTypeT Go.Proofs.Tryd.prog 68 1 = some (1, 30) := by kernel_rfl
theorem bodyT_9 : bodyT Go.Proofs.Tryd.prog 9 = true := by kernel_rfl
theorem bodyT_10 : bodyT Go.Proofs.Tryd.prog 10 = true := by kernel_rfl
theorem bodyT_11 : bodyT Go.Proofs.Tryd.prog 11 = true := by kernel_rfl
theorem bodyT_12 : bodyT Go.Proofs.Tryd.prog 12 = true := by kernel_rfl
theorem bodyT_13 : bodyT Go.Proofs.Tryd.prog 13 = true := by kernel_rfl
theorem bodyT_14 : bodyT Go.Proofs.Tryd.prog 14 = true := by kernel_rfl
theorem bodyT_15 : bodyT Go.Proofs.Tryd.prog 15 = true := by kernel_rfl
theorem bodyT_16 : bodyT Go.Proofs.Tryd.prog 16 = true := by kernel_rfl
theorem bodyT_17 : bodyT Go.Proofs.Tryd.prog 17 = true := by kernel_rfl
theorem bodyT_18 : bodyT Go.Proofs.Tryd.prog 18 = true := by kernel_rfl
theorem bodyT_19 : bodyT Go.Proofs.Tryd.prog 19 = true := by kernel_rfl
theorem bodyT_20 : bodyT Go.Proofs.Tryd.prog 20 = true := by kernel_rfl
theorem bodyT_21 : bodyT Go.Proofs.Tryd.prog 21 = true := by kernel_rfl
theorem bodyT_22 : bodyT Go.Proofs.Tryd.prog 22 = true := by kernel_rfl
theorem bodyT_23 : bodyT Go.Proofs.Tryd.prog 23 = true := by kernel_rfl
theorem bodyT_24 : bodyT Go.Proofs.Tryd.prog 24 = true := by kernel_rfl
theorem bodyT_25 : bodyT Go.Proofs.Tryd.prog 25 = true := by kernel_rfl
theorem bodyT_26 : bodyT Go.Proofs.Tryd.prog 26 = true := by kernel_rfl
theorem bodyT_27 : bodyT Go.Proofs.Tryd.prog 27 = true := by kernel_rfl
theorem bodyT_28 : bodyT Go.Proofs.Tryd.prog 28 = true := by kernel_rfl
theorem bodyT_29 : bodyT Go.Proofs.Tryd.prog 29 = true := by kernel_rfl
theorem bodyT_30 : bodyT Go.Proofs.Tryd.prog 30 = true := by kernel_rfl
theorem bodyT_31 : bodyT Go.Proofs.Tryd.prog 31 = true := by kernel_rfl
theorem bodyT_32 : bodyT Go.Proofs.Tryd.prog 32 = true := by kernel_rfl
theorem bodyT_33 : bodyT Go.Proofs.Tryd.prog 33 = true := by kernel_rfl
theorem bodyT_34 : bodyT Go.Proofs.Tryd.prog 34 = true := by kernel_rfl
theorem bodyT_35 : bodyT Go.Proofs.Tryd.prog 35 = true := by kernel_rfl
theorem bodyT_36 : bodyT Go.Proofs.Tryd.prog 36 = true := by kernel_rfl
theorem bodyT_37 : bodyT Go.Proofs.Tryd.prog 37 = true := by kernel_rfl
theorem bodyT_38 : bodyT Go.Proofs.Tryd.prog 38 = true := by kernel_rfl
theorem bodyT_39 : bodyT Go.Proofs.Tryd.prog 39 = true := by kernel_rfl
theorem bodyT_40 : bodyT Go.Proofs.Tryd.prog 40 = true := by kernel_rfl
theorem bodyT_41 : bodyT Go.Proofs.Tryd.prog 41 = true := by kernel_rfl
theorem bodyT_42 : bodyT Go.Proofs.Tryd.prog 42 = true := by kernel_rfl
theorem bodyT_43 : bodyT Go.Proofs.Tryd.prog 43 = true := by kernel_rfl
theorem bodyT_44 : bodyT Go.Proofs.Tryd.prog 44 = true := by kernel_rfl

attribute [go_sem] kT_3 kT_4 kT_5 kT_9 kT_22 kT_26 kT_27 kT_28 kT_30 kT_33 kT_35 kT_42 kT_43 kT_46 kT_59 kT_61 kT_62 kT_68 kT_70 kT_71 kT_79 tkT_3 szT_3 byT_3 tkT_4 szT_4 byT_4 tkT_5 szT_5 byT_5 tkT_9 szT_9 byT_9 tkT_28 szT_28 byT_28 tkT_30 szT_30 byT_30 tkT_33 szT_33 byT_33 tkT_42 szT_42 byT_42 tkT_43 szT_43 byT_43 tkT_59 szT_59 byT_59 tkT_61 szT_61 byT_61 tkT_68 szT_68 byT_68 tkT_70 szT_70 byT_70 tkT_79 szT_79 byT_79 zeroT_3 zeroT_4 zeroT_9 zeroT_30 zeroT_42 zeroT_43 zeroT_68 zeroT_70 zeroT_79 fieldsT_30 fieldTypeT_30_0 fieldTypeT_30_1 fieldTypeT_30_2 fieldsT_61 fieldTypeT_61_0 fieldTypeT_61_1 fieldTypeT_61_2 fieldsT_68 fieldTypeT_68_0 fieldTypeT_68_1 bodyT_9 bodyT_10 bodyT_11 bodyT_12 bodyT_13 bodyT_14 bodyT_15 bodyT_16 bodyT_17 bodyT_18 bodyT_19 bodyT_20 bodyT_21 bodyT_22 bodyT_23 bodyT_24 bodyT_25 bodyT_26 bodyT_27 bodyT_28 bodyT_29 bodyT_30 bodyT_31 bodyT_32 bodyT_33 bodyT_34 bodyT_35 bodyT_36 bodyT_37 bodyT_38 bodyT_39 bodyT_40 bodyT_41 bodyT_42 bodyT_43 bodyT_44
end Go.Ax

/- Closed facts on this program's types and functions, as the abstract machine asks them: printed by facts.py. No conditions. -/
import Derived.Test.YtfpmohmhiecjfaaDoorProg
import Derived.Test.YtfpmohmhiecjfaaDoorAx11
import Derived.KernelRfl
import Derived.Lib.SliceRun
namespace Go.Ax

theorem kT_3 : kT Go.Proofs.Tryd.prog 3 = .int .i64 := by kernel_rfl
theorem kT_4 : kT Go.Proofs.Tryd.prog 4 = .bool := by kernel_rfl
theorem kT_5 : kT Go.Proofs.Tryd.prog 5 = .int .u8 := by kernel_rfl
theorem kT_9 : kT Go.Proofs.Tryd.prog 9 = .str := by kernel_rfl
theorem kT_22 : kT Go.Proofs.Tryd.prog 22 = .slice 33 := by kernel_rfl
theorem kT_26 : kT Go.Proofs.Tryd.prog 26 = .map 3 30 := by kernel_rfl
theorem kT_27 : kT Go.Proofs.Tryd.prog 27 = .slice 68 := by kernel_rfl
theorem kT_28 : kT Go.Proofs.Tryd.prog 28 = .slice 30 := by kernel_rfl
theorem kT_30 : kT Go.Proofs.Tryd.prog 30 = .row := by kernel_rfl
theorem kT_33 : kT Go.Proofs.Tryd.prog 33 = .slice 61 := by kernel_rfl
theorem kT_35 : kT Go.Proofs.Tryd.prog 35 = .int .i64 := by kernel_rfl
theorem kT_42 : kT Go.Proofs.Tryd.prog 42 = .map 3 4 := by kernel_rfl
theorem kT_43 : kT Go.Proofs.Tryd.prog 43 = .slice 3 := by kernel_rfl
theorem kT_46 : kT Go.Proofs.Tryd.prog 46 = .int .u64 := by kernel_rfl
theorem kT_59 : kT Go.Proofs.Tryd.prog 59 = .int .i8 := by kernel_rfl
theorem kT_61 : kT Go.Proofs.Tryd.prog 61 = .row := by kernel_rfl
theorem kT_62 : kT Go.Proofs.Tryd.prog 62 = .slice 9 := by kernel_rfl
theorem kT_68 : kT Go.Proofs.Tryd.prog 68 = .row := by kernel_rfl
theorem kT_70 : kT Go.Proofs.Tryd.prog 70 = .func := by kernel_rfl
theorem kT_71 : kT Go.Proofs.Tryd.prog 71 = .map 3 3 := by kernel_rfl
theorem kT_79 : kT Go.Proofs.Tryd.prog 79 = .row := by kernel_rfl
theorem tkT_3 : tkT Go.Proofs.Tryd.prog 3 = some false := by kernel_rfl
theorem szT_3 : szT Go.Proofs.Tryd.prog 3 = 1 := by kernel_rfl
theorem byT_3 : byT Go.Proofs.Tryd.prog 3 = 8 := by kernel_rfl
theorem tkT_4 : tkT Go.Proofs.Tryd.prog 4 = some false := by kernel_rfl
theorem szT_4 : szT Go.Proofs.Tryd.prog 4 = 1 := by kernel_rfl
theorem byT_4 : byT Go.Proofs.Tryd.prog 4 = 1 := by kernel_rfl
theorem tkT_5 : tkT Go.Proofs.Tryd.prog 5 = some false := by kernel_rfl
theorem szT_5 : szT Go.Proofs.Tryd.prog 5 = 1 := by kernel_rfl
theorem byT_5 : byT Go.Proofs.Tryd.prog 5 = 1 := by kernel_rfl
theorem tkT_9 : tkT Go.Proofs.Tryd.prog 9 = some false := by kernel_rfl
theorem szT_9 : szT Go.Proofs.Tryd.prog 9 = 1 := by kernel_rfl
theorem byT_9 : byT Go.Proofs.Tryd.prog 9 = 16 := by kernel_rfl
theorem tkT_28 : tkT Go.Proofs.Tryd.prog 28 = some false := by kernel_rfl
theorem szT_28 : szT Go.Proofs.Tryd.prog 28 = 1 := by kernel_rfl
theorem byT_28 : byT Go.Proofs.Tryd.prog 28 = 24 := by kernel_rfl
theorem tkT_30 : tkT Go.Proofs.Tryd.prog 30 = some true := by kernel_rfl
theorem szT_30 : szT Go.Proofs.Tryd.prog 30 = 3 := by kernel_rfl
theorem byT_30 : byT Go.Proofs.Tryd.prog 30 = 48 := by kernel_rfl
theorem tkT_33 : tkT Go.Proofs.Tryd.prog 33 = some false := by kernel_rfl
theorem szT_33 : szT Go.Proofs.Tryd.prog 33 = 1 := by kernel_rfl
theorem byT_33 : byT Go.Proofs.Tryd.prog 33 = 24 := by kernel_rfl
theorem tkT_42 : tkT Go.Proofs.Tryd.prog 42 = some false := by kernel_rfl
theorem szT_42 : szT Go.Proofs.Tryd.prog 42 = 1 := by kernel_rfl
theorem byT_42 : byT Go.Proofs.Tryd.prog 42 = 8 := by kernel_rfl
theorem tkT_43 : tkT Go.Proofs.Tryd.prog 43 = some false := by kernel_rfl
theorem szT_43 : szT Go.Proofs.Tryd.prog 43 = 1 := by kernel_rfl
theorem byT_43 : byT Go.Proofs.Tryd.prog 43 = 24 := by kernel_rfl
theorem tkT_59 : tkT Go.Proofs.Tryd.prog 59 = some false := by kernel_rfl
theorem szT_59 : szT Go.Proofs.Tryd.prog 59 = 1 := by kernel_rfl
theorem byT_59 : byT Go.Proofs.Tryd.prog 59 = 1 := by kernel_rfl
theorem tkT_61 : tkT Go.Proofs.Tryd.prog 61 = some true := by kernel_rfl
theorem szT_61 : szT Go.Proofs.Tryd.prog 61 = 3 := by kernel_rfl
theorem byT_61 : byT Go.Proofs.Tryd.prog 61 = 3 := by kernel_rfl
theorem tkT_68 : tkT Go.Proofs.Tryd.prog 68 = some true := by kernel_rfl
theorem szT_68 : szT Go.Proofs.Tryd.prog 68 = 4 := by kernel_rfl
theorem byT_68 : byT Go.Proofs.Tryd.prog 68 = 56 := by kernel_rfl
theorem tkT_70 : tkT Go.Proofs.Tryd.prog 70 = some false := by kernel_rfl
theorem szT_70 : szT Go.Proofs.Tryd.prog 70 = 1 := by kernel_rfl
theorem byT_70 : byT Go.Proofs.Tryd.prog 70 = 8 := by kernel_rfl
theorem tkT_79 : tkT Go.Proofs.Tryd.prog 79 = some true := by kernel_rfl
theorem szT_79 : szT Go.Proofs.Tryd.prog 79 = 2 := by kernel_rfl
theorem byT_79 : byT Go.Proofs.Tryd.prog 79 = 32 := by kernel_rfl
theorem zeroT_3 : zeroT Go.Proofs.Tryd.prog 3 = some (.prim (.int .i64 0)) := by kernel_rfl
theorem zeroT_4 : zeroT Go.Proofs.Tryd.prog 4 = some (.prim (.bool false)) := by kernel_rfl
theorem zeroT_9 : zeroT Go.Proofs.Tryd.prog 9 = some (.prim (.string ⟨#[]⟩)) := by kernel_rfl
theorem zeroT_30 : zeroT Go.Proofs.Tryd.prog 30 = some (.agg [.prim (.int .i64 0), .prim (.string ⟨#[]⟩), .list .full []]) := by kernel_rfl
theorem zeroT_42 : zeroT Go.Proofs.Tryd.prog 42 = some (.prim (.map none)) := by kernel_rfl
theorem zeroT_43 : zeroT Go.Proofs.Tryd.prog 43 = some (.list .full []) := by kernel_rfl
theorem zeroT_68 : zeroT Go.Proofs.Tryd.prog 68 = some (.agg [.prim (.int .i64 0), .prim (.int .i64 0), .prim (.string ⟨#[]⟩), .list .full []]) := by kernel_rfl
theorem zeroT_70 : zeroT Go.Proofs.Tryd.prog 70 = some (.prim .nilFunc) := by kernel_rfl
theorem zeroT_79 : zeroT Go.Proofs.Tryd.prog 79 = some (.agg [.prim (.pointer none), .list .full []]) := by kernel_rfl
theorem fieldsT_30 : fieldsT Go.Proofs.Tryd.prog 30 = some [(0, 1), (1, 1), (2, 1)] := by kernel_rfl
theorem fieldTypeT_30_0 : fieldTypeT Go.Proofs.Tryd.prog 30 0 = some (0, 3) := by kernel_rfl
theorem fieldTypeT_30_1 : fieldTypeT Go.Proofs.Tryd.prog 30 1 = some (1, 9) := by kernel_rfl
theorem fieldTypeT_30_2 : fieldTypeT Go.Proofs.Tryd.prog 30 2 = some (2, 28) := by kernel_rfl
theorem fieldsT_61 : fieldsT Go.Proofs.Tryd.prog 61 = some [(0, 1), (1, 1), (2, 1)] := by kernel_rfl
theorem fieldTypeT_61_0 : fieldTypeT Go.Proofs.Tryd.prog 61 0 = some (0, 59) := by kernel_rfl
theorem fieldTypeT_61_1 : fieldTypeT Go.Proofs.Tryd.prog 61 1 = some (1, 5) := by kernel_rfl
theorem fieldTypeT_61_2 : fieldTypeT Go.Proofs.Tryd.prog 61 2 = some (2, 5) := by kernel_rfl
theorem fieldsT_68 : fieldsT Go.Proofs.Tryd.prog 68 = some [(0, 1), (1, 3)] := by kernel_rfl
theorem fieldTypeT_68_0 : fieldTypeT Go.Proofs.Tryd.prog 68 0 = some (0, 3) := by kernel_rfl
theorem fieldTypeT_68_1 : fieldTypeT Go.Proofs.Tryd.prog 68 1 = some (1, 30) := by kernel_rfl
theorem bodyT_9 : bodyT Go.Proofs.Tryd.prog 9 = true := by kernel_rfl
theorem bodyT_10 : bodyT Go.Proofs.Tryd.prog 10 = true := by kernel_rfl
theorem bodyT_11 : bodyT Go.Proofs.Tryd.prog 11 = true := by kernel_rfl
theorem bodyT_12 : bodyT Go.Proofs.Tryd.prog 12 = true := by kernel_rfl
theorem bodyT_13 : bodyT Go.Proofs.Tryd.prog 13 = true := by kernel_rfl
theorem bodyT_14 : bodyT Go.Proofs.Tryd.prog 14 = true := by kernel_rfl
theorem bodyT_15 : bodyT Go.Proofs.Tryd.prog 15 = true := by kernel_rfl
theorem bodyT_16 : bodyT Go.Proofs.Tryd.prog 16 = true := by kernel_rfl
theorem bodyT_17 : bodyT Go.Proofs.Tryd.prog 17 = true := by kernel_rfl
theorem bodyT_18 : bodyT Go.Proofs.Tryd.prog 18 = true := by kernel_rfl
theorem bodyT_19 : bodyT Go.Proofs.Tryd.prog 19 = true := by kernel_rfl
theorem bodyT_20 : bodyT Go.Proofs.Tryd.prog 20 = true := by kernel_rfl
theorem bodyT_21 : bodyT Go.Proofs.Tryd.prog 21 = true := by kernel_rfl
theorem bodyT_22 : bodyT Go.Proofs.Tryd.prog 22 = true := by kernel_rfl
theorem bodyT_23 : bodyT Go.Proofs.Tryd.prog 23 = true := by kernel_rfl
theorem bodyT_24 : bodyT Go.Proofs.Tryd.prog 24 = true := by kernel_rfl
theorem bodyT_25 : bodyT Go.Proofs.Tryd.prog 25 = true := by kernel_rfl
theorem bodyT_26 : bodyT Go.Proofs.Tryd.prog 26 = true := by kernel_rfl
theorem bodyT_27 : bodyT Go.Proofs.Tryd.prog 27 = true := by kernel_rfl
theorem bodyT_28 : bodyT Go.Proofs.Tryd.prog 28 = true := by kernel_rfl
theorem bodyT_29 : bodyT Go.Proofs.Tryd.prog 29 = true := by kernel_rfl
theorem bodyT_30 : bodyT Go.Proofs.Tryd.prog 30 = true := by kernel_rfl
theorem bodyT_31 : bodyT Go.Proofs.Tryd.prog 31 = true := by kernel_rfl
theorem bodyT_32 : bodyT Go.Proofs.Tryd.prog 32 = true := by kernel_rfl
theorem bodyT_33 : bodyT Go.Proofs.Tryd.prog 33 = true := by kernel_rfl
theorem bodyT_34 : bodyT Go.Proofs.Tryd.prog 34 = true := by kernel_rfl
theorem bodyT_35 : bodyT Go.Proofs.Tryd.prog 35 = true := by kernel_rfl
theorem bodyT_36 : bodyT Go.Proofs.Tryd.prog 36 = true := by kernel_rfl
theorem bodyT_37 : bodyT Go.Proofs.Tryd.prog 37 = true := by kernel_rfl
theorem bodyT_38 : bodyT Go.Proofs.Tryd.prog 38 = true := by kernel_rfl
theorem bodyT_39 : bodyT Go.Proofs.Tryd.prog 39 = true := by kernel_rfl
theorem bodyT_40 : bodyT Go.Proofs.Tryd.prog 40 = true := by kernel_rfl
theorem bodyT_41 : bodyT Go.Proofs.Tryd.prog 41 = true := by kernel_rfl
theorem bodyT_42 : bodyT Go.Proofs.Tryd.prog 42 = true := by kernel_rfl
theorem bodyT_43 : bodyT Go.Proofs.Tryd.prog 43 = true := by kernel_rfl
theorem bodyT_44 : bodyT Go.Proofs.Tryd.prog 44 = true := by kernel_rfl

attribute [go_sem] kT_3 kT_4 kT_5 kT_9 kT_22 kT_26 kT_27 kT_28 kT_30 kT_33 kT_35 kT_42 kT_43 kT_46 kT_59 kT_61 kT_62 kT_68 kT_70 kT_71 kT_79 tkT_3 szT_3 byT_3 tkT_4 szT_4 byT_4 tkT_5 szT_5 byT_5 tkT_9 szT_9 byT_9 tkT_28 szT_28 byT_28 tkT_30 szT_30 byT_30 tkT_33 szT_33 byT_33 tkT_42 szT_42 byT_42 tkT_43 szT_43 byT_43 tkT_59 szT_59 byT_59 tkT_61 szT_61 byT_61 tkT_68 szT_68 byT_68 tkT_70 szT_70 byT_70 tkT_79 szT_79 byT_79 zeroT_3 zeroT_4 zeroT_9 zeroT_30 zeroT_42 zeroT_43 zeroT_68 zeroT_70 zeroT_79 fieldsT_30 fieldTypeT_30_0 fieldTypeT_30_1 fieldTypeT_30_2 fieldsT_61 fieldTypeT_61_0 fieldTypeT_61_1 fieldTypeT_61_2 fieldsT_68 fieldTypeT_68_0 fieldTypeT_68_1 bodyT_9 bodyT_10 bodyT_11 bodyT_12 bodyT_13 bodyT_14 bodyT_15 bodyT_16 bodyT_17 bodyT_18 bodyT_19 bodyT_20 bodyT_21 bodyT_22 bodyT_23 bodyT_24 bodyT_25 bodyT_26 bodyT_27 bodyT_28 bodyT_29 bodyT_30 bodyT_31 bodyT_32 bodyT_33 bodyT_34 bodyT_35 bodyT_36 bodyT_37 bodyT_38 bodyT_39 bodyT_40 bodyT_41 bodyT_42 bodyT_43 bodyT_44
end Go.Ax

namespace Go.Ax
theorem beq_tt : (true == true) = true := rfl
theorem beq_ff : (false == false) = true := rfl
theorem beq_tf : (true == false) = false := rfl
theorem beq_ft : (false == true) = false := rfl
attribute [go_sem] beq_tt beq_ff beq_tf beq_ft guardV_bool guardV_undef
attribute [go_sem] runA stepA evalA look put guardA dstOk altOf ofV ofM ofVM callA argsF constV cellV resA RetA
attribute [go_sem] loadA atA ldA fieldA storeA indexAddrA indexA lenA binA binIntA unA convA extractA buildA fillA buildSliceA sliceA boundA lookupA mapPutA makeSliceA appendA rowA srcA
attribute [go_sem] binStrA eqBoolA inOrder overA partA fieldVA Option.map_some Option.map_none List.map_cons List.map_nil List.length_cons List.length_nil if_true if_false List.getElem?_cons_zero List.getElem?_cons_succ List.getElem?_nil
attribute [go_sem] List.append_nil List.nil_append List.cons_append Bool.false_eq_true List.toList_toArray decide_true decide_false true_and and_true List.take_succ_cons List.take_zero List.drop_succ_cons List.drop_zero List.head?_cons
attribute [go_sem] runQ opsAt QK List.getElem?_toArray
theorem oneCell_int (k : IntKind) (n : Int) : (Value.int k n).oneCell' = true := rfl
theorem oneCell_bool (b : Bool) : (Value.bool b).oneCell' = true := rfl
theorem oneCell_str (s : ByteArray) : (Value.string s).oneCell' = true := rfl
theorem ints_cells (ys : List Int) : cellsL (ys.map V.int) = ys.map V.int := by
  induction ys with
  | nil => rfl
  | cons y ys ih => simp [cellsL_cons, ih, V.cells]
theorem min2_64 : min 2 64 = 2 := rfl
theorem natbeq_self (n : Nat) : Nat.beq n n = true := Nat.beq_refl n
theorem forall_nil {p : V → Prop} : (∀ x ∈ ([] : List V), p x) = True := by simp
attribute [go_sem] forall_nil min2_64 natbeq_self Bool.and_self Bool.and_true Bool.true_and List.forall_mem_cons
attribute [go_sem] oneCell_int oneCell_bool oneCell_str ints_cells List.forall_mem_map implies_true List.length_map Nat.mul_one
theorem at_snoc {M : AMem} {x : AObj} {n : Nat} (h : n = M.length) : (M ++ [x])[n]? = some x := by subst h; simp
theorem set_snoc {M : AMem} {x y : AObj} {n : Nat} (h : n = M.length) : (M ++ [x]).set n y = M ++ [y] := by subst h; simp
theorem cast0 : ((0 : Nat) : Int) = 0 := rfl
attribute [go_sem] cast0 Bool.not_true Bool.not_false List.all_cons List.all_nil at_snoc set_snoc List.length_append List.length_set
theorem cells_prim (v : Value) : (V.prim v).cells = [(V.prim v)] := rfl
theorem okv_prim (v : Value) : (V.prim v).okv = v.oneCell' := rfl
theorem one_prim (v : Value) : (V.prim v).one = v.oneCell' := rfl
theorem cells_list (t : Tag) (xs : List V) : (V.list t xs).cells = [(V.list t xs)] := rfl
theorem okv_list (t : Tag) (xs : List V) : (V.list t xs).okv = true := rfl
theorem one_list (t : Tag) (xs : List V) : (V.list t xs).one = true := rfl
theorem cells_tup (cs : List V) : (V.tup cs).cells = [(V.tup cs)] := rfl
theorem okv_tup (cs : List V) : (V.tup cs).okv = false := rfl
theorem one_tup (cs : List V) : (V.tup cs).one = false := rfl
theorem cells_pc (cs : List V) : (V.pc cs).cells = [(V.pc cs)] := rfl
theorem okv_pc (cs : List V) : (V.pc cs).okv = true := rfl
theorem one_pc (cs : List V) : (V.pc cs).one = true := rfl
theorem cells_ptr (i off : Nat) : (V.ptr i off).cells = [(V.ptr i off)] := rfl
theorem okv_ptr (i off : Nat) : (V.ptr i off).okv = true := rfl
theorem one_ptr (i off : Nat) : (V.ptr i off).one = true := rfl
theorem cells_map (i : Nat) : (V.map i).cells = [(V.map i)] := rfl
theorem okv_map (i : Nat) : (V.map i).okv = true := rfl
theorem one_map (i : Nat) : (V.map i).one = true := rfl
theorem cells_arr (i off len sz : Nat) : (V.arr i off len sz).cells = [(V.arr i off len sz)] := rfl
theorem okv_arr (i off len sz : Nat) : (V.arr i off len sz).okv = true := rfl
theorem one_arr (i off len sz : Nat) : (V.arr i off len sz).one = true := rfl
theorem cells_fn (f : FuncId) (caps : List V) : (V.fn f caps).cells = [(V.fn f caps)] := rfl
theorem okv_fn (f : FuncId) (caps : List V) : (V.fn f caps).okv = true := rfl
theorem one_fn (f : FuncId) (caps : List V) : (V.fn f caps).one = true := rfl
theorem cells_junk  : V.junk.cells = [V.junk] := rfl
theorem okv_junk  : V.junk.okv = false := rfl
theorem one_junk  : V.junk.one = false := rfl
theorem cells_agg' (cs : List V) : (V.agg cs).cells = cs := rfl
theorem okv_agg (cs : List V) : (V.agg cs).okv = cs.all V.one := rfl
theorem one_agg (cs : List V) : (V.agg cs).one = false := rfl
theorem tagOk_full (M : AMem) : tagOk .full M = true := rfl
theorem dropTag_full (M : AMem) : dropTag .full M = M := rfl
theorem dropTag_own (i : Nat) (M : AMem) : dropTag (.own i) M = M.set i .gone := rfl
attribute [go_sem] cells_prim okv_prim one_prim cells_list okv_list one_list cells_tup okv_tup one_tup cells_pc okv_pc one_pc cells_ptr okv_ptr one_ptr cells_map okv_map one_map cells_arr okv_arr one_arr cells_fn okv_fn one_fn cells_junk okv_junk one_junk cells_agg' okv_agg one_agg tagOk_full dropTag_full dropTag_own
theorem at_left {M L : AMem} {i : Nat} (h : i < M.length) : (M ++ L)[i]? = M[i]? := List.getElem?_append_left h
theorem set_left {M L : AMem} {i : Nat} {x : AObj} (h : i < M.length) : (M ++ L).set i x = M.set i x ++ L := List.set_append_left i x h
end Go.Ax

/- The abstract machine, part 12: a region whose order is open, where several operations can come. Conditions: none. -/
set_option linter.unusedVariables false
set_option linter.unusedSimpArgs false
namespace Go.Ax
variable {P : Program} {pol : List Nat} {N : Nat} {ops : Array Oper}

theorem DR_fork {S : AMem → Prop} {K : Fr → AMem → Prop} {done : List Nat} {F : Fr} {M : AMem} (cand : List Nat)
    (hc : (decide (done.length < ops.size) && !(Region.ready .any ops (listedOf ops.size done)).isEmpty && (Region.ready .any ops (listedOf ops.size done)).all fun i => cand.contains i) = true)
    (h : S M → ∀ i ∈ cand, (Region.ready .any ops (listedOf ops.size done)).contains i = true → match ops[i]? with
      | some o => (match guardA (ops.toList.map (·.dst)) o F with
        | some true => (match stepA P (altOf pol o.dst) o (evalA F) M with
          | .val v M' => S M' ∧ DR P pol ops S K (done ++ [i]) (put o.dst v F) M'
          | _ => False)
        | _ => False)
      | none => False) : DR P pol ops S K done F M := by
  intro hS
  simp only [Bool.and_eq_true, decide_eq_true_eq, Bool.not_eq_true'] at hc
  obtain ⟨⟨h1, h2⟩, h3⟩ := hc
  have e : ops.size - done.length = (ops.size - (done.length + 1)) + 1 := by omega
  rw [e]
  refine ⟨fun h0 => (by rw [h0] at h2; cases h2), fun j hj => ?_⟩
  have hj2 : j ∈ cand := by
    have := List.all_eq_true.1 h3 j hj
    simpa using this
  have hh := h hS j hj2 (by simpa using hj)
  unfold AStep
  cases ho : ops[j]? with
  | none => rw [ho] at hh; exact hh.elim
  | some o =>
    rw [ho] at hh
    simp only at hh ⊢
    rw [guardA_eq] at hh
    generalize guardF (ops.toList.map (·.dst)) o (look F) = g at hh ⊢
    rcases g with _ | _ | _
    · exact hh.elim
    · exact hh.elim
    · simp only at hh ⊢
      rw [evalA_eq] at hh
      generalize stepA P (altOf pol o.dst) o (evalF (look F)) M = r at hh ⊢
      cases r with
      | val v M' =>
        have := hh.2 hh.1
        rw [listedOf_snoc, look_put, List.length_append, List.length_singleton] at this
        exact ⟨.inl hh.1, this⟩
      | _ => exact hh.elim

theorem at_app {M Y : AMem} {c : Nat} {o : AObj} (h : M[c]? = some o) : (M ++ Y)[c]? = some o := by
  rw [List.getElem?_append_left (List.getElem?_eq_some_iff.1 h).1]; exact h

theorem runA_take {dsts : List (Option Nat)} : ∀ (n : Nat) (l : List Oper) (F : Fr) (M : AMem) (F1 : Fr) (M1 : AMem), runA P pol N dsts (l.take n) F M = .done F1 M1 → runA P pol N dsts l F M = runA P pol N dsts (l.drop n) F1 M1
  | 0, l, F, M, F1, M1, h => by
    simp only [List.take_zero, runA] at h
    injection h with h1 h2
    subst h1; subst h2
    rfl
  | n + 1, [], F, M, F1, M1, h => by
    simp only [List.take_nil, runA] at h
    injection h with h1 h2
    subst h1; subst h2
    rfl
  | n + 1, o :: l, F, M, F1, M1, h => by
    simp only [List.take_succ_cons, List.drop_succ_cons, runA] at h ⊢
    generalize dstOk N o.dst = a at h ⊢
    generalize guardA dsts o F = b at h ⊢
    cases a
    · cases h
    rcases b with _ | _ | _
    · cases h
    · exact runA_take n l _ _ _ _ h
    · simp only at h ⊢
      generalize stepA P (altOf pol o.dst) o (evalA F) M = r at h ⊢
      cases r with
      | val v M' => exact runA_take n l _ _ _ _ h
      | call f args => cases h
      | bad => cases h

/-- A long region in parts: what is kept of the first n operations. -/
theorem WRun_cut {dsts : List (Option Nat)} {K : Fr → AMem → Prop} {l : List Oper} {F : Fr} {M : AMem} (n : Nat) (A : Fr → Prop) (h1 : ∃ F1, runA P pol N dsts (l.take n) F M = .done F1 M ∧ A F1)
    (h2 : ∀ F1, A F1 → WRun P pol N dsts K (runA P pol N dsts (l.drop n) F1 M)) : WRun P pol N dsts K (runA P pol N dsts l F M) := by
  obtain ⟨F1, h3, h4⟩ := h1
  rw [runA_take n l F M F1 M h3]
  exact h2 F1 h4
end Go.Ax

/- The abstract machine, part 13: is a slice nil? Conditions: none. -/
set_option linter.unusedVariables false
set_option linter.unusedSimpArgs false
namespace Go.Ax
variable {P : Program} {pol : List Nat} {N : Nat} {ops : Array Oper}

/-- Is a slice nil? Of an empty one nobody knows: both ways. -/
theorem W_nilcmp {Ret : Fr → AMem → Prop} {k : List It} {F : Fr} {M : AMem} {id : Nat} {o1 o2 : Oper} {t ty te : TypeId} {x : Operand} {v1 : V} {tg : Tag} {xs : List V} (ho2 : o2.op = .binOp .eql t x (.const (.slice none 0 0)) ty) (hg1 : o1.guard = none) (hg2 : o2.guard = none)
    (hd1 : dstOk N o1.dst = true) (hd2 : dstOk N o2.dst = true) (ht : kT P t = .slice te) (h1 : stepA P false o1 (evalA F) M = .val v1 M) (hx : evalA (put o1.dst v1 F) x = .list tg xs)
    (hk : ∀ b, (xs ≠ [] → b = false) → W P N Ret k (put o2.dst (.bool b) (put o1.dst v1 F)) M) : W P N Ret (.code (.region id #[o1, o2] false) :: k) F M := by
  intro G a w hR hF
  refine wp_region_list ?_
  show wpList P _ _ [o1, o2] a w
  refine wpList_step fun K' hK' => ?_
  rw [if_pos (by simp [Region.wanted, hg1])]
  refine oper_sound hR hF h1 fun val G' w' hG' hR' hv => ?_
  refine hK' _ _ (wpList_step fun K2 hK2 => ?_)
  rw [if_pos (by simp [Region.wanted, hg2])]
  have hF1 := (hF.mono hG').put (dstOk_lt hd1) hv
  have hvx := hF1.eval x
  rw [hx] at hvx
  have hu : P.underlying t = some (.slice te) := kT_slice ht
  obtain ⟨b, hb, hrun, ad, n, c, hsl⟩ : ∃ b, (xs ≠ [] → b = false) ∧ (binOp .eql t ((a.put o1.dst val).eval x) (.slice none 0 0)).run P w' = .ok (.bool b) w' ∧ ∃ ad n c, (a.put o1.dst val).eval x = .slice ad n c := by
    generalize (a.put o1.dst val).eval x = z at hvx
    cases hvx with
    | nil _ ad cap => exact ⟨ad.isNone, fun h => absurd rfl h, Lib.run_eql_slice_nil w' t te ad 0 cap 0 0 hu, _, _, _, rfl⟩
    | list _ _ bl o cap sz vv => exact ⟨false, fun _ => rfl, Lib.run_eql_slice_nil w' t te _ _ cap 0 0 hu, _, _, _, rfl⟩
  have hs : Snd P G' w' (do eqGuard .eql t x (.const (.slice none 0 0)) ((a.put o1.dst val).eval x) (.slice none 0 0); binOp .eql t ((a.put o1.dst val).eval x) (.slice none 0 0)) (.bool b) M := by
    rw [hsl] at hrun ⊢
    rw [eqGuard_at_slice]
    exact .pure hR' (v := .bool b) hrun (.prim _)
  have hgv : Gives P G' w' (execOp (a.put o1.dst val).eval o2) (.bool b) M := by
    unfold execOp
    rw [ho2]
    exact hs.gives
  obtain ⟨val2, nx, w2, G2, q1, q2, q3, q4, q5⟩ := hgv
  unfold Oper.wp
  rw [q1]
  rcases q2 with rfl | ⟨rfl, rfl⟩
  · exact hK2 _ _ (wpList_nil ⟨G2, _, M, hG'.trans q3, q4, (hF1.mono q3).put (dstOk_lt hd2) q5, hk b hb⟩)
  · cases q5
end Go.Ax

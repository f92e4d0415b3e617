import Derived.Test.YtfpmohmhiecjfaaDoorAx11
namespace Go.Ax
theorem beq_tt : (true == true) = true := rfl
theorem beq_ff : (false == false) = true := rfl
theorem beq_tf : (true == false) = false := rfl
theorem beq_ft : (false == true) = false := rfl
attribute [go_sem] beq_tt beq_ff beq_tf beq_ft guardV_bool guardV_undef
attribute [go_sem] runA stepA evalA look put guardA dstOk altOf ofV ofM ofVM callA argsF constV cellV resA RetA
attribute [go_sem] loadA atA ldA fieldA storeA indexAddrA indexA lenA binA binIntA unA convA extractA buildA fillA buildSliceA sliceA boundA lookupA mapPutA makeSliceA appendA rowA srcA
attribute [go_sem] binStrA eqBoolA inOrder overA partA fieldVA Option.map_some Option.map_none List.map_cons List.map_nil List.length_cons List.length_nil if_true if_false List.getElem?_cons_zero List.getElem?_cons_succ List.getElem?_nil
attribute [go_sem] List.append_nil List.nil_append List.cons_append Bool.false_eq_true List.toList_toArray decide_true decide_false true_and and_true List.take_succ_cons List.take_zero List.drop_succ_cons List.drop_zero List.head?_cons
attribute [go_sem] runQ opsAt QK List.getElem?_toArray
theorem oneCell_int (k : IntKind) (n : Int) : (Value.int k n).oneCell' = true := rfl
theorem oneCell_bool (b : Bool) : (Value.bool b).oneCell' = true := rfl
theorem oneCell_str (s : ByteArray) : (Value.string s).oneCell' = true := rfl
theorem ints_cells (ys : List Int) : cellsL (ys.map V.int) = ys.map V.int := by
  induction ys with
  | nil => rfl
  | cons y ys ih => simp [cellsL_cons, ih, V.cells]
theorem min2_64 : min 2 64 = 2 := rfl
theorem natbeq_self (n : Nat) : Nat.beq n n = true := Nat.beq_refl n
theorem forall_nil {p : V → Prop} : (∀ x ∈ ([] : List V), p x) = True := by simp
attribute [go_sem] forall_nil min2_64 natbeq_self Bool.and_self Bool.and_true Bool.true_and List.forall_mem_cons
attribute [go_sem] oneCell_int oneCell_bool oneCell_str ints_cells List.forall_mem_map implies_true List.length_map Nat.mul_one
theorem at_snoc {M : AMem} {x : AObj} {n : Nat} (h : n = M.length) : (M ++ [x])[n]? = some x := by subst h; simp
theorem set_snoc {M : AMem} {x y : AObj} {n : Nat} (h : n = M.length) : (M ++ [x]).set n y = M ++ [y] := by subst h; simp
theorem cast0 : ((0 : Nat) : Int) = 0 := rfl
attribute [go_sem] cast0 Bool.not_true Bool.not_false List.all_cons List.all_nil at_snoc set_snoc List.length_append List.length_set
theorem cells_prim (v : Value) : (V.prim v).cells = [(V.prim v)] := rfl
theorem okv_prim (v : Value) : (V.prim v).okv = v.oneCell' := rfl
theorem one_prim (v : Value) : (V.prim v).one = v.oneCell' := rfl
theorem cells_list (t : Tag) (xs : List V) : (V.list t xs).cells = [(V.list t xs)] := rfl
theorem okv_list (t : Tag) (xs : List V) : (V.list t xs).okv = true := rfl
theorem one_list (t : Tag) (xs : List V) : (V.list t xs).one = true := rfl
theorem cells_tup (cs : List V) : (V.tup cs).cells = [(V.tup cs)] := rfl
theorem okv_tup (cs : List V) : (V.tup cs).okv = false := rfl
theorem one_tup (cs : List V) : (V.tup cs).one = false := rfl
theorem cells_pc (cs : List V) : (V.pc cs).cells = [(V.pc cs)] := rfl
theorem okv_pc (cs : List V) : (V.pc cs).okv = true := rfl
theorem one_pc (cs : List V) : (V.pc cs).one = true := rfl
theorem cells_ptr (i off : Nat) : (V.ptr i off).cells = [(V.ptr i off)] := rfl
theorem okv_ptr (i off : Nat) : (V.ptr i off).okv = true := rfl
theorem one_ptr (i off : Nat) : (V.ptr i off).one = true := rfl
theorem cells_map (i : Nat) : (V.map i).cells = [(V.map i)] := rfl
theorem okv_map (i : Nat) : (V.map i).okv = true := rfl
theorem one_map (i : Nat) : (V.map i).one = true := rfl
theorem cells_arr (i off len sz : Nat) : (V.arr i off len sz).cells = [(V.arr i off len sz)] := rfl
theorem okv_arr (i off len sz : Nat) : (V.arr i off len sz).okv = true := rfl
theorem one_arr (i off len sz : Nat) : (V.arr i off len sz).one = true := rfl
theorem cells_fn (f : FuncId) (caps : List V) : (V.fn f caps).cells = [(V.fn f caps)] := rfl
theorem okv_fn (f : FuncId) (caps : List V) : (V.fn f caps).okv = true := rfl
theorem one_fn (f : FuncId) (caps : List V) : (V.fn f caps).one = true := rfl
theorem cells_junk  : V.junk.cells = [V.junk] := rfl
theorem okv_junk  : V.junk.okv = false := rfl
theorem one_junk  : V.junk.one = false := rfl
theorem cells_agg' (cs : List V) : (V.agg cs).cells = cs := rfl
theorem okv_agg (cs : List V) : (V.agg cs).okv = cs.all V.one := rfl
theorem one_agg (cs : List V) : (V.agg cs).one = false := rfl
theorem tagOk_full (M : AMem) : tagOk .full M = true := rfl
theorem dropTag_full (M : AMem) : dropTag .full M = M := rfl
theorem dropTag_own (i : Nat) (M : AMem) : dropTag (.own i) M = M.set i .gone := rfl
attribute [go_sem] cells_prim okv_prim one_prim cells_list okv_list one_list cells_tup okv_tup one_tup cells_pc okv_pc one_pc cells_ptr okv_ptr one_ptr cells_map okv_map one_map cells_arr okv_arr one_arr cells_fn okv_fn one_fn cells_junk okv_junk one_junk cells_agg' okv_agg one_agg tagOk_full dropTag_full dropTag_own
theorem at_left {M L : AMem} {i : Nat} (h : i < M.length) : (M ++ L)[i]? = M[i]? := List.getElem?_append_left h
theorem set_left {M L : AMem} {i : Nat} {x : AObj} (h : i < M.length) : (M ++ L).set i x = M.set i x ++ L := List.set_append_left i x h
end Go.Ax

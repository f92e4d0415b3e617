import Derived.Test.YthbojmoiimknhaaAx11
namespace Go.Ax
theorem beq_tt : (true == true) = true := rfl
theorem beq_ff : (false == false) = true := rfl
theorem beq_tf : (true == false) = false := rfl
theorem beq_ft : (false == true) = false := rfl
attribute [go_sem] beq_tt beq_ff beq_tf beq_ft
attribute [go_sem] runA stepA evalA look put guardA dstOk altOf ofV ofM ofVM callA argsF constV cellV resA RetA
attribute [go_sem] loadA atA ldA fieldA storeA indexAddrA indexA lenA binA binIntA unA convA extractA buildA fillA buildSliceA sliceA boundA lookupA mapPutA makeSliceA appendA rowA srcA tagOk dropTag
attribute [go_sem] V.cells V.okv V.one binStrA eqBoolA inOrder overA partA fieldVA Option.map_some Option.map_none List.map_cons List.map_nil List.length_cons List.length_nil if_true if_false List.getElem?_cons_zero List.getElem?_cons_succ List.getElem?_nil
attribute [go_sem] List.append_nil List.nil_append List.cons_append Bool.false_eq_true List.toList_toArray decide_true decide_false true_and and_true List.take_succ_cons List.take_zero List.drop_succ_cons List.drop_zero List.head?_cons
attribute [go_sem] runQ opsAt QK List.getElem?_toArray
theorem oneCell_int (k : IntKind) (n : Int) : (Value.int k n).oneCell' = true := rfl
theorem oneCell_bool (b : Bool) : (Value.bool b).oneCell' = true := rfl
theorem oneCell_str (s : ByteArray) : (Value.string s).oneCell' = true := rfl
theorem ints_cells (ys : List Int) : cellsL (ys.map V.int) = ys.map V.int := by
  induction ys with
  | nil => rfl
  | cons y ys ih => simp [cellsL_cons, ih, V.cells]
theorem min2_64 : min 2 64 = 2 := rfl
theorem natbeq_self (n : Nat) : Nat.beq n n = true := Nat.beq_refl n
theorem forall_nil {p : V → Prop} : (∀ x ∈ ([] : List V), p x) = True := by simp
attribute [go_sem] forall_nil min2_64 natbeq_self Bool.and_self Bool.and_true Bool.true_and List.forall_mem_cons
attribute [go_sem] oneCell_int oneCell_bool oneCell_str ints_cells List.forall_mem_map implies_true List.length_map Nat.mul_one
theorem at_snoc {M : AMem} {x : AObj} {n : Nat} (h : n = M.length) : (M ++ [x])[n]? = some x := by subst h; simp
theorem set_snoc {M : AMem} {x y : AObj} {n : Nat} (h : n = M.length) : (M ++ [x]).set n y = M ++ [y] := by subst h; simp
theorem cast0 : ((0 : Nat) : Int) = 0 := rfl
attribute [go_sem] cast0 Bool.not_true Bool.not_false List.all_cons List.all_nil at_snoc set_snoc List.length_append List.length_set
end Go.Ax

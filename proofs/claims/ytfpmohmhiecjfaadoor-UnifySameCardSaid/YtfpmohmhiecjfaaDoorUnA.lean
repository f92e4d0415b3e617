/- Types as trees of the abstract machine; the small functions that make them. Conditions: none. -/
import Derived.Test.YtfpmohmhiecjfaaDoorCFacts
import Derived.Test.YtfpmohmhiecjfaaDoorAxS
import Derived.Test.YtfpmohmhiecjfaaDoorAx13
import Derived.Test.YtfpmohmhiecjfaaDoorUnM
set_option linter.unusedSimpArgs false
set_option linter.unusedVariables false
namespace Go.Ax
open Go.Proofs Go.Uni
theorem mixed_ : Tryd.prog.follows .mixedOrders = true := by kernel_rfl

theorem wrapI (n : Int) (h : -9223372036854775808 ≤ n) (h' : n < 9223372036854775808) : IntKind.i64.wrap n = n := by rw [IntKind.wrap_i64]; omega

def eStr : ByteArray := ⟨#[]⟩
mutual
def enc : Ty → V
  | .var n => .agg [V.int (n : Int), V.str eStr, .list .dull []]
  | .app f l => .agg [V.int (-1), V.str f, .list .dull (encL l)]
def encL : List Ty → List V
  | [] => []
  | x :: l => enc x :: encL l
end
def hd : Ty → Int
  | .var n => (n : Int)
  | .app _ _ => -1
def nm : Ty → ByteArray
  | .var _ => eStr
  | .app f _ => f
def ar : Ty → List Ty
  | .var _ => []
  | .app _ l => l
@[go_sem] theorem hd_var (n : Nat) : hd (.var n) = (n : Int) := rfl
@[go_sem] theorem hd_app (f : ByteArray) (l : List Ty) : hd (.app f l) = -1 := rfl
@[go_sem] theorem nm_var (n : Nat) : nm (.var n) = eStr := rfl
@[go_sem] theorem nm_app (f : ByteArray) (l : List Ty) : nm (.app f l) = f := rfl
@[go_sem] theorem ar_var (n : Nat) : ar (.var n) = [] := rfl
@[go_sem] theorem ar_app (f : ByteArray) (l : List Ty) : ar (.app f l) = l := rfl
theorem enc_eq (t : Ty) : enc t = .agg [V.int (hd t), V.str (nm t), .list .dull (encL (ar t))] := by cases t <;> rfl
theorem encL_eq : ∀ l : List Ty, encL l = l.map enc
  | [] => rfl
  | x :: l => by rw [encL, encL_eq l]; rfl
@[go_sem] theorem encL_nil : encL [] = [] := rfl
@[go_sem] theorem encL_length (l : List Ty) : (encL l).length = l.length := by rw [encL_eq, List.length_map]
theorem encL_append (l k : List Ty) : encL (l ++ k) = encL l ++ encL k := by simp [encL_eq]
theorem encL_cons (x : Ty) (l : List Ty) : encL (x :: l) = enc x :: encL l := rfl
theorem encL_at {l : List Ty} {i : Nat} {x : Ty} (h : l[i]? = some x) : (encL l)[i]? = some (enc x) := by rw [encL_eq, List.getElem?_map, h]; rfl
@[go_sem] theorem cells_enc (t : Ty) : (enc t).cells = [V.int (hd t), V.str (nm t), .list .dull (encL (ar t))] := by cases t <;> rfl
@[go_sem] theorem okv_enc (t : Ty) : (enc t).okv = true := by cases t <;> rfl
@[go_sem] theorem one_enc (t : Ty) : (enc t).one = false := by cases t <;> rfl
theorem encL_ok (l : List Ty) : ∀ x ∈ encL l, x.cells.length = 3 := by
  intro x hx
  rw [encL_eq] at hx
  obtain ⟨t, _, rfl⟩ := List.mem_map.1 hx
  rw [cells_enc]; rfl
mutual
theorem enc_un : ∀ t : Ty, (enc t).un = enc t
  | .var n => rfl
  | .app f l => by simp only [enc, V.un, V.unL]; rw [encL_un l]
theorem encL_un : ∀ l : List Ty, V.unL (encL l) = encL l
  | [] => rfl
  | x :: l => by simp only [encL, V.unL]; rw [enc_un x, encL_un l]
end
mutual
theorem enc_closed : ∀ t : Ty, (enc t).closed = true
  | .var n => rfl
  | .app f l => by simp only [enc, V.closed, V.closedL]; rw [encL_closed l]; rfl
theorem encL_closed : ∀ l : List Ty, V.closedL (encL l) = true
  | [] => rfl
  | x :: l => by simp only [encL, V.closedL]; rw [enc_closed x, encL_closed l]; rfl
end
theorem un_prim (v : Value) : (V.prim v).un = .prim v := rfl
theorem un_list (t : Tag) (xs : List V) : (V.list t xs).un = .list .dull (V.unL xs) := rfl
theorem un_agg (xs : List V) : (V.agg xs).un = .agg (V.unL xs) := rfl
theorem un_tup (xs : List V) : (V.tup xs).un = .tup (V.unL xs) := rfl
theorem un_map (i : Nat) : (V.map i).un = .map i := rfl
theorem un_ptr (i o : Nat) : (V.ptr i o).un = .ptr i o := rfl
theorem unL_nil : V.unL [] = [] := rfl
theorem unL_cons (x : V) (xs : List V) : V.unL (x :: xs) = x.un :: V.unL xs := rfl
attribute [go_sem] un_prim un_list un_agg un_tup un_map un_ptr unL_nil unL_cons enc_un encL_un
mutual
def Ar : Ty → Prop
  | .var _ => True
  | .app _ l => l.length ≤ 100 ∧ ArL l
def ArL : List Ty → Prop
  | [] => True
  | x :: l => Ar x ∧ ArL l
end
theorem ArL_iff : ∀ {l : List Ty}, ArL l ↔ ∀ x ∈ l, Ar x
  | [] => by simp [ArL]
  | x :: l => by simp [ArL, ArL_iff (l := l)]
theorem Ar_app {f : ByteArray} {l : List Ty} : Ar (.app f l) ↔ l.length ≤ 100 ∧ ∀ x ∈ l, Ar x := by rw [Ar, ArL_iff]
mutual
theorem Ar_sub {m : Nat → Ty} (hm : ∀ v, Ar (m v)) : ∀ {t : Ty}, Ar t → Ar (t.sub m)
  | .var n, _ => hm n
  | .app f l, h => by
    rw [Ty.sub, Ar]
    rw [Ar] at h
    exact ⟨by rw [Ty.subL_eq, List.length_map]; exact h.1, ArL_sub hm h.2⟩
theorem ArL_sub {m : Nat → Ty} (hm : ∀ v, Ar (m v)) : ∀ {l : List Ty}, ArL l → ArL (Ty.subL m l)
  | [], _ => trivial
  | x :: l, h => ⟨Ar_sub hm h.1, ArL_sub hm h.2⟩
end
theorem Ar_put {t u : Ty} {n : Nat} (ht : Ar t) (hu : Ar u) : Ar (t.put n u) := Ar_sub (fun v => by unfold one; split; exact hu; trivial) ht

theorem var_ok (n : Int) (t : Ty) (h : n = hd t) (ht : t = .var n.toNat) : PCalls Tryd.prog 21 [V.int n] (enc t) := by
  refine pcalls_of (enc_closed _) fun M => ?_
  refine acalls_enter [.cell 2 30] 5 Tryd.func21 rfl rfl rfl (by simp) ?_
  (repeat (first | refine W_seq ?_ | refine W_block ?_ | refine W_blk ?_ | refine W_skip ?_ | (refine W_region [] (by rfl) fun K hK => ?_; simp only [go_sem, Nat.reduceEqDiff, Nat.reduceLT, Nat.reduceAdd, Nat.reduceLeDiff, Nat.reduceMul, Nat.reduceSub, Int.reduceLE, Int.reduceLT, Int.reduceToNat, Int.reducePow, Int.reduceEq]; refine WRun.done _ _ (hK _ _ ?_); clear hK)))
  refine W_ret ?_
  simp only [go_sem, Nat.reduceEqDiff, Nat.reduceLT, Nat.reduceAdd, Nat.reduceLeDiff, Nat.reduceMul, Nat.reduceSub, Int.reduceLE, Int.reduceLT, Int.reduceToNat, Int.reducePow, Int.reduceEq]
  refine ⟨?_, _, rfl⟩
  subst ht
  rw [hd_var] at h
  rw [enc, ← h]; rfl

theorem of_ok (f : ByteArray) (l : List Ty) : PCalls Tryd.prog 22 [V.str f, .list .dull (encL l)] (enc (.app f l)) := by
  refine pcalls_of (enc_closed _) fun M => ?_
  refine acalls_enter [.cell 4 30] 8 Tryd.func22 rfl rfl rfl (by simp) ?_
  (repeat (first | refine W_seq ?_ | refine W_block ?_ | refine W_blk ?_ | refine W_skip ?_ | (refine W_region [] (by rfl) fun K hK => ?_; simp only [go_sem, Nat.reduceEqDiff, Nat.reduceLT, Nat.reduceAdd, Nat.reduceLeDiff, Nat.reduceMul, Nat.reduceSub, Int.reduceLE, Int.reduceLT, Int.reduceToNat, Int.reducePow, Int.reduceEq]; refine WRun.done _ _ (hK _ _ ?_); clear hK)))
  refine W_ret ?_
  simp only [go_sem, Nat.reduceEqDiff, Nat.reduceLT, Nat.reduceAdd, Nat.reduceLeDiff, Nat.reduceMul, Nat.reduceSub, Int.reduceLE, Int.reduceLT, Int.reduceToNat, Int.reducePow, Int.reduceEq]
  exact ⟨rfl, _, rfl⟩

theorem fn_ok (a b : Ty) : PCalls Tryd.prog 29 [enc a, enc b] (enc (.app ⟨#[45, 62]⟩ [a, b])) := by
  refine pcalls_of (enc_closed _) fun M => ?_
  refine acalls_enter [.cell 4 30] 9 Tryd.func29 rfl rfl rfl (by simp) ?_
  (repeat (first | refine W_seq ?_ | refine W_block ?_ | refine W_blk ?_ | refine W_skip ?_))
  (refine W_region [2, 3] (by rfl) fun K hK => ?_; simp only [go_sem, Nat.reduceEqDiff, Nat.reduceLT, Nat.reduceAdd, Nat.reduceLeDiff, Nat.reduceMul, Nat.reduceSub, Int.reduceLE, Int.reduceLT, Int.reduceToNat, Int.reducePow, Int.reduceEq])
  (refine WRun.done _ _ (hK _ _ ?_); clear hK)
  (repeat (first | refine W_seq ?_ | refine W_block ?_ | refine W_blk ?_ | refine W_skip ?_))
  (refine W_region [] (by rfl) fun K hK => ?_; simp only [go_sem, Nat.reduceEqDiff, Nat.reduceLT, Nat.reduceAdd, Nat.reduceLeDiff, Nat.reduceMul, Nat.reduceSub, Int.reduceLE, Int.reduceLT, Int.reduceToNat, Int.reducePow, Int.reduceEq])
  refine PCalls.use (of_ok ⟨#[45, 62]⟩ [a, b]) (by simp only [go_sem, Nat.reduceEqDiff, Nat.reduceLT, Nat.reduceAdd, Nat.reduceLeDiff, Nat.reduceMul, Nat.reduceSub, Int.reduceLE, Int.reduceLT, Int.reduceToNat, Int.reducePow, Int.reduceEq, enc_eq, encL_cons]) ?_
  simp only [go_sem, Nat.reduceEqDiff, Nat.reduceLT, Nat.reduceAdd, Nat.reduceLeDiff, Nat.reduceMul, Nat.reduceSub, Int.reduceLE, Int.reduceLT, Int.reduceToNat, Int.reducePow, Int.reduceEq]
  (refine WRun.done _ _ (hK _ _ ?_); clear hK)
  refine W_ret ?_
  simp only [go_sem, Nat.reduceEqDiff, Nat.reduceLT, Nat.reduceAdd, Nat.reduceLeDiff, Nat.reduceMul, Nat.reduceSub, Int.reduceLE, Int.reduceLT, Int.reduceToNat, Int.reducePow, Int.reduceEq]
  refine ⟨?_, _, rfl⟩
  simp only [go_sem, Nat.reduceEqDiff, Nat.reduceLT, Nat.reduceAdd, Nat.reduceLeDiff, Nat.reduceMul, Nat.reduceSub, Int.reduceLE, Int.reduceLT, Int.reduceToNat, Int.reducePow, Int.reduceEq, encL_cons]
  rfl
end Go.Ax

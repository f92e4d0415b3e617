/- What fits; the example of the chapter. Conditions: none. -/
import Derived.Test.YtfpmohmhiecjfaaDoorUnV
set_option linter.unusedSimpArgs false
set_option linter.unusedVariables false
namespace Go.Ax
open Go.Proofs Go.Uni

theorem TgIn.upd {n : Nat} {tg : Tag} {M : AMem} (h : TgIn n tg M) {o : Nat} {x y : AObj} (ho : M[o]? = some x) (hx : x ≠ .tail) : TgIn n tg (M.set o y) := by
  refine ⟨?_, h.2⟩
  have h1 := h.1
  cases tg with
  | own k =>
    simp only [tagOk] at h1 ⊢
    have : o ≠ k := fun e => by
      subst e; rw [ho] at h1
      cases x <;> simp at h1 hx
    rw [List.getElem?_set_ne this]; exact h1
  | _ => exact h1

def encNL (l : List Nd) : V := .list .dull (l.map encN)
theorem encNL_ok (ls : List (List Nd)) : (∀ x, x ∈ ls.map encNL → x.cells.length = 1) = True := by
  refine eq_true fun x hx => ?_
  obtain ⟨y, _, rfl⟩ := List.mem_map.1 hx
  rfl
theorem encNL_at {ls : List (List Nd)} {i : Nat} {l : List Nd} (h : ls[i]? = some l) : (ls.map encNL)[i]? = some (.list .dull (l.map encN)) := by simp [h, encNL]
theorem encNL_un (ls : List (List Nd)) : V.unL (ls.map encNL) = ls.map encNL := by
  rw [V.unL_eq, List.map_map]
  refine List.map_congr_left fun l _ => ?_
  simp only [Function.comp, encNL, V.un, encN_un]
attribute [go_sem] encNL_un
def fitsF (ls : List (List Nd)) : Bool := ls.all (fun l => decide (l.length ≤ 9)) && decide (ls.length ≤ 12)

set_option maxHeartbeats 4000000 in
theorem fits_ok (ls : List (List Nd)) (hb : ls.length ≤ 140737488355328) (hb2 : ∀ l ∈ ls, l.length ≤ 140737488355328) : PCalls Tryd.prog 10 [.list .dull (ls.map encNL)] (V.bool (fitsF ls)) := by
  refine pcalls_of rfl fun M => ?_
  refine acalls_enter [.tmp 2] 18 Tryd.func10 rfl rfl rfl (by simp) ?_
  (repeat (first | refine W_seq ?_ | refine W_block ?_ | refine W_blk ?_ | refine W_skip ?_ | (refine W_region [] (by rfl) fun K hK => ?_; simp only [go_sem, Nat.reduceEqDiff, Nat.reduceLT, Nat.reduceAdd, Nat.reduceLeDiff, Nat.reduceMul, Nat.reduceSub, Int.reduceLE, Int.reduceLT, Int.reduceToNat, Int.reducePow, Int.reduceEq]; refine WRun.done _ _ (hK _ _ ?_); clear hK)))
  refine W_loop (α := Nat) (fun i F' M' => i ≤ ls.length ∧ M' = M ∧ look F' 0 = .list .dull (ls.map encNL) ∧ look F' 5 = .list .dull (ls.map encNL) ∧ look F' 6 = V.int ls.length ∧ look F' 7 = V.int i ∧ ∀ x ∈ ls.take i, x.length ≤ 9)
    (fun i => ls.length - i) 0 ⟨Nat.zero_le _, rfl, ?_, ?_, ?_, ?_, by simp⟩ ?_
  · simp only [go_sem, Nat.reduceEqDiff, Nat.reduceLT, Nat.reduceAdd, Nat.reduceLeDiff, Nat.reduceMul, Nat.reduceSub, Int.reduceLE, Int.reduceLT, Int.reduceToNat, Int.reducePow, Int.reduceEq]
  · simp only [go_sem, Nat.reduceEqDiff, Nat.reduceLT, Nat.reduceAdd, Nat.reduceLeDiff, Nat.reduceMul, Nat.reduceSub, Int.reduceLE, Int.reduceLT, Int.reduceToNat, Int.reducePow, Int.reduceEq]
  · simp only [go_sem, Nat.reduceEqDiff, Nat.reduceLT, Nat.reduceAdd, Nat.reduceLeDiff, Nat.reduceMul, Nat.reduceSub, Int.reduceLE, Int.reduceLT, Int.reduceToNat, Int.reducePow, Int.reduceEq]
  · simp only [go_sem, Nat.reduceEqDiff, Nat.reduceLT, Nat.reduceAdd, Nat.reduceLeDiff, Nat.reduceMul, Nat.reduceSub, Int.reduceLE, Int.reduceLT, Int.reduceToNat, Int.reducePow, Int.reduceEq]
  rintro i F' M' ⟨hi, hMM, f0, f5, f6, f7, hno⟩
  subst M'
  by_cases hlt : i < ls.length
  · have hlt' : (i : Int) < (ls.length : Int) := by omega
    have hw : IntKind.i64.wrap ((i : Int) + 1) = ((i + 1 : Nat) : Int) := by rw [wrapI _ (by omega) (by omega)]; omega
    obtain ⟨x, hxl⟩ : ∃ x, ls[i]? = some x := ⟨ls[i], by simp [hlt]⟩
    have hat := encNL_at hxl
    (repeat (first | refine W_seq ?_ | refine W_block ?_ | refine W_blk ?_ | refine W_skip ?_ | (refine W_region [] (by rfl) fun K hK => ?_; simp only [go_sem, Nat.reduceEqDiff, Nat.reduceLT, Nat.reduceAdd, Nat.reduceLeDiff, Nat.reduceMul, Nat.reduceSub, Int.reduceLE, Int.reduceLT, Int.reduceToNat, Int.reducePow, Int.reduceEq, f6, f7, hlt']; refine WRun.done _ _ (hK _ _ ?_); clear hK)))
    refine W_cond_true (by simp only [go_sem, Nat.reduceEqDiff, Nat.reduceLT, Nat.reduceAdd, Nat.reduceLeDiff, Nat.reduceMul, Nat.reduceSub, Int.reduceLE, Int.reduceLT, Int.reduceToNat, Int.reducePow, Int.reduceEq]) ?_
    have hx9 := hb2 x (List.mem_of_getElem? hxl)
    by_cases h9 : x.length ≤ 9
    · have h9' : ¬ ((9 : Int) < (x.length : Int)) := by omega
      (repeat (first | refine W_seq ?_ | refine W_block ?_ | refine W_blk ?_ | refine W_skip ?_ | (refine W_region [] (by rfl) fun K hK => ?_; simp only [go_sem, Nat.reduceEqDiff, Nat.reduceLT, Nat.reduceAdd, Nat.reduceLeDiff, Nat.reduceMul, Nat.reduceSub, Int.reduceLE, Int.reduceLT, Int.reduceToNat, Int.reducePow, Int.reduceEq, f5, f7, hat, h9', Int.natCast_nonneg, Int.toNat_natCast]; refine WRun.done _ _ (hK _ _ ?_); clear hK)))
      refine W_cond_false (by simp only [go_sem, Nat.reduceEqDiff, Nat.reduceLT, Nat.reduceAdd, Nat.reduceLeDiff, Nat.reduceMul, Nat.reduceSub, Int.reduceLE, Int.reduceLT, Int.reduceToNat, Int.reducePow, Int.reduceEq, h9']) ?_
      (repeat (first | refine W_seq ?_ | refine W_block ?_ | refine W_blk ?_ | refine W_skip ?_ | (refine W_region [] (by rfl) fun K hK => ?_; simp only [go_sem, Nat.reduceEqDiff, Nat.reduceLT, Nat.reduceAdd, Nat.reduceLeDiff, Nat.reduceMul, Nat.reduceSub, Int.reduceLE, Int.reduceLT, Int.reduceToNat, Int.reducePow, Int.reduceEq, f7, hw]; refine WRun.done _ _ (hK _ _ ?_); clear hK)))
      refine W_stop ⟨i + 1, ⟨hlt, rfl, ?_, ?_, ?_, ?_, ?_⟩, by omega⟩
      · simp only [go_sem, Nat.reduceEqDiff, Nat.reduceLT, Nat.reduceAdd, Nat.reduceLeDiff, Nat.reduceMul, Nat.reduceSub, Int.reduceLE, Int.reduceLT, Int.reduceToNat, Int.reducePow, Int.reduceEq, f0]
      · simp only [go_sem, Nat.reduceEqDiff, Nat.reduceLT, Nat.reduceAdd, Nat.reduceLeDiff, Nat.reduceMul, Nat.reduceSub, Int.reduceLE, Int.reduceLT, Int.reduceToNat, Int.reducePow, Int.reduceEq, f5]
      · simp only [go_sem, Nat.reduceEqDiff, Nat.reduceLT, Nat.reduceAdd, Nat.reduceLeDiff, Nat.reduceMul, Nat.reduceSub, Int.reduceLE, Int.reduceLT, Int.reduceToNat, Int.reducePow, Int.reduceEq, f6]
      · simp only [go_sem, Nat.reduceEqDiff, Nat.reduceLT, Nat.reduceAdd, Nat.reduceLeDiff, Nat.reduceMul, Nat.reduceSub, Int.reduceLE, Int.reduceLT, Int.reduceToNat, Int.reducePow, Int.reduceEq]
      · intro y hy
        rw [List.take_add_one, hxl] at hy
        rcases List.mem_append.1 hy with hy | hy
        · exact hno y hy
        · simp at hy; subst hy; exact h9
    · have h9' : (9 : Int) < (x.length : Int) := by omega
      (repeat (first | refine W_seq ?_ | refine W_block ?_ | refine W_blk ?_ | refine W_skip ?_ | (refine W_region [] (by rfl) fun K hK => ?_; simp only [go_sem, Nat.reduceEqDiff, Nat.reduceLT, Nat.reduceAdd, Nat.reduceLeDiff, Nat.reduceMul, Nat.reduceSub, Int.reduceLE, Int.reduceLT, Int.reduceToNat, Int.reducePow, Int.reduceEq, f5, f7, hat, h9', Int.natCast_nonneg, Int.toNat_natCast]; refine WRun.done _ _ (hK _ _ ?_); clear hK)))
      refine W_cond_true (by simp only [go_sem, Nat.reduceEqDiff, Nat.reduceLT, Nat.reduceAdd, Nat.reduceLeDiff, Nat.reduceMul, Nat.reduceSub, Int.reduceLE, Int.reduceLT, Int.reduceToNat, Int.reducePow, Int.reduceEq, h9']) ?_
      (repeat (first | refine W_seq ?_ | refine W_block ?_ | refine W_blk ?_ | refine W_skip ?_ | (refine W_region [] (by rfl) fun K hK => ?_; simp only [go_sem, Nat.reduceEqDiff, Nat.reduceLT, Nat.reduceAdd, Nat.reduceLeDiff, Nat.reduceMul, Nat.reduceSub, Int.reduceLE, Int.reduceLT, Int.reduceToNat, Int.reducePow, Int.reduceEq]; refine WRun.done _ _ (hK _ _ ?_); clear hK)))
      refine W_ret ?_
      simp only [go_sem, Nat.reduceEqDiff, Nat.reduceLT, Nat.reduceAdd, Nat.reduceLeDiff, Nat.reduceMul, Nat.reduceSub, Int.reduceLE, Int.reduceLT, Int.reduceToNat, Int.reducePow, Int.reduceEq]
      refine ⟨?_, [], by simp⟩
      have : fitsF ls = false := by
        unfold fitsF
        rw [Bool.and_eq_false_iff]; left
        rw [List.all_eq_false]
        exact ⟨x, List.mem_of_getElem? hxl, by simp; omega⟩
      rw [this]
  · have hii : i = ls.length := by omega
    subst hii
    (repeat (first | refine W_seq ?_ | refine W_block ?_ | refine W_blk ?_ | refine W_skip ?_ | (refine W_region [] (by rfl) fun K hK => ?_; simp only [go_sem, Nat.reduceEqDiff, Nat.reduceLT, Nat.reduceAdd, Nat.reduceLeDiff, Nat.reduceMul, Nat.reduceSub, Int.reduceLE, Int.reduceLT, Int.reduceToNat, Int.reducePow, Int.reduceEq, f6, f7, Int.lt_irrefl]; refine WRun.done _ _ (hK _ _ ?_); clear hK)))
    refine W_cond_false (by simp only [go_sem, Nat.reduceEqDiff, Nat.reduceLT, Nat.reduceAdd, Nat.reduceLeDiff, Nat.reduceMul, Nat.reduceSub, Int.reduceLE, Int.reduceLT, Int.reduceToNat, Int.reducePow, Int.reduceEq]) ?_
    refine W_exit (Qof_code (Qof_stop (Qof_blk_same ?_)))
    (repeat (first | refine W_seq ?_ | refine W_block ?_ | refine W_blk ?_ | refine W_skip ?_ | (refine W_region [] (by rfl) fun K hK => ?_; simp only [go_sem, Nat.reduceEqDiff, Nat.reduceLT, Nat.reduceAdd, Nat.reduceLeDiff, Nat.reduceMul, Nat.reduceSub, Int.reduceLE, Int.reduceLT, Int.reduceToNat, Int.reducePow, Int.reduceEq, f0]; refine WRun.done _ _ (hK _ _ ?_); clear hK)))
    refine W_ret ?_
    simp only [go_sem, Nat.reduceEqDiff, Nat.reduceLT, Nat.reduceAdd, Nat.reduceLeDiff, Nat.reduceMul, Nat.reduceSub, Int.reduceLE, Int.reduceLT, Int.reduceToNat, Int.reducePow, Int.reduceEq]
    refine ⟨?_, [], by simp⟩
    rw [List.take_length] at hno
    have h1 : ls.all (fun l => decide (l.length ≤ 9)) = true := by
      rw [List.all_eq_true]
      exact fun x hx => by simpa using hno x hx
    rw [fitsF, h1, Bool.true_and]
    have : ((ls.length : Int) ≤ 12) ↔ ls.length ≤ 12 := by omega
    simp only [this]

def tInt : Ty := .app ⟨#[73, 110, 116]⟩ []
def tList (t : Ty) : Ty := .app ⟨#[76, 105, 115, 116]⟩ [t]
def tFn (a b : Ty) : Ty := .app ⟨#[45, 62]⟩ [a, b]
theorem fn_ok' (a b : Ty) : PCalls Tryd.prog 29 [enc a, enc b] (enc (tFn a b)) := fn_ok a b
def lm1 : Nat → Ty := bind Ty.var 0 (tList (.var 1))
def lm2 : Nat → Ty := bind lm1 1 tInt
theorem lives_un : Un Ty.var (tFn (.var 0) tInt) (tFn (tList (.var 1)) (.var 1)) (some lm2) 3 := by
  have h1 : Un Ty.var (.var 0) (tList (.var 1)) (some lm1) 1 := by
    have := Un.bindL Ty.var (.var 0) (tList (.var 1)) 0 rfl (by rw [Ty.sub_var]; intro e; cases e) (by rw [Ty.sub_var]; simp [tList, Ty.vars, Ty.varsL])
    rw [Ty.sub_var] at this
    exact this
  have h2 : Un lm1 tInt (.var 1) (some lm2) 1 := by
    have e : tInt.sub lm1 = tInt := by simp [tInt, Ty.sub, Ty.subL]
    have := Un.bindR lm1 tInt (.var 1) ⟨#[73, 110, 116]⟩ [] 1 e rfl (by rw [e]; simp [tInt, Ty.vars, Ty.varsL])
    rw [e] at this
    exact this
  exact .app Ty.var _ _ ⟨#[45, 62]⟩ [.var 0, tInt] [tList (.var 1), .var 1] _ 2 (by rw [Ty.sub_var]; simp [tFn, Ty.sub_var]) (by rw [Ty.sub_var]; simp [tFn, Ty.sub_var]) rfl (.cons _ lm1 _ _ _ _ _ 1 1 h1 (.cons _ lm2 _ _ _ _ _ 1 0 h2 (.nil lm2)))
theorem lives_s1 : (Ty.var 0).sub lm2 = tList tInt := rfl
theorem lives_s2 : (tFn (.var 0) tInt).sub lm2 = tFn (tList tInt) tInt := rfl
theorem lives_t1 : strEq (txt (tList tInt)) ⟨#[40, 76, 105, 115, 116, 32, 73, 110, 116, 41]⟩ = true := by decide +kernel
theorem lives_t2 : strEq (txt (tFn (tList tInt) tInt)) ⟨#[40, 45, 62, 32, 40, 76, 105, 115, 116, 32, 73, 110, 116, 41, 32, 73, 110, 116, 41]⟩ = true := by decide +kernel

set_option maxHeartbeats 8000000 in
theorem lives_ok : PCalls Tryd.prog 9 [] (V.bool true) := by
  refine pcalls_of rfl fun M => ?_
  refine acalls_enter [.tmp 0] 32 Tryd.func9 rfl rfl rfl (by simp) ?_
  (repeat (first | refine W_seq ?_ | refine W_block ?_ | refine W_blk ?_ | refine W_skip ?_ | (refine W_region [] (by rfl) fun K hK => ?_; simp only [go_sem, Nat.reduceEqDiff, Nat.reduceLT, Nat.reduceAdd, Nat.reduceLeDiff, Nat.reduceMul, Nat.reduceSub, Int.reduceLE, Int.reduceLT, Int.reduceToNat, Int.reducePow, Int.reduceEq]; refine WRun.done _ _ (hK _ _ ?_); clear hK)))
  (repeat (first | refine W_seq ?_ | refine W_block ?_ | refine W_blk ?_ | refine W_skip ?_))
  (refine W_region [] (by rfl) fun K hK => ?_; simp only [go_sem, Nat.reduceEqDiff, Nat.reduceLT, Nat.reduceAdd, Nat.reduceLeDiff, Nat.reduceMul, Nat.reduceSub, Int.reduceLE, Int.reduceLT, Int.reduceToNat, Int.reducePow, Int.reduceEq])
  refine PCalls.use (var_ok 0 (.var 0) rfl rfl) (by simp only [go_sem, Nat.reduceEqDiff, Nat.reduceLT, Nat.reduceAdd, Nat.reduceLeDiff, Nat.reduceMul, Nat.reduceSub, Int.reduceLE, Int.reduceLT, Int.reduceToNat, Int.reducePow, Int.reduceEq]) ?_
  simp only [go_sem, Nat.reduceEqDiff, Nat.reduceLT, Nat.reduceAdd, Nat.reduceLeDiff, Nat.reduceMul, Nat.reduceSub, Int.reduceLE, Int.reduceLT, Int.reduceToNat, Int.reducePow, Int.reduceEq]
  refine PCalls.use (of_ok ⟨#[73, 110, 116]⟩ []) (by simp only [go_sem, Nat.reduceEqDiff, Nat.reduceLT, Nat.reduceAdd, Nat.reduceLeDiff, Nat.reduceMul, Nat.reduceSub, Int.reduceLE, Int.reduceLT, Int.reduceToNat, Int.reducePow, Int.reduceEq]) ?_
  simp only [go_sem, Nat.reduceEqDiff, Nat.reduceLT, Nat.reduceAdd, Nat.reduceLeDiff, Nat.reduceMul, Nat.reduceSub, Int.reduceLE, Int.reduceLT, Int.reduceToNat, Int.reducePow, Int.reduceEq]
  refine PCalls.use (fn_ok' (.var 0) tInt) (by simp only [go_sem, Nat.reduceEqDiff, Nat.reduceLT, Nat.reduceAdd, Nat.reduceLeDiff, Nat.reduceMul, Nat.reduceSub, Int.reduceLE, Int.reduceLT, Int.reduceToNat, Int.reducePow, Int.reduceEq, tInt]) ?_
  simp only [go_sem, Nat.reduceEqDiff, Nat.reduceLT, Nat.reduceAdd, Nat.reduceLeDiff, Nat.reduceMul, Nat.reduceSub, Int.reduceLE, Int.reduceLT, Int.reduceToNat, Int.reducePow, Int.reduceEq]
  (refine WRun.done _ _ (hK _ _ ?_); clear hK)
  (repeat (first | refine W_seq ?_ | refine W_block ?_ | refine W_blk ?_ | refine W_skip ?_))
  (refine W_region [] (by rfl) fun K hK => ?_; simp only [go_sem, Nat.reduceEqDiff, Nat.reduceLT, Nat.reduceAdd, Nat.reduceLeDiff, Nat.reduceMul, Nat.reduceSub, Int.reduceLE, Int.reduceLT, Int.reduceToNat, Int.reducePow, Int.reduceEq])
  refine PCalls.use (var_ok 1 (.var 1) rfl rfl) (by simp only [go_sem, Nat.reduceEqDiff, Nat.reduceLT, Nat.reduceAdd, Nat.reduceLeDiff, Nat.reduceMul, Nat.reduceSub, Int.reduceLE, Int.reduceLT, Int.reduceToNat, Int.reducePow, Int.reduceEq]) ?_
  simp only [go_sem, Nat.reduceEqDiff, Nat.reduceLT, Nat.reduceAdd, Nat.reduceLeDiff, Nat.reduceMul, Nat.reduceSub, Int.reduceLE, Int.reduceLT, Int.reduceToNat, Int.reducePow, Int.reduceEq]
  refine PCalls.use (of_ok ⟨#[76, 105, 115, 116]⟩ [.var 1]) (by simp only [go_sem, Nat.reduceEqDiff, Nat.reduceLT, Nat.reduceAdd, Nat.reduceLeDiff, Nat.reduceMul, Nat.reduceSub, Int.reduceLE, Int.reduceLT, Int.reduceToNat, Int.reducePow, Int.reduceEq, encL_cons]) ?_
  simp only [go_sem, Nat.reduceEqDiff, Nat.reduceLT, Nat.reduceAdd, Nat.reduceLeDiff, Nat.reduceMul, Nat.reduceSub, Int.reduceLE, Int.reduceLT, Int.reduceToNat, Int.reducePow, Int.reduceEq]
  refine PCalls.use (var_ok 1 (.var 1) rfl rfl) (by simp only [go_sem, Nat.reduceEqDiff, Nat.reduceLT, Nat.reduceAdd, Nat.reduceLeDiff, Nat.reduceMul, Nat.reduceSub, Int.reduceLE, Int.reduceLT, Int.reduceToNat, Int.reducePow, Int.reduceEq]) ?_
  simp only [go_sem, Nat.reduceEqDiff, Nat.reduceLT, Nat.reduceAdd, Nat.reduceLeDiff, Nat.reduceMul, Nat.reduceSub, Int.reduceLE, Int.reduceLT, Int.reduceToNat, Int.reducePow, Int.reduceEq]
  refine PCalls.use (fn_ok' (tList (.var 1)) (.var 1)) (by simp only [go_sem, Nat.reduceEqDiff, Nat.reduceLT, Nat.reduceAdd, Nat.reduceLeDiff, Nat.reduceMul, Nat.reduceSub, Int.reduceLE, Int.reduceLT, Int.reduceToNat, Int.reducePow, Int.reduceEq, tList]) ?_
  simp only [go_sem, Nat.reduceEqDiff, Nat.reduceLT, Nat.reduceAdd, Nat.reduceLeDiff, Nat.reduceMul, Nat.reduceSub, Int.reduceLE, Int.reduceLT, Int.reduceToNat, Int.reducePow, Int.reduceEq]
  (refine WRun.done _ _ (hK _ _ ?_); clear hK)
  have hx : Ext M (M ++ [AObj.map []] ++ [AObj.cells (tcells (tFn (.var 0) tInt))] ++ [AObj.cells (tcells (tFn (tList (.var 1)) (.var 1)))]) := (((Ext.refl M).app _).app _).app _
  have h1 : (M ++ [AObj.map []] ++ [AObj.cells (tcells (tFn (.var 0) tInt))] ++ [AObj.cells (tcells (tFn (tList (.var 1)) (.var 1)))])[M.length]? = some (.map []) := at_app (at_app (at_snoc rfl))
  have h2 : (M ++ [AObj.map []] ++ [AObj.cells (tcells (tFn (.var 0) tInt))] ++ [AObj.cells (tcells (tFn (tList (.var 1)) (.var 1)))])[M.length + 1]? = some (.cells (tcells (tFn (.var 0) tInt))) := at_app (at_snoc (by simp))
  have h3 : (M ++ [AObj.map []] ++ [AObj.cells (tcells (tFn (.var 0) tInt))] ++ [AObj.cells (tcells (tFn (tList (.var 1)) (.var 1)))])[M.length + 1 + 1]? = some (.cells (tcells (tFn (tList (.var 1)) (.var 1)))) := at_snoc (by simp)
  generalize M ++ [AObj.map []] ++ [AObj.cells (tcells (tFn (.var 0) tInt))] ++ [AObj.cells (tcells (tFn (tList (.var 1)) (.var 1)))] = M1 at hx h1 h2 h3 ⊢
  have hA1 : Ar (tFn (.var 0) tInt) := by simp [tFn, tInt, Ar, ArL]
  have hA2 : Ar (tFn (tList (.var 1)) (.var 1)) := by simp [tFn, tList, Ar, ArL]
  have hA3 : Ar (tList tInt) := by simp [tList, tInt, Ar, ArL]
  have hA4 : Ar (tFn (tList tInt) tInt) := by simp [tFn, tList, tInt, Ar, ArL]
  have hS3 : Sm (tList tInt) := by simp [tList, tInt, Sm, SmL, ByteArray.size]
  have hS4 : Sm (tFn (tList tInt) tInt) := by simp [tFn, tList, tInt, Sm, SmL, ByteArray.size]
  have hv3 : ∀ n ∈ (tList tInt).vars, n < 100 := by simp [tList, tInt, Ty.vars, Ty.varsL]
  have hv4 : ∀ n ∈ (tFn (tList tInt) tInt).vars, n < 100 := by simp [tFn, tList, tInt, Ty.vars, Ty.varsL]
  (repeat (first | refine W_seq ?_ | refine W_block ?_ | refine W_blk ?_ | refine W_skip ?_))
  (refine W_region [] (by rfl) fun K hK => ?_; simp only [go_sem, Nat.reduceEqDiff, Nat.reduceLT, Nat.reduceAdd, Nat.reduceLeDiff, Nat.reduceMul, Nat.reduceSub, Int.reduceLE, Int.reduceLT, Int.reduceToNat, Int.reducePow, Int.reduceEq, h1, h2, h3])
  refine ACalls.use (unify_ok M.length lives_un SMap.start Sbs.start hA1 hA2 M1 h1) (by simp only [go_sem, Nat.reduceEqDiff, Nat.reduceLT, Nat.reduceAdd, Nat.reduceLeDiff, Nat.reduceMul, Nat.reduceSub, Int.reduceLE, Int.reduceLT, Int.reduceToNat, Int.reducePow, Int.reduceEq, enc_eq]) ?_
  rintro r' M2 ⟨es4, x4, rfl, ho⟩
  rcases ho with ⟨rfl, _, _, m', s', r', hm', hs', hb'⟩ | ⟨_, hno, _⟩
  · injection hm' with hm'
    subst hm'
    have k1 : (M1.set M.length (.map es4))[M.length]? = some (.map es4) := List.getElem?_set_self (List.getElem?_eq_some_iff.1 h1).1
    have k2 : (M1.set M.length (.map es4))[M.length + 1]? = some (.cells (tcells (tFn (.var 0) tInt))) := by rw [List.getElem?_set_ne (by omega)]; exact h2
    have hx2 := hx.set (Nat.le_refl _) (.map es4)
    simp only [go_sem, Nat.reduceEqDiff, Nat.reduceLT, Nat.reduceAdd, Nat.reduceLeDiff, Nat.reduceMul, Nat.reduceSub, Int.reduceLE, Int.reduceLT, Int.reduceToNat, Int.reducePow, Int.reduceEq]
    refine PCalls.use (var_ok 0 (.var 0) rfl rfl) (by simp only [go_sem, Nat.reduceEqDiff, Nat.reduceLT, Nat.reduceAdd, Nat.reduceLeDiff, Nat.reduceMul, Nat.reduceSub, Int.reduceLE, Int.reduceLT, Int.reduceToNat, Int.reducePow, Int.reduceEq]) ?_
    simp only [go_sem, Nat.reduceEqDiff, Nat.reduceLT, Nat.reduceAdd, Nat.reduceLeDiff, Nat.reduceMul, Nat.reduceSub, Int.reduceLE, Int.reduceLT, Int.reduceToNat, Int.reducePow, Int.reduceEq]
    refine ACalls.use (apply_ok hs' hb' M.length _ (.var 0) (Nat.le_refl _) trivial _ k1) (by simp only [go_sem, Nat.reduceEqDiff, Nat.reduceLT, Nat.reduceAdd, Nat.reduceLeDiff, Nat.reduceMul, Nat.reduceSub, Int.reduceLE, Int.reduceLT, Int.reduceToNat, Int.reducePow, Int.reduceEq]) ?_
    rintro v Mv ⟨rfl, rfl⟩
    rw [lives_s1]
    simp only [go_sem, Nat.reduceEqDiff, Nat.reduceLT, Nat.reduceAdd, Nat.reduceLeDiff, Nat.reduceMul, Nat.reduceSub, Int.reduceLE, Int.reduceLT, Int.reduceToNat, Int.reducePow, Int.reduceEq]
    refine ACalls.use (utext_ok _ _ (Nat.le_refl _) hA3 hS3 (by decide) _ (.inl hv3)) (by simp only [go_sem, Nat.reduceEqDiff, Nat.reduceLT, Nat.reduceAdd, Nat.reduceLeDiff, Nat.reduceMul, Nat.reduceSub, Int.reduceLE, Int.reduceLT, Int.reduceToNat, Int.reducePow, Int.reduceEq]) ?_
    rintro v Mv ⟨rfl, rfl⟩
    simp only [go_sem, Nat.reduceEqDiff, Nat.reduceLT, Nat.reduceAdd, Nat.reduceLeDiff, Nat.reduceMul, Nat.reduceSub, Int.reduceLE, Int.reduceLT, Int.reduceToNat, Int.reducePow, Int.reduceEq, lives_t1, k2]
    refine ACalls.use (apply_ok hs' hb' M.length _ (tFn (.var 0) tInt) (Nat.le_refl _) hA1 _ k1) (by simp only [go_sem, Nat.reduceEqDiff, Nat.reduceLT, Nat.reduceAdd, Nat.reduceLeDiff, Nat.reduceMul, Nat.reduceSub, Int.reduceLE, Int.reduceLT, Int.reduceToNat, Int.reducePow, Int.reduceEq, enc_eq]) ?_
    rintro v Mv ⟨rfl, rfl⟩
    rw [lives_s2]
    simp only [go_sem, Nat.reduceEqDiff, Nat.reduceLT, Nat.reduceAdd, Nat.reduceLeDiff, Nat.reduceMul, Nat.reduceSub, Int.reduceLE, Int.reduceLT, Int.reduceToNat, Int.reducePow, Int.reduceEq]
    refine ACalls.use (utext_ok _ _ (Nat.le_refl _) hA4 hS4 (by decide) _ (.inl hv4)) (by simp only [go_sem, Nat.reduceEqDiff, Nat.reduceLT, Nat.reduceAdd, Nat.reduceLeDiff, Nat.reduceMul, Nat.reduceSub, Int.reduceLE, Int.reduceLT, Int.reduceToNat, Int.reducePow, Int.reduceEq]) ?_
    rintro v Mv ⟨rfl, rfl⟩
    simp only [go_sem, Nat.reduceEqDiff, Nat.reduceLT, Nat.reduceAdd, Nat.reduceLeDiff, Nat.reduceMul, Nat.reduceSub, Int.reduceLE, Int.reduceLT, Int.reduceToNat, Int.reducePow, Int.reduceEq, lives_t2]
    (refine WRun.done _ _ (hK _ _ ?_); clear hK)
    refine W_ret ?_
    simp only [go_sem, Nat.reduceEqDiff, Nat.reduceLT, Nat.reduceAdd, Nat.reduceLeDiff, Nat.reduceMul, Nat.reduceSub, Int.reduceLE, Int.reduceLT, Int.reduceToNat, Int.reducePow, Int.reduceEq]
    exact hx2.out
  · rcases hno with h | h
    · cases h
    · omega
end Go.Ax

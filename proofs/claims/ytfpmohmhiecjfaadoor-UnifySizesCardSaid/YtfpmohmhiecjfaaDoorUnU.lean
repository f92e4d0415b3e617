/- The reference's variables of a type, and its Canon. Conditions: none. -/
import Derived.Test.YtfpmohmhiecjfaaDoorUnVp
import Derived.Test.YtfpmohmhiecjfaaDoorUnS
set_option linter.unusedSimpArgs false
set_option linter.unusedVariables false
namespace Go.Ax
open Go.Proofs Go.Uni

def encV (l : List Nat) : List V := l.map fun (n : Nat) => V.int (n : Int)
theorem encV_len (l : List Nat) : (encV l).length = l.length := by simp [encV]
theorem encV_at {l : List Nat} {i n : Nat} (h : l[i]? = some n) : (encV l)[i]? = some (V.int (n : Int)) := by simp [encV, h]
theorem encV_un (l : List Nat) : V.unL (encV l) = encV l := by
  rw [V.unL_eq, encV, List.map_map]; rfl
theorem encV_closed : ∀ l : List Nat, V.closedL (encV l) = true
  | [] => rfl
  | n :: l => by
    show V.closedL (V.int (n : Int) :: encV l) = true
    rw [V.closedL, encV_closed l]; rfl
theorem encV_ok (l : List Nat) : (∀ x, x ∈ encV l → x.cells.length = 1) = True := by
  refine eq_true fun x hx => ?_
  obtain ⟨y, _, rfl⟩ := List.mem_map.1 hx
  rfl
theorem encV_ok2 (l : List Nat) : (∀ x, x ∈ encV l → x.cells.length = 1 ∧ x.okv = true) = True := by
  refine eq_true fun x hx => ?_
  obtain ⟨y, _, rfl⟩ := List.mem_map.1 hx
  exact ⟨rfl, rfl⟩
theorem encV_nil : encV [] = [] := rfl
theorem encV_app (l k : List Nat) : encV (l ++ k) = encV l ++ encV k := by simp [encV]
theorem encV_cells (l : List Nat) : cellsL (encV l) = encV l := by
  induction l with
  | nil => rfl
  | cons n l ih => show cellsL (V.int (n : Int) :: encV l) = _; rw [cellsL_cons, ih]; rfl
attribute [go_sem] encV_len encV_un encV_nil encV_cells

set_option maxHeartbeats 8000000 in
theorem rvars_ok : ∀ (N : Nat) (t : Ty), t.size ≤ N → Ar t → VB t → ∀ acc, VOk acc → PCalls Tryd.prog 19 [enc t, .list .dull (encV acc)] (.list .dull (encV (varsF acc t)))
  | 0, t, h, _, _, _, _ => by cases t <;> simp [Ty.size] at h
  | N + 1, t, h, hA, hV, acc, hacc => by
    have hal := hacc.len
    refine pcalls_of (by simp only [V.closed, encV_closed]; rfl) fun M => ?_
    refine acalls_enter [.tmp 4] 46 Tryd.func19 rfl rfl rfl (by simp) ?_
    cases t with
    | var v =>
      have h0 : (0 : Int) ≤ (v : Int) := Int.natCast_nonneg v
      (repeat (first | refine W_seq ?_ | refine W_block ?_ | refine W_blk ?_ | refine W_skip ?_ | (refine W_region [2] (by rfl) fun K hK => ?_; simp only [go_sem, Nat.reduceEqDiff, Nat.reduceLT, Nat.reduceAdd, Nat.reduceLeDiff, Nat.reduceMul, Nat.reduceSub, Int.reduceLE, Int.reduceLT, Int.reduceToNat, Int.reducePow, Int.reduceEq]; refine WRun.done _ _ (hK _ _ ?_); clear hK)))
      refine W_cond_true (by simp only [go_sem, Nat.reduceEqDiff, Nat.reduceLT, Nat.reduceAdd, Nat.reduceLeDiff, Nat.reduceMul, Nat.reduceSub, Int.reduceLE, Int.reduceLT, Int.reduceToNat, Int.reducePow, Int.reduceEq, h0]) ?_
      (repeat (first | refine W_seq ?_ | refine W_block ?_ | refine W_blk ?_ | refine W_skip ?_ | (refine W_region [] (by rfl) fun K hK => ?_; simp only [go_sem, Nat.reduceEqDiff, Nat.reduceLT, Nat.reduceAdd, Nat.reduceLeDiff, Nat.reduceMul, Nat.reduceSub, Int.reduceLE, Int.reduceLT, Int.reduceToNat, Int.reducePow, Int.reduceEq]; refine WRun.done _ _ (hK _ _ ?_); clear hK)))
      refine W_loop (α := Nat) (fun q F' M' => q ≤ acc.length ∧ M' = M ∧ look F' 1 = .list .dull (encV acc) ∧ look F' 2 = .pc [V.int (v : Int), V.str eStr, .list .dull []] ∧ look F' 5 = V.int q ∧ v ∉ acc.take q)
        (fun q => acc.length - q) 0 ⟨Nat.zero_le _, rfl, ?_, ?_, ?_, by simp⟩ ?_
      · simp only [go_sem, Nat.reduceEqDiff, Nat.reduceLT, Nat.reduceAdd, Nat.reduceLeDiff, Nat.reduceMul, Nat.reduceSub, Int.reduceLE, Int.reduceLT, Int.reduceToNat, Int.reducePow, Int.reduceEq]
      · simp only [go_sem, Nat.reduceEqDiff, Nat.reduceLT, Nat.reduceAdd, Nat.reduceLeDiff, Nat.reduceMul, Nat.reduceSub, Int.reduceLE, Int.reduceLT, Int.reduceToNat, Int.reducePow, Int.reduceEq]
      · simp only [go_sem, Nat.reduceEqDiff, Nat.reduceLT, Nat.reduceAdd, Nat.reduceLeDiff, Nat.reduceMul, Nat.reduceSub, Int.reduceLE, Int.reduceLT, Int.reduceToNat, Int.reducePow, Int.reduceEq]
      rintro q F' M' ⟨hq, hMM, f1, f2, f5, hno⟩
      subst M'
      by_cases hlt : q < acc.length
      · have hlt' : (q : Int) < (acc.length : Int) := by omega
        have hw : IntKind.i64.wrap ((q : Int) + 1) = ((q + 1 : Nat) : Int) := by rw [wrapI _ (by omega) (by omega)]; omega
        obtain ⟨x, hxl⟩ : ∃ x, acc[q]? = some x := ⟨acc[q], by simp [hlt]⟩
        have hat := encV_at hxl
        (repeat (first | refine W_seq ?_ | refine W_block ?_ | refine W_blk ?_ | refine W_skip ?_ | (refine W_region [] (by rfl) fun K hK => ?_; simp only [go_sem, Nat.reduceEqDiff, Nat.reduceLT, Nat.reduceAdd, Nat.reduceLeDiff, Nat.reduceMul, Nat.reduceSub, Int.reduceLE, Int.reduceLT, Int.reduceToNat, Int.reducePow, Int.reduceEq, f1, f5, hlt']; refine WRun.done _ _ (hK _ _ ?_); clear hK)))
        refine W_cond_true (by simp only [go_sem, Nat.reduceEqDiff, Nat.reduceLT, Nat.reduceAdd, Nat.reduceLeDiff, Nat.reduceMul, Nat.reduceSub, Int.reduceLE, Int.reduceLT, Int.reduceToNat, Int.reducePow, Int.reduceEq]) ?_
        (repeat (first | refine W_seq ?_ | refine W_block ?_ | refine W_blk ?_ | refine W_skip ?_))
        (refine W_read [] mixed_ (by rfl) (by decide +kernel) (by decide +kernel) fun K2 hK2 => ?_; simp only [go_sem, List.size_toArray, List.range_succ, List.range_zero, QK, Nat.reduceEqDiff, Nat.reduceLT, Nat.reduceAdd, Nat.reduceLeDiff, Nat.reduceMul, Nat.reduceSub, Int.reduceLE, Int.reduceLT, Int.reduceToNat, Int.reducePow, Int.reduceEq, f1, f2, f5, hat, Int.natCast_nonneg, Int.toNat_natCast]; refine hK2 _ ?_; clear hK2)
        by_cases e : x = v
        · subst e
          refine W_cond_true (by simp only [go_sem, Nat.reduceEqDiff, Nat.reduceLT, Nat.reduceAdd, Nat.reduceLeDiff, Nat.reduceMul, Nat.reduceSub, Int.reduceLE, Int.reduceLT, Int.reduceToNat, Int.reducePow, Int.reduceEq]) ?_
          (repeat (first | refine W_seq ?_ | refine W_block ?_ | refine W_blk ?_ | refine W_skip ?_ | (refine W_region [] (by rfl) fun K hK => ?_; simp only [go_sem, Nat.reduceEqDiff, Nat.reduceLT, Nat.reduceAdd, Nat.reduceLeDiff, Nat.reduceMul, Nat.reduceSub, Int.reduceLE, Int.reduceLT, Int.reduceToNat, Int.reducePow, Int.reduceEq, f1]; refine WRun.done _ _ (hK _ _ ?_); clear hK)))
          refine W_ret ?_
          simp only [go_sem, Nat.reduceEqDiff, Nat.reduceLT, Nat.reduceAdd, Nat.reduceLeDiff, Nat.reduceMul, Nat.reduceSub, Int.reduceLE, Int.reduceLT, Int.reduceToNat, Int.reducePow, Int.reduceEq]
          refine ⟨?_, [], by simp⟩
          rw [varsF, addV, if_pos (List.mem_of_getElem? hxl)]
        · have e' : ¬ ((x : Int) = (v : Int)) := by omega
          refine W_cond_false (by simp only [go_sem, Nat.reduceEqDiff, Nat.reduceLT, Nat.reduceAdd, Nat.reduceLeDiff, Nat.reduceMul, Nat.reduceSub, Int.reduceLE, Int.reduceLT, Int.reduceToNat, Int.reducePow, Int.reduceEq, e']) ?_
          (repeat (first | refine W_seq ?_ | refine W_block ?_ | refine W_blk ?_ | refine W_skip ?_ | (refine W_region [] (by rfl) fun K hK => ?_; simp only [go_sem, Nat.reduceEqDiff, Nat.reduceLT, Nat.reduceAdd, Nat.reduceLeDiff, Nat.reduceMul, Nat.reduceSub, Int.reduceLE, Int.reduceLT, Int.reduceToNat, Int.reducePow, Int.reduceEq, f5, hw]; refine WRun.done _ _ (hK _ _ ?_); clear hK)))
          refine W_stop ⟨q + 1, ⟨hlt, rfl, ?_, ?_, ?_, ?_⟩, by omega⟩
          · simp only [go_sem, Nat.reduceEqDiff, Nat.reduceLT, Nat.reduceAdd, Nat.reduceLeDiff, Nat.reduceMul, Nat.reduceSub, Int.reduceLE, Int.reduceLT, Int.reduceToNat, Int.reducePow, Int.reduceEq, f1]
          · simp only [go_sem, Nat.reduceEqDiff, Nat.reduceLT, Nat.reduceAdd, Nat.reduceLeDiff, Nat.reduceMul, Nat.reduceSub, Int.reduceLE, Int.reduceLT, Int.reduceToNat, Int.reducePow, Int.reduceEq, f2]
          · simp only [go_sem, Nat.reduceEqDiff, Nat.reduceLT, Nat.reduceAdd, Nat.reduceLeDiff, Nat.reduceMul, Nat.reduceSub, Int.reduceLE, Int.reduceLT, Int.reduceToNat, Int.reducePow, Int.reduceEq]
          · intro hc
            rw [List.take_add_one, hxl] at hc
            rcases List.mem_append.1 hc with hc | hc
            · exact hno hc
            · simp at hc; exact e hc.symm
      · have hii : q = acc.length := by omega
        subst hii
        rw [List.take_length] at hno
        (repeat (first | refine W_seq ?_ | refine W_block ?_ | refine W_blk ?_ | refine W_skip ?_ | (refine W_region [] (by rfl) fun K hK => ?_; simp only [go_sem, Nat.reduceEqDiff, Nat.reduceLT, Nat.reduceAdd, Nat.reduceLeDiff, Nat.reduceMul, Nat.reduceSub, Int.reduceLE, Int.reduceLT, Int.reduceToNat, Int.reducePow, Int.reduceEq, f1, f5, Int.lt_irrefl]; refine WRun.done _ _ (hK _ _ ?_); clear hK)))
        refine W_cond_false (by simp only [go_sem, Nat.reduceEqDiff, Nat.reduceLT, Nat.reduceAdd, Nat.reduceLeDiff, Nat.reduceMul, Nat.reduceSub, Int.reduceLE, Int.reduceLT, Int.reduceToNat, Int.reducePow, Int.reduceEq]) ?_
        refine W_exit (Qof_code (Qof_stop (Qof_blk_same ?_)))
        (repeat (first | refine W_seq ?_ | refine W_block ?_ | refine W_blk ?_ | refine W_skip ?_))
        (refine W_draw [] (fun X => True) mixed_ (by rfl) ?_ fun K hK => ?_)
        · trivial
        have hle : acc.length ≤ 1073741823 := by omega
        have hle2 : acc.length ≤ 1073741824 := by omega
        have hle3 : 0 + acc.length ≤ 1073741824 := by omega
        (refine DR_quiet [0, 1, 3, 4, 5] (by decide +kernel) (fun M_ hS_ => ?_) (fun K2 hK2 => ?_); (focus (simp only [go_sem, Nat.reduceEqDiff, Nat.reduceLT, Nat.reduceAdd, Nat.reduceLeDiff, Nat.reduceMul, Nat.reduceSub, Int.reduceLE, Int.reduceLT, Int.reduceToNat, Int.reducePow, Int.reduceEq, hS_, f1, f2])); simp only [go_sem, Nat.reduceEqDiff, Nat.reduceLT, Nat.reduceAdd, Nat.reduceLeDiff, Nat.reduceMul, Nat.reduceSub, Int.reduceLE, Int.reduceLT, Int.reduceToNat, Int.reducePow, Int.reduceEq, f1, f2]; refine hK2 _ ?_; clear hK2)
        (refine DR_sole' 2 (by decide +kernel) (by simp only [go_sem, Nat.reduceEqDiff, Nat.reduceLT, Nat.reduceAdd, Nat.reduceLeDiff, Nat.reduceMul, Nat.reduceSub, Int.reduceLE, Int.reduceLT, Int.reduceToNat, Int.reducePow, Int.reduceEq, encV_ok2, hle3]) ?_; simp only [go_sem, Nat.reduceEqDiff, Nat.reduceLT, Nat.reduceAdd, Nat.reduceLeDiff, Nat.reduceMul, Nat.reduceSub, Int.reduceLE, Int.reduceLT, Int.reduceToNat, Int.reducePow, Int.reduceEq, encV_ok2, hle3])
        have htg : tagOk (.own M.length) (M ++ [AObj.tail]) = true := by simp [tagOk]
        (refine DR_sole' 6 (by decide +kernel) (by simp only [go_sem, Nat.reduceEqDiff, Nat.reduceLT, Nat.reduceAdd, Nat.reduceLeDiff, Nat.reduceMul, Nat.reduceSub, Int.reduceLE, Int.reduceLT, Int.reduceToNat, Int.reducePow, Int.reduceEq, encV_ok, hle, htg]) ?_; simp only [go_sem, Nat.reduceEqDiff, Nat.reduceLT, Nat.reduceAdd, Nat.reduceLeDiff, Nat.reduceMul, Nat.reduceSub, Int.reduceLE, Int.reduceLT, Int.reduceToNat, Int.reducePow, Int.reduceEq, encV_ok, hle, htg])
        (refine DR_quiet [7] (by decide +kernel) (fun M_ hS_ => ?_) (fun K2 hK2 => ?_); (focus (simp only [go_sem, Nat.reduceEqDiff, Nat.reduceLT, Nat.reduceAdd, Nat.reduceLeDiff, Nat.reduceMul, Nat.reduceSub, Int.reduceLE, Int.reduceLT, Int.reduceToNat, Int.reducePow, Int.reduceEq, hS_])); simp only [go_sem, Nat.reduceEqDiff, Nat.reduceLT, Nat.reduceAdd, Nat.reduceLeDiff, Nat.reduceMul, Nat.reduceSub, Int.reduceLE, Int.reduceLT, Int.reduceToNat, Int.reducePow, Int.reduceEq]; refine hK2 _ ?_; clear hK2)
        (refine DR_end (by decide +kernel) (hK _ _ ?_); clear hK)
        refine W_ret ?_
        simp only [go_sem, Nat.reduceEqDiff, Nat.reduceLT, Nat.reduceAdd, Nat.reduceLeDiff, Nat.reduceMul, Nat.reduceSub, Int.reduceLE, Int.reduceLT, Int.reduceToNat, Int.reducePow, Int.reduceEq]
        refine ⟨?_, [AObj.gone] ++ [AObj.tail], by simp⟩
        have e : encV (varsF acc (Ty.var v)) = encV acc ++ [V.int (v : Int)] := by rw [varsF, addV, if_neg hno, encV_app]; rfl
        rw [e]
        have e2 := encV_un (acc ++ [v])
        rw [encV_app] at e2
        exact congrArg (V.list .dull) e2
    | app f l =>
      rw [Ar_app] at hA
      have hvl : ∀ x ∈ l, VB x := fun x hx => hV.arg hx
      (repeat (first | refine W_seq ?_ | refine W_block ?_ | refine W_blk ?_ | refine W_skip ?_ | (refine W_region [2] (by rfl) fun K hK => ?_; simp only [go_sem, Nat.reduceEqDiff, Nat.reduceLT, Nat.reduceAdd, Nat.reduceLeDiff, Nat.reduceMul, Nat.reduceSub, Int.reduceLE, Int.reduceLT, Int.reduceToNat, Int.reducePow, Int.reduceEq]; refine WRun.done _ _ (hK _ _ ?_); clear hK)))
      refine W_cond_false (by simp only [go_sem, Nat.reduceEqDiff, Nat.reduceLT, Nat.reduceAdd, Nat.reduceLeDiff, Nat.reduceMul, Nat.reduceSub, Int.reduceLE, Int.reduceLT, Int.reduceToNat, Int.reducePow, Int.reduceEq]) ?_
      (repeat (first | refine W_seq ?_ | refine W_block ?_ | refine W_blk ?_ | refine W_skip ?_ | (refine W_region [] (by rfl) fun K hK => ?_; simp only [go_sem, Nat.reduceEqDiff, Nat.reduceLT, Nat.reduceAdd, Nat.reduceLeDiff, Nat.reduceMul, Nat.reduceSub, Int.reduceLE, Int.reduceLT, Int.reduceToNat, Int.reducePow, Int.reduceEq]; refine WRun.done _ _ (hK _ _ ?_); clear hK)))
      refine W_loop (α := Nat) (fun q F' M' => q ≤ l.length ∧ M' = M ∧ look F' 1 = .list .dull (encV (varsFL acc (l.take q))) ∧ look F' 2 = .pc [V.int (-1), V.str f, .list .dull (encL l)] ∧ look F' 6 = V.int q)
        (fun q => l.length - q) 0 ⟨Nat.zero_le _, rfl, ?_, ?_, ?_⟩ ?_
      · simp only [go_sem, Nat.reduceEqDiff, Nat.reduceLT, Nat.reduceAdd, Nat.reduceLeDiff, Nat.reduceMul, Nat.reduceSub, Int.reduceLE, Int.reduceLT, Int.reduceToNat, Int.reducePow, Int.reduceEq]
        rfl
      · simp only [go_sem, Nat.reduceEqDiff, Nat.reduceLT, Nat.reduceAdd, Nat.reduceLeDiff, Nat.reduceMul, Nat.reduceSub, Int.reduceLE, Int.reduceLT, Int.reduceToNat, Int.reducePow, Int.reduceEq]
      · simp only [go_sem, Nat.reduceEqDiff, Nat.reduceLT, Nat.reduceAdd, Nat.reduceLeDiff, Nat.reduceMul, Nat.reduceSub, Int.reduceLE, Int.reduceLT, Int.reduceToNat, Int.reducePow, Int.reduceEq]
      rintro q F' M' ⟨hq, hMM, f1, f2, f6⟩
      subst M'
      by_cases hlt : q < l.length
      · have hlt' : (q : Int) < (l.length : Int) := by omega
        have hw : IntKind.i64.wrap ((q : Int) + 1) = ((q + 1 : Nat) : Int) := by rw [wrapI _ (by omega) (by omega)]; omega
        obtain ⟨x, hxl⟩ : ∃ x, l[q]? = some x := ⟨l[q], by simp [hlt]⟩
        have hxm : x ∈ l := List.mem_of_getElem? hxl
        have hat := encL_at hxl
        (repeat (first | refine W_seq ?_ | refine W_block ?_ | refine W_blk ?_ | refine W_skip ?_ | (refine W_region [] (by rfl) fun K hK => ?_; simp only [go_sem, Nat.reduceEqDiff, Nat.reduceLT, Nat.reduceAdd, Nat.reduceLeDiff, Nat.reduceMul, Nat.reduceSub, Int.reduceLE, Int.reduceLT, Int.reduceToNat, Int.reducePow, Int.reduceEq, f2, f6, hlt']; refine WRun.done _ _ (hK _ _ ?_); clear hK)))
        refine W_cond_true (by simp only [go_sem, Nat.reduceEqDiff, Nat.reduceLT, Nat.reduceAdd, Nat.reduceLeDiff, Nat.reduceMul, Nat.reduceSub, Int.reduceLE, Int.reduceLT, Int.reduceToNat, Int.reducePow, Int.reduceEq]) ?_
        (repeat (first | refine W_seq ?_ | refine W_block ?_ | refine W_blk ?_ | refine W_skip ?_))
        (refine W_region [] (by rfl) fun K hK => ?_; simp only [go_sem, Nat.reduceEqDiff, Nat.reduceLT, Nat.reduceAdd, Nat.reduceLeDiff, Nat.reduceMul, Nat.reduceSub, Int.reduceLE, Int.reduceLT, Int.reduceToNat, Int.reducePow, Int.reduceEq, f1, f2, f6, hat, Int.natCast_nonneg, Int.toNat_natCast])
        refine PCalls.use (rvars_ok N x (by have := app_size (f := f) hxm; omega) (hA.2 x hxm) (hvl x hxm) (varsFL acc (l.take q)) (hacc.varsL fun y hy => hvl y (List.mem_of_mem_take hy))) (by simp only [go_sem, Nat.reduceEqDiff, Nat.reduceLT, Nat.reduceAdd, Nat.reduceLeDiff, Nat.reduceMul, Nat.reduceSub, Int.reduceLE, Int.reduceLT, Int.reduceToNat, Int.reducePow, Int.reduceEq, enc_eq]) ?_
        simp only [go_sem, Nat.reduceEqDiff, Nat.reduceLT, Nat.reduceAdd, Nat.reduceLeDiff, Nat.reduceMul, Nat.reduceSub, Int.reduceLE, Int.reduceLT, Int.reduceToNat, Int.reducePow, Int.reduceEq]
        (refine WRun.done _ _ (hK _ _ ?_); clear hK)
        (repeat (first | refine W_seq ?_ | refine W_block ?_ | refine W_blk ?_ | refine W_skip ?_ | (refine W_region [] (by rfl) fun K hK => ?_; simp only [go_sem, Nat.reduceEqDiff, Nat.reduceLT, Nat.reduceAdd, Nat.reduceLeDiff, Nat.reduceMul, Nat.reduceSub, Int.reduceLE, Int.reduceLT, Int.reduceToNat, Int.reducePow, Int.reduceEq, f6, hw]; refine WRun.done _ _ (hK _ _ ?_); clear hK)))
        refine W_stop ⟨q + 1, ⟨hlt, rfl, ?_, ?_, ?_⟩, by omega⟩
        · simp only [go_sem, Nat.reduceEqDiff, Nat.reduceLT, Nat.reduceAdd, Nat.reduceLeDiff, Nat.reduceMul, Nat.reduceSub, Int.reduceLE, Int.reduceLT, Int.reduceToNat, Int.reducePow, Int.reduceEq]
          rw [List.take_add_one, hxl, Option.toList_some, varsFL_snoc]
        · simp only [go_sem, Nat.reduceEqDiff, Nat.reduceLT, Nat.reduceAdd, Nat.reduceLeDiff, Nat.reduceMul, Nat.reduceSub, Int.reduceLE, Int.reduceLT, Int.reduceToNat, Int.reducePow, Int.reduceEq, f2]
        · simp only [go_sem, Nat.reduceEqDiff, Nat.reduceLT, Nat.reduceAdd, Nat.reduceLeDiff, Nat.reduceMul, Nat.reduceSub, Int.reduceLE, Int.reduceLT, Int.reduceToNat, Int.reducePow, Int.reduceEq]
      · have hii : q = l.length := by omega
        subst hii
        (repeat (first | refine W_seq ?_ | refine W_block ?_ | refine W_blk ?_ | refine W_skip ?_ | (refine W_region [] (by rfl) fun K hK => ?_; simp only [go_sem, Nat.reduceEqDiff, Nat.reduceLT, Nat.reduceAdd, Nat.reduceLeDiff, Nat.reduceMul, Nat.reduceSub, Int.reduceLE, Int.reduceLT, Int.reduceToNat, Int.reducePow, Int.reduceEq, f2, f6, Int.lt_irrefl]; refine WRun.done _ _ (hK _ _ ?_); clear hK)))
        refine W_cond_false (by simp only [go_sem, Nat.reduceEqDiff, Nat.reduceLT, Nat.reduceAdd, Nat.reduceLeDiff, Nat.reduceMul, Nat.reduceSub, Int.reduceLE, Int.reduceLT, Int.reduceToNat, Int.reducePow, Int.reduceEq]) ?_
        refine W_exit (Qof_code (Qof_stop (Qof_blk_same ?_)))
        (repeat (first | refine W_seq ?_ | refine W_block ?_ | refine W_blk ?_ | refine W_skip ?_ | (refine W_region [] (by rfl) fun K hK => ?_; simp only [go_sem, Nat.reduceEqDiff, Nat.reduceLT, Nat.reduceAdd, Nat.reduceLeDiff, Nat.reduceMul, Nat.reduceSub, Int.reduceLE, Int.reduceLT, Int.reduceToNat, Int.reducePow, Int.reduceEq, f1]; refine WRun.done _ _ (hK _ _ ?_); clear hK)))
        refine W_ret ?_
        simp only [go_sem, Nat.reduceEqDiff, Nat.reduceLT, Nat.reduceAdd, Nat.reduceLeDiff, Nat.reduceMul, Nat.reduceSub, Int.reduceLE, Int.reduceLT, Int.reduceToNat, Int.reducePow, Int.reduceEq]
        rw [List.take_length, varsF]
        exact ⟨rfl, [], by simp⟩

theorem rvars_nil (t : Ty) (hA : Ar t) (hV : VB t) : PCalls Tryd.prog 19 [enc t, .list .dull []] (.list .dull (encV (varsF [] t))) := rvars_ok _ t (Nat.le_refl _) hA hV [] VOk.nil

set_option maxHeartbeats 8000000 in
theorem rcanon_ok (t : Ty) (hA : Ar t) (hV : VB t) : PCalls Tryd.prog 17 [enc t] (enc (canon t)) := by
  obtain ⟨l, hl⟩ : ∃ l, l = varsF [] t := ⟨_, rfl⟩
  have hk : VOk l := by rw [hl]; exact VOk.nil.vars hV
  have hin : ∀ v ∈ t.vars, v ∈ l := fun v hv => by rw [hl]; exact varsF_mem.2 (.inr hv)
  have hll := hk.len
  have hA1 : ∀ i, Ar (t.sub (ren1 l i)) := fun i => Ar_sub (fun v => by unfold ren1; split <;> trivial) hA
  have hA2 : ∀ i, Ar (t.sub (ren2 l i)) := fun i => Ar_sub (fun v => by unfold ren2; split <;> trivial) hA
  refine pcalls_of (enc_closed _) fun M => ?_
  refine acalls_enter [.cell 2 30] 36 Tryd.func17 rfl rfl rfl (by simp) ?_
  (repeat (first | refine W_seq ?_ | refine W_block ?_ | refine W_blk ?_ | refine W_skip ?_))
  (refine W_region [] (by rfl) fun K hK => ?_; simp only [go_sem, Nat.reduceEqDiff, Nat.reduceLT, Nat.reduceAdd, Nat.reduceLeDiff, Nat.reduceMul, Nat.reduceSub, Int.reduceLE, Int.reduceLT, Int.reduceToNat, Int.reducePow, Int.reduceEq])
  (refine WRun.done _ _ (hK _ _ ?_); clear hK)
  have hx0 : Ext M (M ++ [AObj.cells (tcells t)] ++ [AObj.cells [V.int 0, V.str ⟨#[]⟩, V.list Tag.full []]]) := ((Ext.refl M).app _).app _
  have h10 : (M ++ [AObj.cells (tcells t)] ++ [AObj.cells [V.int 0, V.str ⟨#[]⟩, V.list Tag.full []]])[M.length]? = some (.cells (tcells t)) := at_app (at_snoc rfl)
  have h20 : ∃ a b c, (M ++ [AObj.cells (tcells t)] ++ [AObj.cells [V.int 0, V.str ⟨#[]⟩, V.list Tag.full []]])[M.length + 1]? = some (.cells [a, b, c]) := ⟨_, _, _, at_snoc (by simp)⟩
  generalize M ++ [AObj.cells (tcells t)] ++ [AObj.cells [V.int 0, V.str ⟨#[]⟩, V.list Tag.full []]] = M1 at hx0 h10 h20 ⊢
  (repeat (first | refine W_seq ?_ | refine W_block ?_ | refine W_blk ?_ | refine W_skip ?_))
  (refine W_region [] (by rfl) fun K hK => ?_; simp only [go_sem, Nat.reduceEqDiff, Nat.reduceLT, Nat.reduceAdd, Nat.reduceLeDiff, Nat.reduceMul, Nat.reduceSub, Int.reduceLE, Int.reduceLT, Int.reduceToNat, Int.reducePow, Int.reduceEq, h10])
  refine PCalls.use (rvars_nil t hA hV) (by simp only [go_sem, Nat.reduceEqDiff, Nat.reduceLT, Nat.reduceAdd, Nat.reduceLeDiff, Nat.reduceMul, Nat.reduceSub, Int.reduceLE, Int.reduceLT, Int.reduceToNat, Int.reducePow, Int.reduceEq, enc_eq]) ?_
  rw [← hl]
  simp only [go_sem, Nat.reduceEqDiff, Nat.reduceLT, Nat.reduceAdd, Nat.reduceLeDiff, Nat.reduceMul, Nat.reduceSub, Int.reduceLE, Int.reduceLT, Int.reduceToNat, Int.reducePow, Int.reduceEq]
  (refine WRun.done _ _ (hK _ _ ?_); clear hK)
  (repeat (first | refine W_seq ?_ | refine W_block ?_ | refine W_blk ?_ | refine W_skip ?_ | (refine W_region [] (by rfl) fun K hK => ?_; simp only [go_sem, Nat.reduceEqDiff, Nat.reduceLT, Nat.reduceAdd, Nat.reduceLeDiff, Nat.reduceMul, Nat.reduceSub, Int.reduceLE, Int.reduceLT, Int.reduceToNat, Int.reducePow, Int.reduceEq]; refine WRun.done _ _ (hK _ _ ?_); clear hK)))
  refine W_loop (α := Nat) (fun q F' M' => q ≤ l.length ∧ Ext M M' ∧ look F' 1 = .ptr M.length 0 ∧ look F' 2 = .ptr (M.length + 1) 0 ∧ look F' 3 = .list .dull (encV l) ∧ look F' 4 = V.int q ∧ M'[M.length]? = some (.cells (tcells (t.sub (ren1 l q)))) ∧ ∃ a b c, M'[M.length + 1]? = some (.cells [a, b, c]))
    (fun q => l.length - q) 0 ⟨Nat.zero_le _, hx0, ?_, ?_, ?_, ?_, by rw [ren1_zero]; exact h10, h20⟩ ?_
  · simp only [go_sem, Nat.reduceEqDiff, Nat.reduceLT, Nat.reduceAdd, Nat.reduceLeDiff, Nat.reduceMul, Nat.reduceSub, Int.reduceLE, Int.reduceLT, Int.reduceToNat, Int.reducePow, Int.reduceEq]
  · simp only [go_sem, Nat.reduceEqDiff, Nat.reduceLT, Nat.reduceAdd, Nat.reduceLeDiff, Nat.reduceMul, Nat.reduceSub, Int.reduceLE, Int.reduceLT, Int.reduceToNat, Int.reducePow, Int.reduceEq]
  · simp only [go_sem, Nat.reduceEqDiff, Nat.reduceLT, Nat.reduceAdd, Nat.reduceLeDiff, Nat.reduceMul, Nat.reduceSub, Int.reduceLE, Int.reduceLT, Int.reduceToNat, Int.reducePow, Int.reduceEq]
  · simp only [go_sem, Nat.reduceEqDiff, Nat.reduceLT, Nat.reduceAdd, Nat.reduceLeDiff, Nat.reduceMul, Nat.reduceSub, Int.reduceLE, Int.reduceLT, Int.reduceToNat, Int.reducePow, Int.reduceEq]
  rintro q F' M' ⟨hq, hx, f1, f2, f3, f4, h1, a, b, c, h2⟩
  by_cases hlt : q < l.length
  · have hlt' : (q : Int) < (l.length : Int) := by omega
    have hw : IntKind.i64.wrap ((q : Int) + 1) = ((q + 1 : Nat) : Int) := by rw [wrapI _ (by omega) (by omega)]; omega
    have hw2 : IntKind.i64.wrap (1099511627776 + (q : Int)) = ((1099511627776 + q : Nat) : Int) := by rw [wrapI _ (by omega) (by omega)]; omega
    obtain ⟨n, hnl⟩ : ∃ x, l[q]? = some x := ⟨l[q], by simp [hlt]⟩
    have hat := encV_at hnl
    (repeat (first | refine W_seq ?_ | refine W_block ?_ | refine W_blk ?_ | refine W_skip ?_ | (refine W_region [] (by rfl) fun K hK => ?_; simp only [go_sem, Nat.reduceEqDiff, Nat.reduceLT, Nat.reduceAdd, Nat.reduceLeDiff, Nat.reduceMul, Nat.reduceSub, Int.reduceLE, Int.reduceLT, Int.reduceToNat, Int.reducePow, Int.reduceEq, f3, f4, hlt']; refine WRun.done _ _ (hK _ _ ?_); clear hK)))
    refine W_cond_true (by simp only [go_sem, Nat.reduceEqDiff, Nat.reduceLT, Nat.reduceAdd, Nat.reduceLeDiff, Nat.reduceMul, Nat.reduceSub, Int.reduceLE, Int.reduceLT, Int.reduceToNat, Int.reducePow, Int.reduceEq]) ?_
    (repeat (first | refine W_seq ?_ | refine W_block ?_ | refine W_blk ?_ | refine W_skip ?_))
    (refine W_draw [] (fun X => X[M.length]? = some (.cells (tcells (t.sub (ren1 l q))))) mixed_ (by rfl) ?_ fun K hK => ?_)
    · exact h1
    (refine DR_quiet [0, 1, 2, 3, 4, 5, 6, 7] (by decide +kernel) (fun M_ hS_ => ?_) (fun K2 hK2 => ?_); (focus (simp only [go_sem, Nat.reduceEqDiff, Nat.reduceLT, Nat.reduceAdd, Nat.reduceLeDiff, Nat.reduceMul, Nat.reduceSub, Int.reduceLE, Int.reduceLT, Int.reduceToNat, Int.reducePow, Int.reduceEq, hS_, h1, f1, f3, f4, hat, hw2, Int.natCast_nonneg, Int.toNat_natCast])); simp only [go_sem, Nat.reduceEqDiff, Nat.reduceLT, Nat.reduceAdd, Nat.reduceLeDiff, Nat.reduceMul, Nat.reduceSub, Int.reduceLE, Int.reduceLT, Int.reduceToNat, Int.reducePow, Int.reduceEq, h1, f1, f3, f4, hat, hw2, Int.natCast_nonneg, Int.toNat_natCast]; refine hK2 _ ?_; clear hK2)
    (refine DR_sole' 8 (by decide +kernel) (by simp only [go_sem, Nat.reduceEqDiff, Nat.reduceLT, Nat.reduceAdd, Nat.reduceLeDiff, Nat.reduceMul, Nat.reduceSub, Int.reduceLE, Int.reduceLT, Int.reduceToNat, Int.reducePow, Int.reduceEq]) ?_; simp only [go_sem, Nat.reduceEqDiff, Nat.reduceLT, Nat.reduceAdd, Nat.reduceLeDiff, Nat.reduceMul, Nat.reduceSub, Int.reduceLE, Int.reduceLT, Int.reduceToNat, Int.reducePow, Int.reduceEq])
    refine PCalls.at (put_ok (.var (1099511627776 + q)) n _ (t.sub (ren1 l q)) (Nat.le_refl _) (hA1 q)) (by simp only [go_sem, Nat.reduceEqDiff, Nat.reduceLT, Nat.reduceAdd, Nat.reduceLeDiff, Nat.reduceMul, Nat.reduceSub, Int.reduceLE, Int.reduceLT, Int.reduceToNat, Int.reducePow, Int.reduceEq, enc_eq, eStr]) ⟨h1, ?_⟩
    rw [ren1_step hk hnl hin]
    (refine DR_last' 9 (by decide +kernel) (by decide +kernel) (by decide +kernel) (by simp only [go_sem, Nat.reduceEqDiff, Nat.reduceLT, Nat.reduceAdd, Nat.reduceLeDiff, Nat.reduceMul, Nat.reduceSub, Int.reduceLE, Int.reduceLT, Int.reduceToNat, Int.reducePow, Int.reduceEq, f1, h1]) ?_; simp only [go_sem, Nat.reduceEqDiff, Nat.reduceLT, Nat.reduceAdd, Nat.reduceLeDiff, Nat.reduceMul, Nat.reduceSub, Int.reduceLE, Int.reduceLT, Int.reduceToNat, Int.reducePow, Int.reduceEq, f1, h1]; refine hK _ _ ?_; clear hK)
    (repeat (first | refine W_seq ?_ | refine W_block ?_ | refine W_blk ?_ | refine W_skip ?_ | (refine W_region [] (by rfl) fun K hK => ?_; simp only [go_sem, Nat.reduceEqDiff, Nat.reduceLT, Nat.reduceAdd, Nat.reduceLeDiff, Nat.reduceMul, Nat.reduceSub, Int.reduceLE, Int.reduceLT, Int.reduceToNat, Int.reducePow, Int.reduceEq, f4, hw]; refine WRun.done _ _ (hK _ _ ?_); clear hK)))
    refine W_stop ⟨q + 1, ⟨hlt, hx.set (Nat.le_refl _) _, ?_, ?_, ?_, ?_, ?_, a, b, c, ?_⟩, by omega⟩
    · simp only [go_sem, Nat.reduceEqDiff, Nat.reduceLT, Nat.reduceAdd, Nat.reduceLeDiff, Nat.reduceMul, Nat.reduceSub, Int.reduceLE, Int.reduceLT, Int.reduceToNat, Int.reducePow, Int.reduceEq, f1]
    · simp only [go_sem, Nat.reduceEqDiff, Nat.reduceLT, Nat.reduceAdd, Nat.reduceLeDiff, Nat.reduceMul, Nat.reduceSub, Int.reduceLE, Int.reduceLT, Int.reduceToNat, Int.reducePow, Int.reduceEq, f2]
    · simp only [go_sem, Nat.reduceEqDiff, Nat.reduceLT, Nat.reduceAdd, Nat.reduceLeDiff, Nat.reduceMul, Nat.reduceSub, Int.reduceLE, Int.reduceLT, Int.reduceToNat, Int.reducePow, Int.reduceEq, f3]
    · simp only [go_sem, Nat.reduceEqDiff, Nat.reduceLT, Nat.reduceAdd, Nat.reduceLeDiff, Nat.reduceMul, Nat.reduceSub, Int.reduceLE, Int.reduceLT, Int.reduceToNat, Int.reducePow, Int.reduceEq]
    · exact List.getElem?_set_self (List.getElem?_eq_some_iff.1 h1).1
    · rw [List.getElem?_set_ne (by omega)]; exact h2
  · have hii : q = l.length := by omega
    subst hii
    rw [ren12 hin] at h1
    (repeat (first | refine W_seq ?_ | refine W_block ?_ | refine W_blk ?_ | refine W_skip ?_ | (refine W_region [] (by rfl) fun K hK => ?_; simp only [go_sem, Nat.reduceEqDiff, Nat.reduceLT, Nat.reduceAdd, Nat.reduceLeDiff, Nat.reduceMul, Nat.reduceSub, Int.reduceLE, Int.reduceLT, Int.reduceToNat, Int.reducePow, Int.reduceEq, f3, f4, Int.lt_irrefl]; refine WRun.done _ _ (hK _ _ ?_); clear hK)))
    refine W_cond_false (by simp only [go_sem, Nat.reduceEqDiff, Nat.reduceLT, Nat.reduceAdd, Nat.reduceLeDiff, Nat.reduceMul, Nat.reduceSub, Int.reduceLE, Int.reduceLT, Int.reduceToNat, Int.reducePow, Int.reduceEq]) ?_
    refine W_exit (Qof_code (Qof_stop (Qof_blk_same ?_)))
    (repeat (first | refine W_seq ?_ | refine W_block ?_ | refine W_blk ?_ | refine W_skip ?_ | (refine W_region [] (by rfl) fun K hK => ?_; simp only [go_sem, Nat.reduceEqDiff, Nat.reduceLT, Nat.reduceAdd, Nat.reduceLeDiff, Nat.reduceMul, Nat.reduceSub, Int.reduceLE, Int.reduceLT, Int.reduceToNat, Int.reducePow, Int.reduceEq]; refine WRun.done _ _ (hK _ _ ?_); clear hK)))
    refine W_loop (α := Nat) (fun q F' M' => q ≤ l.length ∧ Ext M M' ∧ look F' 1 = .ptr M.length 0 ∧ look F' 2 = .ptr (M.length + 1) 0 ∧ look F' 3 = .list .dull (encV l) ∧ look F' 5 = V.int q ∧ M'[M.length]? = some (.cells (tcells (t.sub (ren2 l q)))) ∧ ∃ a b c, M'[M.length + 1]? = some (.cells [a, b, c]))
      (fun q => l.length - q) 0 ⟨Nat.zero_le _, hx, ?_, ?_, ?_, ?_, h1, a, b, c, h2⟩ ?_
    · simp only [go_sem, Nat.reduceEqDiff, Nat.reduceLT, Nat.reduceAdd, Nat.reduceLeDiff, Nat.reduceMul, Nat.reduceSub, Int.reduceLE, Int.reduceLT, Int.reduceToNat, Int.reducePow, Int.reduceEq, f1]
    · simp only [go_sem, Nat.reduceEqDiff, Nat.reduceLT, Nat.reduceAdd, Nat.reduceLeDiff, Nat.reduceMul, Nat.reduceSub, Int.reduceLE, Int.reduceLT, Int.reduceToNat, Int.reducePow, Int.reduceEq, f2]
    · simp only [go_sem, Nat.reduceEqDiff, Nat.reduceLT, Nat.reduceAdd, Nat.reduceLeDiff, Nat.reduceMul, Nat.reduceSub, Int.reduceLE, Int.reduceLT, Int.reduceToNat, Int.reducePow, Int.reduceEq, f3]
    · simp only [go_sem, Nat.reduceEqDiff, Nat.reduceLT, Nat.reduceAdd, Nat.reduceLeDiff, Nat.reduceMul, Nat.reduceSub, Int.reduceLE, Int.reduceLT, Int.reduceToNat, Int.reducePow, Int.reduceEq]
    clear f1 f2 f3 f4 h1 h2 hx
    rintro q F' M' ⟨hq, hx, f1, f2, f3, f4, h1, a, b, c, h2⟩
    by_cases hlt : q < l.length
    · have hlt' : (q : Int) < (l.length : Int) := by omega
      have hw : IntKind.i64.wrap ((q : Int) + 1) = ((q + 1 : Nat) : Int) := by rw [wrapI _ (by omega) (by omega)]; omega
      have hw2 : IntKind.i64.wrap (1099511627776 + (q : Int)) = ((1099511627776 + q : Nat) : Int) := by rw [wrapI _ (by omega) (by omega)]; omega
      (repeat (first | refine W_seq ?_ | refine W_block ?_ | refine W_blk ?_ | refine W_skip ?_ | (refine W_region [] (by rfl) fun K hK => ?_; simp only [go_sem, Nat.reduceEqDiff, Nat.reduceLT, Nat.reduceAdd, Nat.reduceLeDiff, Nat.reduceMul, Nat.reduceSub, Int.reduceLE, Int.reduceLT, Int.reduceToNat, Int.reducePow, Int.reduceEq, f3, f4, hlt']; refine WRun.done _ _ (hK _ _ ?_); clear hK)))
      refine W_cond_true (by simp only [go_sem, Nat.reduceEqDiff, Nat.reduceLT, Nat.reduceAdd, Nat.reduceLeDiff, Nat.reduceMul, Nat.reduceSub, Int.reduceLE, Int.reduceLT, Int.reduceToNat, Int.reducePow, Int.reduceEq]) ?_
      (repeat (first | refine W_seq ?_ | refine W_block ?_ | refine W_blk ?_ | refine W_skip ?_))
      (refine W_region [] (by rfl) fun K hK => ?_; simp only [go_sem, Nat.reduceEqDiff, Nat.reduceLT, Nat.reduceAdd, Nat.reduceLeDiff, Nat.reduceMul, Nat.reduceSub, Int.reduceLE, Int.reduceLT, Int.reduceToNat, Int.reducePow, Int.reduceEq, f1, f4, h1, hw2])
      refine PCalls.use (put_ok (.var q) (1099511627776 + q) _ (t.sub (ren2 l q)) (Nat.le_refl _) (hA2 q)) (by simp only [go_sem, Nat.reduceEqDiff, Nat.reduceLT, Nat.reduceAdd, Nat.reduceLeDiff, Nat.reduceMul, Nat.reduceSub, Int.reduceLE, Int.reduceLT, Int.reduceToNat, Int.reducePow, Int.reduceEq, enc_eq, eStr]) ?_
      rw [ren2_step hk hlt]
      simp only [go_sem, Nat.reduceEqDiff, Nat.reduceLT, Nat.reduceAdd, Nat.reduceLeDiff, Nat.reduceMul, Nat.reduceSub, Int.reduceLE, Int.reduceLT, Int.reduceToNat, Int.reducePow, Int.reduceEq, f1, h1]
      (refine WRun.done _ _ (hK _ _ ?_); clear hK)
      (repeat (first | refine W_seq ?_ | refine W_block ?_ | refine W_blk ?_ | refine W_skip ?_ | (refine W_region [] (by rfl) fun K hK => ?_; simp only [go_sem, Nat.reduceEqDiff, Nat.reduceLT, Nat.reduceAdd, Nat.reduceLeDiff, Nat.reduceMul, Nat.reduceSub, Int.reduceLE, Int.reduceLT, Int.reduceToNat, Int.reducePow, Int.reduceEq, f4, hw]; refine WRun.done _ _ (hK _ _ ?_); clear hK)))
      refine W_stop ⟨q + 1, ⟨hlt, hx.set (Nat.le_refl _) _, ?_, ?_, ?_, ?_, ?_, a, b, c, ?_⟩, by omega⟩
      · simp only [go_sem, Nat.reduceEqDiff, Nat.reduceLT, Nat.reduceAdd, Nat.reduceLeDiff, Nat.reduceMul, Nat.reduceSub, Int.reduceLE, Int.reduceLT, Int.reduceToNat, Int.reducePow, Int.reduceEq, f1]
      · simp only [go_sem, Nat.reduceEqDiff, Nat.reduceLT, Nat.reduceAdd, Nat.reduceLeDiff, Nat.reduceMul, Nat.reduceSub, Int.reduceLE, Int.reduceLT, Int.reduceToNat, Int.reducePow, Int.reduceEq, f2]
      · simp only [go_sem, Nat.reduceEqDiff, Nat.reduceLT, Nat.reduceAdd, Nat.reduceLeDiff, Nat.reduceMul, Nat.reduceSub, Int.reduceLE, Int.reduceLT, Int.reduceToNat, Int.reducePow, Int.reduceEq, f3]
      · simp only [go_sem, Nat.reduceEqDiff, Nat.reduceLT, Nat.reduceAdd, Nat.reduceLeDiff, Nat.reduceMul, Nat.reduceSub, Int.reduceLE, Int.reduceLT, Int.reduceToNat, Int.reducePow, Int.reduceEq]
      · exact List.getElem?_set_self (List.getElem?_eq_some_iff.1 h1).1
      · rw [List.getElem?_set_ne (by omega)]; exact h2
    · have hii : q = l.length := by omega
      subst hii
      rw [ren2_end hin] at h1
      (repeat (first | refine W_seq ?_ | refine W_block ?_ | refine W_blk ?_ | refine W_skip ?_ | (refine W_region [] (by rfl) fun K hK => ?_; simp only [go_sem, Nat.reduceEqDiff, Nat.reduceLT, Nat.reduceAdd, Nat.reduceLeDiff, Nat.reduceMul, Nat.reduceSub, Int.reduceLE, Int.reduceLT, Int.reduceToNat, Int.reducePow, Int.reduceEq, f3, f4, Int.lt_irrefl]; refine WRun.done _ _ (hK _ _ ?_); clear hK)))
      refine W_cond_false (by simp only [go_sem, Nat.reduceEqDiff, Nat.reduceLT, Nat.reduceAdd, Nat.reduceLeDiff, Nat.reduceMul, Nat.reduceSub, Int.reduceLE, Int.reduceLT, Int.reduceToNat, Int.reducePow, Int.reduceEq]) ?_
      refine W_exit (Qof_code (Qof_stop (Qof_blk_same ?_)))
      (repeat (first | refine W_seq ?_ | refine W_block ?_ | refine W_blk ?_ | refine W_skip ?_ | (refine W_region [] (by rfl) fun K hK => ?_; simp only [go_sem, Nat.reduceEqDiff, Nat.reduceLT, Nat.reduceAdd, Nat.reduceLeDiff, Nat.reduceMul, Nat.reduceSub, Int.reduceLE, Int.reduceLT, Int.reduceToNat, Int.reducePow, Int.reduceEq, f1, f2, h1, h2]; refine WRun.done _ _ (hK _ _ ?_); clear hK)))
      have h5 := List.getElem?_set_self (a := AObj.cells (tcells (t.sub (ren l)))) (List.getElem?_eq_some_iff.1 h2).1
      have h6 := (hx.set (k := M.length + 1) (by omega) (.cells (tcells (t.sub (ren l))))).out
      refine W_ret ?_
      simp only [go_sem, Nat.reduceEqDiff, Nat.reduceLT, Nat.reduceAdd, Nat.reduceLeDiff, Nat.reduceMul, Nat.reduceSub, Int.reduceLE, Int.reduceLT, Int.reduceToNat, Int.reducePow, Int.reduceEq, f2, h5]
      refine ⟨?_, h6⟩
      rw [canon, ← hl, enc_eq]
end Go.Ax

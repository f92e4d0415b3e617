import Derived.Test.YthbojmoiimknhaaSt4
set_option linter.unusedSimpArgs false
set_option linter.unusedVariables false
namespace Go.Ax
open Go.Proofs

theorem pop_empty (M : AMem) (i : Nat) (most : Int) (k : Option Nat) (hS : StackAt M i most [] k) : ACalls Try.prog 15 [.ptr i 0] M (fun r M' => r = .tup [.agg [V.int 0, V.int 0, V.int 0, .list .full []], V.int 13] ∧ Keeps M M') := by
  refine acalls_enter [.cell 2 31, .tmp 3] 36 Try.func15 rfl rfl rfl (by simp) ?_
  have hc := hS.cells
  have hi : i < M.length := (List.getElem?_eq_some_iff.1 hc).1
  cases k with
  | none =>
    simp only [wordsV] at hc
    (repeat (first | refine W_seq ?_ | refine W_block ?_ | refine W_blk ?_ | refine W_skip ?_ | (refine W_region [] (by rfl) fun K hK => ?_; simp only [go_sem, Nat.reduceEqDiff, Nat.reduceLT, Nat.reduceAdd, Nat.reduceLeDiff, Nat.reduceMul, Nat.reduceSub, Int.reduceLE, Int.reduceLT, Int.reduceToNat, Int.reducePow, Int.reduceEq]; refine WRun.done _ _ (hK _ _ ?_); clear hK)))
    refine W_cond_false (by simp only [go_sem, Nat.reduceEqDiff, Nat.reduceLT, Nat.reduceAdd, Nat.reduceLeDiff, Nat.reduceMul, Nat.reduceSub, Int.reduceLE, Int.reduceLT, Int.reduceToNat, Int.reducePow, Int.reduceEq]) ?_
    (repeat (first | refine W_seq ?_ | refine W_block ?_ | refine W_blk ?_ | refine W_skip ?_ | (refine W_region [] (by rfl) fun K hK => ?_; simp only [go_sem, Nat.reduceEqDiff, Nat.reduceLT, Nat.reduceAdd, Nat.reduceLeDiff, Nat.reduceMul, Nat.reduceSub, Int.reduceLE, Int.reduceLT, Int.reduceToNat, Int.reducePow, Int.reduceEq, at_left, hi, hc]; refine WRun.done _ _ (hK _ _ ?_); clear hK)))
    refine W_cond_true (by simp only [go_sem, Nat.reduceEqDiff, Nat.reduceLT, Nat.reduceAdd, Nat.reduceLeDiff, Nat.reduceMul, Nat.reduceSub, Int.reduceLE, Int.reduceLT, Int.reduceToNat, Int.reducePow, Int.reduceEq]) ?_
    (repeat (first | refine W_seq ?_ | refine W_block ?_ | refine W_blk ?_ | refine W_skip ?_ | (refine W_region [] (by rfl) fun K hK => ?_; simp only [go_sem, Nat.reduceEqDiff, Nat.reduceLT, Nat.reduceAdd, Nat.reduceLeDiff, Nat.reduceMul, Nat.reduceSub, Int.reduceLE, Int.reduceLT, Int.reduceToNat, Int.reducePow, Int.reduceEq]; refine WRun.done _ _ (hK _ _ ?_); clear hK)))
    refine W_ret ?_
    simp only [go_sem, Nat.reduceEqDiff, Nat.reduceLT, Nat.reduceAdd, Nat.reduceLeDiff, Nat.reduceMul, Nat.reduceSub, Int.reduceLE, Int.reduceLT, Int.reduceToNat, Int.reducePow, Int.reduceEq]
    exact Keeps.append _ _
  | some k =>
    simp only [wordsV] at hc
    (repeat (first | refine W_seq ?_ | refine W_block ?_ | refine W_blk ?_ | refine W_skip ?_ | (refine W_region [] (by rfl) fun K hK => ?_; simp only [go_sem, Nat.reduceEqDiff, Nat.reduceLT, Nat.reduceAdd, Nat.reduceLeDiff, Nat.reduceMul, Nat.reduceSub, Int.reduceLE, Int.reduceLT, Int.reduceToNat, Int.reducePow, Int.reduceEq]; refine WRun.done _ _ (hK _ _ ?_); clear hK)))
    refine W_cond_false (by simp only [go_sem, Nat.reduceEqDiff, Nat.reduceLT, Nat.reduceAdd, Nat.reduceLeDiff, Nat.reduceMul, Nat.reduceSub, Int.reduceLE, Int.reduceLT, Int.reduceToNat, Int.reducePow, Int.reduceEq]) ?_
    (repeat (first | refine W_seq ?_ | refine W_block ?_ | refine W_blk ?_ | refine W_skip ?_ | (refine W_region [] (by rfl) fun K hK => ?_; simp only [go_sem, Nat.reduceEqDiff, Nat.reduceLT, Nat.reduceAdd, Nat.reduceLeDiff, Nat.reduceMul, Nat.reduceSub, Int.reduceLE, Int.reduceLT, Int.reduceToNat, Int.reducePow, Int.reduceEq, at_left, hi, hc]; refine WRun.done _ _ (hK _ _ ?_); clear hK)))
    refine W_cond_true (by simp only [go_sem, Nat.reduceEqDiff, Nat.reduceLT, Nat.reduceAdd, Nat.reduceLeDiff, Nat.reduceMul, Nat.reduceSub, Int.reduceLE, Int.reduceLT, Int.reduceToNat, Int.reducePow, Int.reduceEq]) ?_
    (repeat (first | refine W_seq ?_ | refine W_block ?_ | refine W_blk ?_ | refine W_skip ?_ | (refine W_region [] (by rfl) fun K hK => ?_; simp only [go_sem, Nat.reduceEqDiff, Nat.reduceLT, Nat.reduceAdd, Nat.reduceLeDiff, Nat.reduceMul, Nat.reduceSub, Int.reduceLE, Int.reduceLT, Int.reduceToNat, Int.reducePow, Int.reduceEq]; refine WRun.done _ _ (hK _ _ ?_); clear hK)))
    refine W_ret ?_
    simp only [go_sem, Nat.reduceEqDiff, Nat.reduceLT, Nat.reduceAdd, Nat.reduceLeDiff, Nat.reduceMul, Nat.reduceSub, Int.reduceLE, Int.reduceLT, Int.reduceToNat, Int.reducePow, Int.reduceEq]
    exact Keeps.append _ _

theorem pop_ok (M : AMem) (i : Nat) (most : Int) (ws : List Int) (k : Option Nat) (hS : StackAt M i most ws k) (pre : List Int) (f : Frm) (hf : f.ok) (hws : ws = pre ++ f.enc) (hw : ws.length ≤ 1000000) :
    ACalls Try.prog 15 [.ptr i 0] M (fun r M' => (∃ tg, r = .tup [f.V tg, V.int 0]) ∧ StackAt M' i most pre k ∧ M.length ≤ M'.length ∧ ∀ j, j < M.length → j ≠ i → M'[j]? = M[j]?) := by
  refine acalls_enter [.cell 2 31, .tmp 3] 36 Try.func15 rfl rfl rfl (by simp) ?_
  have hlen : ws.length = pre.length + f.l.length + 3 := by rw [hws]; simp [Frm.enc]; omega
  have hc := hS.cells
  have hi : i < M.length := (List.getElem?_eq_some_iff.1 hc).1
  cases k with
  | none => have := hS.none rfl; rw [this] at hlen; simp at hlen
  | some k =>
  obtain ⟨hki, cs, hk, hcs⟩ := hS.some k rfl
  have hkl : k < M.length := (List.getElem?_eq_some_iff.1 hk).1
  have hS1 : StackAt (M ++ [AObj.cells [V.prim (Value.int IntKind.i64 0), V.prim (Value.int IntKind.i64 0), V.prim (Value.int IntKind.i64 0), V.list Tag.full []]]) i most ws (some k) :=
    ⟨by rw [List.getElem?_append_left hi]; exact hc, (fun h => by cases h), fun k' h => by injection h with h; subst h; exact ⟨hki, cs, by rw [List.getElem?_append_left hkl]; exact hk, hcs⟩⟩
  simp only [wordsV] at hc
  (repeat (first | refine W_seq ?_ | refine W_block ?_ | refine W_blk ?_ | refine W_skip ?_ | (refine W_region [] (by rfl) fun K hK => ?_; simp only [go_sem, Nat.reduceEqDiff, Nat.reduceLT, Nat.reduceAdd, Nat.reduceLeDiff, Nat.reduceMul, Nat.reduceSub, Int.reduceLE, Int.reduceLT, Int.reduceToNat, Int.reducePow, Int.reduceEq]; refine WRun.done _ _ (hK _ _ ?_); clear hK)))
  refine W_cond_false (by simp only [go_sem, Nat.reduceEqDiff, Nat.reduceLT, Nat.reduceAdd, Nat.reduceLeDiff, Nat.reduceMul, Nat.reduceSub, Int.reduceLE, Int.reduceLT, Int.reduceToNat, Int.reducePow, Int.reduceEq]) ?_
  (repeat (first | refine W_seq ?_ | refine W_block ?_ | refine W_blk ?_ | refine W_skip ?_ | (refine W_region [] (by rfl) fun K hK => ?_; simp only [go_sem, Nat.reduceEqDiff, Nat.reduceLT, Nat.reduceAdd, Nat.reduceLeDiff, Nat.reduceMul, Nat.reduceSub, Int.reduceLE, Int.reduceLT, Int.reduceToNat, Int.reducePow, Int.reduceEq, at_left, hi, hc]; refine WRun.done _ _ (hK _ _ ?_); clear hK)))
  have hne0 : ¬ ((ws.length : Int) = 0) := by omega
  refine W_cond_false (by simp only [go_sem, Nat.reduceEqDiff, Nat.reduceLT, Nat.reduceAdd, Nat.reduceLeDiff, Nat.reduceMul, Nat.reduceSub, Int.reduceLE, Int.reduceLT, Int.reduceToNat, Int.reducePow, Int.reduceEq, hne0]) ?_
  (repeat (first | refine W_seq ?_ | refine W_block ?_ | refine W_blk ?_ | refine W_skip ?_))
  (refine W_region [] (by rfl) fun K hK => ?_; simp only [go_sem, Nat.reduceEqDiff, Nat.reduceLT, Nat.reduceAdd, Nat.reduceLeDiff, Nat.reduceMul, Nat.reduceSub, Int.reduceLE, Int.reduceLT, Int.reduceToNat, Int.reducePow, Int.reduceEq, at_left, hi, hc])
  have e1 : (ws.length : Int) = ((pre.length + f.l.length + 3 : Nat) : Int) := by rw [hlen]
  rw [e1]
  refine WRun.call _ _ _ _ _ _ _ (top_ok _ i most ws (some k) hS1 pre [] f hf (by rw [hws]; simp) hw) ?_
  rintro r M1 ⟨⟨tg, rfl⟩, hK1⟩
  have m1l : M.length + 1 ≤ M1.length := by have := hK1.1; simp at this; exact this
  have m1i : M1[i]? = some (.cells [V.arr k 0 ws.length 1, V.int most]) := by rw [hK1.2 i (by simp; omega)]; exact hS1.cells
  have m1k : M1[k]? = some (.cells cs) := by rw [hK1.2 k (by simp; omega), List.getElem?_append_left hkl]; exact hk
  have m1t : M1[M.length]? = some (AObj.cells [V.prim (Value.int IntKind.i64 0), V.prim (Value.int IntKind.i64 0), V.prim (Value.int IntKind.i64 0), V.list Tag.full []]) := by rw [hK1.2 M.length (by simp)]; simp
  have hi1 : i < M1.length := by omega
  have hML : M.length < M1.length := by omega
  have p1 : (pre.length : Int) ≤ ws.length := by omega
  simp only [go_sem, Nat.reduceEqDiff, Nat.reduceLT, Nat.reduceAdd, Nat.reduceLeDiff, Nat.reduceMul, Nat.reduceSub, Int.reduceLE, Int.reduceLT, Int.reduceToNat, Int.reducePow, Int.reduceEq, Frm.V]
  (refine WRun.done _ _ (hK _ _ ?_); clear hK)
  (repeat (first | refine W_seq ?_ | refine W_block ?_ | refine W_blk ?_ | refine W_skip ?_))
  (refine W_region [] (by rfl) fun K hK => ?_; simp only [go_sem, Nat.reduceEqDiff, Nat.reduceLT, Nat.reduceAdd, Nat.reduceLeDiff, Nat.reduceMul, Nat.reduceSub, Int.reduceLE, Int.reduceLT, Int.reduceToNat, Int.reducePow, Int.reduceEq, at_left, set_left, hi1, m1i, Int.natCast_nonneg, Int.toNat_natCast, Int.le_refl, p1, Nat.zero_mul, Nat.zero_add, Nat.sub_zero, or_true])
  (refine WRun.done _ _ (hK _ _ ?_); clear hK)
  (repeat (first | refine W_seq ?_ | refine W_block ?_ | refine W_blk ?_ | refine W_skip ?_))
  have hne : i ≠ M.length := by omega
  have m1t' : (M1.set i (AObj.cells [V.arr k 0 pre.length 1, V.int most]))[M.length]? = some (AObj.cells [V.prim (Value.int IntKind.i64 0), V.prim (Value.int IntKind.i64 0), V.prim (Value.int IntKind.i64 0), V.list Tag.full []]) := by
    rw [List.getElem?_set_ne hne]; exact m1t
  (refine W_region [] (by rfl) fun K hK => ?_; simp only [go_sem, Nat.reduceEqDiff, Nat.reduceLT, Nat.reduceAdd, Nat.reduceLeDiff, Nat.reduceMul, Nat.reduceSub, Int.reduceLE, Int.reduceLT, Int.reduceToNat, Int.reducePow, Int.reduceEq, at_left, set_left, hML, m1t'])
  (refine WRun.done _ _ (hK _ _ ?_); clear hK)
  refine W_ret ?_
  simp only [go_sem, Nat.reduceEqDiff, Nat.reduceLT, Nat.reduceAdd, Nat.reduceLeDiff, Nat.reduceMul, Nat.reduceSub, Int.reduceLE, Int.reduceLT, Int.reduceToNat, Int.reducePow, Int.reduceEq, at_left, hML, List.getElem?_set_self]
  have hkM : k ≠ M.length := by omega
  refine ⟨⟨tg, rfl⟩, ⟨?_, (fun h => by cases h), fun k' h => ?_⟩, by omega, fun j hj hji => ?_⟩
  · rw [List.getElem?_append_left (by simp; omega), List.getElem?_set_ne (by omega), List.getElem?_set_self hi1]
    rfl
  · injection h with h
    subst h
    refine ⟨hki, cs, ?_, ?_⟩
    · rw [List.getElem?_append_left (by simp; omega), List.getElem?_set_ne (by omega), List.getElem?_set_ne (by omega)]
      exact m1k
    · have := congrArg (fun l : List V => l.take pre.length) hcs
      simp only [List.take_take] at this
      rw [Nat.min_eq_left (by omega)] at this
      rw [this, hws, ← List.map_take]
      simp
  · rw [List.getElem?_append_left (by simp; omega), List.getElem?_set_ne (by omega), List.getElem?_set_ne (by omega), hK1.2 j (by simp; omega), List.getElem?_append_left hj]
end Go.Ax

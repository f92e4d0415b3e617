/- Making two types one: its begin. Conditions: none. -/
import Derived.Test.YtfpmohmhiecjfaaDoorUnI
import Derived.Test.YtfpmohmhiecjfaaDoorUnQ
set_option linter.unusedSimpArgs false
set_option linter.unusedVariables false
namespace Go.Ax
open Go.Proofs Go.Uni
noncomputable def body31 : Code := Tryd.f31.body.getD .skip
abbrev tcells (t : Ty) : List V := [V.int (hd t), V.str (nm t), .list .dull (encL (ar t))]
def Head (s : Nat → Option Ty) (t : Ty) : Prop := (∃ n, t = .var n ∧ s n = none) ∨ ∃ f l, t = .app f l

set_option maxHeartbeats 4000000 in
theorem pair_pre {es : List (Value × V)} {s : Nat → Option Ty} {m : Nat → Ty} {r : Nat → Nat} (hs : SMap es s) (hm : Sbs s m r) (a b : Ty) (ha : Ar a) (hb : Ar b) (i j : Nat) (hij : i ≠ j) (M : AMem) (hi : M[i]? = some (.map es)) (left : Nat) (hl : left ≤ 4611686018427387904) (hj : M[j]? = some (.cells [V.int left])) (R : V → AMem → Prop)
    (h5 : left = 0 → ∀ a' b', R (V.int 5) ((M ++ [AObj.cells (tcells a')] ++ [AObj.cells (tcells b')]).set j (.cells [V.int (-1)])))
    (hk : 0 < left → ∀ a' b', a'.sub m = a.sub m → Ar a' → Head s a' → b'.sub m = b.sub m → Ar b' → Head s b' → ∀ F', look F' 0 = .map i → look F' 3 = .ptr j 0 → look F' 5 = .ptr M.length 0 → look F' 6 = .ptr (M.length + 1) 0 →
      W Tryd.prog 108 (RetA Tryd.prog [.tmp 8] R) [.code (part [1,1,1] body31)] F' ((M ++ [AObj.cells (tcells a')] ++ [AObj.cells (tcells b')]).set j (.cells [V.int ((left - 1 : Nat) : Int)]))) :
    ACalls Tryd.prog 31 [.map i, enc a, enc b, .ptr j 0] M R := by
  refine acalls_enter [.tmp 8] 108 Tryd.func31 rfl rfl rfl (by simp) ?_
  have hil := (List.getElem?_eq_some_iff.1 hi).1
  have hjl := (List.getElem?_eq_some_iff.1 hj).1
  (repeat (first | refine W_seq ?_ | refine W_block ?_ | refine W_blk ?_ | refine W_skip ?_))
  (refine W_region [] (by rfl) fun K hK => ?_; simp only [go_sem, Nat.reduceEqDiff, Nat.reduceLT, Nat.reduceAdd, Nat.reduceLeDiff, Nat.reduceMul, Nat.reduceSub, Int.reduceLE, Int.reduceLT, Int.reduceToNat, Int.reducePow, Int.reduceEq])
  (refine WRun.done _ _ (hK _ _ ?_); clear hK)
  have hA : (M ++ [AObj.cells (tcells a)] ++ [AObj.cells (tcells b)])[M.length]? = some (.cells (tcells a)) := at_app (at_snoc rfl)
  have hB : (M ++ [AObj.cells (tcells a)] ++ [AObj.cells (tcells b)])[M.length + 1]? = some (.cells (tcells b)) := at_snoc (by simp)
  have hi1 : (M ++ [AObj.cells (tcells a)] ++ [AObj.cells (tcells b)])[i]? = some (.map es) := at_app (at_app hi)
  have hj1 : (M ++ [AObj.cells (tcells a)] ++ [AObj.cells (tcells b)])[j]? = some (.cells [V.int left]) := at_app (at_app hj)
  generalize hM1 : M ++ [AObj.cells (tcells a)] ++ [AObj.cells (tcells b)] = M1 at hA hB hi1 hj1 ⊢
  (repeat (first | refine W_seq ?_ | refine W_block ?_ | refine W_blk ?_ | refine W_skip ?_))
  (refine W_draw [] (fun X => X = M1) mixed_ (by rfl) ?_ fun K hK => ?_)
  · rfl
  (refine DR_quiet [0, 1, 3, 4] (by decide +kernel) (fun M_ hS_ => ?_) (fun K2 hK2 => ?_); (focus (simp only [go_sem, Nat.reduceEqDiff, Nat.reduceLT, Nat.reduceAdd, Nat.reduceLeDiff, Nat.reduceMul, Nat.reduceSub, Int.reduceLE, Int.reduceLT, Int.reduceToNat, Int.reducePow, Int.reduceEq, hS_, hA, hB])); simp only [go_sem, Nat.reduceEqDiff, Nat.reduceLT, Nat.reduceAdd, Nat.reduceLeDiff, Nat.reduceMul, Nat.reduceSub, Int.reduceLE, Int.reduceLT, Int.reduceToNat, Int.reducePow, Int.reduceEq, hA, hB]; refine hK2 _ ?_; clear hK2)
  (refine DR_sole' 2 (by decide +kernel) (by simp only [go_sem, Nat.reduceEqDiff, Nat.reduceLT, Nat.reduceAdd, Nat.reduceLeDiff, Nat.reduceMul, Nat.reduceSub, Int.reduceLE, Int.reduceLT, Int.reduceToNat, Int.reducePow, Int.reduceEq]) ?_; simp only [go_sem, Nat.reduceEqDiff, Nat.reduceLT, Nat.reduceAdd, Nat.reduceLeDiff, Nat.reduceMul, Nat.reduceSub, Int.reduceLE, Int.reduceLT, Int.reduceToNat, Int.reducePow, Int.reduceEq])
  refine ACalls.at (look_ok hs hm a ha i M1 hi1) (by simp only [go_sem, Nat.reduceEqDiff, Nat.reduceLT, Nat.reduceAdd, Nat.reduceLeDiff, Nat.reduceMul, Nat.reduceSub, Int.reduceLE, Int.reduceLT, Int.reduceToNat, Int.reducePow, Int.reduceEq, enc_eq]) ?_
  rintro v Mv ⟨hMv, a', rfl, ea, hAa, hHa⟩
  subst Mv
  refine ⟨rfl, ?_⟩
  (refine DR_sole' 5 (by decide +kernel) (by simp only [go_sem, Nat.reduceEqDiff, Nat.reduceLT, Nat.reduceAdd, Nat.reduceLeDiff, Nat.reduceMul, Nat.reduceSub, Int.reduceLE, Int.reduceLT, Int.reduceToNat, Int.reducePow, Int.reduceEq]) ?_; simp only [go_sem, Nat.reduceEqDiff, Nat.reduceLT, Nat.reduceAdd, Nat.reduceLeDiff, Nat.reduceMul, Nat.reduceSub, Int.reduceLE, Int.reduceLT, Int.reduceToNat, Int.reducePow, Int.reduceEq])
  refine ACalls.at (look_ok hs hm b hb i M1 hi1) (by simp only [go_sem, Nat.reduceEqDiff, Nat.reduceLT, Nat.reduceAdd, Nat.reduceLeDiff, Nat.reduceMul, Nat.reduceSub, Int.reduceLE, Int.reduceLT, Int.reduceToNat, Int.reducePow, Int.reduceEq, enc_eq]) ?_
  rintro v Mv ⟨hMv, b', rfl, eb, hAb, hHb⟩
  subst Mv
  refine ⟨rfl, ?_⟩
  (refine DR_break 6 (by decide +kernel) (by decide +kernel) (by simp only [go_sem, Nat.reduceEqDiff, Nat.reduceLT, Nat.reduceAdd, Nat.reduceLeDiff, Nat.reduceMul, Nat.reduceSub, Int.reduceLE, Int.reduceLT, Int.reduceToNat, Int.reducePow, Int.reduceEq, hA, hB]) ?_; simp only [go_sem, Nat.reduceEqDiff, Nat.reduceLT, Nat.reduceAdd, Nat.reduceLeDiff, Nat.reduceMul, Nat.reduceSub, Int.reduceLE, Int.reduceLT, Int.reduceToNat, Int.reducePow, Int.reduceEq, hA, hB])
  have hB2 : (M1.set M.length (AObj.cells (tcells a')))[M.length + 1]? = some (.cells (tcells b)) := by rw [List.getElem?_set_ne (by omega)]; exact hB
  (refine DRN_sole 7 (by decide +kernel) (by decide +kernel) (by simp only [go_sem, Nat.reduceEqDiff, Nat.reduceLT, Nat.reduceAdd, Nat.reduceLeDiff, Nat.reduceMul, Nat.reduceSub, Int.reduceLE, Int.reduceLT, Int.reduceToNat, Int.reducePow, Int.reduceEq, hB2]) ?_; simp only [go_sem, Nat.reduceEqDiff, Nat.reduceLT, Nat.reduceAdd, Nat.reduceLeDiff, Nat.reduceMul, Nat.reduceSub, Int.reduceLE, Int.reduceLT, Int.reduceToNat, Int.reducePow, Int.reduceEq, hB2])
  (refine DRN_end (by decide +kernel) (hK _ _ ?_); clear hK)
  have hM2 : (M1.set M.length (AObj.cells (tcells a'))).set (M.length + 1) (AObj.cells (tcells b')) = M ++ [AObj.cells (tcells a')] ++ [AObj.cells (tcells b')] := by
    subst hM1
    simp
  have hj2 : (M ++ [AObj.cells (tcells a')] ++ [AObj.cells (tcells b')])[j]? = some (.cells [V.int left]) := at_app (at_app hj)
  rw [hM2]
  generalize hM2e : M ++ [AObj.cells (tcells a')] ++ [AObj.cells (tcells b')] = M2 at hj2 ⊢
  have hjl2 := (List.getElem?_eq_some_iff.1 hj2).1
  have hj3 : ∀ x : V, (M2.set j (.cells [x]))[j]? = some (.cells [x]) := fun x => List.getElem?_set_self hjl2
  have hw : IntKind.i64.wrap ((left : Int) - 1) = (left : Int) - 1 := wrapI _ (by omega) (by omega)
  (repeat (first | refine W_seq ?_ | refine W_block ?_ | refine W_blk ?_ | refine W_skip ?_ | (refine W_region [] (by rfl) fun K hK => ?_; simp only [go_sem, Nat.reduceEqDiff, Nat.reduceLT, Nat.reduceAdd, Nat.reduceLeDiff, Nat.reduceMul, Nat.reduceSub, Int.reduceLE, Int.reduceLT, Int.reduceToNat, Int.reducePow, Int.reduceEq, hj2, hw]; refine WRun.done _ _ (hK _ _ ?_); clear hK)))
  by_cases hz : left = 0
  · subst hz
    have e0 : ((0 : Nat) : Int) - 1 = -1 := rfl
    rw [e0]
    (repeat (first | refine W_seq ?_ | refine W_block ?_ | refine W_blk ?_ | refine W_skip ?_ | (refine W_region [] (by rfl) fun K hK => ?_; simp only [go_sem, Nat.reduceEqDiff, Nat.reduceLT, Nat.reduceAdd, Nat.reduceLeDiff, Nat.reduceMul, Nat.reduceSub, Int.reduceLE, Int.reduceLT, Int.reduceToNat, Int.reducePow, Int.reduceEq, hj3]; refine WRun.done _ _ (hK _ _ ?_); clear hK)))
    refine W_cond_true (by simp only [go_sem, Nat.reduceEqDiff, Nat.reduceLT, Nat.reduceAdd, Nat.reduceLeDiff, Nat.reduceMul, Nat.reduceSub, Int.reduceLE, Int.reduceLT, Int.reduceToNat, Int.reducePow, Int.reduceEq]) ?_
    (repeat (first | refine W_seq ?_ | refine W_block ?_ | refine W_blk ?_ | refine W_skip ?_ | (refine W_region [] (by rfl) fun K hK => ?_; simp only [go_sem, Nat.reduceEqDiff, Nat.reduceLT, Nat.reduceAdd, Nat.reduceLeDiff, Nat.reduceMul, Nat.reduceSub, Int.reduceLE, Int.reduceLT, Int.reduceToNat, Int.reducePow, Int.reduceEq]; refine WRun.done _ _ (hK _ _ ?_); clear hK)))
    refine W_ret ?_
    simp only [go_sem, Nat.reduceEqDiff, Nat.reduceLT, Nat.reduceAdd, Nat.reduceLeDiff, Nat.reduceMul, Nat.reduceSub, Int.reduceLE, Int.reduceLT, Int.reduceToNat, Int.reducePow, Int.reduceEq]
    subst hM2e
    exact h5 rfl a' b'
  · have hw2 : (left : Int) - 1 = ((left - 1 : Nat) : Int) := by omega
    have h0 : ¬ (((left - 1 : Nat) : Int) < 0) := by omega
    rw [hw2]
    (repeat (first | refine W_seq ?_ | refine W_block ?_ | refine W_blk ?_ | refine W_skip ?_ | (refine W_region [] (by rfl) fun K hK => ?_; simp only [go_sem, Nat.reduceEqDiff, Nat.reduceLT, Nat.reduceAdd, Nat.reduceLeDiff, Nat.reduceMul, Nat.reduceSub, Int.reduceLE, Int.reduceLT, Int.reduceToNat, Int.reducePow, Int.reduceEq, hj3]; refine WRun.done _ _ (hK _ _ ?_); clear hK)))
    refine W_cond_false (by simp only [go_sem, Nat.reduceEqDiff, Nat.reduceLT, Nat.reduceAdd, Nat.reduceLeDiff, Nat.reduceMul, Nat.reduceSub, Int.reduceLE, Int.reduceLT, Int.reduceToNat, Int.reducePow, Int.reduceEq, h0]) ?_
    refine W_skip ?_
    subst hM2e
    refine hk (by omega) a' b' ea hAa hHa eb hAb hHb _ ?_ ?_ ?_ ?_
    · simp only [go_sem, Nat.reduceEqDiff, Nat.reduceLT, Nat.reduceAdd, Nat.reduceLeDiff, Nat.reduceMul, Nat.reduceSub, Int.reduceLE, Int.reduceLT, Int.reduceToNat, Int.reducePow, Int.reduceEq]
    · simp only [go_sem, Nat.reduceEqDiff, Nat.reduceLT, Nat.reduceAdd, Nat.reduceLeDiff, Nat.reduceMul, Nat.reduceSub, Int.reduceLE, Int.reduceLT, Int.reduceToNat, Int.reducePow, Int.reduceEq]
    · simp only [go_sem, Nat.reduceEqDiff, Nat.reduceLT, Nat.reduceAdd, Nat.reduceLeDiff, Nat.reduceMul, Nat.reduceSub, Int.reduceLE, Int.reduceLT, Int.reduceToNat, Int.reducePow, Int.reduceEq]
    · simp only [go_sem, Nat.reduceEqDiff, Nat.reduceLT, Nat.reduceAdd, Nat.reduceLeDiff, Nat.reduceMul, Nat.reduceSub, Int.reduceLE, Int.reduceLT, Int.reduceToNat, Int.reducePow, Int.reduceEq]
end Go.Ax

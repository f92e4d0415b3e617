import Derived.Test.YthbojmoiimknhaaStG
set_option linter.unusedSimpArgs false
set_option linter.unusedVariables false
namespace Go.Ax
open Go.Proofs

abbrev part := subC

/-- Is a frame one that may be pushed? -/
def badF (f : Frm) : Bool := decide (f.kind < 1) || decide (3 < f.kind) || decide (f.a < 0) || decide (f.b < 0)

/-- The act's cells, one by one. -/
theorem push_r37 {Ret : Fr → AMem → Prop} {k0 : List It} {M : AMem} {x : Nat} {a : ActIn} (hx : M[x]? = some (.cells a.cells)) (F : Fr) (f10 : look F 10 = .ptr x 0)
    (hk : ∀ F', (∀ t, t < 180 ∨ 202 < t → look F' t = look F t) → look F' 180 = V.bool (badF a.f) → W Try.prog 301 Ret k0 F' M) :
    W Try.prog 301 Ret (.code (subC [1,1,1,1,1,1,0,1,1,1,1,1,0,1,1,0,1,1,1,0,1,1,1,1,0,1,0] body3) :: k0) F M := by
  simp only [ActIn.cells] at hx
  have ne : ∀ {t : Nat}, (t < 180 ∨ 202 < t) → ∀ {u : Nat}, 180 ≤ u → u ≤ 202 → (t = u) = False := fun h _ h1 h2 => eq_false (by omega)
  by_cases c1 : a.f.kind < 1
  · have c1' := eq_true c1
    (refine W_region [] (by rfl) fun K hK => ?_; simp only [go_sem, Nat.reduceEqDiff, Nat.reduceLT, Nat.reduceAdd, Nat.reduceLeDiff, Nat.reduceMul, Nat.reduceSub, Int.reduceLE, Int.reduceLT, Int.reduceToNat, Int.reducePow, Int.reduceEq, f10, hx, c1', Nat.zero_add])
    (refine WRun.done _ _ (hK _ _ ?_); clear hK)
    refine hk _ (fun t ht => ?_) ?_
    · simp only [go_sem, Nat.reduceEqDiff, Nat.reduceLT, Nat.reduceAdd, Nat.reduceLeDiff, Nat.reduceMul, Nat.reduceSub, Int.reduceLE, Int.reduceLT, Int.reduceToNat, Int.reducePow, Int.reduceEq, ne ht, if_false]
    · simp only [go_sem, Nat.reduceEqDiff, Nat.reduceLT, Nat.reduceAdd, Nat.reduceLeDiff, Nat.reduceMul, Nat.reduceSub, Int.reduceLE, Int.reduceLT, Int.reduceToNat, Int.reducePow, Int.reduceEq, badF, c1', Bool.true_or]
  · have c1' := eq_false c1
    by_cases c2 : 3 < a.f.kind
    · have c2' := eq_true c2
      (refine W_region [] (by rfl) fun K hK => ?_; simp only [go_sem, Nat.reduceEqDiff, Nat.reduceLT, Nat.reduceAdd, Nat.reduceLeDiff, Nat.reduceMul, Nat.reduceSub, Int.reduceLE, Int.reduceLT, Int.reduceToNat, Int.reducePow, Int.reduceEq, f10, hx, c1', c2', Nat.zero_add])
      (refine WRun.done _ _ (hK _ _ ?_); clear hK)
      refine hk _ (fun t ht => ?_) ?_
      · simp only [go_sem, Nat.reduceEqDiff, Nat.reduceLT, Nat.reduceAdd, Nat.reduceLeDiff, Nat.reduceMul, Nat.reduceSub, Int.reduceLE, Int.reduceLT, Int.reduceToNat, Int.reducePow, Int.reduceEq, ne ht, if_false]
      · simp only [go_sem, Nat.reduceEqDiff, Nat.reduceLT, Nat.reduceAdd, Nat.reduceLeDiff, Nat.reduceMul, Nat.reduceSub, Int.reduceLE, Int.reduceLT, Int.reduceToNat, Int.reducePow, Int.reduceEq, badF, c1', c2', Bool.true_or, Bool.or_true]
    · have c2' := eq_false c2
      by_cases c3 : a.f.a < 0
      · have c3' := eq_true c3
        (refine W_region [] (by rfl) fun K hK => ?_; simp only [go_sem, Nat.reduceEqDiff, Nat.reduceLT, Nat.reduceAdd, Nat.reduceLeDiff, Nat.reduceMul, Nat.reduceSub, Int.reduceLE, Int.reduceLT, Int.reduceToNat, Int.reducePow, Int.reduceEq, f10, hx, c1', c2', c3', Nat.zero_add])
        (refine WRun.done _ _ (hK _ _ ?_); clear hK)
        refine hk _ (fun t ht => ?_) ?_
        · simp only [go_sem, Nat.reduceEqDiff, Nat.reduceLT, Nat.reduceAdd, Nat.reduceLeDiff, Nat.reduceMul, Nat.reduceSub, Int.reduceLE, Int.reduceLT, Int.reduceToNat, Int.reducePow, Int.reduceEq, ne ht, if_false]
        · simp only [go_sem, Nat.reduceEqDiff, Nat.reduceLT, Nat.reduceAdd, Nat.reduceLeDiff, Nat.reduceMul, Nat.reduceSub, Int.reduceLE, Int.reduceLT, Int.reduceToNat, Int.reducePow, Int.reduceEq, badF, c1', c2', c3', Bool.true_or, Bool.or_true]
      · have c3' := eq_false c3
        by_cases c4 : a.f.b < 0
        · have c4' := eq_true c4
          (refine W_region [] (by rfl) fun K hK => ?_; simp only [go_sem, Nat.reduceEqDiff, Nat.reduceLT, Nat.reduceAdd, Nat.reduceLeDiff, Nat.reduceMul, Nat.reduceSub, Int.reduceLE, Int.reduceLT, Int.reduceToNat, Int.reducePow, Int.reduceEq, f10, hx, c1', c2', c3', c4', Nat.zero_add])
          (refine WRun.done _ _ (hK _ _ ?_); clear hK)
          refine hk _ (fun t ht => ?_) ?_
          · simp only [go_sem, Nat.reduceEqDiff, Nat.reduceLT, Nat.reduceAdd, Nat.reduceLeDiff, Nat.reduceMul, Nat.reduceSub, Int.reduceLE, Int.reduceLT, Int.reduceToNat, Int.reducePow, Int.reduceEq, ne ht, if_false]
          · simp only [go_sem, Nat.reduceEqDiff, Nat.reduceLT, Nat.reduceAdd, Nat.reduceLeDiff, Nat.reduceMul, Nat.reduceSub, Int.reduceLE, Int.reduceLT, Int.reduceToNat, Int.reducePow, Int.reduceEq, badF, c1', c2', c3', c4', Bool.true_or, Bool.or_true]
        · have c4' := eq_false c4
          (refine W_region [] (by rfl) fun K hK => ?_; simp only [go_sem, Nat.reduceEqDiff, Nat.reduceLT, Nat.reduceAdd, Nat.reduceLeDiff, Nat.reduceMul, Nat.reduceSub, Int.reduceLE, Int.reduceLT, Int.reduceToNat, Int.reducePow, Int.reduceEq, f10, hx, c1', c2', c3', c4', Nat.zero_add])
          (refine WRun.done _ _ (hK _ _ ?_); clear hK)
          refine hk _ (fun t ht => ?_) ?_
          · simp only [go_sem, Nat.reduceEqDiff, Nat.reduceLT, Nat.reduceAdd, Nat.reduceLeDiff, Nat.reduceMul, Nat.reduceSub, Int.reduceLE, Int.reduceLT, Int.reduceToNat, Int.reducePow, Int.reduceEq, ne ht, if_false]
          · simp only [go_sem, Nat.reduceEqDiff, Nat.reduceLT, Nat.reduceAdd, Nat.reduceLeDiff, Nat.reduceMul, Nat.reduceSub, Int.reduceLE, Int.reduceLT, Int.reduceToNat, Int.reducePow, Int.reduceEq, badF, c1', c2', c3', c4', Bool.or_false]
end Go.Ax

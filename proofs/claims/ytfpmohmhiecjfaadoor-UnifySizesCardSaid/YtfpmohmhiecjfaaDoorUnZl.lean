/- The reference's size of a type with what its variables stand for. Conditions: none. -/
import Derived.Test.YtfpmohmhiecjfaaDoorUnZk
set_option linter.unusedSimpArgs false
set_option linter.unusedVariables false
namespace Go.Ax
open Go.Proofs Go.Uni

theorem ar_of_rep {l : PL} {m : Nat → Ty} (hR : Rep l m) (hl : ArP l) (v : Nat) : Ar (m v) := by
  have := Ar_appl hl (t := .var v) trivial
  rw [hR.appl] at this
  exact this

set_option maxHeartbeats 8000000 in
theorem rsize_ok (pl : PL) (m : Nat → Ty) (hR : Rep pl m) (hl : ArP pl) : ∀ (N : Nat) (t : Ty), t.size ≤ N → Ar t → ∀ most : Nat, most ≤ 100000 → PCalls Tryd.prog 28 [.list .dull (pl.map encP), enc t, V.int (most : Int)] (V.int ((min (t.sub m).size (most + 1) : Nat) : Int))
  | 0, t, h, _, _, _ => by cases t <;> simp [Ty.size] at h
  | N + 1, t, h, hA, most, hmost => by
    have hlen := hR.len
    refine pcalls_of rfl fun M => ?_
    refine acalls_enter [.tmp 6] 67 Tryd.func28 rfl rfl rfl (by simp) ?_
    have hwm : IntKind.i64.wrap ((most : Int) + 1) = ((most + 1 : Nat) : Int) := by rw [wrapI _ (by omega) (by omega)]; omega
    cases t with
    | var v =>
      have h0 : (0 : Int) ≤ (v : Int) := Int.natCast_nonneg v
      (repeat (first | refine W_seq ?_ | refine W_block ?_ | refine W_blk ?_ | refine W_skip ?_ | (refine W_region [4] (by rfl) fun K hK => ?_; simp only [go_sem, Nat.reduceEqDiff, Nat.reduceLT, Nat.reduceAdd, Nat.reduceLeDiff, Nat.reduceMul, Nat.reduceSub, Int.reduceLE, Int.reduceLT, Int.reduceToNat, Int.reducePow, Int.reduceEq]; refine WRun.done _ _ (hK _ _ ?_); clear hK)))
      refine W_cond_true (by simp only [go_sem, Nat.reduceEqDiff, Nat.reduceLT, Nat.reduceAdd, Nat.reduceLeDiff, Nat.reduceMul, Nat.reduceSub, Int.reduceLE, Int.reduceLT, Int.reduceToNat, Int.reducePow, Int.reduceEq, h0]) ?_
      (repeat (first | refine W_seq ?_ | refine W_block ?_ | refine W_blk ?_ | refine W_skip ?_ | (refine W_region [] (by rfl) fun K hK => ?_; simp only [go_sem, Nat.reduceEqDiff, Nat.reduceLT, Nat.reduceAdd, Nat.reduceLeDiff, Nat.reduceMul, Nat.reduceSub, Int.reduceLE, Int.reduceLT, Int.reduceToNat, Int.reducePow, Int.reduceEq]; refine WRun.done _ _ (hK _ _ ?_); clear hK)))
      refine W_loop (α := Nat) (fun q F' M' => q ≤ pl.length ∧ M' = M ∧ look F' 0 = .list .dull (pl.map encP) ∧ look F' 2 = V.int (most : Int) ∧ look F' 4 = .pc [V.int (v : Int), V.str eStr, .list .dull []] ∧ look F' 7 = V.int q ∧ ∀ p ∈ pl.take q, p.1 ≠ v)
        (fun q => pl.length - q) 0 ⟨Nat.zero_le _, rfl, ?_, ?_, ?_, ?_, by simp⟩ ?_
      · simp only [go_sem, Nat.reduceEqDiff, Nat.reduceLT, Nat.reduceAdd, Nat.reduceLeDiff, Nat.reduceMul, Nat.reduceSub, Int.reduceLE, Int.reduceLT, Int.reduceToNat, Int.reducePow, Int.reduceEq]
      · simp only [go_sem, Nat.reduceEqDiff, Nat.reduceLT, Nat.reduceAdd, Nat.reduceLeDiff, Nat.reduceMul, Nat.reduceSub, Int.reduceLE, Int.reduceLT, Int.reduceToNat, Int.reducePow, Int.reduceEq]
      · simp only [go_sem, Nat.reduceEqDiff, Nat.reduceLT, Nat.reduceAdd, Nat.reduceLeDiff, Nat.reduceMul, Nat.reduceSub, Int.reduceLE, Int.reduceLT, Int.reduceToNat, Int.reducePow, Int.reduceEq]
      · simp only [go_sem, Nat.reduceEqDiff, Nat.reduceLT, Nat.reduceAdd, Nat.reduceLeDiff, Nat.reduceMul, Nat.reduceSub, Int.reduceLE, Int.reduceLT, Int.reduceToNat, Int.reducePow, Int.reduceEq]
      rintro q F' M' ⟨hq, hMM, f0, f2, f4, f7, hno⟩
      subst M'
      by_cases hlt : q < pl.length
      · have hlt' : (q : Int) < (pl.length : Int) := by omega
        have hw : IntKind.i64.wrap ((q : Int) + 1) = ((q + 1 : Nat) : Int) := by rw [wrapI _ (by omega) (by omega)]; omega
        obtain ⟨p, hpl⟩ : ∃ x, pl[q]? = some x := ⟨pl[q], by simp [hlt]⟩
        have hpm : p ∈ pl := List.mem_of_getElem? hpl
        have hat := encP_at hpl
        (repeat (first | refine W_seq ?_ | refine W_block ?_ | refine W_blk ?_ | refine W_skip ?_ | (refine W_region [] (by rfl) fun K hK => ?_; simp only [go_sem, Nat.reduceEqDiff, Nat.reduceLT, Nat.reduceAdd, Nat.reduceLeDiff, Nat.reduceMul, Nat.reduceSub, Int.reduceLE, Int.reduceLT, Int.reduceToNat, Int.reducePow, Int.reduceEq, f0, f7, hlt']; refine WRun.done _ _ (hK _ _ ?_); clear hK)))
        refine W_cond_true (by simp only [go_sem, Nat.reduceEqDiff, Nat.reduceLT, Nat.reduceAdd, Nat.reduceLeDiff, Nat.reduceMul, Nat.reduceSub, Int.reduceLE, Int.reduceLT, Int.reduceToNat, Int.reducePow, Int.reduceEq]) ?_
        (repeat (first | refine W_seq ?_ | refine W_block ?_ | refine W_blk ?_ | refine W_skip ?_))
        (refine W_read [] mixed_ (by rfl) (by decide +kernel) (by decide +kernel) fun K2 hK2 => ?_; simp only [go_sem, List.size_toArray, List.range_succ, List.range_zero, QK, Nat.reduceEqDiff, Nat.reduceLT, Nat.reduceAdd, Nat.reduceLeDiff, Nat.reduceMul, Nat.reduceSub, Int.reduceLE, Int.reduceLT, Int.reduceToNat, Int.reducePow, Int.reduceEq, f0, f4, f7, hat, Int.natCast_nonneg, Int.toNat_natCast]; refine hK2 _ ?_; clear hK2)
        by_cases e : p.1 = v
        · have e' : (p.1 : Int) = (v : Int) := by omega
          refine W_cond_true (by simp only [go_sem, Nat.reduceEqDiff, Nat.reduceLT, Nat.reduceAdd, Nat.reduceLeDiff, Nat.reduceMul, Nat.reduceSub, Int.reduceLE, Int.reduceLT, Int.reduceToNat, Int.reducePow, Int.reduceEq, e']) ?_
          (repeat (first | refine W_seq ?_ | refine W_block ?_ | refine W_blk ?_ | refine W_skip ?_))
          (refine W_region [] (by rfl) fun K hK => ?_; simp only [go_sem, Nat.reduceEqDiff, Nat.reduceLT, Nat.reduceAdd, Nat.reduceLeDiff, Nat.reduceMul, Nat.reduceSub, Int.reduceLE, Int.reduceLT, Int.reduceToNat, Int.reducePow, Int.reduceEq, f0, f2, f7, hat, Int.natCast_nonneg, Int.toNat_natCast])
          refine PCalls.use (parts_ok _ p.2 (Nat.le_refl _) (hl p hpm) most hmost) (by simp only [go_sem, Nat.reduceEqDiff, Nat.reduceLT, Nat.reduceAdd, Nat.reduceLeDiff, Nat.reduceMul, Nat.reduceSub, Int.reduceLE, Int.reduceLT, Int.reduceToNat, Int.reducePow, Int.reduceEq, enc_eq]) ?_
          simp only [go_sem, Nat.reduceEqDiff, Nat.reduceLT, Nat.reduceAdd, Nat.reduceLeDiff, Nat.reduceMul, Nat.reduceSub, Int.reduceLE, Int.reduceLT, Int.reduceToNat, Int.reducePow, Int.reduceEq]
          (refine WRun.done _ _ (hK _ _ ?_); clear hK)
          refine W_ret ?_
          simp only [go_sem, Nat.reduceEqDiff, Nat.reduceLT, Nat.reduceAdd, Nat.reduceLeDiff, Nat.reduceMul, Nat.reduceSub, Int.reduceLE, Int.reduceLT, Int.reduceToNat, Int.reducePow, Int.reduceEq]
          refine ⟨?_, [], by simp⟩
          rw [Ty.sub, ← e, hR.val p hpm]
        · have e' : ¬ (p.1 : Int) = (v : Int) := by omega
          refine W_cond_false (by simp only [go_sem, Nat.reduceEqDiff, Nat.reduceLT, Nat.reduceAdd, Nat.reduceLeDiff, Nat.reduceMul, Nat.reduceSub, Int.reduceLE, Int.reduceLT, Int.reduceToNat, Int.reducePow, Int.reduceEq, e']) ?_
          (repeat (first | refine W_seq ?_ | refine W_block ?_ | refine W_blk ?_ | refine W_skip ?_ | (refine W_region [] (by rfl) fun K hK => ?_; simp only [go_sem, Nat.reduceEqDiff, Nat.reduceLT, Nat.reduceAdd, Nat.reduceLeDiff, Nat.reduceMul, Nat.reduceSub, Int.reduceLE, Int.reduceLT, Int.reduceToNat, Int.reducePow, Int.reduceEq, f7, hw]; refine WRun.done _ _ (hK _ _ ?_); clear hK)))
          refine W_stop ⟨q + 1, ⟨hlt, rfl, ?_, ?_, ?_, ?_, ?_⟩, by omega⟩
          · simp only [go_sem, Nat.reduceEqDiff, Nat.reduceLT, Nat.reduceAdd, Nat.reduceLeDiff, Nat.reduceMul, Nat.reduceSub, Int.reduceLE, Int.reduceLT, Int.reduceToNat, Int.reducePow, Int.reduceEq, f0]
          · simp only [go_sem, Nat.reduceEqDiff, Nat.reduceLT, Nat.reduceAdd, Nat.reduceLeDiff, Nat.reduceMul, Nat.reduceSub, Int.reduceLE, Int.reduceLT, Int.reduceToNat, Int.reducePow, Int.reduceEq, f2]
          · simp only [go_sem, Nat.reduceEqDiff, Nat.reduceLT, Nat.reduceAdd, Nat.reduceLeDiff, Nat.reduceMul, Nat.reduceSub, Int.reduceLE, Int.reduceLT, Int.reduceToNat, Int.reducePow, Int.reduceEq, f4]
          · simp only [go_sem, Nat.reduceEqDiff, Nat.reduceLT, Nat.reduceAdd, Nat.reduceLeDiff, Nat.reduceMul, Nat.reduceSub, Int.reduceLE, Int.reduceLT, Int.reduceToNat, Int.reducePow, Int.reduceEq]
          · intro y hy
            rw [List.take_add_one, hpl] at hy
            rcases List.mem_append.1 hy with hy | hy
            · exact hno y hy
            · simp at hy; subst hy; exact e
      · have hii : q = pl.length := by omega
        subst hii
        rw [List.take_length] at hno
        (repeat (first | refine W_seq ?_ | refine W_block ?_ | refine W_blk ?_ | refine W_skip ?_ | (refine W_region [] (by rfl) fun K hK => ?_; simp only [go_sem, Nat.reduceEqDiff, Nat.reduceLT, Nat.reduceAdd, Nat.reduceLeDiff, Nat.reduceMul, Nat.reduceSub, Int.reduceLE, Int.reduceLT, Int.reduceToNat, Int.reducePow, Int.reduceEq, f0, f7, Int.lt_irrefl]; refine WRun.done _ _ (hK _ _ ?_); clear hK)))
        refine W_cond_false (by simp only [go_sem, Nat.reduceEqDiff, Nat.reduceLT, Nat.reduceAdd, Nat.reduceLeDiff, Nat.reduceMul, Nat.reduceSub, Int.reduceLE, Int.reduceLT, Int.reduceToNat, Int.reducePow, Int.reduceEq]) ?_
        refine W_exit (Qof_code (Qof_stop (Qof_blk_same ?_)))
        (repeat (first | refine W_seq ?_ | refine W_block ?_ | refine W_blk ?_ | refine W_skip ?_))
        (refine W_region [] (by rfl) fun K hK => ?_; simp only [go_sem, Nat.reduceEqDiff, Nat.reduceLT, Nat.reduceAdd, Nat.reduceLeDiff, Nat.reduceMul, Nat.reduceSub, Int.reduceLE, Int.reduceLT, Int.reduceToNat, Int.reducePow, Int.reduceEq, f2, f4])
        refine PCalls.use (parts_ok 1 (.var v) (by rw [Ty.size]; omega) trivial most hmost) (by simp only [go_sem, Nat.reduceEqDiff, Nat.reduceLT, Nat.reduceAdd, Nat.reduceLeDiff, Nat.reduceMul, Nat.reduceSub, Int.reduceLE, Int.reduceLT, Int.reduceToNat, Int.reducePow, Int.reduceEq, enc_eq]) ?_
        simp only [go_sem, Nat.reduceEqDiff, Nat.reduceLT, Nat.reduceAdd, Nat.reduceLeDiff, Nat.reduceMul, Nat.reduceSub, Int.reduceLE, Int.reduceLT, Int.reduceToNat, Int.reducePow, Int.reduceEq]
        (refine WRun.done _ _ (hK _ _ ?_); clear hK)
        refine W_ret ?_
        simp only [go_sem, Nat.reduceEqDiff, Nat.reduceLT, Nat.reduceAdd, Nat.reduceLeDiff, Nat.reduceMul, Nat.reduceSub, Int.reduceLE, Int.reduceLT, Int.reduceToNat, Int.reducePow, Int.reduceEq]
        refine ⟨?_, [], by simp⟩
        rw [Ty.sub, hR.un v hno]
    | app g l =>
      rw [Ar_app] at hA
      (repeat (first | refine W_seq ?_ | refine W_block ?_ | refine W_blk ?_ | refine W_skip ?_ | (refine W_region [4] (by rfl) fun K hK => ?_; simp only [go_sem, Nat.reduceEqDiff, Nat.reduceLT, Nat.reduceAdd, Nat.reduceLeDiff, Nat.reduceMul, Nat.reduceSub, Int.reduceLE, Int.reduceLT, Int.reduceToNat, Int.reducePow, Int.reduceEq]; refine WRun.done _ _ (hK _ _ ?_); clear hK)))
      refine W_cond_false (by simp only [go_sem, Nat.reduceEqDiff, Nat.reduceLT, Nat.reduceAdd, Nat.reduceLeDiff, Nat.reduceMul, Nat.reduceSub, Int.reduceLE, Int.reduceLT, Int.reduceToNat, Int.reducePow, Int.reduceEq]) ?_
      (repeat (first | refine W_seq ?_ | refine W_block ?_ | refine W_blk ?_ | refine W_skip ?_ | (refine W_region [] (by rfl) fun K hK => ?_; simp only [go_sem, Nat.reduceEqDiff, Nat.reduceLT, Nat.reduceAdd, Nat.reduceLeDiff, Nat.reduceMul, Nat.reduceSub, Int.reduceLE, Int.reduceLT, Int.reduceToNat, Int.reducePow, Int.reduceEq]; refine WRun.done _ _ (hK _ _ ?_); clear hK)))
      refine W_loop (α := Nat) (fun q F' M' => q ≤ l.length ∧ M' = M ∧ look F' 0 = .list .dull (pl.map encP) ∧ look F' 2 = V.int (most : Int) ∧ look F' 4 = .pc [V.int (-1), V.str g, .list .dull (encL l)] ∧ look F' 8 = V.int ((min (1 + Ty.sizeL ((l.take q).map (Ty.sub m))) (most + 1) : Nat) : Int) ∧ look F' 9 = V.int q)
        (fun q => l.length - q) 0 ⟨Nat.zero_le _, rfl, ?_, ?_, ?_, ?_, ?_⟩ ?_
      · simp only [go_sem, Nat.reduceEqDiff, Nat.reduceLT, Nat.reduceAdd, Nat.reduceLeDiff, Nat.reduceMul, Nat.reduceSub, Int.reduceLE, Int.reduceLT, Int.reduceToNat, Int.reducePow, Int.reduceEq]
      · simp only [go_sem, Nat.reduceEqDiff, Nat.reduceLT, Nat.reduceAdd, Nat.reduceLeDiff, Nat.reduceMul, Nat.reduceSub, Int.reduceLE, Int.reduceLT, Int.reduceToNat, Int.reducePow, Int.reduceEq]
      · simp only [go_sem, Nat.reduceEqDiff, Nat.reduceLT, Nat.reduceAdd, Nat.reduceLeDiff, Nat.reduceMul, Nat.reduceSub, Int.reduceLE, Int.reduceLT, Int.reduceToNat, Int.reducePow, Int.reduceEq]
      · simp only [go_sem, Nat.reduceEqDiff, Nat.reduceLT, Nat.reduceAdd, Nat.reduceLeDiff, Nat.reduceMul, Nat.reduceSub, Int.reduceLE, Int.reduceLT, Int.reduceToNat, Int.reducePow, Int.reduceEq]
        have : min (1 + Ty.sizeL []) (most + 1) = 1 := by simp [Ty.sizeL]
        rw [this]; rfl
      · simp only [go_sem, Nat.reduceEqDiff, Nat.reduceLT, Nat.reduceAdd, Nat.reduceLeDiff, Nat.reduceMul, Nat.reduceSub, Int.reduceLE, Int.reduceLT, Int.reduceToNat, Int.reducePow, Int.reduceEq]
      rintro q F' M' ⟨hq, hMM, f0, f2, f4, f8, f9⟩
      subst M'
      have hsz : ((Ty.app g l).sub m).size = 1 + Ty.sizeL (l.map (Ty.sub m)) := by rw [sub_app, Ty.size]
      have fin : ∀ F'' : Fr, look F'' 2 = V.int (most : Int) → look F'' 8 = V.int ((min (1 + Ty.sizeL ((l.take q).map (Ty.sub m))) (most + 1) : Nat) : Int) → min (1 + Ty.sizeL ((l.take q).map (Ty.sub m))) (most + 1) = min ((Ty.app g l).sub m).size (most + 1) →
          W Tryd.prog 67 (RetA Tryd.prog [.tmp 6] fun v M' => v.un = V.int ((min ((Ty.app g l).sub m).size (most + 1) : Nat) : Int) ∧ ∃ L, M' = M ++ L) [.code (part [1,1,1,1] body28)] F'' M := by
        intro F'' g2 g8 e
        rw [e] at g8
        by_cases hz : ((Ty.app g l).sub m).size ≤ most
        · have e2 : min ((Ty.app g l).sub m).size (most + 1) = ((Ty.app g l).sub m).size := by omega
          rw [e2] at g8 ⊢
          have hz' : ¬ (most : Int) < ((((Ty.app g l).sub m).size : Nat) : Int) := by omega
          (repeat (first | refine W_seq ?_ | refine W_block ?_ | refine W_blk ?_ | refine W_skip ?_ | (refine W_region [] (by rfl) fun K hK => ?_; simp only [go_sem, Nat.reduceEqDiff, Nat.reduceLT, Nat.reduceAdd, Nat.reduceLeDiff, Nat.reduceMul, Nat.reduceSub, Int.reduceLE, Int.reduceLT, Int.reduceToNat, Int.reducePow, Int.reduceEq, g2, g8, hz']; refine WRun.done _ _ (hK _ _ ?_); clear hK)))
          refine W_cond_false (by simp only [go_sem, Nat.reduceEqDiff, Nat.reduceLT, Nat.reduceAdd, Nat.reduceLeDiff, Nat.reduceMul, Nat.reduceSub, Int.reduceLE, Int.reduceLT, Int.reduceToNat, Int.reducePow, Int.reduceEq, hz']) ?_
          (repeat (first | refine W_seq ?_ | refine W_block ?_ | refine W_blk ?_ | refine W_skip ?_ | (refine W_region [] (by rfl) fun K hK => ?_; simp only [go_sem, Nat.reduceEqDiff, Nat.reduceLT, Nat.reduceAdd, Nat.reduceLeDiff, Nat.reduceMul, Nat.reduceSub, Int.reduceLE, Int.reduceLT, Int.reduceToNat, Int.reducePow, Int.reduceEq, g8]; refine WRun.done _ _ (hK _ _ ?_); clear hK)))
          refine W_ret ?_
          simp only [go_sem, Nat.reduceEqDiff, Nat.reduceLT, Nat.reduceAdd, Nat.reduceLeDiff, Nat.reduceMul, Nat.reduceSub, Int.reduceLE, Int.reduceLT, Int.reduceToNat, Int.reducePow, Int.reduceEq]
          exact ⟨[], by simp⟩
        · have e2 : min ((Ty.app g l).sub m).size (most + 1) = most + 1 := by omega
          rw [e2] at g8 ⊢
          have hz' : (most : Int) < ((most + 1 : Nat) : Int) := by omega
          (repeat (first | refine W_seq ?_ | refine W_block ?_ | refine W_blk ?_ | refine W_skip ?_ | (refine W_region [] (by rfl) fun K hK => ?_; simp only [go_sem, Nat.reduceEqDiff, Nat.reduceLT, Nat.reduceAdd, Nat.reduceLeDiff, Nat.reduceMul, Nat.reduceSub, Int.reduceLE, Int.reduceLT, Int.reduceToNat, Int.reducePow, Int.reduceEq, g2, g8, hz']; refine WRun.done _ _ (hK _ _ ?_); clear hK)))
          refine W_cond_true (by simp only [go_sem, Nat.reduceEqDiff, Nat.reduceLT, Nat.reduceAdd, Nat.reduceLeDiff, Nat.reduceMul, Nat.reduceSub, Int.reduceLE, Int.reduceLT, Int.reduceToNat, Int.reducePow, Int.reduceEq, hz']) ?_
          (repeat (first | refine W_seq ?_ | refine W_block ?_ | refine W_blk ?_ | refine W_skip ?_ | (refine W_region [] (by rfl) fun K hK => ?_; simp only [go_sem, Nat.reduceEqDiff, Nat.reduceLT, Nat.reduceAdd, Nat.reduceLeDiff, Nat.reduceMul, Nat.reduceSub, Int.reduceLE, Int.reduceLT, Int.reduceToNat, Int.reducePow, Int.reduceEq, g2, hwm]; refine WRun.done _ _ (hK _ _ ?_); clear hK)))
          refine W_ret ?_
          simp only [go_sem, Nat.reduceEqDiff, Nat.reduceLT, Nat.reduceAdd, Nat.reduceLeDiff, Nat.reduceMul, Nat.reduceSub, Int.reduceLE, Int.reduceLT, Int.reduceToNat, Int.reducePow, Int.reduceEq]
          exact ⟨[], by simp⟩
      by_cases hlt : q < l.length
      · have hlt' : (q : Int) < (l.length : Int) := by omega
        have hw : IntKind.i64.wrap ((q : Int) + 1) = ((q + 1 : Nat) : Int) := by rw [wrapI _ (by omega) (by omega)]; omega
        obtain ⟨x, hxl⟩ : ∃ x, l[q]? = some x := ⟨l[q], by simp [hlt]⟩
        have hxm : x ∈ l := List.mem_of_getElem? hxl
        have hat := encL_at hxl
        have hstep : Ty.sizeL ((l.take (q + 1)).map (Ty.sub m)) = Ty.sizeL ((l.take q).map (Ty.sub m)) + (x.sub m).size := by rw [List.take_add_one, hxl, Option.toList_some, List.map_append, List.map_cons, List.map_nil, sizeL_snoc]
        generalize hS0 : Ty.sizeL ((l.take q).map (Ty.sub m)) = S0 at *
        by_cases hn : 1 + S0 ≤ most
        · have e2 : min (1 + S0) (most + 1) = 1 + S0 := by omega
          rw [e2] at f8
          have hn' : ((1 + S0 : Nat) : Int) ≤ (most : Int) := by omega
          have hsb : IntKind.i64.wrap ((most : Int) - ((1 + S0 : Nat) : Int)) = ((most - (1 + S0) : Nat) : Int) := by rw [wrapI _ (by omega) (by omega)]; omega
          (repeat (first | refine W_seq ?_ | refine W_block ?_ | refine W_blk ?_ | refine W_skip ?_ | (refine W_region [] (by rfl) fun K hK => ?_; simp only [go_sem, Nat.reduceEqDiff, Nat.reduceLT, Nat.reduceAdd, Nat.reduceLeDiff, Nat.reduceMul, Nat.reduceSub, Int.reduceLE, Int.reduceLT, Int.reduceToNat, Int.reducePow, Int.reduceEq, f2, f4, f8, f9, hlt', hn']; refine WRun.done _ _ (hK _ _ ?_); clear hK)))
          refine W_cond_true (by simp only [go_sem, Nat.reduceEqDiff, Nat.reduceLT, Nat.reduceAdd, Nat.reduceLeDiff, Nat.reduceMul, Nat.reduceSub, Int.reduceLE, Int.reduceLT, Int.reduceToNat, Int.reducePow, Int.reduceEq, hn']) ?_
          (repeat (first | refine W_seq ?_ | refine W_block ?_ | refine W_blk ?_ | refine W_skip ?_))
          (refine W_region [] (by rfl) fun K hK => ?_; simp only [go_sem, Nat.reduceEqDiff, Nat.reduceLT, Nat.reduceAdd, Nat.reduceLeDiff, Nat.reduceMul, Nat.reduceSub, Int.reduceLE, Int.reduceLT, Int.reduceToNat, Int.reducePow, Int.reduceEq, f0, f2, f4, f8, f9, hat, hsb, Int.natCast_nonneg, Int.toNat_natCast])
          refine PCalls.use (rsize_ok pl m hR hl N x (by have := app_size (f := g) hxm; omega) (hA.2 x hxm) (most - (1 + S0)) (by omega)) (by simp only [go_sem, Nat.reduceEqDiff, Nat.reduceLT, Nat.reduceAdd, Nat.reduceLeDiff, Nat.reduceMul, Nat.reduceSub, Int.reduceLE, Int.reduceLT, Int.reduceToNat, Int.reducePow, Int.reduceEq, enc_eq]) ?_
          have hadd : IntKind.i64.wrap (((1 + S0 : Nat) : Int) + ((min (x.sub m).size (most - (1 + S0) + 1) : Nat) : Int)) = ((min (1 + Ty.sizeL ((l.take (q + 1)).map (Ty.sub m))) (most + 1) : Nat) : Int) := by
            rw [wrapI _ (by omega) (by omega), hstep]; omega
          simp only [go_sem, Nat.reduceEqDiff, Nat.reduceLT, Nat.reduceAdd, Nat.reduceLeDiff, Nat.reduceMul, Nat.reduceSub, Int.reduceLE, Int.reduceLT, Int.reduceToNat, Int.reducePow, Int.reduceEq, f8, hadd]
          (refine WRun.done _ _ (hK _ _ ?_); clear hK)
          (repeat (first | refine W_seq ?_ | refine W_block ?_ | refine W_blk ?_ | refine W_skip ?_ | (refine W_region [] (by rfl) fun K hK => ?_; simp only [go_sem, Nat.reduceEqDiff, Nat.reduceLT, Nat.reduceAdd, Nat.reduceLeDiff, Nat.reduceMul, Nat.reduceSub, Int.reduceLE, Int.reduceLT, Int.reduceToNat, Int.reducePow, Int.reduceEq, f9, hw]; refine WRun.done _ _ (hK _ _ ?_); clear hK)))
          refine W_stop ⟨q + 1, ⟨hlt, rfl, ?_, ?_, ?_, ?_, ?_⟩, by omega⟩
          · simp only [go_sem, Nat.reduceEqDiff, Nat.reduceLT, Nat.reduceAdd, Nat.reduceLeDiff, Nat.reduceMul, Nat.reduceSub, Int.reduceLE, Int.reduceLT, Int.reduceToNat, Int.reducePow, Int.reduceEq, f0]
          · simp only [go_sem, Nat.reduceEqDiff, Nat.reduceLT, Nat.reduceAdd, Nat.reduceLeDiff, Nat.reduceMul, Nat.reduceSub, Int.reduceLE, Int.reduceLT, Int.reduceToNat, Int.reducePow, Int.reduceEq, f2]
          · simp only [go_sem, Nat.reduceEqDiff, Nat.reduceLT, Nat.reduceAdd, Nat.reduceLeDiff, Nat.reduceMul, Nat.reduceSub, Int.reduceLE, Int.reduceLT, Int.reduceToNat, Int.reducePow, Int.reduceEq, f4]
          · simp only [go_sem, Nat.reduceEqDiff, Nat.reduceLT, Nat.reduceAdd, Nat.reduceLeDiff, Nat.reduceMul, Nat.reduceSub, Int.reduceLE, Int.reduceLT, Int.reduceToNat, Int.reducePow, Int.reduceEq]
          · simp only [go_sem, Nat.reduceEqDiff, Nat.reduceLT, Nat.reduceAdd, Nat.reduceLeDiff, Nat.reduceMul, Nat.reduceSub, Int.reduceLE, Int.reduceLT, Int.reduceToNat, Int.reducePow, Int.reduceEq]
        · have e2 : min (1 + S0) (most + 1) = most + 1 := by omega
          have f8' := f8
          rw [e2] at f8'
          have hn' : ¬ ((most + 1 : Nat) : Int) ≤ (most : Int) := by omega
          (repeat (first | refine W_seq ?_ | refine W_block ?_ | refine W_blk ?_ | refine W_skip ?_ | (refine W_region [] (by rfl) fun K hK => ?_; simp only [go_sem, Nat.reduceEqDiff, Nat.reduceLT, Nat.reduceAdd, Nat.reduceLeDiff, Nat.reduceMul, Nat.reduceSub, Int.reduceLE, Int.reduceLT, Int.reduceToNat, Int.reducePow, Int.reduceEq, f2, f4, f8', f9, hlt', hn']; refine WRun.done _ _ (hK _ _ ?_); clear hK)))
          refine W_cond_false (by simp only [go_sem, Nat.reduceEqDiff, Nat.reduceLT, Nat.reduceAdd, Nat.reduceLeDiff, Nat.reduceMul, Nat.reduceSub, Int.reduceLE, Int.reduceLT, Int.reduceToNat, Int.reducePow, Int.reduceEq, hn']) ?_
          refine W_exit (Qof_code (Qof_stop (Qof_blk_same ?_)))
          refine fin _ ?_ ?_ ?_
          · simp only [go_sem, Nat.reduceEqDiff, Nat.reduceLT, Nat.reduceAdd, Nat.reduceLeDiff, Nat.reduceMul, Nat.reduceSub, Int.reduceLE, Int.reduceLT, Int.reduceToNat, Int.reducePow, Int.reduceEq, f2]
          · simp only [go_sem, Nat.reduceEqDiff, Nat.reduceLT, Nat.reduceAdd, Nat.reduceLeDiff, Nat.reduceMul, Nat.reduceSub, Int.reduceLE, Int.reduceLT, Int.reduceToNat, Int.reducePow, Int.reduceEq, f8]
          · have hle : S0 ≤ Ty.sizeL (l.map (Ty.sub m)) := by
              have := sizeL_take (l.map (Ty.sub m)) q
              rw [← List.map_take, hS0] at this
              exact this
            omega
      · have hii : q = l.length := by omega
        subst hii
        (repeat (first | refine W_seq ?_ | refine W_block ?_ | refine W_blk ?_ | refine W_skip ?_ | (refine W_region [] (by rfl) fun K hK => ?_; simp only [go_sem, Nat.reduceEqDiff, Nat.reduceLT, Nat.reduceAdd, Nat.reduceLeDiff, Nat.reduceMul, Nat.reduceSub, Int.reduceLE, Int.reduceLT, Int.reduceToNat, Int.reducePow, Int.reduceEq, f4, f9, Int.lt_irrefl]; refine WRun.done _ _ (hK _ _ ?_); clear hK)))
        refine W_cond_false (by simp only [go_sem, Nat.reduceEqDiff, Nat.reduceLT, Nat.reduceAdd, Nat.reduceLeDiff, Nat.reduceMul, Nat.reduceSub, Int.reduceLE, Int.reduceLT, Int.reduceToNat, Int.reducePow, Int.reduceEq]) ?_
        refine W_exit (Qof_code (Qof_stop (Qof_blk_same ?_)))
        refine fin _ ?_ ?_ ?_
        · simp only [go_sem, Nat.reduceEqDiff, Nat.reduceLT, Nat.reduceAdd, Nat.reduceLeDiff, Nat.reduceMul, Nat.reduceSub, Int.reduceLE, Int.reduceLT, Int.reduceToNat, Int.reducePow, Int.reduceEq, f2]
        · simp only [go_sem, Nat.reduceEqDiff, Nat.reduceLT, Nat.reduceAdd, Nat.reduceLeDiff, Nat.reduceMul, Nat.reduceSub, Int.reduceLE, Int.reduceLT, Int.reduceToNat, Int.reducePow, Int.reduceEq, f8]
        · rw [List.take_length, hsz]
end Go.Ax

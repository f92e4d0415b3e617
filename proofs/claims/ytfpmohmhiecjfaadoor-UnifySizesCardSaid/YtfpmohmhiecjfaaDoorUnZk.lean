/- Making two types one within so many parts; the reference's sizes. Conditions: none. -/
import Derived.Test.YtfpmohmhiecjfaaDoorUnZj
set_option linter.unusedSimpArgs false
set_option linter.unusedVariables false
namespace Go.Ax
open Go.Proofs Go.Uni

noncomputable def body37 : Code := Tryd.f37.body.getD .skip
noncomputable def body28 : Code := Tryd.f28.body.getD .skip
def WOut (a : Ty) (res : Option (Nat → Ty)) (most : Nat) (es' : List (Value × V)) (v : V) : Prop :=
  (v = V.int 0 ∧ ∃ m' s' r', res = some m' ∧ (a.sub m').size ≤ most ∧ SMap es' s' ∧ Sbs s' m' r') ∨ (v = V.int 5 ∧ (res = none ∨ ∃ m', res = some m' ∧ most < (a.sub m').size) ∧ ∀ p ∈ es', p.2.closed = true)

theorem within_ok (i : Nat) {m : Nat → Ty} {a b : Ty} {res : Option (Nat → Ty)} {c : Nat} (hU : Un m a b res c) (hcz : ∀ m', res = some m' → c ≤ (a.sub m').size) {es : List (Value × V)} {s : Nat → Option Ty} {r : Nat → Nat} (hs : SMap es s) (hm : Sbs s m r) (ha : Ar a) (hb : Ar b) (most : Nat) (hmost : most ≤ 100000) (M : AMem) (hi : M[i]? = some (.map es)) :
    ACalls Tryd.prog 26 [.map i, enc a, enc b, V.int (most : Int)] M (fun v M' => ∃ es', M' = M.set i (.map es') ∧ WOut a res most es' v) := by
  refine ACalls.shrink (R := fun v M' => ∃ es', Ext (M.set i (.map es')) M' ∧ WOut a res most es' v) ?_ ?_
  · refine acalls_enter [.tmp 8] 25 Tryd.func26 rfl rfl rfl (by simp) ?_
    have hil := (List.getElem?_eq_some_iff.1 hi).1
    (repeat (first | refine W_seq ?_ | refine W_block ?_ | refine W_blk ?_ | refine W_skip ?_))
    (refine W_region [] (by rfl) fun K hK => ?_; simp only [go_sem, Nat.reduceEqDiff, Nat.reduceLT, Nat.reduceAdd, Nat.reduceLeDiff, Nat.reduceMul, Nat.reduceSub, Int.reduceLE, Int.reduceLT, Int.reduceToNat, Int.reducePow, Int.reduceEq])
    (refine WRun.done _ _ (hK _ _ ?_); clear hK)
    (repeat (first | refine W_seq ?_ | refine W_block ?_ | refine W_blk ?_ | refine W_skip ?_))
    (refine W_region [] (by rfl) fun K hK => ?_; simp only [go_sem, Nat.reduceEqDiff, Nat.reduceLT, Nat.reduceAdd, Nat.reduceLeDiff, Nat.reduceMul, Nat.reduceSub, Int.reduceLE, Int.reduceLT, Int.reduceToNat, Int.reducePow, Int.reduceEq])
    (refine WRun.done _ _ (hK _ _ ?_); clear hK)
    have hx : Ext M (M ++ [AObj.cells (tcells a)] ++ [AObj.cells (tcells b)] ++ [AObj.cells [V.int (most : Int)]]) := (((Ext.refl M).app _).app _).app _
    have hA : (M ++ [AObj.cells (tcells a)] ++ [AObj.cells (tcells b)] ++ [AObj.cells [V.int (most : Int)]])[M.length]? = some (.cells (tcells a)) := at_app (at_app (at_snoc rfl))
    have hB : (M ++ [AObj.cells (tcells a)] ++ [AObj.cells (tcells b)] ++ [AObj.cells [V.int (most : Int)]])[M.length + 1]? = some (.cells (tcells b)) := at_app (at_snoc (by simp))
    have hJ : (M ++ [AObj.cells (tcells a)] ++ [AObj.cells (tcells b)] ++ [AObj.cells [V.int (most : Int)]])[M.length + 1 + 1]? = some (.cells [V.int (most : Int)]) := at_snoc (by simp)
    generalize M ++ [AObj.cells (tcells a)] ++ [AObj.cells (tcells b)] ++ [AObj.cells [V.int (most : Int)]] = M1 at hx hA hB hJ ⊢
    have hi1 : M1[i]? = some (.map es) := by rw [hx.2 i hil]; exact hi
    (repeat (first | refine W_seq ?_ | refine W_block ?_ | refine W_blk ?_ | refine W_skip ?_))
    (refine W_region [] (by rfl) fun K hK => ?_; simp only [go_sem, Nat.reduceEqDiff, Nat.reduceLT, Nat.reduceAdd, Nat.reduceLeDiff, Nat.reduceMul, Nat.reduceSub, Int.reduceLE, Int.reduceLT, Int.reduceToNat, Int.reducePow, Int.reduceEq, hA, hB])
    refine ACalls.use (pair_ok i (M.length + 1 + 1) (by omega) c c (Nat.le_refl _) m a b res hU es s r hs hm ha hb M1 hi1 most (by omega) hJ) (by simp only [go_sem, Nat.reduceEqDiff, Nat.reduceLT, Nat.reduceAdd, Nat.reduceLeDiff, Nat.reduceMul, Nat.reduceSub, Int.reduceLE, Int.reduceLT, Int.reduceToNat, Int.reducePow, Int.reduceEq, enc_eq]) ?_
    rintro r' M3 ⟨es4, x4, rfl, ho⟩
    simp only [go_sem, Nat.reduceEqDiff, Nat.reduceLT, Nat.reduceAdd, Nat.reduceLeDiff, Nat.reduceMul, Nat.reduceSub, Int.reduceLE, Int.reduceLT, Int.reduceToNat, Int.reducePow, Int.reduceEq]
    (refine WRun.done _ _ (hK _ _ ?_); clear hK)
    have hx4 : Ext (M.set i (.map es4)) ((M1.set i (.map es4)).set (M.length + 1 + 1) (.cells [V.int x4])) := by
      have h2 : Ext (M.set i (.map es)) M1 := by rw [Ext.same hi]; exact hx
      exact (h2.upd (y := .map es4) hil).set (by simp; omega) _
    have hi4 : ((M1.set i (.map es4)).set (M.length + 1 + 1) (.cells [V.int x4]))[i]? = some (.map es4) := by
      rw [List.getElem?_set_ne (by omega)]; exact List.getElem?_set_self (List.getElem?_eq_some_iff.1 hi1).1
    have hA4 : ((M1.set i (.map es4)).set (M.length + 1 + 1) (.cells [V.int x4]))[M.length]? = some (.cells (tcells a)) := by
      rw [List.getElem?_set_ne (by omega), List.getElem?_set_ne (by omega)]; exact hA
    generalize (M1.set i (.map es4)).set (M.length + 1 + 1) (.cells [V.int x4]) = M4 at hx4 hi4 hA4 ⊢
    rcases ho with ⟨rfl, hle, rfl, m', s', r', rfl, k1, k2⟩ | ⟨rfl, hno, s', k1⟩
    · (repeat (first | refine W_seq ?_ | refine W_block ?_ | refine W_blk ?_ | refine W_skip ?_ | (refine W_region [] (by rfl) fun K hK => ?_; simp only [go_sem, Nat.reduceEqDiff, Nat.reduceLT, Nat.reduceAdd, Nat.reduceLeDiff, Nat.reduceMul, Nat.reduceSub, Int.reduceLE, Int.reduceLT, Int.reduceToNat, Int.reducePow, Int.reduceEq]; refine WRun.done _ _ (hK _ _ ?_); clear hK)))
      refine W_cond_false (by simp only [go_sem, Nat.reduceEqDiff, Nat.reduceLT, Nat.reduceAdd, Nat.reduceLeDiff, Nat.reduceMul, Nat.reduceSub, Int.reduceLE, Int.reduceLT, Int.reduceToNat, Int.reducePow, Int.reduceEq]) ?_
      (repeat (first | refine W_seq ?_ | refine W_block ?_ | refine W_blk ?_ | refine W_skip ?_))
      (refine W_region [] (by rfl) fun K hK => ?_; simp only [go_sem, Nat.reduceEqDiff, Nat.reduceLT, Nat.reduceAdd, Nat.reduceLeDiff, Nat.reduceMul, Nat.reduceSub, Int.reduceLE, Int.reduceLT, Int.reduceToNat, Int.reducePow, Int.reduceEq, hA4])
      refine ACalls.use (Size_ok k1 k2 most hmost i a ha M4 hi4) (by simp only [go_sem, Nat.reduceEqDiff, Nat.reduceLT, Nat.reduceAdd, Nat.reduceLeDiff, Nat.reduceMul, Nat.reduceSub, Int.reduceLE, Int.reduceLT, Int.reduceToNat, Int.reducePow, Int.reduceEq, enc_eq]) ?_
      rintro r5 M5 ⟨rfl, hM5⟩
      subst M5
      by_cases hz : (a.sub m').size ≤ most
      · have e : min (a.sub m').size (most + 1) = (a.sub m').size := by omega
        rw [e]
        have hz' : ¬ (most : Int) < ((a.sub m').size : Int) := by omega
        simp only [go_sem, Nat.reduceEqDiff, Nat.reduceLT, Nat.reduceAdd, Nat.reduceLeDiff, Nat.reduceMul, Nat.reduceSub, Int.reduceLE, Int.reduceLT, Int.reduceToNat, Int.reducePow, Int.reduceEq, hz']
        (refine WRun.done _ _ (hK _ _ ?_); clear hK)
        refine W_cond_false (by simp only [go_sem, Nat.reduceEqDiff, Nat.reduceLT, Nat.reduceAdd, Nat.reduceLeDiff, Nat.reduceMul, Nat.reduceSub, Int.reduceLE, Int.reduceLT, Int.reduceToNat, Int.reducePow, Int.reduceEq, hz']) ?_
        (repeat (first | refine W_seq ?_ | refine W_block ?_ | refine W_blk ?_ | refine W_skip ?_ | (refine W_region [] (by rfl) fun K hK => ?_; simp only [go_sem, Nat.reduceEqDiff, Nat.reduceLT, Nat.reduceAdd, Nat.reduceLeDiff, Nat.reduceMul, Nat.reduceSub, Int.reduceLE, Int.reduceLT, Int.reduceToNat, Int.reducePow, Int.reduceEq]; refine WRun.done _ _ (hK _ _ ?_); clear hK)))
        refine W_ret ?_
        simp only [go_sem, Nat.reduceEqDiff, Nat.reduceLT, Nat.reduceAdd, Nat.reduceLeDiff, Nat.reduceMul, Nat.reduceSub, Int.reduceLE, Int.reduceLT, Int.reduceToNat, Int.reducePow, Int.reduceEq]
        exact ⟨es4, hx4, .inl ⟨rfl, m', s', r', rfl, hz, k1, k2⟩⟩
      · have e : min (a.sub m').size (most + 1) = most + 1 := by omega
        rw [e]
        have hz' : (most : Int) < ((most + 1 : Nat) : Int) := by omega
        simp only [go_sem, Nat.reduceEqDiff, Nat.reduceLT, Nat.reduceAdd, Nat.reduceLeDiff, Nat.reduceMul, Nat.reduceSub, Int.reduceLE, Int.reduceLT, Int.reduceToNat, Int.reducePow, Int.reduceEq, hz']
        (refine WRun.done _ _ (hK _ _ ?_); clear hK)
        refine W_cond_true (by simp only [go_sem, Nat.reduceEqDiff, Nat.reduceLT, Nat.reduceAdd, Nat.reduceLeDiff, Nat.reduceMul, Nat.reduceSub, Int.reduceLE, Int.reduceLT, Int.reduceToNat, Int.reducePow, Int.reduceEq, hz']) ?_
        (repeat (first | refine W_seq ?_ | refine W_block ?_ | refine W_blk ?_ | refine W_skip ?_ | (refine W_region [] (by rfl) fun K hK => ?_; simp only [go_sem, Nat.reduceEqDiff, Nat.reduceLT, Nat.reduceAdd, Nat.reduceLeDiff, Nat.reduceMul, Nat.reduceSub, Int.reduceLE, Int.reduceLT, Int.reduceToNat, Int.reducePow, Int.reduceEq]; refine WRun.done _ _ (hK _ _ ?_); clear hK)))
        refine W_ret ?_
        simp only [go_sem, Nat.reduceEqDiff, Nat.reduceLT, Nat.reduceAdd, Nat.reduceLeDiff, Nat.reduceMul, Nat.reduceSub, Int.reduceLE, Int.reduceLT, Int.reduceToNat, Int.reducePow, Int.reduceEq]
        exact ⟨es4, hx4, .inr ⟨rfl, .inr ⟨m', rfl, by omega⟩, k1.closed⟩⟩
    · (repeat (first | refine W_seq ?_ | refine W_block ?_ | refine W_blk ?_ | refine W_skip ?_ | (refine W_region [] (by rfl) fun K hK => ?_; simp only [go_sem, Nat.reduceEqDiff, Nat.reduceLT, Nat.reduceAdd, Nat.reduceLeDiff, Nat.reduceMul, Nat.reduceSub, Int.reduceLE, Int.reduceLT, Int.reduceToNat, Int.reducePow, Int.reduceEq]; refine WRun.done _ _ (hK _ _ ?_); clear hK)))
      refine W_cond_true (by simp only [go_sem, Nat.reduceEqDiff, Nat.reduceLT, Nat.reduceAdd, Nat.reduceLeDiff, Nat.reduceMul, Nat.reduceSub, Int.reduceLE, Int.reduceLT, Int.reduceToNat, Int.reducePow, Int.reduceEq]) ?_
      (repeat (first | refine W_seq ?_ | refine W_block ?_ | refine W_blk ?_ | refine W_skip ?_ | (refine W_region [] (by rfl) fun K hK => ?_; simp only [go_sem, Nat.reduceEqDiff, Nat.reduceLT, Nat.reduceAdd, Nat.reduceLeDiff, Nat.reduceMul, Nat.reduceSub, Int.reduceLE, Int.reduceLT, Int.reduceToNat, Int.reducePow, Int.reduceEq]; refine WRun.done _ _ (hK _ _ ?_); clear hK)))
      refine W_ret ?_
      simp only [go_sem, Nat.reduceEqDiff, Nat.reduceLT, Nat.reduceAdd, Nat.reduceLeDiff, Nat.reduceMul, Nat.reduceSub, Int.reduceLE, Int.reduceLT, Int.reduceToNat, Int.reducePow, Int.reduceEq]
      refine ⟨es4, hx4, .inr ⟨rfl, ?_, k1.closed⟩⟩
      cases res with
      | none => exact .inl rfl
      | some m' =>
        rcases hno with h | h
        · cases h
        · have := hcz m' rfl
          exact .inr ⟨m', rfl, by omega⟩
  · rintro v M' ⟨es', hx, ho⟩
    obtain ⟨L, rfl⟩ := hx.out
    have hc : ∀ p ∈ es', p.2.closed = true := by
      rcases ho with ⟨_, m', s', r', _, _, h, _⟩ | ⟨_, _, h⟩
      · exact h.closed
      · exact h
    refine ⟨v, _, L, rfl, by simp, .inl rfl, ?_, fun o ho => ?_, es', rfl, ho⟩
    · rcases ho with ⟨h, _⟩ | ⟨h, _⟩ <;> rw [h] <;> rfl
    · rcases List.mem_or_eq_of_mem_set ho with h | h
      · exact .inl h
      · exact .inr (by rw [h]; exact map_ids hc _)

set_option maxHeartbeats 8000000 in
theorem parts_ok : ∀ (N : Nat) (t : Ty), t.size ≤ N → Ar t → ∀ most : Nat, most ≤ 100000 → PCalls Tryd.prog 37 [enc t, V.int (most : Int)] (V.int ((min t.size (most + 1) : Nat) : Int))
  | 0, t, h, _, _, _ => by cases t <;> simp [Ty.size] at h
  | N + 1, t, h, hA, most, hmost => by
    refine pcalls_of rfl fun M => ?_
    refine acalls_enter [.tmp 4] 41 Tryd.func37 rfl rfl rfl (by simp) ?_
    have hwm : IntKind.i64.wrap ((most : Int) + 1) = ((most + 1 : Nat) : Int) := by rw [wrapI _ (by omega) (by omega)]; omega
    cases t with
    | var v =>
      have h0 : ¬ (v : Int) < 0 := by omega
      (repeat (first | refine W_seq ?_ | refine W_block ?_ | refine W_blk ?_ | refine W_skip ?_ | (refine W_region [2] (by rfl) fun K hK => ?_; simp only [go_sem, Nat.reduceEqDiff, Nat.reduceLT, Nat.reduceAdd, Nat.reduceLeDiff, Nat.reduceMul, Nat.reduceSub, Int.reduceLE, Int.reduceLT, Int.reduceToNat, Int.reducePow, Int.reduceEq]; refine WRun.done _ _ (hK _ _ ?_); clear hK)))
      refine W_loop (α := Unit) (fun _ F' M' => M' = M ∧ look F' 1 = V.int (most : Int) ∧ look F' 2 = .pc [V.int (v : Int), V.str eStr, .list .dull []] ∧ look F' 5 = V.int 1 ∧ look F' 6 = V.int 0) (fun _ => 0) () ⟨rfl, ?_, ?_, ?_, ?_⟩ ?_
      · simp only [go_sem, Nat.reduceEqDiff, Nat.reduceLT, Nat.reduceAdd, Nat.reduceLeDiff, Nat.reduceMul, Nat.reduceSub, Int.reduceLE, Int.reduceLT, Int.reduceToNat, Int.reducePow, Int.reduceEq]
      · simp only [go_sem, Nat.reduceEqDiff, Nat.reduceLT, Nat.reduceAdd, Nat.reduceLeDiff, Nat.reduceMul, Nat.reduceSub, Int.reduceLE, Int.reduceLT, Int.reduceToNat, Int.reducePow, Int.reduceEq]
      · simp only [go_sem, Nat.reduceEqDiff, Nat.reduceLT, Nat.reduceAdd, Nat.reduceLeDiff, Nat.reduceMul, Nat.reduceSub, Int.reduceLE, Int.reduceLT, Int.reduceToNat, Int.reducePow, Int.reduceEq]
      · simp only [go_sem, Nat.reduceEqDiff, Nat.reduceLT, Nat.reduceAdd, Nat.reduceLeDiff, Nat.reduceMul, Nat.reduceSub, Int.reduceLE, Int.reduceLT, Int.reduceToNat, Int.reducePow, Int.reduceEq]
      rintro _ F' M' ⟨hMM, f1, f2, f5, f6⟩
      subst M'
      (repeat (first | refine W_seq ?_ | refine W_block ?_ | refine W_blk ?_ | refine W_skip ?_ | (refine W_region [] (by rfl) fun K hK => ?_; simp only [go_sem, Nat.reduceEqDiff, Nat.reduceLT, Nat.reduceAdd, Nat.reduceLeDiff, Nat.reduceMul, Nat.reduceSub, Int.reduceLE, Int.reduceLT, Int.reduceToNat, Int.reducePow, Int.reduceEq, f2, h0]; refine WRun.done _ _ (hK _ _ ?_); clear hK)))
      refine W_cond_false (by simp only [go_sem, Nat.reduceEqDiff, Nat.reduceLT, Nat.reduceAdd, Nat.reduceLeDiff, Nat.reduceMul, Nat.reduceSub, Int.reduceLE, Int.reduceLT, Int.reduceToNat, Int.reducePow, Int.reduceEq]) ?_
      refine W_exit (Qof_code (Qof_stop (Qof_blk_same ?_)))
      have e : min (Ty.var v).size (most + 1) = 1 := by rw [Ty.size]; omega
      rw [e]
      by_cases hz : most = 0
      · subst hz
        have w1 : IntKind.i64.wrap (((0 : Nat) : Int) + 1) = 1 := wrapI _ (by omega) (by omega)
        (repeat (first | refine W_seq ?_ | refine W_block ?_ | refine W_blk ?_ | refine W_skip ?_ | (refine W_region [] (by rfl) fun K hK => ?_; simp only [go_sem, Nat.reduceEqDiff, Nat.reduceLT, Nat.reduceAdd, Nat.reduceLeDiff, Nat.reduceMul, Nat.reduceSub, Int.reduceLE, Int.reduceLT, Int.reduceToNat, Int.reducePow, Int.reduceEq, f1, f5]; refine WRun.done _ _ (hK _ _ ?_); clear hK)))
        refine W_cond_true (by simp only [go_sem, Nat.reduceEqDiff, Nat.reduceLT, Nat.reduceAdd, Nat.reduceLeDiff, Nat.reduceMul, Nat.reduceSub, Int.reduceLE, Int.reduceLT, Int.reduceToNat, Int.reducePow, Int.reduceEq]) ?_
        (repeat (first | refine W_seq ?_ | refine W_block ?_ | refine W_blk ?_ | refine W_skip ?_ | (refine W_region [] (by rfl) fun K hK => ?_; simp only [go_sem, Nat.reduceEqDiff, Nat.reduceLT, Nat.reduceAdd, Nat.reduceLeDiff, Nat.reduceMul, Nat.reduceSub, Int.reduceLE, Int.reduceLT, Int.reduceToNat, Int.reducePow, Int.reduceEq, f1, w1]; refine WRun.done _ _ (hK _ _ ?_); clear hK)))
        refine W_ret ?_
        simp only [go_sem, Nat.reduceEqDiff, Nat.reduceLT, Nat.reduceAdd, Nat.reduceLeDiff, Nat.reduceMul, Nat.reduceSub, Int.reduceLE, Int.reduceLT, Int.reduceToNat, Int.reducePow, Int.reduceEq]
        exact ⟨rfl, [], by simp⟩
      · have hz' : ¬ (most : Int) < 1 := by omega
        (repeat (first | refine W_seq ?_ | refine W_block ?_ | refine W_blk ?_ | refine W_skip ?_ | (refine W_region [] (by rfl) fun K hK => ?_; simp only [go_sem, Nat.reduceEqDiff, Nat.reduceLT, Nat.reduceAdd, Nat.reduceLeDiff, Nat.reduceMul, Nat.reduceSub, Int.reduceLE, Int.reduceLT, Int.reduceToNat, Int.reducePow, Int.reduceEq, f1, f5, hz']; refine WRun.done _ _ (hK _ _ ?_); clear hK)))
        refine W_cond_false (by simp only [go_sem, Nat.reduceEqDiff, Nat.reduceLT, Nat.reduceAdd, Nat.reduceLeDiff, Nat.reduceMul, Nat.reduceSub, Int.reduceLE, Int.reduceLT, Int.reduceToNat, Int.reducePow, Int.reduceEq, hz']) ?_
        (repeat (first | refine W_seq ?_ | refine W_block ?_ | refine W_blk ?_ | refine W_skip ?_ | (refine W_region [] (by rfl) fun K hK => ?_; simp only [go_sem, Nat.reduceEqDiff, Nat.reduceLT, Nat.reduceAdd, Nat.reduceLeDiff, Nat.reduceMul, Nat.reduceSub, Int.reduceLE, Int.reduceLT, Int.reduceToNat, Int.reducePow, Int.reduceEq, f5]; refine WRun.done _ _ (hK _ _ ?_); clear hK)))
        refine W_ret ?_
        simp only [go_sem, Nat.reduceEqDiff, Nat.reduceLT, Nat.reduceAdd, Nat.reduceLeDiff, Nat.reduceMul, Nat.reduceSub, Int.reduceLE, Int.reduceLT, Int.reduceToNat, Int.reducePow, Int.reduceEq]
        exact ⟨rfl, [], by simp⟩
    | app g l =>
      rw [Ar_app] at hA
      have h0 : ¬ ((-1 : Int) ≥ 0) := by omega
      (repeat (first | refine W_seq ?_ | refine W_block ?_ | refine W_blk ?_ | refine W_skip ?_ | (refine W_region [2] (by rfl) fun K hK => ?_; simp only [go_sem, Nat.reduceEqDiff, Nat.reduceLT, Nat.reduceAdd, Nat.reduceLeDiff, Nat.reduceMul, Nat.reduceSub, Int.reduceLE, Int.reduceLT, Int.reduceToNat, Int.reducePow, Int.reduceEq]; refine WRun.done _ _ (hK _ _ ?_); clear hK)))
      refine W_loop (α := Nat) (fun q F' M' => q ≤ l.length ∧ M' = M ∧ look F' 1 = V.int (most : Int) ∧ look F' 2 = .pc [V.int (-1), V.str g, .list .dull (encL l)] ∧ look F' 5 = V.int ((min (1 + Ty.sizeL (l.take q)) (most + 1) : Nat) : Int) ∧ look F' 6 = V.int q)
        (fun q => l.length - q) 0 ⟨Nat.zero_le _, rfl, ?_, ?_, ?_, ?_⟩ ?_
      · simp only [go_sem, Nat.reduceEqDiff, Nat.reduceLT, Nat.reduceAdd, Nat.reduceLeDiff, Nat.reduceMul, Nat.reduceSub, Int.reduceLE, Int.reduceLT, Int.reduceToNat, Int.reducePow, Int.reduceEq]
      · simp only [go_sem, Nat.reduceEqDiff, Nat.reduceLT, Nat.reduceAdd, Nat.reduceLeDiff, Nat.reduceMul, Nat.reduceSub, Int.reduceLE, Int.reduceLT, Int.reduceToNat, Int.reducePow, Int.reduceEq]
      · simp only [go_sem, Nat.reduceEqDiff, Nat.reduceLT, Nat.reduceAdd, Nat.reduceLeDiff, Nat.reduceMul, Nat.reduceSub, Int.reduceLE, Int.reduceLT, Int.reduceToNat, Int.reducePow, Int.reduceEq]
        have : min (1 + Ty.sizeL []) (most + 1) = 1 := by simp [Ty.sizeL]
        rw [this]; rfl
      · simp only [go_sem, Nat.reduceEqDiff, Nat.reduceLT, Nat.reduceAdd, Nat.reduceLeDiff, Nat.reduceMul, Nat.reduceSub, Int.reduceLE, Int.reduceLT, Int.reduceToNat, Int.reducePow, Int.reduceEq]
      rintro q F' M' ⟨hq, hMM, f1, f2, f5, f6⟩
      subst M'
      have fin : ∀ F'' : Fr, look F'' 1 = V.int (most : Int) → look F'' 5 = V.int ((min (1 + Ty.sizeL (l.take q)) (most + 1) : Nat) : Int) → min (1 + Ty.sizeL (l.take q)) (most + 1) = min (Ty.app g l).size (most + 1) →
          W Tryd.prog 41 (RetA Tryd.prog [.tmp 4] fun v M' => v.un = V.int ((min (Ty.app g l).size (most + 1) : Nat) : Int) ∧ ∃ L, M' = M ++ L) [.code (part [1,1,1] body37)] F'' M := by
        intro F'' g1 g5 e
        rw [e] at g5
        by_cases hz : (Ty.app g l).size ≤ most
        · have e2 : min (Ty.app g l).size (most + 1) = (Ty.app g l).size := by omega
          rw [e2] at g5 ⊢
          have hz' : ¬ (most : Int) < (((Ty.app g l).size : Nat) : Int) := by omega
          (repeat (first | refine W_seq ?_ | refine W_block ?_ | refine W_blk ?_ | refine W_skip ?_ | (refine W_region [] (by rfl) fun K hK => ?_; simp only [go_sem, Nat.reduceEqDiff, Nat.reduceLT, Nat.reduceAdd, Nat.reduceLeDiff, Nat.reduceMul, Nat.reduceSub, Int.reduceLE, Int.reduceLT, Int.reduceToNat, Int.reducePow, Int.reduceEq, g1, g5, hz']; refine WRun.done _ _ (hK _ _ ?_); clear hK)))
          refine W_cond_false (by simp only [go_sem, Nat.reduceEqDiff, Nat.reduceLT, Nat.reduceAdd, Nat.reduceLeDiff, Nat.reduceMul, Nat.reduceSub, Int.reduceLE, Int.reduceLT, Int.reduceToNat, Int.reducePow, Int.reduceEq, hz']) ?_
          (repeat (first | refine W_seq ?_ | refine W_block ?_ | refine W_blk ?_ | refine W_skip ?_ | (refine W_region [] (by rfl) fun K hK => ?_; simp only [go_sem, Nat.reduceEqDiff, Nat.reduceLT, Nat.reduceAdd, Nat.reduceLeDiff, Nat.reduceMul, Nat.reduceSub, Int.reduceLE, Int.reduceLT, Int.reduceToNat, Int.reducePow, Int.reduceEq, g5]; refine WRun.done _ _ (hK _ _ ?_); clear hK)))
          refine W_ret ?_
          simp only [go_sem, Nat.reduceEqDiff, Nat.reduceLT, Nat.reduceAdd, Nat.reduceLeDiff, Nat.reduceMul, Nat.reduceSub, Int.reduceLE, Int.reduceLT, Int.reduceToNat, Int.reducePow, Int.reduceEq]
          exact ⟨[], by simp⟩
        · have e2 : min (Ty.app g l).size (most + 1) = most + 1 := by omega
          rw [e2] at g5 ⊢
          have hz' : (most : Int) < ((most + 1 : Nat) : Int) := by omega
          (repeat (first | refine W_seq ?_ | refine W_block ?_ | refine W_blk ?_ | refine W_skip ?_ | (refine W_region [] (by rfl) fun K hK => ?_; simp only [go_sem, Nat.reduceEqDiff, Nat.reduceLT, Nat.reduceAdd, Nat.reduceLeDiff, Nat.reduceMul, Nat.reduceSub, Int.reduceLE, Int.reduceLT, Int.reduceToNat, Int.reducePow, Int.reduceEq, g1, g5, hz']; refine WRun.done _ _ (hK _ _ ?_); clear hK)))
          refine W_cond_true (by simp only [go_sem, Nat.reduceEqDiff, Nat.reduceLT, Nat.reduceAdd, Nat.reduceLeDiff, Nat.reduceMul, Nat.reduceSub, Int.reduceLE, Int.reduceLT, Int.reduceToNat, Int.reducePow, Int.reduceEq, hz']) ?_
          (repeat (first | refine W_seq ?_ | refine W_block ?_ | refine W_blk ?_ | refine W_skip ?_ | (refine W_region [] (by rfl) fun K hK => ?_; simp only [go_sem, Nat.reduceEqDiff, Nat.reduceLT, Nat.reduceAdd, Nat.reduceLeDiff, Nat.reduceMul, Nat.reduceSub, Int.reduceLE, Int.reduceLT, Int.reduceToNat, Int.reducePow, Int.reduceEq, g1, hwm]; refine WRun.done _ _ (hK _ _ ?_); clear hK)))
          refine W_ret ?_
          simp only [go_sem, Nat.reduceEqDiff, Nat.reduceLT, Nat.reduceAdd, Nat.reduceLeDiff, Nat.reduceMul, Nat.reduceSub, Int.reduceLE, Int.reduceLT, Int.reduceToNat, Int.reducePow, Int.reduceEq]
          exact ⟨[], by simp⟩
      by_cases hlt : q < l.length
      · have hlt' : (q : Int) < (l.length : Int) := by omega
        have hw : IntKind.i64.wrap ((q : Int) + 1) = ((q + 1 : Nat) : Int) := by rw [wrapI _ (by omega) (by omega)]; omega
        obtain ⟨x, hxl⟩ : ∃ x, l[q]? = some x := ⟨l[q], by simp [hlt]⟩
        have hxm : x ∈ l := List.mem_of_getElem? hxl
        have hat := encL_at hxl
        have hstep : Ty.sizeL (l.take (q + 1)) = Ty.sizeL (l.take q) + x.size := by rw [List.take_add_one, hxl, Option.toList_some, sizeL_snoc]
        by_cases hn : 1 + Ty.sizeL (l.take q) ≤ most
        · have e2 : min (1 + Ty.sizeL (l.take q)) (most + 1) = 1 + Ty.sizeL (l.take q) := by omega
          rw [e2] at f5
          have hn' : ((1 + Ty.sizeL (l.take q) : Nat) : Int) ≤ (most : Int) := by omega
          have hsb : IntKind.i64.wrap ((most : Int) - ((1 + Ty.sizeL (l.take q) : Nat) : Int)) = ((most - (1 + Ty.sizeL (l.take q)) : Nat) : Int) := by rw [wrapI _ (by omega) (by omega)]; omega
          (repeat (first | refine W_seq ?_ | refine W_block ?_ | refine W_blk ?_ | refine W_skip ?_ | (refine W_region [] (by rfl) fun K hK => ?_; simp only [go_sem, Nat.reduceEqDiff, Nat.reduceLT, Nat.reduceAdd, Nat.reduceLeDiff, Nat.reduceMul, Nat.reduceSub, Int.reduceLE, Int.reduceLT, Int.reduceToNat, Int.reducePow, Int.reduceEq, f1, f2, f5, f6, hlt', hn']; refine WRun.done _ _ (hK _ _ ?_); clear hK)))
          refine W_cond_true (by simp only [go_sem, Nat.reduceEqDiff, Nat.reduceLT, Nat.reduceAdd, Nat.reduceLeDiff, Nat.reduceMul, Nat.reduceSub, Int.reduceLE, Int.reduceLT, Int.reduceToNat, Int.reducePow, Int.reduceEq, hn']) ?_
          (repeat (first | refine W_seq ?_ | refine W_block ?_ | refine W_blk ?_ | refine W_skip ?_))
          (refine W_region [] (by rfl) fun K hK => ?_; simp only [go_sem, Nat.reduceEqDiff, Nat.reduceLT, Nat.reduceAdd, Nat.reduceLeDiff, Nat.reduceMul, Nat.reduceSub, Int.reduceLE, Int.reduceLT, Int.reduceToNat, Int.reducePow, Int.reduceEq, f1, f2, f5, f6, hat, hsb, Int.natCast_nonneg, Int.toNat_natCast])
          refine PCalls.use (parts_ok N x (by have := app_size (f := g) hxm; omega) (hA.2 x hxm) (most - (1 + Ty.sizeL (l.take q))) (by omega)) (by simp only [go_sem, Nat.reduceEqDiff, Nat.reduceLT, Nat.reduceAdd, Nat.reduceLeDiff, Nat.reduceMul, Nat.reduceSub, Int.reduceLE, Int.reduceLT, Int.reduceToNat, Int.reducePow, Int.reduceEq, enc_eq]) ?_
          have hadd : IntKind.i64.wrap (((1 + Ty.sizeL (l.take q) : Nat) : Int) + ((min x.size (most - (1 + Ty.sizeL (l.take q)) + 1) : Nat) : Int)) = ((min (1 + Ty.sizeL (l.take (q + 1))) (most + 1) : Nat) : Int) := by
            rw [wrapI _ (by omega) (by omega), hstep]; omega
          simp only [go_sem, Nat.reduceEqDiff, Nat.reduceLT, Nat.reduceAdd, Nat.reduceLeDiff, Nat.reduceMul, Nat.reduceSub, Int.reduceLE, Int.reduceLT, Int.reduceToNat, Int.reducePow, Int.reduceEq, f5, hadd]
          (refine WRun.done _ _ (hK _ _ ?_); clear hK)
          (repeat (first | refine W_seq ?_ | refine W_block ?_ | refine W_blk ?_ | refine W_skip ?_ | (refine W_region [] (by rfl) fun K hK => ?_; simp only [go_sem, Nat.reduceEqDiff, Nat.reduceLT, Nat.reduceAdd, Nat.reduceLeDiff, Nat.reduceMul, Nat.reduceSub, Int.reduceLE, Int.reduceLT, Int.reduceToNat, Int.reducePow, Int.reduceEq, f6, hw]; refine WRun.done _ _ (hK _ _ ?_); clear hK)))
          refine W_stop ⟨q + 1, ⟨hlt, rfl, ?_, ?_, ?_, ?_⟩, by omega⟩
          · simp only [go_sem, Nat.reduceEqDiff, Nat.reduceLT, Nat.reduceAdd, Nat.reduceLeDiff, Nat.reduceMul, Nat.reduceSub, Int.reduceLE, Int.reduceLT, Int.reduceToNat, Int.reducePow, Int.reduceEq, f1]
          · simp only [go_sem, Nat.reduceEqDiff, Nat.reduceLT, Nat.reduceAdd, Nat.reduceLeDiff, Nat.reduceMul, Nat.reduceSub, Int.reduceLE, Int.reduceLT, Int.reduceToNat, Int.reducePow, Int.reduceEq, f2]
          · simp only [go_sem, Nat.reduceEqDiff, Nat.reduceLT, Nat.reduceAdd, Nat.reduceLeDiff, Nat.reduceMul, Nat.reduceSub, Int.reduceLE, Int.reduceLT, Int.reduceToNat, Int.reducePow, Int.reduceEq]
          · simp only [go_sem, Nat.reduceEqDiff, Nat.reduceLT, Nat.reduceAdd, Nat.reduceLeDiff, Nat.reduceMul, Nat.reduceSub, Int.reduceLE, Int.reduceLT, Int.reduceToNat, Int.reducePow, Int.reduceEq]
        · have e2 : min (1 + Ty.sizeL (l.take q)) (most + 1) = most + 1 := by omega
          have f5' := f5
          rw [e2] at f5'
          have hn' : ¬ ((most + 1 : Nat) : Int) ≤ (most : Int) := by omega
          (repeat (first | refine W_seq ?_ | refine W_block ?_ | refine W_blk ?_ | refine W_skip ?_ | (refine W_region [] (by rfl) fun K hK => ?_; simp only [go_sem, Nat.reduceEqDiff, Nat.reduceLT, Nat.reduceAdd, Nat.reduceLeDiff, Nat.reduceMul, Nat.reduceSub, Int.reduceLE, Int.reduceLT, Int.reduceToNat, Int.reducePow, Int.reduceEq, f1, f2, f5', f6, hlt', hn']; refine WRun.done _ _ (hK _ _ ?_); clear hK)))
          refine W_cond_false (by simp only [go_sem, Nat.reduceEqDiff, Nat.reduceLT, Nat.reduceAdd, Nat.reduceLeDiff, Nat.reduceMul, Nat.reduceSub, Int.reduceLE, Int.reduceLT, Int.reduceToNat, Int.reducePow, Int.reduceEq, hn']) ?_
          refine W_exit (Qof_code (Qof_stop (Qof_blk_same ?_)))
          refine fin _ ?_ ?_ ?_
          · simp only [go_sem, Nat.reduceEqDiff, Nat.reduceLT, Nat.reduceAdd, Nat.reduceLeDiff, Nat.reduceMul, Nat.reduceSub, Int.reduceLE, Int.reduceLT, Int.reduceToNat, Int.reducePow, Int.reduceEq, f1]
          · simp only [go_sem, Nat.reduceEqDiff, Nat.reduceLT, Nat.reduceAdd, Nat.reduceLeDiff, Nat.reduceMul, Nat.reduceSub, Int.reduceLE, Int.reduceLT, Int.reduceToNat, Int.reducePow, Int.reduceEq, f5]
          · have := sizeL_take l q
            rw [Ty.size]; omega
      · have hii : q = l.length := by omega
        subst hii
        (repeat (first | refine W_seq ?_ | refine W_block ?_ | refine W_blk ?_ | refine W_skip ?_ | (refine W_region [] (by rfl) fun K hK => ?_; simp only [go_sem, Nat.reduceEqDiff, Nat.reduceLT, Nat.reduceAdd, Nat.reduceLeDiff, Nat.reduceMul, Nat.reduceSub, Int.reduceLE, Int.reduceLT, Int.reduceToNat, Int.reducePow, Int.reduceEq, f2, f6, Int.lt_irrefl]; refine WRun.done _ _ (hK _ _ ?_); clear hK)))
        refine W_cond_false (by simp only [go_sem, Nat.reduceEqDiff, Nat.reduceLT, Nat.reduceAdd, Nat.reduceLeDiff, Nat.reduceMul, Nat.reduceSub, Int.reduceLE, Int.reduceLT, Int.reduceToNat, Int.reducePow, Int.reduceEq]) ?_
        refine W_exit (Qof_code (Qof_stop (Qof_blk_same ?_)))
        refine fin _ ?_ ?_ ?_
        · simp only [go_sem, Nat.reduceEqDiff, Nat.reduceLT, Nat.reduceAdd, Nat.reduceLeDiff, Nat.reduceMul, Nat.reduceSub, Int.reduceLE, Int.reduceLT, Int.reduceToNat, Int.reducePow, Int.reduceEq, f1]
        · simp only [go_sem, Nat.reduceEqDiff, Nat.reduceLT, Nat.reduceAdd, Nat.reduceLeDiff, Nat.reduceMul, Nat.reduceSub, Int.reduceLE, Int.reduceLT, Int.reduceToNat, Int.reducePow, Int.reduceEq, f5]
        · rw [List.take_length, Ty.size]
end Go.Ax

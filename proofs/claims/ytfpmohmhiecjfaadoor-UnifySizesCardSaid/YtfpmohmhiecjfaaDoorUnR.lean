/- The reference's making two types one: where one is a variable. Conditions: none. -/
import Derived.Test.YtfpmohmhiecjfaaDoorUnQ
import Derived.Test.YtfpmohmhiecjfaaDoorUnJ
set_option linter.unusedSimpArgs false
set_option linter.unusedVariables false
namespace Go.Ax
open Go.Proofs Go.Uni
noncomputable def body14 : Code := Tryd.f14.body.getD .skip

def RU (res : Option (Nat → Ty)) (v : V) : Prop :=
  (res = none ∧ v = .tup [.list .dull [], V.bool false]) ∨ ∃ m' l', res = some m' ∧ v = .tup [.list .dull (l'.map encP), V.bool true] ∧ Rep l' m' ∧ ArP l'
def RUX (M : AMem) (res : Option (Nat → Ty)) (v : V) (M' : AMem) : Prop := Ext M M' ∧ RU res v.un
theorem ru_shrink {M : AMem} {res : Option (Nat → Ty)} {args : List V} (h : ACalls Tryd.prog 14 args M (RUX M res)) : ACalls Tryd.prog 14 args M (fun v M' => M' = M ∧ RU res v) := by
  refine ACalls.shrink h ?_
  rintro v M' ⟨hx, ho⟩
  obtain ⟨L, rfl⟩ := hx.out
  refine ⟨v.un, M, L, rfl, Nat.le_refl _, .inr rfl, ?_, fun o ho => .inl ho, rfl, ho⟩
  rcases ho with ⟨_, h⟩ | ⟨m', l', _, h, _, _⟩
  · rw [h]; rfl
  · rw [h]
    refine V.ids_of_closed ?_
    simp only [V.closed, V.closedL, encP_closed]; rfl
theorem ArP_putAll {l : PL} {n : Nat} {u : Ty} (h : ArP l) (hu : Ar u) : ArP (putAll l n u ++ [(n, u)]) := by
  intro p hp
  rcases List.mem_append.1 hp with hp | hp
  · obtain ⟨q, hq, rfl⟩ := List.mem_map.1 hp
    exact Ar_put (h q hq) hu
  · simp at hp; subst hp; exact hu

set_option maxHeartbeats 8000000 in
theorem rvar_tail {l : PL} {m : Nat → Ty} (hR : Rep l m) (hl : ArP l) (n : Nat) (hn : m n = .var n) (hlt : n < 1000) (U : Ty) (hU : U.sub m = U) (hA : Ar U) (hV : VB U) (M M1 : AMem) (hx : Ext M M1) (F' : Fr) (f0 : look F' 0 = .list .dull (l.map encP)) (f4 : look F' 4 = .ptr M.length 0) (f5 : look F' 5 = .ptr (M.length + 1) 0)
    (h4 : M1[M.length]? = some (.cells (tcells (.var n)))) (h5 : M1[M.length + 1]? = some (.cells (tcells U))) (res : Option (Nat → Ty)) (r1 : U = .var n → res = some m) (r2 : U ≠ .var n → n ∈ U.vars → res = none) (r3 : n ∉ U.vars → res = some (bind m n U)) :
    W Tryd.prog 113 (RetA Tryd.prog [.tmp 6, .tmp 7] (RUX M res)) [.code (part [1,1,1] body14)] F' M1 := by
  have h0 : (0 : Int) ≤ (n : Int) := Int.natCast_nonneg n
  have hlen := hR.len
  (repeat (first | refine W_seq ?_ | refine W_block ?_ | refine W_blk ?_ | refine W_skip ?_ | (refine W_region [] (by rfl) fun K hK => ?_; simp only [go_sem, Nat.reduceEqDiff, Nat.reduceLT, Nat.reduceAdd, Nat.reduceLeDiff, Nat.reduceMul, Nat.reduceSub, Int.reduceLE, Int.reduceLT, Int.reduceToNat, Int.reducePow, Int.reduceEq, f4, h4, h0]; refine WRun.done _ _ (hK _ _ ?_); clear hK)))
  refine W_cond_true (by simp only [go_sem, Nat.reduceEqDiff, Nat.reduceLT, Nat.reduceAdd, Nat.reduceLeDiff, Nat.reduceMul, Nat.reduceSub, Int.reduceLE, Int.reduceLT, Int.reduceToNat, Int.reducePow, Int.reduceEq, h0]) ?_
  by_cases e : U = .var n
  · have e2 : hd U = (n : Int) := by rw [e]; rfl
    (repeat (first | refine W_seq ?_ | refine W_block ?_ | refine W_blk ?_ | refine W_skip ?_ | (refine W_region [] (by rfl) fun K hK => ?_; simp only [go_sem, Nat.reduceEqDiff, Nat.reduceLT, Nat.reduceAdd, Nat.reduceLeDiff, Nat.reduceMul, Nat.reduceSub, Int.reduceLE, Int.reduceLT, Int.reduceToNat, Int.reducePow, Int.reduceEq, f4, f5, h4, h5, e2]; refine WRun.done _ _ (hK _ _ ?_); clear hK)))
    refine W_cond_true (by simp only [go_sem, Nat.reduceEqDiff, Nat.reduceLT, Nat.reduceAdd, Nat.reduceLeDiff, Nat.reduceMul, Nat.reduceSub, Int.reduceLE, Int.reduceLT, Int.reduceToNat, Int.reducePow, Int.reduceEq]) ?_
    (repeat (first | refine W_seq ?_ | refine W_block ?_ | refine W_blk ?_ | refine W_skip ?_ | (refine W_region [] (by rfl) fun K hK => ?_; simp only [go_sem, Nat.reduceEqDiff, Nat.reduceLT, Nat.reduceAdd, Nat.reduceLeDiff, Nat.reduceMul, Nat.reduceSub, Int.reduceLE, Int.reduceLT, Int.reduceToNat, Int.reducePow, Int.reduceEq, f0]; refine WRun.done _ _ (hK _ _ ?_); clear hK)))
    refine W_ret ?_
    simp only [go_sem, Nat.reduceEqDiff, Nat.reduceLT, Nat.reduceAdd, Nat.reduceLeDiff, Nat.reduceMul, Nat.reduceSub, Int.reduceLE, Int.reduceLT, Int.reduceToNat, Int.reducePow, Int.reduceEq]
    refine ⟨hx, .inr ⟨m, l, r1 e, ?_, hR, hl⟩⟩
    simp only [go_sem, Nat.reduceEqDiff, Nat.reduceLT, Nat.reduceAdd, Nat.reduceLeDiff, Nat.reduceMul, Nat.reduceSub, Int.reduceLE, Int.reduceLT, Int.reduceToNat, Int.reducePow, Int.reduceEq]
  · have e2 : ¬ hd U = (n : Int) := by
      intro h
      cases U with
      | var k => simp only [hd_var] at h; exact e (by congr 1; omega)
      | app f l => simp only [hd_app] at h; omega
    (repeat (first | refine W_seq ?_ | refine W_block ?_ | refine W_blk ?_ | refine W_skip ?_ | (refine W_region [] (by rfl) fun K hK => ?_; simp only [go_sem, Nat.reduceEqDiff, Nat.reduceLT, Nat.reduceAdd, Nat.reduceLeDiff, Nat.reduceMul, Nat.reduceSub, Int.reduceLE, Int.reduceLT, Int.reduceToNat, Int.reducePow, Int.reduceEq, f4, f5, h4, h5, e2]; refine WRun.done _ _ (hK _ _ ?_); clear hK)))
    refine W_cond_false (by simp only [go_sem, Nat.reduceEqDiff, Nat.reduceLT, Nat.reduceAdd, Nat.reduceLeDiff, Nat.reduceMul, Nat.reduceSub, Int.reduceLE, Int.reduceLT, Int.reduceToNat, Int.reducePow, Int.reduceEq, e2]) ?_
    (repeat (first | refine W_seq ?_ | refine W_block ?_ | refine W_blk ?_ | refine W_skip ?_))
    (refine W_region [] (by rfl) fun K hK => ?_; simp only [go_sem, Nat.reduceEqDiff, Nat.reduceLT, Nat.reduceAdd, Nat.reduceLeDiff, Nat.reduceMul, Nat.reduceSub, Int.reduceLE, Int.reduceLT, Int.reduceToNat, Int.reducePow, Int.reduceEq, f4, f5, h4, h5])
    refine PCalls.use (has_ok n _ U (Nat.le_refl _) hA) (by simp only [go_sem, Nat.reduceEqDiff, Nat.reduceLT, Nat.reduceAdd, Nat.reduceLeDiff, Nat.reduceMul, Nat.reduceSub, Int.reduceLE, Int.reduceLT, Int.reduceToNat, Int.reducePow, Int.reduceEq, enc_eq]) ?_
    simp only [go_sem, Nat.reduceEqDiff, Nat.reduceLT, Nat.reduceAdd, Nat.reduceLeDiff, Nat.reduceMul, Nat.reduceSub, Int.reduceLE, Int.reduceLT, Int.reduceToNat, Int.reducePow, Int.reduceEq]
    (refine WRun.done _ _ (hK _ _ ?_); clear hK)
    by_cases hin : n ∈ U.vars
    · refine W_cond_true (by simp only [go_sem, Nat.reduceEqDiff, Nat.reduceLT, Nat.reduceAdd, Nat.reduceLeDiff, Nat.reduceMul, Nat.reduceSub, Int.reduceLE, Int.reduceLT, Int.reduceToNat, Int.reducePow, Int.reduceEq, hin]) ?_
      (repeat (first | refine W_seq ?_ | refine W_block ?_ | refine W_blk ?_ | refine W_skip ?_ | (refine W_region [] (by rfl) fun K hK => ?_; simp only [go_sem, Nat.reduceEqDiff, Nat.reduceLT, Nat.reduceAdd, Nat.reduceLeDiff, Nat.reduceMul, Nat.reduceSub, Int.reduceLE, Int.reduceLT, Int.reduceToNat, Int.reducePow, Int.reduceEq]; refine WRun.done _ _ (hK _ _ ?_); clear hK)))
      refine W_ret ?_
      simp only [go_sem, Nat.reduceEqDiff, Nat.reduceLT, Nat.reduceAdd, Nat.reduceLeDiff, Nat.reduceMul, Nat.reduceSub, Int.reduceLE, Int.reduceLT, Int.reduceToNat, Int.reducePow, Int.reduceEq]
      exact ⟨hx, .inl ⟨r2 e hin, rfl⟩⟩
    · refine W_cond_false (by simp only [go_sem, Nat.reduceEqDiff, Nat.reduceLT, Nat.reduceAdd, Nat.reduceLeDiff, Nat.reduceMul, Nat.reduceSub, Int.reduceLE, Int.reduceLT, Int.reduceToNat, Int.reducePow, Int.reduceEq, hin]) ?_
      (repeat (first | refine W_seq ?_ | refine W_block ?_ | refine W_blk ?_ | refine W_skip ?_ | (refine W_region [] (by rfl) fun K hK => ?_; simp only [go_sem, Nat.reduceEqDiff, Nat.reduceLT, Nat.reduceAdd, Nat.reduceLeDiff, Nat.reduceMul, Nat.reduceSub, Int.reduceLE, Int.reduceLT, Int.reduceToNat, Int.reducePow, Int.reduceEq]; refine WRun.done _ _ (hK _ _ ?_); clear hK)))
      refine W_loop (α := Nat) (fun q F' M' => q ≤ l.length ∧ Ext M M' ∧ look F' 0 = .list .dull (l.map encP) ∧ look F' 4 = .ptr M.length 0 ∧ look F' 5 = .ptr (M.length + 1) 0 ∧ look F' 9 = V.int q ∧ M'[M.length]? = some (.cells (tcells (.var n))) ∧ M'[M.length + 1]? = some (.cells (tcells U)) ∧
        ∃ tg, TgIn M.length tg M' ∧ look F' 8 = .list tg ((putAll (l.take q) n U).map encP)) (fun q => l.length - q) 0 ⟨Nat.zero_le _, hx, ?_, ?_, ?_, ?_, h4, h5, .full, .full _ _, ?_⟩ ?_
      · simp only [go_sem, Nat.reduceEqDiff, Nat.reduceLT, Nat.reduceAdd, Nat.reduceLeDiff, Nat.reduceMul, Nat.reduceSub, Int.reduceLE, Int.reduceLT, Int.reduceToNat, Int.reducePow, Int.reduceEq, f0]
      · simp only [go_sem, Nat.reduceEqDiff, Nat.reduceLT, Nat.reduceAdd, Nat.reduceLeDiff, Nat.reduceMul, Nat.reduceSub, Int.reduceLE, Int.reduceLT, Int.reduceToNat, Int.reducePow, Int.reduceEq, f4]
      · simp only [go_sem, Nat.reduceEqDiff, Nat.reduceLT, Nat.reduceAdd, Nat.reduceLeDiff, Nat.reduceMul, Nat.reduceSub, Int.reduceLE, Int.reduceLT, Int.reduceToNat, Int.reducePow, Int.reduceEq, f5]
      · simp only [go_sem, Nat.reduceEqDiff, Nat.reduceLT, Nat.reduceAdd, Nat.reduceLeDiff, Nat.reduceMul, Nat.reduceSub, Int.reduceLE, Int.reduceLT, Int.reduceToNat, Int.reducePow, Int.reduceEq]
      · simp only [go_sem, Nat.reduceEqDiff, Nat.reduceLT, Nat.reduceAdd, Nat.reduceLeDiff, Nat.reduceMul, Nat.reduceSub, Int.reduceLE, Int.reduceLT, Int.reduceToNat, Int.reducePow, Int.reduceEq]
        rfl
      clear f0 f4 f5 h4 h5 hx
      rintro q F' M' ⟨hq, hx, f0, f4, f5, f9, h4, h5, tg, htg, f8⟩
      have hlq : ((putAll (l.take q) n U).map encP).length ≤ 1000 := by simp [putAll]; omega
      by_cases hlt' : q < l.length
      · have hlt2 : (q : Int) < (l.length : Int) := by omega
        have hw : IntKind.i64.wrap ((q : Int) + 1) = ((q + 1 : Nat) : Int) := by rw [wrapI _ (by omega) (by omega)]; omega
        obtain ⟨p, hpl⟩ : ∃ x, l[q]? = some x := ⟨l[q], by simp [hlt']⟩
        have hpm : p ∈ l := List.mem_of_getElem? hpl
        have hat := encP_at hpl
        (repeat (first | refine W_seq ?_ | refine W_block ?_ | refine W_blk ?_ | refine W_skip ?_ | (refine W_region [] (by rfl) fun K hK => ?_; simp only [go_sem, Nat.reduceEqDiff, Nat.reduceLT, Nat.reduceAdd, Nat.reduceLeDiff, Nat.reduceMul, Nat.reduceSub, Int.reduceLE, Int.reduceLT, Int.reduceToNat, Int.reducePow, Int.reduceEq, f0, f9, hlt2]; refine WRun.done _ _ (hK _ _ ?_); clear hK)))
        refine W_cond_true (by simp only [go_sem, Nat.reduceEqDiff, Nat.reduceLT, Nat.reduceAdd, Nat.reduceLeDiff, Nat.reduceMul, Nat.reduceSub, Int.reduceLE, Int.reduceLT, Int.reduceToNat, Int.reducePow, Int.reduceEq]) ?_
        (repeat (first | refine W_seq ?_ | refine W_block ?_ | refine W_blk ?_ | refine W_skip ?_))
        (refine W_draw [] (fun X => X[M.length]? = some (.cells (tcells (.var n))) ∧ X[M.length + 1]? = some (.cells (tcells U))) mixed_ (by rfl) ?_ fun K hK => ?_)
        · exact ⟨h4, h5⟩
        (refine DR_quiet [0, 1, 2, 3, 4, 5, 6, 7, 8, 9, 10, 11, 12, 13] (by decide +kernel) (fun M_ hS_ => ?_) (fun K2 hK2 => ?_); (focus (simp only [go_sem, Nat.reduceEqDiff, Nat.reduceLT, Nat.reduceAdd, Nat.reduceLeDiff, Nat.reduceMul, Nat.reduceSub, Int.reduceLE, Int.reduceLT, Int.reduceToNat, Int.reducePow, Int.reduceEq, hS_, h4, h5, f0, f4, f5, f8, f9, hat, Int.natCast_nonneg, Int.toNat_natCast])); simp only [go_sem, Nat.reduceEqDiff, Nat.reduceLT, Nat.reduceAdd, Nat.reduceLeDiff, Nat.reduceMul, Nat.reduceSub, Int.reduceLE, Int.reduceLT, Int.reduceToNat, Int.reducePow, Int.reduceEq, h4, h5, f0, f4, f5, f8, f9, hat, Int.natCast_nonneg, Int.toNat_natCast]; refine hK2 _ ?_; clear hK2)
        (refine DR_sole' 14 (by decide +kernel) (by simp only [go_sem, Nat.reduceEqDiff, Nat.reduceLT, Nat.reduceAdd, Nat.reduceLeDiff, Nat.reduceMul, Nat.reduceSub, Int.reduceLE, Int.reduceLT, Int.reduceToNat, Int.reducePow, Int.reduceEq]) ?_; simp only [go_sem, Nat.reduceEqDiff, Nat.reduceLT, Nat.reduceAdd, Nat.reduceLeDiff, Nat.reduceMul, Nat.reduceSub, Int.reduceLE, Int.reduceLT, Int.reduceToNat, Int.reducePow, Int.reduceEq])
        refine PCalls.at (put_ok U n _ p.2 (Nat.le_refl _) (hl p hpm)) (by simp only [go_sem, Nat.reduceEqDiff, Nat.reduceLT, Nat.reduceAdd, Nat.reduceLeDiff, Nat.reduceMul, Nat.reduceSub, Int.reduceLE, Int.reduceLT, Int.reduceToNat, Int.reducePow, Int.reduceEq, enc_eq]) ⟨⟨h4, h5⟩, ?_⟩
        (refine DR_quiet [15, 16] (by decide +kernel) (fun M_ hS_ => ?_) (fun K2 hK2 => ?_); (focus (simp only [go_sem, Nat.reduceEqDiff, Nat.reduceLT, Nat.reduceAdd, Nat.reduceLeDiff, Nat.reduceMul, Nat.reduceSub, Int.reduceLE, Int.reduceLT, Int.reduceToNat, Int.reducePow, Int.reduceEq, hS_])); simp only [go_sem, Nat.reduceEqDiff, Nat.reduceLT, Nat.reduceAdd, Nat.reduceLeDiff, Nat.reduceMul, Nat.reduceSub, Int.reduceLE, Int.reduceLT, Int.reduceToNat, Int.reducePow, Int.reduceEq]; refine hK2 _ ?_; clear hK2)
        have hle : (putAll (l.take q) n U).length ≤ 1073741823 := by simp [putAll]; omega
        (refine DR_sole' 17 (by decide +kernel) (by simp only [go_sem, Nat.reduceEqDiff, Nat.reduceLT, Nat.reduceAdd, Nat.reduceLeDiff, Nat.reduceMul, Nat.reduceSub, Int.reduceLE, Int.reduceLT, Int.reduceToNat, Int.reducePow, Int.reduceEq, htg.1, encP_ok', hle]) ?_; simp only [go_sem, Nat.reduceEqDiff, Nat.reduceLT, Nat.reduceAdd, Nat.reduceLeDiff, Nat.reduceMul, Nat.reduceSub, Int.reduceLE, Int.reduceLT, Int.reduceToNat, Int.reducePow, Int.reduceEq, htg.1, encP_ok', hle])
        have h42 : (dropTag tg M' ++ [AObj.tail])[M.length]? = some (AObj.cells (tcells (Ty.var n))) := at_app (dropTag_at htg h4)
        have h52 : (dropTag tg M' ++ [AObj.tail])[M.length + 1]? = some (AObj.cells (tcells U)) := at_app (dropTag_at htg h5)
        refine ⟨⟨h42, h52⟩, ?_⟩
        (refine DR_quiet [18] (by decide +kernel) (fun M_ hS_ => ?_) (fun K2 hK2 => ?_); (focus (simp only [go_sem, Nat.reduceEqDiff, Nat.reduceLT, Nat.reduceAdd, Nat.reduceLeDiff, Nat.reduceMul, Nat.reduceSub, Int.reduceLE, Int.reduceLT, Int.reduceToNat, Int.reducePow, Int.reduceEq, hS_])); simp only [go_sem, Nat.reduceEqDiff, Nat.reduceLT, Nat.reduceAdd, Nat.reduceLeDiff, Nat.reduceMul, Nat.reduceSub, Int.reduceLE, Int.reduceLT, Int.reduceToNat, Int.reducePow, Int.reduceEq]; refine hK2 _ ?_; clear hK2)
        (refine DR_end (by decide +kernel) (hK _ _ ?_); clear hK)
        (repeat (first | refine W_seq ?_ | refine W_block ?_ | refine W_blk ?_ | refine W_skip ?_ | (refine W_region [] (by rfl) fun K hK => ?_; simp only [go_sem, Nat.reduceEqDiff, Nat.reduceLT, Nat.reduceAdd, Nat.reduceLeDiff, Nat.reduceMul, Nat.reduceSub, Int.reduceLE, Int.reduceLT, Int.reduceToNat, Int.reducePow, Int.reduceEq, f9, hw]; refine WRun.done _ _ (hK _ _ ?_); clear hK)))
        have hx2 := (dropTag_ext hx htg).app [AObj.tail]
        refine W_stop ⟨q + 1, ⟨hlt', hx2, ?_, ?_, ?_, ?_, h42, h52, .own M'.length, ?_, ?_⟩, by omega⟩
        · simp only [go_sem, Nat.reduceEqDiff, Nat.reduceLT, Nat.reduceAdd, Nat.reduceLeDiff, Nat.reduceMul, Nat.reduceSub, Int.reduceLE, Int.reduceLT, Int.reduceToNat, Int.reducePow, Int.reduceEq, f0]
        · simp only [go_sem, Nat.reduceEqDiff, Nat.reduceLT, Nat.reduceAdd, Nat.reduceLeDiff, Nat.reduceMul, Nat.reduceSub, Int.reduceLE, Int.reduceLT, Int.reduceToNat, Int.reducePow, Int.reduceEq, f4]
        · simp only [go_sem, Nat.reduceEqDiff, Nat.reduceLT, Nat.reduceAdd, Nat.reduceLeDiff, Nat.reduceMul, Nat.reduceSub, Int.reduceLE, Int.reduceLT, Int.reduceToNat, Int.reducePow, Int.reduceEq, f5]
        · simp only [go_sem, Nat.reduceEqDiff, Nat.reduceLT, Nat.reduceAdd, Nat.reduceLeDiff, Nat.reduceMul, Nat.reduceSub, Int.reduceLE, Int.reduceLT, Int.reduceToNat, Int.reducePow, Int.reduceEq]
        · rw [← dropTag_length tg M']
          exact TgIn.new M.length (dropTag tg M') (by rw [dropTag_length]; exact hx.1)
        · simp only [go_sem, Nat.reduceEqDiff, Nat.reduceLT, Nat.reduceAdd, Nat.reduceLeDiff, Nat.reduceMul, Nat.reduceSub, Int.reduceLE, Int.reduceLT, Int.reduceToNat, Int.reducePow, Int.reduceEq]
          rw [List.take_add_one, hpl]
          simp [putAll, encP]
      · have hii : q = l.length := by omega
        subst hii
        rw [List.take_length] at f8 hlq
        (repeat (first | refine W_seq ?_ | refine W_block ?_ | refine W_blk ?_ | refine W_skip ?_ | (refine W_region [] (by rfl) fun K hK => ?_; simp only [go_sem, Nat.reduceEqDiff, Nat.reduceLT, Nat.reduceAdd, Nat.reduceLeDiff, Nat.reduceMul, Nat.reduceSub, Int.reduceLE, Int.reduceLT, Int.reduceToNat, Int.reducePow, Int.reduceEq, f0, f9, Int.lt_irrefl]; refine WRun.done _ _ (hK _ _ ?_); clear hK)))
        refine W_cond_false (by simp only [go_sem, Nat.reduceEqDiff, Nat.reduceLT, Nat.reduceAdd, Nat.reduceLeDiff, Nat.reduceMul, Nat.reduceSub, Int.reduceLE, Int.reduceLT, Int.reduceToNat, Int.reducePow, Int.reduceEq]) ?_
        refine W_exit (Qof_code (Qof_stop (Qof_blk_same ?_)))
        have hle : (putAll l n U).length ≤ 1073741823 := by simp [putAll]; omega
        (repeat (first | refine W_seq ?_ | refine W_block ?_ | refine W_blk ?_ | refine W_skip ?_ | (refine W_region [] (by rfl) fun K hK => ?_; simp only [go_sem, Nat.reduceEqDiff, Nat.reduceLT, Nat.reduceAdd, Nat.reduceLeDiff, Nat.reduceMul, Nat.reduceSub, Int.reduceLE, Int.reduceLT, Int.reduceToNat, Int.reducePow, Int.reduceEq, f4, f5, f8, h4, h5, htg.1, encP_ok', hle]; refine WRun.done _ _ (hK _ _ ?_); clear hK)))
        refine W_ret ?_
        simp only [go_sem, Nat.reduceEqDiff, Nat.reduceLT, Nat.reduceAdd, Nat.reduceLeDiff, Nat.reduceMul, Nat.reduceSub, Int.reduceLE, Int.reduceLT, Int.reduceToNat, Int.reducePow, Int.reduceEq]
        refine ⟨(dropTag_ext hx htg).app _, .inr ⟨_, putAll l n U ++ [(n, U)], r3 hin, ?_, hR.bind hn hlt hU hV hin, ArP_putAll hl hA⟩⟩
        simp only [go_sem, Nat.reduceEqDiff, Nat.reduceLT, Nat.reduceAdd, Nat.reduceLeDiff, Nat.reduceMul, Nat.reduceSub, Int.reduceLE, Int.reduceLT, Int.reduceToNat, Int.reducePow, Int.reduceEq, List.map_append, encP]
        exact congrArg (fun z => V.tup [V.list .dull z, V.bool true]) (by have e := encP_un (putAll l n U ++ [(n, U)]); rw [List.map_append] at e; exact e)
end Go.Ax

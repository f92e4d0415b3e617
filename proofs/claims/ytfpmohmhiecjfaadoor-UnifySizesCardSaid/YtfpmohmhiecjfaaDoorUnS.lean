/- The reference's making two types one. Conditions: none. -/
import Derived.Test.YtfpmohmhiecjfaaDoorUnR
import Derived.Test.YtfpmohmhiecjfaaDoorUnP
set_option linter.unusedSimpArgs false
set_option linter.unusedVariables false
namespace Go.Ax
open Go.Proofs Go.Uni

set_option maxHeartbeats 16000000 in
theorem runify_ok : ∀ (N c : Nat), c ≤ N → ∀ (m : Nat → Ty) (a b : Ty) (res : Option (Nat → Ty)), Un m a b res c → ∀ (l : PL), Idem m → Rep l m → ArP l → Ar a → Ar b → VB a → VB b → ∀ (M : AMem),
    ACalls Tryd.prog 14 [.list .dull (l.map encP), enc a, enc b] M (fun v M' => M' = M ∧ RU res v)
  | 0, c, hcN, m, a, b, res, hU, l, hm, hR, hl, ha, hb, va, vb, M => by
    exfalso
    cases hU <;> omega
  | N + 1, c, hcN, m, a, b, res, hU, l, hm, hR, hl, ha, hb, va, vb, M => by
    refine ru_shrink ?_
    have hlen := hR.len
    have hAm : ∀ v, Ar (m v) := fun v => by
      have := Ar_appl hl (t := .var v) trivial
      rw [hR.appl] at this
      exact this
    have hAa : Ar (a.sub m) := Ar_sub hAm ha
    have hAb : Ar (b.sub m) := Ar_sub hAm hb
    have hVa : VB (a.sub m) := VB.sub hR.vb va
    have hVb : VB (b.sub m) := VB.sub hR.vb vb
    refine acalls_enter [.tmp 6, .tmp 7] 113 Tryd.func14 rfl rfl rfl (by simp) ?_
    (repeat (first | refine W_seq ?_ | refine W_block ?_ | refine W_blk ?_ | refine W_skip ?_))
    (refine W_region [7] (by rfl) fun K hK => ?_; simp only [go_sem, Nat.reduceEqDiff, Nat.reduceLT, Nat.reduceAdd, Nat.reduceLeDiff, Nat.reduceMul, Nat.reduceSub, Int.reduceLE, Int.reduceLT, Int.reduceToNat, Int.reducePow, Int.reduceEq])
    (refine WRun.done _ _ (hK _ _ ?_); clear hK)
    have hA : (M ++ [AObj.cells (tcells a)] ++ [AObj.cells (tcells b)])[M.length]? = some (.cells (tcells a)) := at_app (at_snoc rfl)
    have hB : (M ++ [AObj.cells (tcells a)] ++ [AObj.cells (tcells b)])[M.length + 1]? = some (.cells (tcells b)) := at_snoc (by simp)
    have hx : Ext M (M ++ [AObj.cells (tcells a)] ++ [AObj.cells (tcells b)]) := ((Ext.refl M).app _).app _
    generalize hM1 : M ++ [AObj.cells (tcells a)] ++ [AObj.cells (tcells b)] = M1 at hA hB hx ⊢
    (repeat (first | refine W_seq ?_ | refine W_block ?_ | refine W_blk ?_ | refine W_skip ?_))
    (refine W_draw [] (fun X => X = M1) mixed_ (by rfl) ?_ fun K hK => ?_)
    · rfl
    (refine DR_quiet [0, 1, 3, 4] (by decide +kernel) (fun M_ hS_ => ?_) (fun K2 hK2 => ?_); (focus (simp only [go_sem, Nat.reduceEqDiff, Nat.reduceLT, Nat.reduceAdd, Nat.reduceLeDiff, Nat.reduceMul, Nat.reduceSub, Int.reduceLE, Int.reduceLT, Int.reduceToNat, Int.reducePow, Int.reduceEq, hS_, hA, hB])); simp only [go_sem, Nat.reduceEqDiff, Nat.reduceLT, Nat.reduceAdd, Nat.reduceLeDiff, Nat.reduceMul, Nat.reduceSub, Int.reduceLE, Int.reduceLT, Int.reduceToNat, Int.reducePow, Int.reduceEq, hA, hB]; refine hK2 _ ?_; clear hK2)
    (refine DR_sole' 2 (by decide +kernel) (by simp only [go_sem, Nat.reduceEqDiff, Nat.reduceLT, Nat.reduceAdd, Nat.reduceLeDiff, Nat.reduceMul, Nat.reduceSub, Int.reduceLE, Int.reduceLT, Int.reduceToNat, Int.reducePow, Int.reduceEq]) ?_; simp only [go_sem, Nat.reduceEqDiff, Nat.reduceLT, Nat.reduceAdd, Nat.reduceLeDiff, Nat.reduceMul, Nat.reduceSub, Int.reduceLE, Int.reduceLT, Int.reduceToNat, Int.reducePow, Int.reduceEq])
    refine PCalls.at (rapply_ok l a hl (by omega) ha) (by simp only [go_sem, Nat.reduceEqDiff, Nat.reduceLT, Nat.reduceAdd, Nat.reduceLeDiff, Nat.reduceMul, Nat.reduceSub, Int.reduceLE, Int.reduceLT, Int.reduceToNat, Int.reducePow, Int.reduceEq, enc_eq]) ⟨rfl, ?_⟩
    (refine DR_sole' 5 (by decide +kernel) (by simp only [go_sem, Nat.reduceEqDiff, Nat.reduceLT, Nat.reduceAdd, Nat.reduceLeDiff, Nat.reduceMul, Nat.reduceSub, Int.reduceLE, Int.reduceLT, Int.reduceToNat, Int.reducePow, Int.reduceEq]) ?_; simp only [go_sem, Nat.reduceEqDiff, Nat.reduceLT, Nat.reduceAdd, Nat.reduceLeDiff, Nat.reduceMul, Nat.reduceSub, Int.reduceLE, Int.reduceLT, Int.reduceToNat, Int.reducePow, Int.reduceEq])
    refine PCalls.at (rapply_ok l b hl (by omega) hb) (by simp only [go_sem, Nat.reduceEqDiff, Nat.reduceLT, Nat.reduceAdd, Nat.reduceLeDiff, Nat.reduceMul, Nat.reduceSub, Int.reduceLE, Int.reduceLT, Int.reduceToNat, Int.reducePow, Int.reduceEq, enc_eq]) ⟨rfl, ?_⟩
    rw [hR.appl, hR.appl]
    (refine DR_break 6 (by decide +kernel) (by decide +kernel) (by simp only [go_sem, Nat.reduceEqDiff, Nat.reduceLT, Nat.reduceAdd, Nat.reduceLeDiff, Nat.reduceMul, Nat.reduceSub, Int.reduceLE, Int.reduceLT, Int.reduceToNat, Int.reducePow, Int.reduceEq, hA, hB]) ?_; simp only [go_sem, Nat.reduceEqDiff, Nat.reduceLT, Nat.reduceAdd, Nat.reduceLeDiff, Nat.reduceMul, Nat.reduceSub, Int.reduceLE, Int.reduceLT, Int.reduceToNat, Int.reducePow, Int.reduceEq, hA, hB])
    have hB2 : (M1.set M.length (AObj.cells (tcells (a.sub m))))[M.length + 1]? = some (.cells (tcells b)) := by rw [List.getElem?_set_ne (by omega)]; exact hB
    (refine DRN_sole 7 (by decide +kernel) (by decide +kernel) (by simp only [go_sem, Nat.reduceEqDiff, Nat.reduceLT, Nat.reduceAdd, Nat.reduceLeDiff, Nat.reduceMul, Nat.reduceSub, Int.reduceLE, Int.reduceLT, Int.reduceToNat, Int.reducePow, Int.reduceEq, hB2]) ?_; simp only [go_sem, Nat.reduceEqDiff, Nat.reduceLT, Nat.reduceAdd, Nat.reduceLeDiff, Nat.reduceMul, Nat.reduceSub, Int.reduceLE, Int.reduceLT, Int.reduceToNat, Int.reducePow, Int.reduceEq, hB2])
    (refine DRN_end (by decide +kernel) (hK _ _ ?_); clear hK)
    have hA3 : ((M1.set M.length (AObj.cells (tcells (a.sub m)))).set (M.length + 1) (AObj.cells (tcells (b.sub m))))[M.length]? = some (.cells (tcells (a.sub m))) := by
      rw [List.getElem?_set_ne (by omega)]; exact List.getElem?_set_self (List.getElem?_eq_some_iff.1 hA).1
    have hB3 : ((M1.set M.length (AObj.cells (tcells (a.sub m)))).set (M.length + 1) (AObj.cells (tcells (b.sub m))))[M.length + 1]? = some (.cells (tcells (b.sub m))) := by
      exact List.getElem?_set_self (by simpa using (List.getElem?_eq_some_iff.1 hB).1)
    have hx3 := (hx.set (Nat.le_refl _) (AObj.cells (tcells (a.sub m)))).set (k := M.length + 1) (by omega) (AObj.cells (tcells (b.sub m)))
    clear hA hB hx hB2 hM1
    generalize (M1.set M.length (AObj.cells (tcells (a.sub m)))).set (M.length + 1) (AObj.cells (tcells (b.sub m))) = M2 at hA3 hB3 hx3 ⊢
    cases ea : a.sub m with
    | var n =>
      rw [ea] at hA3 hVa
      have h0 : ¬ ((n : Int) < 0) := by omega
      (repeat (first | refine W_seq ?_ | refine W_block ?_ | refine W_blk ?_ | refine W_skip ?_ | (refine W_region [] (by rfl) fun K hK => ?_; simp only [go_sem, Nat.reduceEqDiff, Nat.reduceLT, Nat.reduceAdd, Nat.reduceLeDiff, Nat.reduceMul, Nat.reduceSub, Int.reduceLE, Int.reduceLT, Int.reduceToNat, Int.reducePow, Int.reduceEq, hA3, h0]; refine WRun.done _ _ (hK _ _ ?_); clear hK)))
      refine W_cond_false (by simp only [go_sem, Nat.reduceEqDiff, Nat.reduceLT, Nat.reduceAdd, Nat.reduceLeDiff, Nat.reduceMul, Nat.reduceSub, Int.reduceLE, Int.reduceLT, Int.reduceToNat, Int.reducePow, Int.reduceEq]) ?_
      refine W_skip ?_
      refine rvar_tail hR hl n (hm.var ea) (hVa n (by simp [Ty.vars])) (b.sub m) (hm.sub b) hAb hVb M M2 hx3 _ ?_ ?_ ?_ hA3 hB3 res ?_ ?_ ?_
      · simp only [go_sem, Nat.reduceEqDiff, Nat.reduceLT, Nat.reduceAdd, Nat.reduceLeDiff, Nat.reduceMul, Nat.reduceSub, Int.reduceLE, Int.reduceLT, Int.reduceToNat, Int.reducePow, Int.reduceEq]
      · simp only [go_sem, Nat.reduceEqDiff, Nat.reduceLT, Nat.reduceAdd, Nat.reduceLeDiff, Nat.reduceMul, Nat.reduceSub, Int.reduceLE, Int.reduceLT, Int.reduceToNat, Int.reducePow, Int.reduceEq]
      · simp only [go_sem, Nat.reduceEqDiff, Nat.reduceLT, Nat.reduceAdd, Nat.reduceLeDiff, Nat.reduceMul, Nat.reduceSub, Int.reduceLE, Int.reduceLT, Int.reduceToNat, Int.reducePow, Int.reduceEq]
      · intro e
        cases hU with
        | same _ _ _ k h1 h2 => rfl
        | bindL _ _ _ k h1 h2 h3 => rw [ea] at h1; injection h1 with h1; subst h1; exact absurd e h2
        | occL _ _ _ k h1 h2 h3 => rw [ea] at h1; injection h1 with h1; subst h1; exact absurd e h2
        | bindR _ _ _ f l k h1 h2 h3 => rw [ea] at h1; cases h1
        | occR _ _ _ f l k h1 h2 h3 => rw [ea] at h1; cases h1
        | clash _ _ _ f g l k h1 h2 h3 => rw [ea] at h1; cases h1
        | app _ _ _ f l k _ c h1 h2 h3 h4 => rw [ea] at h1; cases h1
      · intro e hin
        cases hU with
        | same _ _ _ k h1 h2 => rw [ea] at h1; injection h1 with h1; subst h1; exact absurd h2 e
        | bindL _ _ _ k h1 h2 h3 => rw [ea] at h1; injection h1 with h1; subst h1; exact absurd hin h3
        | occL _ _ _ k h1 h2 h3 => rfl
        | bindR _ _ _ f l k h1 h2 h3 => rw [ea] at h1; cases h1
        | occR _ _ _ f l k h1 h2 h3 => rfl
        | clash _ _ _ f g l k h1 h2 h3 => rfl
        | app _ _ _ f l k _ c h1 h2 h3 h4 => rw [ea] at h1; cases h1
      · intro hin
        cases hU with
        | same _ _ _ k h1 h2 => rw [ea] at h1; injection h1 with h1; subst h1; rw [h2] at hin; simp [Ty.vars] at hin
        | bindL _ _ _ k h1 h2 h3 => rw [ea] at h1; injection h1 with h1; subst h1; rfl
        | occL _ _ _ k h1 h2 h3 => rw [ea] at h1; injection h1 with h1; subst h1; exact absurd h3 hin
        | bindR _ _ _ f l k h1 h2 h3 => rw [ea] at h1; cases h1
        | occR _ _ _ f l k h1 h2 h3 => rw [ea] at h1; cases h1
        | clash _ _ _ f g l k h1 h2 h3 => rw [ea] at h1; cases h1
        | app _ _ _ f l k _ c h1 h2 h3 h4 => rw [ea] at h1; cases h1
    | app f lA =>
      rw [ea] at hA3 hVa hAa
      cases eb : b.sub m with
      | var n =>
        rw [eb] at hB3 hVb
        have h0 : (0 : Int) ≤ (n : Int) := by omega
        (repeat (first | refine W_seq ?_ | refine W_block ?_ | refine W_blk ?_ | refine W_skip ?_ | (refine W_region [] (by rfl) fun K hK => ?_; simp only [go_sem, Nat.reduceEqDiff, Nat.reduceLT, Nat.reduceAdd, Nat.reduceLeDiff, Nat.reduceMul, Nat.reduceSub, Int.reduceLE, Int.reduceLT, Int.reduceToNat, Int.reducePow, Int.reduceEq, hA3, hB3, h0]; refine WRun.done _ _ (hK _ _ ?_); clear hK)))
        refine W_cond_true (by simp only [go_sem, Nat.reduceEqDiff, Nat.reduceLT, Nat.reduceAdd, Nat.reduceLeDiff, Nat.reduceMul, Nat.reduceSub, Int.reduceLE, Int.reduceLT, Int.reduceToNat, Int.reducePow, Int.reduceEq, h0]) ?_
        have hB4 : (M2.set M.length (AObj.cells [V.int (n : Int), V.str eStr, V.list Tag.dull []]))[M.length + 1]? = some (.cells (tcells (.var n))) := by rw [List.getElem?_set_ne (by omega)]; exact hB3
        (repeat (first | refine W_seq ?_ | refine W_block ?_ | refine W_blk ?_ | refine W_skip ?_))
        (refine W_region [] (by rfl) fun K hK => ?_; simp only [go_sem, Nat.reduceEqDiff, Nat.reduceLT, Nat.reduceAdd, Nat.reduceLeDiff, Nat.reduceMul, Nat.reduceSub, Int.reduceLE, Int.reduceLT, Int.reduceToNat, Int.reducePow, Int.reduceEq, hA3, hB3, hB4])
        (refine WRun.done _ _ (hK _ _ ?_); clear hK)
        refine rvar_tail hR hl n (hm.var eb) (hVb n (by simp [Ty.vars])) (.app f lA) (by rw [← ea]; exact hm.sub a) hAa hVa M _ ((hx3.set (Nat.le_refl _) (AObj.cells (tcells (.var n)))).set (k := M.length + 1) (by omega) (AObj.cells (tcells (.app f lA)))) _ ?_ ?_ ?_ ?_ ?_ res ?_ ?_ ?_
        · simp only [go_sem, Nat.reduceEqDiff, Nat.reduceLT, Nat.reduceAdd, Nat.reduceLeDiff, Nat.reduceMul, Nat.reduceSub, Int.reduceLE, Int.reduceLT, Int.reduceToNat, Int.reducePow, Int.reduceEq]
        · simp only [go_sem, Nat.reduceEqDiff, Nat.reduceLT, Nat.reduceAdd, Nat.reduceLeDiff, Nat.reduceMul, Nat.reduceSub, Int.reduceLE, Int.reduceLT, Int.reduceToNat, Int.reducePow, Int.reduceEq]
        · simp only [go_sem, Nat.reduceEqDiff, Nat.reduceLT, Nat.reduceAdd, Nat.reduceLeDiff, Nat.reduceMul, Nat.reduceSub, Int.reduceLE, Int.reduceLT, Int.reduceToNat, Int.reducePow, Int.reduceEq]
        · rw [List.getElem?_set_ne (by omega)]; exact List.getElem?_set_self (List.getElem?_eq_some_iff.1 hA3).1
        · exact List.getElem?_set_self (by simpa using (List.getElem?_eq_some_iff.1 hB3).1)
        · intro e; cases e
        · intro _ hin
          cases hU with
          | same _ _ _ k h1 h2 => rw [ea] at h1; cases h1
          | bindL _ _ _ k h1 h2 h3 => rw [ea] at h1; cases h1
          | occL _ _ _ k h1 h2 h3 => rfl
          | bindR _ _ _ f l k h1 h2 h3 => rw [eb] at h2; injection h2 with h2; subst h2; rw [ea] at h3; exact absurd hin h3
          | occR _ _ _ f l k h1 h2 h3 => rfl
          | clash _ _ _ f g l k h1 h2 h3 => rfl
          | app _ _ _ f l k _ c h1 h2 h3 h4 => rw [eb] at h2; cases h2
        · intro hin
          cases hU with
          | same _ _ _ k h1 h2 => rw [ea] at h1; cases h1
          | bindL _ _ _ k h1 h2 h3 => rw [ea] at h1; cases h1
          | occL _ _ _ k h1 h2 h3 => rw [ea] at h1; cases h1
          | bindR _ _ _ f l k h1 h2 h3 => rw [eb] at h2; injection h2 with h2; subst h2; rw [ea]
          | occR _ _ _ f l k h1 h2 h3 => rw [eb] at h2; injection h2 with h2; subst h2; rw [ea] at h3; exact absurd h3 hin
          | clash _ _ _ f g l k h1 h2 h3 => rw [eb] at h2; cases h2
          | app _ _ _ f l k _ c h1 h2 h3 h4 => rw [eb] at h2; cases h2
      | app g lB =>
        rw [eb] at hB3 hVb hAb
        (repeat (first | refine W_seq ?_ | refine W_block ?_ | refine W_blk ?_ | refine W_skip ?_ | (refine W_region [] (by rfl) fun K hK => ?_; simp only [go_sem, Nat.reduceEqDiff, Nat.reduceLT, Nat.reduceAdd, Nat.reduceLeDiff, Nat.reduceMul, Nat.reduceSub, Int.reduceLE, Int.reduceLT, Int.reduceToNat, Int.reducePow, Int.reduceEq, hA3, hB3]; refine WRun.done _ _ (hK _ _ ?_); clear hK)))
        refine W_cond_false (by simp only [go_sem, Nat.reduceEqDiff, Nat.reduceLT, Nat.reduceAdd, Nat.reduceLeDiff, Nat.reduceMul, Nat.reduceSub, Int.reduceLE, Int.reduceLT, Int.reduceToNat, Int.reducePow, Int.reduceEq]) ?_
        refine W_skip ?_
        (repeat (first | refine W_seq ?_ | refine W_block ?_ | refine W_blk ?_ | refine W_skip ?_ | (refine W_region [] (by rfl) fun K hK => ?_; simp only [go_sem, Nat.reduceEqDiff, Nat.reduceLT, Nat.reduceAdd, Nat.reduceLeDiff, Nat.reduceMul, Nat.reduceSub, Int.reduceLE, Int.reduceLT, Int.reduceToNat, Int.reducePow, Int.reduceEq, hA3]; refine WRun.done _ _ (hK _ _ ?_); clear hK)))
        refine W_cond_false (by simp only [go_sem, Nat.reduceEqDiff, Nat.reduceLT, Nat.reduceAdd, Nat.reduceLeDiff, Nat.reduceMul, Nat.reduceSub, Int.reduceLE, Int.reduceLT, Int.reduceToNat, Int.reducePow, Int.reduceEq]) ?_
        refine W_skip ?_
        have hAa2 := Ar_app.1 hAa
        have hAb2 := Ar_app.1 hAb
        by_cases hcl : f ≠ g ∨ lA.length ≠ lB.length
        · have hres : res = none := by
            cases hU with
            | same _ _ _ k h1 h2 => rw [ea] at h1; cases h1
            | bindL _ _ _ k h1 h2 h3 => rw [ea] at h1; cases h1
            | occL _ _ _ k h1 h2 h3 => rfl
            | bindR _ _ _ f l k h1 h2 h3 => rw [eb] at h2; cases h2
            | occR _ _ _ f l k h1 h2 h3 => rfl
            | clash _ _ _ f g l k h1 h2 h3 => rfl
            | app _ _ _ f1 l k _ c h1 h2 h3 h4 =>
              rw [ea] at h1; rw [eb] at h2
              injection h1 with h1 h1'; injection h2 with h2 h2'
              have e1 := congrArg List.length h1'
              have e2 := congrArg List.length h2'
              simp at e1 e2
              rcases hcl with h | h
              · exact absurd (h1.trans h2.symm) h
              · omega
          by_cases hfg : f = g
          · subst hfg
            have hll : ¬ ((lA.length : Int) = (lB.length : Int)) := by
              rcases hcl with h | h
              · exact absurd rfl h
              · omega
            (repeat (first | refine W_seq ?_ | refine W_block ?_ | refine W_blk ?_ | refine W_skip ?_ | (refine W_region [] (by rfl) fun K hK => ?_; simp only [go_sem, Nat.reduceEqDiff, Nat.reduceLT, Nat.reduceAdd, Nat.reduceLeDiff, Nat.reduceMul, Nat.reduceSub, Int.reduceLE, Int.reduceLT, Int.reduceToNat, Int.reducePow, Int.reduceEq, hA3, hB3, strEq_self, hll]; refine WRun.done _ _ (hK _ _ ?_); clear hK)))
            refine W_cond_true (by simp only [go_sem, Nat.reduceEqDiff, Nat.reduceLT, Nat.reduceAdd, Nat.reduceLeDiff, Nat.reduceMul, Nat.reduceSub, Int.reduceLE, Int.reduceLT, Int.reduceToNat, Int.reducePow, Int.reduceEq, hll]) ?_
            (repeat (first | refine W_seq ?_ | refine W_block ?_ | refine W_blk ?_ | refine W_skip ?_ | (refine W_region [] (by rfl) fun K hK => ?_; simp only [go_sem, Nat.reduceEqDiff, Nat.reduceLT, Nat.reduceAdd, Nat.reduceLeDiff, Nat.reduceMul, Nat.reduceSub, Int.reduceLE, Int.reduceLT, Int.reduceToNat, Int.reducePow, Int.reduceEq]; refine WRun.done _ _ (hK _ _ ?_); clear hK)))
            refine W_ret ?_
            simp only [go_sem, Nat.reduceEqDiff, Nat.reduceLT, Nat.reduceAdd, Nat.reduceLeDiff, Nat.reduceMul, Nat.reduceSub, Int.reduceLE, Int.reduceLT, Int.reduceToNat, Int.reducePow, Int.reduceEq]
            exact ⟨hx3, .inl ⟨hres, rfl⟩⟩
          · have hse := strEq_ne hfg
            (repeat (first | refine W_seq ?_ | refine W_block ?_ | refine W_blk ?_ | refine W_skip ?_ | (refine W_region [] (by rfl) fun K hK => ?_; simp only [go_sem, Nat.reduceEqDiff, Nat.reduceLT, Nat.reduceAdd, Nat.reduceLeDiff, Nat.reduceMul, Nat.reduceSub, Int.reduceLE, Int.reduceLT, Int.reduceToNat, Int.reducePow, Int.reduceEq, hA3, hB3, hse]; refine WRun.done _ _ (hK _ _ ?_); clear hK)))
            refine W_cond_true (by simp only [go_sem, Nat.reduceEqDiff, Nat.reduceLT, Nat.reduceAdd, Nat.reduceLeDiff, Nat.reduceMul, Nat.reduceSub, Int.reduceLE, Int.reduceLT, Int.reduceToNat, Int.reducePow, Int.reduceEq]) ?_
            (repeat (first | refine W_seq ?_ | refine W_block ?_ | refine W_blk ?_ | refine W_skip ?_ | (refine W_region [] (by rfl) fun K hK => ?_; simp only [go_sem, Nat.reduceEqDiff, Nat.reduceLT, Nat.reduceAdd, Nat.reduceLeDiff, Nat.reduceMul, Nat.reduceSub, Int.reduceLE, Int.reduceLT, Int.reduceToNat, Int.reducePow, Int.reduceEq]; refine WRun.done _ _ (hK _ _ ?_); clear hK)))
            refine W_ret ?_
            simp only [go_sem, Nat.reduceEqDiff, Nat.reduceLT, Nat.reduceAdd, Nat.reduceLeDiff, Nat.reduceMul, Nat.reduceSub, Int.reduceLE, Int.reduceLT, Int.reduceToNat, Int.reducePow, Int.reduceEq]
            exact ⟨hx3, .inl ⟨hres, rfl⟩⟩
        · have hfg : f = g := Classical.byContradiction fun h => hcl (.inl h)
          have hll : lA.length = lB.length := Classical.byContradiction fun h => hcl (.inr h)
          subst hfg
          obtain ⟨c', rfl, hL⟩ : ∃ c', c = c' + 1 ∧ UnL m lA lB res c' := by
            cases hU with
            | same _ _ _ k h1 h2 => rw [ea] at h1; cases h1
            | bindL _ _ _ k h1 h2 h3 => rw [ea] at h1; cases h1
            | occL _ _ _ k h1 h2 h3 => rw [ea] at h1; cases h1
            | bindR _ _ _ f l k h1 h2 h3 => rw [eb] at h2; cases h2
            | occR _ _ _ f l k h1 h2 h3 => rw [eb] at h2; cases h2
            | clash _ _ _ f1 g1 l k h1 h2 h3 =>
              rw [ea] at h1; rw [eb] at h2
              injection h1 with h1 h1'; injection h2 with h2 h2'
              rw [← h1', ← h2', ← h1, ← h2] at h3
              simp [hll] at h3
            | app _ _ _ f1 l k _ c h1 h2 h3 h4 =>
              rw [ea] at h1; rw [eb] at h2
              injection h1 with h1 h1'; injection h2 with h2 h2'
              have idl : ∀ l : List Ty, (l.map (Ty.sub m)).map (Ty.sub m) = l.map (Ty.sub m) := fun l => by
                rw [List.map_map]; exact List.map_congr_left fun x _ => hm.sub x
              exact ⟨c, rfl, h4.congr hm (by rw [h1', idl]) (by rw [h2', idl])⟩
          have hll' : (lA.length : Int) = (lB.length : Int) := by omega
          (repeat (first | refine W_seq ?_ | refine W_block ?_ | refine W_blk ?_ | refine W_skip ?_ | (refine W_region [] (by rfl) fun K hK => ?_; simp only [go_sem, Nat.reduceEqDiff, Nat.reduceLT, Nat.reduceAdd, Nat.reduceLeDiff, Nat.reduceMul, Nat.reduceSub, Int.reduceLE, Int.reduceLT, Int.reduceToNat, Int.reducePow, Int.reduceEq, hA3, hB3, strEq_self, hll']; refine WRun.done _ _ (hK _ _ ?_); clear hK)))
          refine W_cond_false (by simp only [go_sem, Nat.reduceEqDiff, Nat.reduceLT, Nat.reduceAdd, Nat.reduceLeDiff, Nat.reduceMul, Nat.reduceSub, Int.reduceLE, Int.reduceLT, Int.reduceToNat, Int.reducePow, Int.reduceEq]) ?_
          (repeat (first | refine W_seq ?_ | refine W_block ?_ | refine W_blk ?_ | refine W_skip ?_ | (refine W_region [] (by rfl) fun K hK => ?_; simp only [go_sem, Nat.reduceEqDiff, Nat.reduceLT, Nat.reduceAdd, Nat.reduceLeDiff, Nat.reduceMul, Nat.reduceSub, Int.reduceLE, Int.reduceLT, Int.reduceToNat, Int.reducePow, Int.reduceEq]; refine WRun.done _ _ (hK _ _ ?_); clear hK)))
          refine W_loop (α := Nat) (fun q F' M' => q ≤ lA.length ∧ M' = M2 ∧ look F' 4 = .ptr M.length 0 ∧ look F' 5 = .ptr (M.length + 1) 0 ∧ look F' 10 = V.int q ∧
            ∃ mq lq cq, look F' 0 = .list .dull (lq.map encP) ∧ Idem mq ∧ Rep lq mq ∧ ArP lq ∧ UnL mq (lA.drop q) (lB.drop q) res cq ∧ cq ≤ c')
            (fun q => lA.length - q) 0 ⟨Nat.zero_le _, rfl, ?_, ?_, ?_, m, l, c', ?_, hm, hR, hl, hL, Nat.le_refl _⟩ ?_
          · simp only [go_sem, Nat.reduceEqDiff, Nat.reduceLT, Nat.reduceAdd, Nat.reduceLeDiff, Nat.reduceMul, Nat.reduceSub, Int.reduceLE, Int.reduceLT, Int.reduceToNat, Int.reducePow, Int.reduceEq]
          · simp only [go_sem, Nat.reduceEqDiff, Nat.reduceLT, Nat.reduceAdd, Nat.reduceLeDiff, Nat.reduceMul, Nat.reduceSub, Int.reduceLE, Int.reduceLT, Int.reduceToNat, Int.reducePow, Int.reduceEq]
          · simp only [go_sem, Nat.reduceEqDiff, Nat.reduceLT, Nat.reduceAdd, Nat.reduceLeDiff, Nat.reduceMul, Nat.reduceSub, Int.reduceLE, Int.reduceLT, Int.reduceToNat, Int.reducePow, Int.reduceEq]
          · simp only [go_sem, Nat.reduceEqDiff, Nat.reduceLT, Nat.reduceAdd, Nat.reduceLeDiff, Nat.reduceMul, Nat.reduceSub, Int.reduceLE, Int.reduceLT, Int.reduceToNat, Int.reducePow, Int.reduceEq]
          rintro q F' M' ⟨hq, hMM, f4, f5, f10, mq, lq, cq, f0, k1, k2, k3, hL, hcq⟩
          subst M'
          by_cases hlt : q < lA.length
          · have hlt' : (q : Int) < (lA.length : Int) := by omega
            have hw : IntKind.i64.wrap ((q : Int) + 1) = ((q + 1 : Nat) : Int) := by rw [wrapI _ (by omega) (by omega)]; omega
            obtain ⟨x, hxl⟩ : ∃ x, lA[q]? = some x := ⟨lA[q], by simp [hlt]⟩
            obtain ⟨y, hyl⟩ : ∃ x, lB[q]? = some x := ⟨lB[q]'(by omega), by simp⟩
            have hxm : x ∈ lA := List.mem_of_getElem? hxl
            have hym : y ∈ lB := List.mem_of_getElem? hyl
            have hatx := encL_at hxl
            have haty := encL_at hyl
            rw [List.drop_eq_getElem_cons hlt, List.drop_eq_getElem_cons (by omega : q < lB.length), (List.getElem?_eq_some_iff.1 hxl).2, (List.getElem?_eq_some_iff.1 hyl).2] at hL
            obtain ⟨res1, c1, u1, u2, u3, u4⟩ := unl_step hL
            (repeat (first | refine W_seq ?_ | refine W_block ?_ | refine W_blk ?_ | refine W_skip ?_ | (refine W_region [] (by rfl) fun K hK => ?_; simp only [go_sem, Nat.reduceEqDiff, Nat.reduceLT, Nat.reduceAdd, Nat.reduceLeDiff, Nat.reduceMul, Nat.reduceSub, Int.reduceLE, Int.reduceLT, Int.reduceToNat, Int.reducePow, Int.reduceEq, f4, hA3, f10, hlt']; refine WRun.done _ _ (hK _ _ ?_); clear hK)))
            refine W_cond_true (by simp only [go_sem, Nat.reduceEqDiff, Nat.reduceLT, Nat.reduceAdd, Nat.reduceLeDiff, Nat.reduceMul, Nat.reduceSub, Int.reduceLE, Int.reduceLT, Int.reduceToNat, Int.reducePow, Int.reduceEq]) ?_
            (repeat (first | refine W_seq ?_ | refine W_block ?_ | refine W_blk ?_ | refine W_skip ?_))
            (refine W_draw [] (fun X => X = M2) mixed_ (by rfl) ?_ fun K hK => ?_)
            · rfl
            (refine DR_quiet [0, 1, 2, 3, 4, 5, 6, 7, 8, 9, 10] (by decide +kernel) (fun M_ hS_ => ?_) (fun K2 hK2 => ?_); (focus (simp only [go_sem, Nat.reduceEqDiff, Nat.reduceLT, Nat.reduceAdd, Nat.reduceLeDiff, Nat.reduceMul, Nat.reduceSub, Int.reduceLE, Int.reduceLT, Int.reduceToNat, Int.reducePow, Int.reduceEq, hS_, hA3, hB3, f0, f4, f5, f10, hatx, haty, Int.natCast_nonneg, Int.toNat_natCast])); simp only [go_sem, Nat.reduceEqDiff, Nat.reduceLT, Nat.reduceAdd, Nat.reduceLeDiff, Nat.reduceMul, Nat.reduceSub, Int.reduceLE, Int.reduceLT, Int.reduceToNat, Int.reducePow, Int.reduceEq, hA3, hB3, f0, f4, f5, f10, hatx, haty, Int.natCast_nonneg, Int.toNat_natCast]; refine hK2 _ ?_; clear hK2)
            (refine DR_sole' 11 (by decide +kernel) (by simp only [go_sem, Nat.reduceEqDiff, Nat.reduceLT, Nat.reduceAdd, Nat.reduceLeDiff, Nat.reduceMul, Nat.reduceSub, Int.reduceLE, Int.reduceLT, Int.reduceToNat, Int.reducePow, Int.reduceEq]) ?_; simp only [go_sem, Nat.reduceEqDiff, Nat.reduceLT, Nat.reduceAdd, Nat.reduceLeDiff, Nat.reduceMul, Nat.reduceSub, Int.reduceLE, Int.reduceLT, Int.reduceToNat, Int.reducePow, Int.reduceEq])
            refine ACalls.at (runify_ok N c1 (by omega) mq x y res1 u1 lq k1 k2 k3 (hAa2.2 x hxm) (hAb2.2 y hym) (hVa.arg hxm) (hVb.arg hym) M2) (by simp only [go_sem, Nat.reduceEqDiff, Nat.reduceLT, Nat.reduceAdd, Nat.reduceLeDiff, Nat.reduceMul, Nat.reduceSub, Int.reduceLE, Int.reduceLT, Int.reduceToNat, Int.reducePow, Int.reduceEq, enc_eq]) ?_
            rintro v Mv ⟨hMv, ho⟩
            subst Mv
            refine ⟨rfl, ?_⟩
            rcases ho with ⟨e1, rfl⟩ | ⟨m1, l1, e1, rfl, j1, j2⟩
            · (refine DR_quiet [12, 13, 14, 15, 16] (by decide +kernel) (fun M_ hS_ => ?_) (fun K2 hK2 => ?_); (focus (simp only [go_sem, Nat.reduceEqDiff, Nat.reduceLT, Nat.reduceAdd, Nat.reduceLeDiff, Nat.reduceMul, Nat.reduceSub, Int.reduceLE, Int.reduceLT, Int.reduceToNat, Int.reducePow, Int.reduceEq, hS_])); simp only [go_sem, Nat.reduceEqDiff, Nat.reduceLT, Nat.reduceAdd, Nat.reduceLeDiff, Nat.reduceMul, Nat.reduceSub, Int.reduceLE, Int.reduceLT, Int.reduceToNat, Int.reducePow, Int.reduceEq]; refine hK2 _ ?_; clear hK2)
              (refine DR_end (by decide +kernel) (hK _ _ ?_); clear hK)
              (repeat (first | refine W_seq ?_ | refine W_block ?_ | refine W_blk ?_ | refine W_skip ?_ | (refine W_region [] (by rfl) fun K hK => ?_; simp only [go_sem, Nat.reduceEqDiff, Nat.reduceLT, Nat.reduceAdd, Nat.reduceLeDiff, Nat.reduceMul, Nat.reduceSub, Int.reduceLE, Int.reduceLT, Int.reduceToNat, Int.reducePow, Int.reduceEq]; refine WRun.done _ _ (hK _ _ ?_); clear hK)))
              refine W_cond_true (by simp only [go_sem, Nat.reduceEqDiff, Nat.reduceLT, Nat.reduceAdd, Nat.reduceLeDiff, Nat.reduceMul, Nat.reduceSub, Int.reduceLE, Int.reduceLT, Int.reduceToNat, Int.reducePow, Int.reduceEq]) ?_
              (repeat (first | refine W_seq ?_ | refine W_block ?_ | refine W_blk ?_ | refine W_skip ?_ | (refine W_region [] (by rfl) fun K hK => ?_; simp only [go_sem, Nat.reduceEqDiff, Nat.reduceLT, Nat.reduceAdd, Nat.reduceLeDiff, Nat.reduceMul, Nat.reduceSub, Int.reduceLE, Int.reduceLT, Int.reduceToNat, Int.reducePow, Int.reduceEq]; refine WRun.done _ _ (hK _ _ ?_); clear hK)))
              refine W_ret ?_
              simp only [go_sem, Nat.reduceEqDiff, Nat.reduceLT, Nat.reduceAdd, Nat.reduceLeDiff, Nat.reduceMul, Nat.reduceSub, Int.reduceLE, Int.reduceLT, Int.reduceToNat, Int.reducePow, Int.reduceEq]
              exact ⟨hx3, .inl ⟨u3 e1, rfl⟩⟩
            · (refine DR_quiet [12, 13, 14, 15, 16] (by decide +kernel) (fun M_ hS_ => ?_) (fun K2 hK2 => ?_); (focus (simp only [go_sem, Nat.reduceEqDiff, Nat.reduceLT, Nat.reduceAdd, Nat.reduceLeDiff, Nat.reduceMul, Nat.reduceSub, Int.reduceLE, Int.reduceLT, Int.reduceToNat, Int.reducePow, Int.reduceEq, hS_])); simp only [go_sem, Nat.reduceEqDiff, Nat.reduceLT, Nat.reduceAdd, Nat.reduceLeDiff, Nat.reduceMul, Nat.reduceSub, Int.reduceLE, Int.reduceLT, Int.reduceToNat, Int.reducePow, Int.reduceEq]; refine hK2 _ ?_; clear hK2)
              (refine DR_end (by decide +kernel) (hK _ _ ?_); clear hK)
              (repeat (first | refine W_seq ?_ | refine W_block ?_ | refine W_blk ?_ | refine W_skip ?_ | (refine W_region [] (by rfl) fun K hK => ?_; simp only [go_sem, Nat.reduceEqDiff, Nat.reduceLT, Nat.reduceAdd, Nat.reduceLeDiff, Nat.reduceMul, Nat.reduceSub, Int.reduceLE, Int.reduceLT, Int.reduceToNat, Int.reducePow, Int.reduceEq]; refine WRun.done _ _ (hK _ _ ?_); clear hK)))
              refine W_cond_false (by simp only [go_sem, Nat.reduceEqDiff, Nat.reduceLT, Nat.reduceAdd, Nat.reduceLeDiff, Nat.reduceMul, Nat.reduceSub, Int.reduceLE, Int.reduceLT, Int.reduceToNat, Int.reducePow, Int.reduceEq]) ?_
              (repeat (first | refine W_seq ?_ | refine W_block ?_ | refine W_blk ?_ | refine W_skip ?_ | (refine W_region [] (by rfl) fun K hK => ?_; simp only [go_sem, Nat.reduceEqDiff, Nat.reduceLT, Nat.reduceAdd, Nat.reduceLeDiff, Nat.reduceMul, Nat.reduceSub, Int.reduceLE, Int.reduceLT, Int.reduceToNat, Int.reducePow, Int.reduceEq, f10, hw]; refine WRun.done _ _ (hK _ _ ?_); clear hK)))
              refine W_stop ⟨q + 1, ⟨hlt, rfl, ?_, ?_, ?_, m1, l1, cq - c1, ?_, (u1.resp e1 k1).1, j1, j2, u4 m1 e1, by omega⟩, by omega⟩
              · simp only [go_sem, Nat.reduceEqDiff, Nat.reduceLT, Nat.reduceAdd, Nat.reduceLeDiff, Nat.reduceMul, Nat.reduceSub, Int.reduceLE, Int.reduceLT, Int.reduceToNat, Int.reducePow, Int.reduceEq, f4]
              · simp only [go_sem, Nat.reduceEqDiff, Nat.reduceLT, Nat.reduceAdd, Nat.reduceLeDiff, Nat.reduceMul, Nat.reduceSub, Int.reduceLE, Int.reduceLT, Int.reduceToNat, Int.reducePow, Int.reduceEq, f5]
              · simp only [go_sem, Nat.reduceEqDiff, Nat.reduceLT, Nat.reduceAdd, Nat.reduceLeDiff, Nat.reduceMul, Nat.reduceSub, Int.reduceLE, Int.reduceLT, Int.reduceToNat, Int.reducePow, Int.reduceEq]
              · simp only [go_sem, Nat.reduceEqDiff, Nat.reduceLT, Nat.reduceAdd, Nat.reduceLeDiff, Nat.reduceMul, Nat.reduceSub, Int.reduceLE, Int.reduceLT, Int.reduceToNat, Int.reducePow, Int.reduceEq]
          · have hii : q = lA.length := by omega
            subst hii
            rw [List.drop_length, hll, List.drop_length] at hL
            obtain ⟨rfl, rfl⟩ : res = some mq ∧ cq = 0 := by cases hL; exact ⟨rfl, rfl⟩
            (repeat (first | refine W_seq ?_ | refine W_block ?_ | refine W_blk ?_ | refine W_skip ?_ | (refine W_region [] (by rfl) fun K hK => ?_; simp only [go_sem, Nat.reduceEqDiff, Nat.reduceLT, Nat.reduceAdd, Nat.reduceLeDiff, Nat.reduceMul, Nat.reduceSub, Int.reduceLE, Int.reduceLT, Int.reduceToNat, Int.reducePow, Int.reduceEq, f4, hA3, f10, Int.lt_irrefl]; refine WRun.done _ _ (hK _ _ ?_); clear hK)))
            refine W_cond_false (by simp only [go_sem, Nat.reduceEqDiff, Nat.reduceLT, Nat.reduceAdd, Nat.reduceLeDiff, Nat.reduceMul, Nat.reduceSub, Int.reduceLE, Int.reduceLT, Int.reduceToNat, Int.reducePow, Int.reduceEq]) ?_
            refine W_exit (Qof_code (Qof_stop (Qof_blk_same ?_)))
            (repeat (first | refine W_seq ?_ | refine W_block ?_ | refine W_blk ?_ | refine W_skip ?_ | (refine W_region [] (by rfl) fun K hK => ?_; simp only [go_sem, Nat.reduceEqDiff, Nat.reduceLT, Nat.reduceAdd, Nat.reduceLeDiff, Nat.reduceMul, Nat.reduceSub, Int.reduceLE, Int.reduceLT, Int.reduceToNat, Int.reducePow, Int.reduceEq, f0]; refine WRun.done _ _ (hK _ _ ?_); clear hK)))
            refine W_ret ?_
            simp only [go_sem, Nat.reduceEqDiff, Nat.reduceLT, Nat.reduceAdd, Nat.reduceLeDiff, Nat.reduceMul, Nat.reduceSub, Int.reduceLE, Int.reduceLT, Int.reduceToNat, Int.reducePow, Int.reduceEq]
            refine ⟨hx3, .inr ⟨mq, lq, rfl, ?_, k2, k3⟩⟩
            simp only [go_sem, Nat.reduceEqDiff, Nat.reduceLT, Nat.reduceAdd, Nat.reduceLeDiff, Nat.reduceMul, Nat.reduceSub, Int.reduceLE, Int.reduceLT, Int.reduceToNat, Int.reducePow, Int.reduceEq]
end Go.Ax

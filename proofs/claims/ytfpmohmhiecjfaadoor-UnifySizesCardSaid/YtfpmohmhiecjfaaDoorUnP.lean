/- Making two types one. Conditions: none. -/
import Derived.Test.YtfpmohmhiecjfaaDoorUnK
set_option linter.unusedSimpArgs false
set_option linter.unusedVariables false
namespace Go.Ax
open Go.Proofs Go.Uni

theorem unl_step {m : Nat → Ty} {x y : Ty} {l k : List Ty} {res : Option (Nat → Ty)} {c : Nat} (h : UnL m (x :: l) (y :: k) res c) :
    ∃ res1 c1, Un m x y res1 c1 ∧ c1 ≤ c ∧ (res1 = none → res = none) ∧ ∀ m1, res1 = some m1 → UnL m1 l k res (c - c1) := by
  cases h with
  | fail _ _ _ _ _ _ h => exact ⟨none, c, h, Nat.le_refl _, fun _ => rfl, fun m1 e => (by cases e)⟩
  | cons _ m1 _ _ _ _ _ c1 c2 h h2 => exact ⟨some m1, c1, h, by omega, fun e => (by cases e), fun m2 e => by injection e with e; subst e; rw [show c1 + c2 - c1 = c2 by omega]; exact h2⟩
theorem Ext.upd2 {M M' : AMem} {i j : Nat} (hi : i < M.length) (hj : j < M.length) {es es' : List (Value × V)} {x x' : V} (h : Ext ((M.set i (.map es)).set j (.cells [x])) M') (hij : i ≠ j) :
    Ext ((M.set i (.map es')).set j (.cells [x'])) ((M'.set i (.map es')).set j (.cells [x'])) := by
  have h1 : Ext ((M.set i (.map es)).set j (.cells [x'])) (M'.set j (.cells [x'])) := h.upd (by simpa using hj)
  have e1 : ∀ (X : AMem) (y z : AObj), (X.set i y).set j z = (X.set j z).set i y := fun X y z => List.set_comm _ _ hij
  rw [e1 M] at h1
  rw [e1 M, e1 M']
  exact h1.upd (by simpa using hi)

set_option maxHeartbeats 16000000 in
theorem pair_ok (i j : Nat) (hij : i ≠ j) : ∀ (N c : Nat), c ≤ N → ∀ (m : Nat → Ty) (a b : Ty) (res : Option (Nat → Ty)), Un m a b res c → ∀ (es : List (Value × V)) (s : Nat → Option Ty) (r : Nat → Nat), SMap es s → Sbs s m r → Ar a → Ar b → ∀ (M : AMem), M[i]? = some (.map es) →
    ∀ left : Nat, left ≤ 4611686018427387904 → M[j]? = some (.cells [V.int left]) → ACalls Tryd.prog 31 [.map i, enc a, enc b, .ptr j 0] M (PairR i j M res c left)
  | 0, c, hcN, m, a, b, res, hU, es, s, r, hs, hm, ha, hb, M, hi, left, hl, hj => by
    exfalso
    cases hU <;> omega
  | N + 1, c, hcN, m, a, b, res, hU, es, s, r, hs, hm, ha, hb, M, hi, left, hl, hj => by
    refine pair_shrink ?_
    have hil := (List.getElem?_eq_some_iff.1 hi).1
    have hjl := (List.getElem?_eq_some_iff.1 hj).1
    cases eab : a.sub m with
    | var n => exact pair_var hs hm a b ha hb i j hij M hi left hl hj res c hU n eab
    | app f0_ l0 =>
    have hc0 : 0 < c := by cases hU <;> omega
    refine pair_pre hs hm a b ha hb i j hij M hi left hl hj _ (fun hz a' b' => ?_) fun hpos a' b' ea hAa hHa eb hAb hHb F' f0 f3 f5 f6 => ?_
    · refine ⟨es, -1, ?_, .inr ⟨rfl, .inr (by omega), s, hs⟩⟩
      rw [List.append_assoc]
      exact ext_one hil hi _ _
    obtain ⟨f, la, rfl⟩ : ∃ f la, a' = .app f la := by
      rcases hHa with ⟨n', rfl, hsn⟩ | h
      · rw [Ty.sub, hm.un n' hsn, eab] at ea; cases ea
      · exact h
    have hA : ((M ++ [AObj.cells (tcells (.app f la))] ++ [AObj.cells (tcells b')]).set j (.cells [V.int ((left - 1 : Nat) : Int)]))[M.length]? = some (.cells (tcells (.app f la))) := by rw [List.getElem?_set_ne (by omega)]; exact at_app (at_snoc rfl)
    have hB : ((M ++ [AObj.cells (tcells (.app f la))] ++ [AObj.cells (tcells b')]).set j (.cells [V.int ((left - 1 : Nat) : Int)]))[M.length + 1]? = some (.cells (tcells b')) := by rw [List.getElem?_set_ne (by omega)]; exact at_snoc (by simp)
    have hi1 : ((M ++ [AObj.cells (tcells (.app f la))] ++ [AObj.cells (tcells b')]).set j (.cells [V.int ((left - 1 : Nat) : Int)]))[i]? = some (.map es) := by rw [List.getElem?_set_ne (by omega)]; exact at_app (at_app hi)
    have hj1 : ((M ++ [AObj.cells (tcells (.app f la))] ++ [AObj.cells (tcells b')]).set j (.cells [V.int ((left - 1 : Nat) : Int)]))[j]? = some (.cells [V.int ((left - 1 : Nat) : Int)]) := List.getElem?_set_self (by simp; omega)
    have hx : Ext ((M.set i (.map es)).set j (.cells [V.int ((left - 1 : Nat) : Int)])) ((M ++ [AObj.cells (tcells (.app f la))] ++ [AObj.cells (tcells b')]).set j (.cells [V.int ((left - 1 : Nat) : Int)])) := by
      rw [List.append_assoc]
      exact ext_one hil hi _ _
    generalize (M ++ [AObj.cells (tcells (.app f la))] ++ [AObj.cells (tcells b')]).set j (.cells [V.int ((left - 1 : Nat) : Int)]) = M2 at hA hB hi1 hj1 hx ⊢
    rcases hHb with ⟨n, rfl, hsn⟩ | ⟨g, lb, rfl⟩
    · have h0 : (0 : Int) ≤ (n : Int) := Int.natCast_nonneg n
      (repeat (first | refine W_seq ?_ | refine W_block ?_ | refine W_blk ?_ | refine W_skip ?_ | (refine W_region [] (by rfl) fun K hK => ?_; simp only [go_sem, Nat.reduceEqDiff, Nat.reduceLT, Nat.reduceAdd, Nat.reduceLeDiff, Nat.reduceMul, Nat.reduceSub, Int.reduceLE, Int.reduceLT, Int.reduceToNat, Int.reducePow, Int.reduceEq, f0, f3, f5, f6, hA, hB, h0]; refine WRun.done _ _ (hK _ _ ?_); clear hK)))
      refine W_cond_false (by simp only [go_sem, Nat.reduceEqDiff, Nat.reduceLT, Nat.reduceAdd, Nat.reduceLeDiff, Nat.reduceMul, Nat.reduceSub, Int.reduceLE, Int.reduceLT, Int.reduceToNat, Int.reducePow, Int.reduceEq]) ?_
      (repeat (first | refine W_seq ?_ | refine W_block ?_ | refine W_blk ?_ | refine W_skip ?_ | (refine W_region [] (by rfl) fun K hK => ?_; simp only [go_sem, Nat.reduceEqDiff, Nat.reduceLT, Nat.reduceAdd, Nat.reduceLeDiff, Nat.reduceMul, Nat.reduceSub, Int.reduceLE, Int.reduceLT, Int.reduceToNat, Int.reducePow, Int.reduceEq, f5, hA]; refine WRun.done _ _ (hK _ _ ?_); clear hK)))
      refine W_cond_false (by simp only [go_sem, Nat.reduceEqDiff, Nat.reduceLT, Nat.reduceAdd, Nat.reduceLeDiff, Nat.reduceMul, Nat.reduceSub, Int.reduceLE, Int.reduceLT, Int.reduceToNat, Int.reducePow, Int.reduceEq]) ?_
      (repeat (first | refine W_seq ?_ | refine W_block ?_ | refine W_blk ?_ | refine W_skip ?_ | (refine W_region [] (by rfl) fun K hK => ?_; simp only [go_sem, Nat.reduceEqDiff, Nat.reduceLT, Nat.reduceAdd, Nat.reduceLeDiff, Nat.reduceMul, Nat.reduceSub, Int.reduceLE, Int.reduceLT, Int.reduceToNat, Int.reducePow, Int.reduceEq, f6, hB, h0]; refine WRun.done _ _ (hK _ _ ?_); clear hK)))
      refine W_cond_true (by simp only [go_sem, Nat.reduceEqDiff, Nat.reduceLT, Nat.reduceAdd, Nat.reduceLeDiff, Nat.reduceMul, Nat.reduceSub, Int.reduceLE, Int.reduceLT, Int.reduceToNat, Int.reducePow, Int.reduceEq, h0]) ?_
      have hw : IntKind.i64.wrap (((left - 1 : Nat) : Int) + 1) = ((left : Nat) : Int) := by rw [wrapI _ (by omega) (by omega)]; omega
      have hj1l := (List.getElem?_eq_some_iff.1 hj1).1
      have hA3 : (M2.set j (.cells [V.int left]))[M.length]? = some (.cells (tcells (.app f la))) := by rw [List.getElem?_set_ne (by omega)]; exact hA
      have hB3 : (M2.set j (.cells [V.int left]))[M.length + 1]? = some (.cells (tcells (.var n))) := by rw [List.getElem?_set_ne (by omega)]; exact hB
      have hi3 : (M2.set j (.cells [V.int left]))[i]? = some (.map es) := by rw [List.getElem?_set_ne (by omega)]; exact hi1
      have hj3 : (M2.set j (.cells [V.int left]))[j]? = some (.cells [V.int left]) := List.getElem?_set_self hj1l
      (repeat (first | refine W_seq ?_ | refine W_block ?_ | refine W_blk ?_ | refine W_skip ?_))
      (refine W_region [] (by rfl) fun K hK => ?_; simp only [go_sem, Nat.reduceEqDiff, Nat.reduceLT, Nat.reduceAdd, Nat.reduceLeDiff, Nat.reduceMul, Nat.reduceSub, Int.reduceLE, Int.reduceLT, Int.reduceToNat, Int.reducePow, Int.reduceEq, f3, hj1, hw])
      (refine WRun.done _ _ (hK _ _ ?_); clear hK)
      (repeat (first | refine W_seq ?_ | refine W_block ?_ | refine W_blk ?_ | refine W_skip ?_))
      (refine W_region [] (by rfl) fun K hK => ?_; simp only [go_sem, Nat.reduceEqDiff, Nat.reduceLT, Nat.reduceAdd, Nat.reduceLeDiff, Nat.reduceMul, Nat.reduceSub, Int.reduceLE, Int.reduceLT, Int.reduceToNat, Int.reducePow, Int.reduceEq, f0, f3, f5, f6, hA3, hB3])
      have eb' : b.sub m = .var n := by rw [← eb, Ty.sub, hm.un n hsn]
      have hU' : c = 1 ∧ Un m (.var n) (.app f la) res 1 := by
        have e2 : (Ty.var n).sub m = .var n := eb.trans eb'
        have hne : (Ty.app f la).sub m ≠ .var n := by rw [sub_app]; intro e; cases e
        cases hU with
        | same _ _ _ k h1 h2 => rw [eab] at h1; cases h1
        | bindL _ _ _ k h1 h2 h3 => rw [eab] at h1; cases h1
        | occL _ _ _ k h1 h2 h3 => rw [eab] at h1; cases h1
        | bindR _ _ _ f l k h1 h2 h3 =>
          rw [eb'] at h2; injection h2 with h2; subst h2
          rw [← ea] at h3 ⊢
          exact ⟨rfl, .bindL m _ _ n e2 hne h3⟩
        | occR _ _ _ f l k h1 h2 h3 =>
          rw [eb'] at h2; injection h2 with h2; subst h2
          rw [← ea] at h3
          exact ⟨rfl, .occL m _ _ n e2 hne h3⟩
        | clash _ _ _ f g l k h1 h2 h3 => rw [eb'] at h2; cases h2
        | app _ _ _ f l k _ c h1 h2 h3 h4 => rw [eb'] at h2; cases h2
      obtain ⟨rfl, hU'⟩ := hU'
      refine ACalls.use (pair_shrink (pair_var hs hm (.var n) (.app f la) trivial hAa i j hij _ hi3 left hl hj3 res 1 hU' n (eb.trans eb'))) (by simp only [go_sem, Nat.reduceEqDiff, Nat.reduceLT, Nat.reduceAdd, Nat.reduceLeDiff, Nat.reduceMul, Nat.reduceSub, Int.reduceLE, Int.reduceLT, Int.reduceToNat, Int.reducePow, Int.reduceEq, enc_eq]) ?_
      rintro r' M3 ⟨es4, x4, rfl, ho⟩
      simp only [go_sem, Nat.reduceEqDiff, Nat.reduceLT, Nat.reduceAdd, Nat.reduceLeDiff, Nat.reduceMul, Nat.reduceSub, Int.reduceLE, Int.reduceLT, Int.reduceToNat, Int.reducePow, Int.reduceEq]
      (refine WRun.done _ _ (hK _ _ ?_); clear hK)
      refine W_ret ?_
      simp only [go_sem, Nat.reduceEqDiff, Nat.reduceLT, Nat.reduceAdd, Nat.reduceLeDiff, Nat.reduceMul, Nat.reduceSub, Int.reduceLE, Int.reduceLT, Int.reduceToNat, Int.reducePow, Int.reduceEq]
      refine ⟨es4, x4, ?_, ho⟩
      have h5 : Ext ((M.set i (.map es)).set j (.cells [V.int left])) (M2.set j (.cells [V.int left])) := hx.upd (by simpa using hjl)
      exact h5.upd2 hil hjl hij
    · rw [Ar_app] at hAa hAb
      have ea2 : a.sub m = .app f (la.map (Ty.sub m)) := by rw [← ea, sub_app]
      have eb2 : b.sub m = .app g (lb.map (Ty.sub m)) := by rw [← eb, sub_app]
      (repeat (first | refine W_seq ?_ | refine W_block ?_ | refine W_blk ?_ | refine W_skip ?_ | (refine W_region [] (by rfl) fun K hK => ?_; simp only [go_sem, Nat.reduceEqDiff, Nat.reduceLT, Nat.reduceAdd, Nat.reduceLeDiff, Nat.reduceMul, Nat.reduceSub, Int.reduceLE, Int.reduceLT, Int.reduceToNat, Int.reducePow, Int.reduceEq, f0, f3, f5, f6, hA, hB]; refine WRun.done _ _ (hK _ _ ?_); clear hK)))
      refine W_cond_false (by simp only [go_sem, Nat.reduceEqDiff, Nat.reduceLT, Nat.reduceAdd, Nat.reduceLeDiff, Nat.reduceMul, Nat.reduceSub, Int.reduceLE, Int.reduceLT, Int.reduceToNat, Int.reducePow, Int.reduceEq]) ?_
      (repeat (first | refine W_seq ?_ | refine W_block ?_ | refine W_blk ?_ | refine W_skip ?_ | (refine W_region [] (by rfl) fun K hK => ?_; simp only [go_sem, Nat.reduceEqDiff, Nat.reduceLT, Nat.reduceAdd, Nat.reduceLeDiff, Nat.reduceMul, Nat.reduceSub, Int.reduceLE, Int.reduceLT, Int.reduceToNat, Int.reducePow, Int.reduceEq, f5, hA]; refine WRun.done _ _ (hK _ _ ?_); clear hK)))
      refine W_cond_false (by simp only [go_sem, Nat.reduceEqDiff, Nat.reduceLT, Nat.reduceAdd, Nat.reduceLeDiff, Nat.reduceMul, Nat.reduceSub, Int.reduceLE, Int.reduceLT, Int.reduceToNat, Int.reducePow, Int.reduceEq]) ?_
      (repeat (first | refine W_seq ?_ | refine W_block ?_ | refine W_blk ?_ | refine W_skip ?_ | (refine W_region [] (by rfl) fun K hK => ?_; simp only [go_sem, Nat.reduceEqDiff, Nat.reduceLT, Nat.reduceAdd, Nat.reduceLeDiff, Nat.reduceMul, Nat.reduceSub, Int.reduceLE, Int.reduceLT, Int.reduceToNat, Int.reducePow, Int.reduceEq, f6, hB]; refine WRun.done _ _ (hK _ _ ?_); clear hK)))
      refine W_cond_false (by simp only [go_sem, Nat.reduceEqDiff, Nat.reduceLT, Nat.reduceAdd, Nat.reduceLeDiff, Nat.reduceMul, Nat.reduceSub, Int.reduceLE, Int.reduceLT, Int.reduceToNat, Int.reducePow, Int.reduceEq]) ?_
      by_cases hcl : f ≠ g ∨ la.length ≠ lb.length
      · have hres : res = none ∧ c = 1 := by
          cases hU with
          | same _ _ _ k h1 h2 => rw [ea2] at h1; cases h1
          | bindL _ _ _ k h1 h2 h3 => rw [ea2] at h1; cases h1
          | occL _ _ _ k h1 h2 h3 => rw [ea2] at h1; cases h1
          | bindR _ _ _ f l k h1 h2 h3 => rw [eb2] at h2; cases h2
          | occR _ _ _ f l k h1 h2 h3 => rw [eb2] at h2; cases h2
          | clash _ _ _ f g l k h1 h2 h3 => exact ⟨rfl, rfl⟩
          | app _ _ _ f1 l k _ c h1 h2 h3 h4 =>
            rw [ea2] at h1; rw [eb2] at h2
            injection h1 with h1 h1'; injection h2 with h2 h2'
            have e1 := congrArg List.length h1'
            have e2 := congrArg List.length h2'
            simp at e1 e2
            rcases hcl with h | h
            · exact absurd (h1.trans h2.symm) h
            · omega
        by_cases hfg : f = g
        · subst hfg
          have hll : ¬ ((la.length : Int) = (lb.length : Int)) := by
            rcases hcl with h | h
            · exact absurd rfl h
            · omega
          (repeat (first | refine W_seq ?_ | refine W_block ?_ | refine W_blk ?_ | refine W_skip ?_ | (refine W_region [] (by rfl) fun K hK => ?_; simp only [go_sem, Nat.reduceEqDiff, Nat.reduceLT, Nat.reduceAdd, Nat.reduceLeDiff, Nat.reduceMul, Nat.reduceSub, Int.reduceLE, Int.reduceLT, Int.reduceToNat, Int.reducePow, Int.reduceEq, f5, f6, hA, hB, strEq_self, hll]; refine WRun.done _ _ (hK _ _ ?_); clear hK)))
          refine W_cond_true (by simp only [go_sem, Nat.reduceEqDiff, Nat.reduceLT, Nat.reduceAdd, Nat.reduceLeDiff, Nat.reduceMul, Nat.reduceSub, Int.reduceLE, Int.reduceLT, Int.reduceToNat, Int.reducePow, Int.reduceEq, hll]) ?_
          (repeat (first | refine W_seq ?_ | refine W_block ?_ | refine W_blk ?_ | refine W_skip ?_ | (refine W_region [] (by rfl) fun K hK => ?_; simp only [go_sem, Nat.reduceEqDiff, Nat.reduceLT, Nat.reduceAdd, Nat.reduceLeDiff, Nat.reduceMul, Nat.reduceSub, Int.reduceLE, Int.reduceLT, Int.reduceToNat, Int.reducePow, Int.reduceEq]; refine WRun.done _ _ (hK _ _ ?_); clear hK)))
          refine W_ret ?_
          simp only [go_sem, Nat.reduceEqDiff, Nat.reduceLT, Nat.reduceAdd, Nat.reduceLeDiff, Nat.reduceMul, Nat.reduceSub, Int.reduceLE, Int.reduceLT, Int.reduceToNat, Int.reducePow, Int.reduceEq]
          exact ⟨es, _, hx, .inr ⟨rfl, .inl hres.1, s, hs⟩⟩
        · have hse := strEq_ne hfg
          (repeat (first | refine W_seq ?_ | refine W_block ?_ | refine W_blk ?_ | refine W_skip ?_ | (refine W_region [] (by rfl) fun K hK => ?_; simp only [go_sem, Nat.reduceEqDiff, Nat.reduceLT, Nat.reduceAdd, Nat.reduceLeDiff, Nat.reduceMul, Nat.reduceSub, Int.reduceLE, Int.reduceLT, Int.reduceToNat, Int.reducePow, Int.reduceEq, f5, f6, hA, hB, hse]; refine WRun.done _ _ (hK _ _ ?_); clear hK)))
          refine W_cond_true (by simp only [go_sem, Nat.reduceEqDiff, Nat.reduceLT, Nat.reduceAdd, Nat.reduceLeDiff, Nat.reduceMul, Nat.reduceSub, Int.reduceLE, Int.reduceLT, Int.reduceToNat, Int.reducePow, Int.reduceEq]) ?_
          (repeat (first | refine W_seq ?_ | refine W_block ?_ | refine W_blk ?_ | refine W_skip ?_ | (refine W_region [] (by rfl) fun K hK => ?_; simp only [go_sem, Nat.reduceEqDiff, Nat.reduceLT, Nat.reduceAdd, Nat.reduceLeDiff, Nat.reduceMul, Nat.reduceSub, Int.reduceLE, Int.reduceLT, Int.reduceToNat, Int.reducePow, Int.reduceEq]; refine WRun.done _ _ (hK _ _ ?_); clear hK)))
          refine W_ret ?_
          simp only [go_sem, Nat.reduceEqDiff, Nat.reduceLT, Nat.reduceAdd, Nat.reduceLeDiff, Nat.reduceMul, Nat.reduceSub, Int.reduceLE, Int.reduceLT, Int.reduceToNat, Int.reducePow, Int.reduceEq]
          exact ⟨es, _, hx, .inr ⟨rfl, .inl hres.1, s, hs⟩⟩
      · have hfg : f = g := Classical.byContradiction fun h => hcl (.inl h)
        have hll : la.length = lb.length := Classical.byContradiction fun h => hcl (.inr h)
        subst hfg
        obtain ⟨c', rfl, hL⟩ : ∃ c', c = c' + 1 ∧ UnL m la lb res c' := by
          cases hU with
          | same _ _ _ k h1 h2 => rw [ea2] at h1; cases h1
          | bindL _ _ _ k h1 h2 h3 => rw [ea2] at h1; cases h1
          | occL _ _ _ k h1 h2 h3 => rw [ea2] at h1; cases h1
          | bindR _ _ _ f l k h1 h2 h3 => rw [eb2] at h2; cases h2
          | occR _ _ _ f l k h1 h2 h3 => rw [eb2] at h2; cases h2
          | clash _ _ _ f1 g1 l k h1 h2 h3 =>
            rw [ea2] at h1; rw [eb2] at h2
            injection h1 with h1 h1'; injection h2 with h2 h2'
            rw [← h1', ← h2', ← h1, ← h2] at h3
            simp [hll] at h3
          | app _ _ _ f1 l k _ c h1 h2 h3 h4 =>
            rw [ea2] at h1; rw [eb2] at h2
            injection h1 with h1 h1'; injection h2 with h2 h2'
            exact ⟨c, rfl, h4.congr hm.idm h1' h2'⟩
        have hll' : (la.length : Int) = (lb.length : Int) := by omega
        (repeat (first | refine W_seq ?_ | refine W_block ?_ | refine W_blk ?_ | refine W_skip ?_ | (refine W_region [] (by rfl) fun K hK => ?_; simp only [go_sem, Nat.reduceEqDiff, Nat.reduceLT, Nat.reduceAdd, Nat.reduceLeDiff, Nat.reduceMul, Nat.reduceSub, Int.reduceLE, Int.reduceLT, Int.reduceToNat, Int.reducePow, Int.reduceEq, f5, f6, hA, hB, strEq_self, hll']; refine WRun.done _ _ (hK _ _ ?_); clear hK)))
        refine W_cond_false (by simp only [go_sem, Nat.reduceEqDiff, Nat.reduceLT, Nat.reduceAdd, Nat.reduceLeDiff, Nat.reduceMul, Nat.reduceSub, Int.reduceLE, Int.reduceLT, Int.reduceToNat, Int.reducePow, Int.reduceEq]) ?_
        (repeat (first | refine W_seq ?_ | refine W_block ?_ | refine W_blk ?_ | refine W_skip ?_ | (refine W_region [] (by rfl) fun K hK => ?_; simp only [go_sem, Nat.reduceEqDiff, Nat.reduceLT, Nat.reduceAdd, Nat.reduceLeDiff, Nat.reduceMul, Nat.reduceSub, Int.reduceLE, Int.reduceLT, Int.reduceToNat, Int.reducePow, Int.reduceEq, f5, hA]; refine WRun.done _ _ (hK _ _ ?_); clear hK)))
        refine W_loop (α := Nat) (fun q F' M' => q ≤ la.length ∧ look F' 0 = .map i ∧ look F' 3 = .ptr j 0 ∧ look F' 5 = .ptr M.length 0 ∧ look F' 6 = .ptr (M.length + 1) 0 ∧ look F' 87 = V.int la.length ∧ look F' 88 = V.int q ∧
          M'[M.length]? = some (.cells (tcells (.app f la))) ∧ M'[M.length + 1]? = some (.cells (tcells (.app f lb))) ∧ ∃ mq sq rq esq cq, ∃ lq : Nat, Ext ((M.set i (.map esq)).set j (.cells [V.int lq])) M' ∧ SMap esq sq ∧ Sbs sq mq rq ∧ UnL mq (la.drop q) (lb.drop q) res cq ∧ cq ≤ c' ∧ lq + (c' + 1) = left + cq)
          (fun q => la.length - q) 0 ⟨Nat.zero_le _, ?_, ?_, ?_, ?_, ?_, ?_, hA, hB, m, s, r, es, c', left - 1, hx, hs, hm, hL, Nat.le_refl _, by omega⟩ ?_
        · simp only [go_sem, Nat.reduceEqDiff, Nat.reduceLT, Nat.reduceAdd, Nat.reduceLeDiff, Nat.reduceMul, Nat.reduceSub, Int.reduceLE, Int.reduceLT, Int.reduceToNat, Int.reducePow, Int.reduceEq, f0]
        · simp only [go_sem, Nat.reduceEqDiff, Nat.reduceLT, Nat.reduceAdd, Nat.reduceLeDiff, Nat.reduceMul, Nat.reduceSub, Int.reduceLE, Int.reduceLT, Int.reduceToNat, Int.reducePow, Int.reduceEq, f3]
        · simp only [go_sem, Nat.reduceEqDiff, Nat.reduceLT, Nat.reduceAdd, Nat.reduceLeDiff, Nat.reduceMul, Nat.reduceSub, Int.reduceLE, Int.reduceLT, Int.reduceToNat, Int.reducePow, Int.reduceEq, f5]
        · simp only [go_sem, Nat.reduceEqDiff, Nat.reduceLT, Nat.reduceAdd, Nat.reduceLeDiff, Nat.reduceMul, Nat.reduceSub, Int.reduceLE, Int.reduceLT, Int.reduceToNat, Int.reducePow, Int.reduceEq, f6]
        · simp only [go_sem, Nat.reduceEqDiff, Nat.reduceLT, Nat.reduceAdd, Nat.reduceLeDiff, Nat.reduceMul, Nat.reduceSub, Int.reduceLE, Int.reduceLT, Int.reduceToNat, Int.reducePow, Int.reduceEq]
        · simp only [go_sem, Nat.reduceEqDiff, Nat.reduceLT, Nat.reduceAdd, Nat.reduceLeDiff, Nat.reduceMul, Nat.reduceSub, Int.reduceLE, Int.reduceLT, Int.reduceToNat, Int.reducePow, Int.reduceEq]
        rintro q F' M' ⟨hq, f0, f3, f5, f6, f87, f88, hA, hB, mq, sq, rq, esq, cq, lq, hx, hs, hm, hL, hcq, hlq⟩
        by_cases hlt : q < la.length
        · have hlt' : (q : Int) < (la.length : Int) := by omega
          have hw : IntKind.i64.wrap ((q : Int) + 1) = ((q + 1 : Nat) : Int) := by rw [wrapI _ (by omega) (by omega)]; omega
          obtain ⟨x, hxl⟩ : ∃ x, la[q]? = some x := ⟨la[q], by simp [hlt]⟩
          obtain ⟨y, hyl⟩ : ∃ x, lb[q]? = some x := ⟨lb[q]'(by omega), by simp⟩
          have hxm : x ∈ la := List.mem_of_getElem? hxl
          have hym : y ∈ lb := List.mem_of_getElem? hyl
          have hatx := encL_at hxl
          have haty := encL_at hyl
          rw [List.drop_eq_getElem_cons hlt, List.drop_eq_getElem_cons (by omega : q < lb.length), (List.getElem?_eq_some_iff.1 hxl).2, (List.getElem?_eq_some_iff.1 hyl).2] at hL
          obtain ⟨res1, c1, u1, u2, u3, u4⟩ := unl_step hL
          have hi1 : M'[i]? = some (.map esq) := by rw [hx.2 i (by simpa using hil), List.getElem?_set_ne (by omega), List.getElem?_set_self hil]
          have hj1 : M'[j]? = some (.cells [V.int lq]) := by rw [hx.2 j (by simpa using hjl), List.getElem?_set_self (by simpa using hjl)]
          (repeat (first | refine W_seq ?_ | refine W_block ?_ | refine W_blk ?_ | refine W_skip ?_ | (refine W_region [] (by rfl) fun K hK => ?_; simp only [go_sem, Nat.reduceEqDiff, Nat.reduceLT, Nat.reduceAdd, Nat.reduceLeDiff, Nat.reduceMul, Nat.reduceSub, Int.reduceLE, Int.reduceLT, Int.reduceToNat, Int.reducePow, Int.reduceEq, f87, f88, hlt']; refine WRun.done _ _ (hK _ _ ?_); clear hK)))
          refine W_cond_true (by simp only [go_sem, Nat.reduceEqDiff, Nat.reduceLT, Nat.reduceAdd, Nat.reduceLeDiff, Nat.reduceMul, Nat.reduceSub, Int.reduceLE, Int.reduceLT, Int.reduceToNat, Int.reducePow, Int.reduceEq]) ?_
          (repeat (first | refine W_seq ?_ | refine W_block ?_ | refine W_blk ?_ | refine W_skip ?_ | (refine W_region [] (by rfl) fun K hK => ?_; simp only [go_sem, Nat.reduceEqDiff, Nat.reduceLT, Nat.reduceAdd, Nat.reduceLeDiff, Nat.reduceMul, Nat.reduceSub, Int.reduceLE, Int.reduceLT, Int.reduceToNat, Int.reducePow, Int.reduceEq, f88]; refine WRun.done _ _ (hK _ _ ?_); clear hK)))
          (refine W_draw [] (fun X => X[M.length]? = some (.cells (tcells (.app f la))) ∧ X[M.length + 1]? = some (.cells (tcells (.app f lb)))) mixed_ (by rfl) ?_ fun K hK => ?_)
          · exact ⟨hA, hB⟩
          (refine DR_quiet [0, 1, 2, 3, 4, 5, 6, 7, 8, 9, 10, 11] (by decide +kernel) (fun M_ hS_ => ?_) (fun K2 hK2 => ?_); (focus (simp only [go_sem, Nat.reduceEqDiff, Nat.reduceLT, Nat.reduceAdd, Nat.reduceLeDiff, Nat.reduceMul, Nat.reduceSub, Int.reduceLE, Int.reduceLT, Int.reduceToNat, Int.reducePow, Int.reduceEq, hS_, hA, hB, f0, f3, f5, f6, hatx, haty, Int.natCast_nonneg, Int.toNat_natCast])); simp only [go_sem, Nat.reduceEqDiff, Nat.reduceLT, Nat.reduceAdd, Nat.reduceLeDiff, Nat.reduceMul, Nat.reduceSub, Int.reduceLE, Int.reduceLT, Int.reduceToNat, Int.reducePow, Int.reduceEq, hA, hB, f0, f3, f5, f6, hatx, haty, Int.natCast_nonneg, Int.toNat_natCast]; refine hK2 _ ?_; clear hK2)
          (refine DR_sole' 12 (by decide +kernel) (by simp only [go_sem, Nat.reduceEqDiff, Nat.reduceLT, Nat.reduceAdd, Nat.reduceLeDiff, Nat.reduceMul, Nat.reduceSub, Int.reduceLE, Int.reduceLT, Int.reduceToNat, Int.reducePow, Int.reduceEq]) ?_; simp only [go_sem, Nat.reduceEqDiff, Nat.reduceLT, Nat.reduceAdd, Nat.reduceLeDiff, Nat.reduceMul, Nat.reduceSub, Int.reduceLE, Int.reduceLT, Int.reduceToNat, Int.reducePow, Int.reduceEq])
          refine ACalls.at (pair_ok i j hij N c1 (by omega) mq x y res1 u1 esq sq rq hs hm (hAa.2 x hxm) (hAb.2 y hym) M' hi1 lq (by omega) hj1) (by simp only [go_sem, Nat.reduceEqDiff, Nat.reduceLT, Nat.reduceAdd, Nat.reduceLeDiff, Nat.reduceMul, Nat.reduceSub, Int.reduceLE, Int.reduceLT, Int.reduceToNat, Int.reducePow, Int.reduceEq, enc_eq]) ?_
          rintro v Mv ⟨es4, x4, rfl, ho⟩
          have hA2 : ((M'.set i (.map es4)).set j (.cells [V.int x4]))[M.length]? = some (.cells (tcells (.app f la))) := by rw [List.getElem?_set_ne (by omega), List.getElem?_set_ne (by omega)]; exact hA
          have hB2 : ((M'.set i (.map es4)).set j (.cells [V.int x4]))[M.length + 1]? = some (.cells (tcells (.app f lb))) := by rw [List.getElem?_set_ne (by omega), List.getElem?_set_ne (by omega)]; exact hB
          have hx2 := hx.upd2 (es' := es4) (x' := V.int x4) hil hjl hij
          refine ⟨⟨hA2, hB2⟩, ?_⟩
          (refine DR_quiet [13] (by decide +kernel) (fun M_ hS_ => ?_) (fun K2 hK2 => ?_); (focus (simp only [go_sem, Nat.reduceEqDiff, Nat.reduceLT, Nat.reduceAdd, Nat.reduceLeDiff, Nat.reduceMul, Nat.reduceSub, Int.reduceLE, Int.reduceLT, Int.reduceToNat, Int.reducePow, Int.reduceEq, hS_])); simp only [go_sem, Nat.reduceEqDiff, Nat.reduceLT, Nat.reduceAdd, Nat.reduceLeDiff, Nat.reduceMul, Nat.reduceSub, Int.reduceLE, Int.reduceLT, Int.reduceToNat, Int.reducePow, Int.reduceEq]; refine hK2 _ ?_; clear hK2)
          (refine DR_end (by decide +kernel) (hK _ _ ?_); clear hK)
          rcases ho with ⟨rfl, hle, rfl, m1, s1, r1, rfl, k1, k2⟩ | ⟨rfl, hno, s1, k1⟩
          · (repeat (first | refine W_seq ?_ | refine W_block ?_ | refine W_blk ?_ | refine W_skip ?_ | (refine W_region [] (by rfl) fun K hK => ?_; simp only [go_sem, Nat.reduceEqDiff, Nat.reduceLT, Nat.reduceAdd, Nat.reduceLeDiff, Nat.reduceMul, Nat.reduceSub, Int.reduceLE, Int.reduceLT, Int.reduceToNat, Int.reducePow, Int.reduceEq, f88]; refine WRun.done _ _ (hK _ _ ?_); clear hK)))
            refine W_cond_false (by simp only [go_sem, Nat.reduceEqDiff, Nat.reduceLT, Nat.reduceAdd, Nat.reduceLeDiff, Nat.reduceMul, Nat.reduceSub, Int.reduceLE, Int.reduceLT, Int.reduceToNat, Int.reducePow, Int.reduceEq]) ?_
            (repeat (first | refine W_seq ?_ | refine W_block ?_ | refine W_blk ?_ | refine W_skip ?_ | (refine W_region [] (by rfl) fun K hK => ?_; simp only [go_sem, Nat.reduceEqDiff, Nat.reduceLT, Nat.reduceAdd, Nat.reduceLeDiff, Nat.reduceMul, Nat.reduceSub, Int.reduceLE, Int.reduceLT, Int.reduceToNat, Int.reducePow, Int.reduceEq, f88, hw]; refine WRun.done _ _ (hK _ _ ?_); clear hK)))
            refine W_stop ⟨q + 1, ⟨hlt, ?_, ?_, ?_, ?_, ?_, ?_, hA2, hB2, m1, s1, r1, es4, cq - c1, lq - c1, hx2, k1, k2, u4 m1 rfl, by omega, by omega⟩, by omega⟩
            · simp only [go_sem, Nat.reduceEqDiff, Nat.reduceLT, Nat.reduceAdd, Nat.reduceLeDiff, Nat.reduceMul, Nat.reduceSub, Int.reduceLE, Int.reduceLT, Int.reduceToNat, Int.reducePow, Int.reduceEq, f0]
            · simp only [go_sem, Nat.reduceEqDiff, Nat.reduceLT, Nat.reduceAdd, Nat.reduceLeDiff, Nat.reduceMul, Nat.reduceSub, Int.reduceLE, Int.reduceLT, Int.reduceToNat, Int.reducePow, Int.reduceEq, f3]
            · simp only [go_sem, Nat.reduceEqDiff, Nat.reduceLT, Nat.reduceAdd, Nat.reduceLeDiff, Nat.reduceMul, Nat.reduceSub, Int.reduceLE, Int.reduceLT, Int.reduceToNat, Int.reducePow, Int.reduceEq, f5]
            · simp only [go_sem, Nat.reduceEqDiff, Nat.reduceLT, Nat.reduceAdd, Nat.reduceLeDiff, Nat.reduceMul, Nat.reduceSub, Int.reduceLE, Int.reduceLT, Int.reduceToNat, Int.reducePow, Int.reduceEq, f6]
            · simp only [go_sem, Nat.reduceEqDiff, Nat.reduceLT, Nat.reduceAdd, Nat.reduceLeDiff, Nat.reduceMul, Nat.reduceSub, Int.reduceLE, Int.reduceLT, Int.reduceToNat, Int.reducePow, Int.reduceEq, f87]
            · simp only [go_sem, Nat.reduceEqDiff, Nat.reduceLT, Nat.reduceAdd, Nat.reduceLeDiff, Nat.reduceMul, Nat.reduceSub, Int.reduceLE, Int.reduceLT, Int.reduceToNat, Int.reducePow, Int.reduceEq]
          · (repeat (first | refine W_seq ?_ | refine W_block ?_ | refine W_blk ?_ | refine W_skip ?_ | (refine W_region [] (by rfl) fun K hK => ?_; simp only [go_sem, Nat.reduceEqDiff, Nat.reduceLT, Nat.reduceAdd, Nat.reduceLeDiff, Nat.reduceMul, Nat.reduceSub, Int.reduceLE, Int.reduceLT, Int.reduceToNat, Int.reducePow, Int.reduceEq, f88]; refine WRun.done _ _ (hK _ _ ?_); clear hK)))
            refine W_cond_true (by simp only [go_sem, Nat.reduceEqDiff, Nat.reduceLT, Nat.reduceAdd, Nat.reduceLeDiff, Nat.reduceMul, Nat.reduceSub, Int.reduceLE, Int.reduceLT, Int.reduceToNat, Int.reducePow, Int.reduceEq]) ?_
            (repeat (first | refine W_seq ?_ | refine W_block ?_ | refine W_blk ?_ | refine W_skip ?_ | (refine W_region [] (by rfl) fun K hK => ?_; simp only [go_sem, Nat.reduceEqDiff, Nat.reduceLT, Nat.reduceAdd, Nat.reduceLeDiff, Nat.reduceMul, Nat.reduceSub, Int.reduceLE, Int.reduceLT, Int.reduceToNat, Int.reducePow, Int.reduceEq]; refine WRun.done _ _ (hK _ _ ?_); clear hK)))
            refine W_ret ?_
            simp only [go_sem, Nat.reduceEqDiff, Nat.reduceLT, Nat.reduceAdd, Nat.reduceLeDiff, Nat.reduceMul, Nat.reduceSub, Int.reduceLE, Int.reduceLT, Int.reduceToNat, Int.reducePow, Int.reduceEq]
            refine ⟨es4, x4, hx2, .inr ⟨rfl, ?_, s1, k1⟩⟩
            rcases hno with h | h
            · exact .inl (u3 h)
            · exact .inr (by omega)
        · have hii : q = la.length := by omega
          subst hii
          rw [List.drop_length, hll, List.drop_length] at hL
          obtain ⟨rfl, rfl⟩ : res = some mq ∧ cq = 0 := by cases hL; exact ⟨rfl, rfl⟩
          (repeat (first | refine W_seq ?_ | refine W_block ?_ | refine W_blk ?_ | refine W_skip ?_ | (refine W_region [] (by rfl) fun K hK => ?_; simp only [go_sem, Nat.reduceEqDiff, Nat.reduceLT, Nat.reduceAdd, Nat.reduceLeDiff, Nat.reduceMul, Nat.reduceSub, Int.reduceLE, Int.reduceLT, Int.reduceToNat, Int.reducePow, Int.reduceEq, f87, f88, Int.lt_irrefl]; refine WRun.done _ _ (hK _ _ ?_); clear hK)))
          refine W_cond_false (by simp only [go_sem, Nat.reduceEqDiff, Nat.reduceLT, Nat.reduceAdd, Nat.reduceLeDiff, Nat.reduceMul, Nat.reduceSub, Int.reduceLE, Int.reduceLT, Int.reduceToNat, Int.reducePow, Int.reduceEq]) ?_
          refine W_exit (Qof_code (Qof_stop (Qof_blk_same ?_)))
          (repeat (first | refine W_seq ?_ | refine W_block ?_ | refine W_blk ?_ | refine W_skip ?_ | (refine W_region [] (by rfl) fun K hK => ?_; simp only [go_sem, Nat.reduceEqDiff, Nat.reduceLT, Nat.reduceAdd, Nat.reduceLeDiff, Nat.reduceMul, Nat.reduceSub, Int.reduceLE, Int.reduceLT, Int.reduceToNat, Int.reducePow, Int.reduceEq]; refine WRun.done _ _ (hK _ _ ?_); clear hK)))
          refine W_ret ?_
          simp only [go_sem, Nat.reduceEqDiff, Nat.reduceLT, Nat.reduceAdd, Nat.reduceLeDiff, Nat.reduceMul, Nat.reduceSub, Int.reduceLE, Int.reduceLT, Int.reduceToNat, Int.reducePow, Int.reduceEq]
          exact ⟨esq, lq, hx, .inl ⟨rfl, by omega, by congr 1; omega, mq, sq, rq, rfl, hs, hm⟩⟩

/-- Both, with this budget. -/
theorem unify_ok (i : Nat) {m : Nat → Ty} {a b : Ty} {res : Option (Nat → Ty)} {c : Nat} (hU : Un m a b res c) {es : List (Value × V)} {s : Nat → Option Ty} {r : Nat → Nat} (hs : SMap es s) (hm : Sbs s m r) (ha : Ar a) (hb : Ar b) (M : AMem) (hi : M[i]? = some (.map es)) :
    ACalls Tryd.prog 13 [.map i, enc a, enc b] M (fun v M' => ∃ es' x, M' = M.set i (.map es') ∧ POut res c 1099511627776 v es' x) := by
  refine ACalls.shrink (R := fun v M' => ∃ es' x, Ext (M.set i (.map es')) M' ∧ POut res c 1099511627776 v es' x) ?_ ?_
  · refine acalls_enter [.tmp 6] 12 Tryd.func13 rfl rfl rfl (by simp) ?_
    have hil := (List.getElem?_eq_some_iff.1 hi).1
    (repeat (first | refine W_seq ?_ | refine W_block ?_ | refine W_blk ?_ | refine W_skip ?_))
    (refine W_region [] (by rfl) fun K hK => ?_; simp only [go_sem, Nat.reduceEqDiff, Nat.reduceLT, Nat.reduceAdd, Nat.reduceLeDiff, Nat.reduceMul, Nat.reduceSub, Int.reduceLE, Int.reduceLT, Int.reduceToNat, Int.reducePow, Int.reduceEq])
    (refine WRun.done _ _ (hK _ _ ?_); clear hK)
    (repeat (first | refine W_seq ?_ | refine W_block ?_ | refine W_blk ?_ | refine W_skip ?_))
    (refine W_region [] (by rfl) fun K hK => ?_; simp only [go_sem, Nat.reduceEqDiff, Nat.reduceLT, Nat.reduceAdd, Nat.reduceLeDiff, Nat.reduceMul, Nat.reduceSub, Int.reduceLE, Int.reduceLT, Int.reduceToNat, Int.reducePow, Int.reduceEq])
    (refine WRun.done _ _ (hK _ _ ?_); clear hK)
    have hx : Ext M (M ++ [AObj.cells (tcells a)] ++ [AObj.cells (tcells b)] ++ [AObj.cells [V.int 1099511627776]]) := (((Ext.refl M).app _).app _).app _
    have hA : (M ++ [AObj.cells (tcells a)] ++ [AObj.cells (tcells b)] ++ [AObj.cells [V.int 1099511627776]])[M.length]? = some (.cells (tcells a)) := at_app (at_app (at_snoc rfl))
    have hB : (M ++ [AObj.cells (tcells a)] ++ [AObj.cells (tcells b)] ++ [AObj.cells [V.int 1099511627776]])[M.length + 1]? = some (.cells (tcells b)) := at_app (at_snoc (by simp))
    have hJ : (M ++ [AObj.cells (tcells a)] ++ [AObj.cells (tcells b)] ++ [AObj.cells [V.int 1099511627776]])[M.length + 1 + 1]? = some (.cells [V.int (1099511627776 : Nat)]) := at_snoc (by simp)
    generalize hM1 : M ++ [AObj.cells (tcells a)] ++ [AObj.cells (tcells b)] ++ [AObj.cells [V.int 1099511627776]] = M1 at hx hA hB hJ ⊢
    have hi1 : M1[i]? = some (.map es) := by rw [hx.2 i hil]; exact hi
    (repeat (first | refine W_seq ?_ | refine W_block ?_ | refine W_blk ?_ | refine W_skip ?_))
    (refine W_region [] (by rfl) fun K hK => ?_; simp only [go_sem, Nat.reduceEqDiff, Nat.reduceLT, Nat.reduceAdd, Nat.reduceLeDiff, Nat.reduceMul, Nat.reduceSub, Int.reduceLE, Int.reduceLT, Int.reduceToNat, Int.reducePow, Int.reduceEq, hA, hB])
    refine ACalls.use (pair_ok i (M.length + 1 + 1) (by omega) c c (Nat.le_refl _) m a b res hU es s r hs hm ha hb M1 hi1 1099511627776 (by omega) hJ) (by simp only [go_sem, Nat.reduceEqDiff, Nat.reduceLT, Nat.reduceAdd, Nat.reduceLeDiff, Nat.reduceMul, Nat.reduceSub, Int.reduceLE, Int.reduceLT, Int.reduceToNat, Int.reducePow, Int.reduceEq, enc_eq]) ?_
    rintro r' M3 ⟨es4, x4, rfl, ho⟩
    simp only [go_sem, Nat.reduceEqDiff, Nat.reduceLT, Nat.reduceAdd, Nat.reduceLeDiff, Nat.reduceMul, Nat.reduceSub, Int.reduceLE, Int.reduceLT, Int.reduceToNat, Int.reducePow, Int.reduceEq]
    (refine WRun.done _ _ (hK _ _ ?_); clear hK)
    refine W_ret ?_
    simp only [go_sem, Nat.reduceEqDiff, Nat.reduceLT, Nat.reduceAdd, Nat.reduceLeDiff, Nat.reduceMul, Nat.reduceSub, Int.reduceLE, Int.reduceLT, Int.reduceToNat, Int.reducePow, Int.reduceEq]
    refine ⟨es4, x4, ?_, ho⟩
    have h1 : Ext (M.set i (.map es4)) (M1.set i (.map es4)) := by
      have h2 : Ext (M.set i (.map es)) M1 := by rw [Ext.same hi]; exact hx
      exact h2.upd hil
    exact h1.set (by simp; omega) _
  · rintro v M' ⟨es', x, hx, ho⟩
    obtain ⟨L, rfl⟩ := hx.out
    have hc : ∀ p ∈ es', p.2.closed = true := by
      rcases ho with ⟨_, _, _, m', s', r', _, h, _⟩ | ⟨_, _, s', h⟩ <;> exact h.closed
    refine ⟨v, _, L, rfl, by simp, .inl rfl, ?_, fun o ho => ?_, es', x, rfl, ho⟩
    · rcases ho with ⟨h, _⟩ | ⟨h, _⟩ <;> rw [h] <;> rfl
    · rcases List.mem_or_eq_of_mem_set ho with h | h
      · exact .inl h
      · exact .inr (by rw [h]; exact map_ids hc _)
end Go.Ax

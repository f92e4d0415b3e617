/- How many parts a type has. Conditions: none. -/
import Derived.Test.YtfpmohmhiecjfaaDoorUnZa
set_option linter.unusedSimpArgs false
set_option linter.unusedVariables false
namespace Go.Ax
open Go.Proofs Go.Uni

theorem imin (a b : Nat) : (if (b : Int) < (a : Int) then (b : Int) else (a : Int)) = ((min a b : Nat) : Int) := by
  by_cases h : b < a
  · have : (b : Int) < (a : Int) := by omega
    rw [if_pos this, Nat.min_eq_right (by omega)]
  · have : ¬ (b : Int) < (a : Int) := by omega
    rw [if_neg this, Nat.min_eq_left (by omega)]
theorem sizeL_snoc (l : List Ty) (x : Ty) : Ty.sizeL (l ++ [x]) = Ty.sizeL l + x.size := by rw [sizeL_app', Ty.sizeL, Ty.sizeL]; omega
def Kn (m : Nat → Ty) (most : Nat) (f : Nat → Option Nat) : Prop := ∀ v k, f v = some k → k = min (m v).size (most + 1)

set_option maxHeartbeats 8000000 in
theorem size_ok {es : List (Value × V)} {s : Nat → Option Ty} {m : Nat → Ty} {r : Nat → Nat} (hs : SMap es s) (hm : Sbs s m r) (most : Nat) (hmost : most ≤ 100000) (i j : Nat) (hij : i ≠ j) (Kr N : Nat) (t : Ty) (hN : t.size ≤ N) (hKr : ∀ w ∈ t.vars, r w < Kr) (ht : Ar t) (M : AMem) (hi : M[i]? = some (.map es))
    (es1 : List (Value × V)) (f : Nat → Option Nat) (hf : NMap es1 f) (hk : Kn m most f) (hj : M[j]? = some (.map es1)) :
    ACalls Tryd.prog 36 [.map i, enc t, V.int (most : Int), .map j] M (fun v M' => ∃ es2 f2, M' = M.set j (.map es2) ∧ NMap es2 f2 ∧ Kn m most f2 ∧ v = V.int ((min (t.sub m).size (most + 1) : Nat) : Int)) := by
  refine ACalls.shrink (R := fun v M' => ∃ es2 f2, Ext (M.set j (.map es2)) M' ∧ NMap es2 f2 ∧ Kn m most f2 ∧ v = V.int ((min (t.sub m).size (most + 1) : Nat) : Int)) ?_ ?_
  · refine acalls_enter [.tmp 8] 71 Tryd.func36 rfl rfl rfl (by simp) ?_
    have hil := (List.getElem?_eq_some_iff.1 hi).1
    have hjl := (List.getElem?_eq_some_iff.1 hj).1
    have hwm : IntKind.i64.wrap ((most : Int) + 1) = ((most + 1 : Nat) : Int) := by rw [wrapI _ (by omega) (by omega)]; omega
    cases t with
    | var v =>
      have h0 : (0 : Int) ≤ (v : Int) := Int.natCast_nonneg v
      have hg := hs.get v
      have hgf := hf.get v
      (repeat (first | refine W_seq ?_ | refine W_block ?_ | refine W_blk ?_ | refine W_skip ?_ | (refine W_region [5] (by rfl) fun K hK => ?_; simp only [go_sem, Nat.reduceEqDiff, Nat.reduceLT, Nat.reduceAdd, Nat.reduceLeDiff, Nat.reduceMul, Nat.reduceSub, Int.reduceLE, Int.reduceLT, Int.reduceToNat, Int.reducePow, Int.reduceEq]; refine WRun.done _ _ (hK _ _ ?_); clear hK)))
      refine W_cond_true (by simp only [go_sem, Nat.reduceEqDiff, Nat.reduceLT, Nat.reduceAdd, Nat.reduceLeDiff, Nat.reduceMul, Nat.reduceSub, Int.reduceLE, Int.reduceLT, Int.reduceToNat, Int.reducePow, Int.reduceEq, h0]) ?_
      cases hsv : s v with
      | none =>
        rw [hsv] at hg
        have h1 : ¬ ((most + 1 : Nat) : Int) < 1 := by omega
        (repeat (first | refine W_seq ?_ | refine W_block ?_ | refine W_blk ?_ | refine W_skip ?_ | (refine W_region [] (by rfl) fun K hK => ?_; simp only [go_sem, Nat.reduceEqDiff, Nat.reduceLT, Nat.reduceAdd, Nat.reduceLeDiff, Nat.reduceMul, Nat.reduceSub, Int.reduceLE, Int.reduceLT, Int.reduceToNat, Int.reducePow, Int.reduceEq, hi, hg]; refine WRun.done _ _ (hK _ _ ?_); clear hK)))
        refine W_cond_true (by simp only [go_sem, Nat.reduceEqDiff, Nat.reduceLT, Nat.reduceAdd, Nat.reduceLeDiff, Nat.reduceMul, Nat.reduceSub, Int.reduceLE, Int.reduceLT, Int.reduceToNat, Int.reducePow, Int.reduceEq]) ?_
        (repeat (first | refine W_seq ?_ | refine W_block ?_ | refine W_blk ?_ | refine W_skip ?_ | (refine W_region [] (by rfl) fun K hK => ?_; simp only [go_sem, Nat.reduceEqDiff, Nat.reduceLT, Nat.reduceAdd, Nat.reduceLeDiff, Nat.reduceMul, Nat.reduceSub, Int.reduceLE, Int.reduceLT, Int.reduceToNat, Int.reducePow, Int.reduceEq, hwm, h1]; refine WRun.done _ _ (hK _ _ ?_); clear hK)))
        refine W_ret ?_
        simp only [go_sem, Nat.reduceEqDiff, Nat.reduceLT, Nat.reduceAdd, Nat.reduceLeDiff, Nat.reduceMul, Nat.reduceSub, Int.reduceLE, Int.reduceLT, Int.reduceToNat, Int.reducePow, Int.reduceEq]
        refine ⟨es1, f, by rw [Ext.same hj]; exact (Ext.refl M).app _, hf, hk, ?_⟩
        rw [Ty.sub, hm.un v hsv, Ty.size]
        have : min 1 (most + 1) = 1 := by omega
        rw [this]; rfl
      | some u =>
        rw [hsv] at hg
        have hsub : (Ty.var v).sub m = u.sub m := hm.bd v u hsv
        have hi2 := at_app (Y := [AObj.cells (tcells u)]) hi
        have hj2 := at_app (Y := [AObj.cells (tcells u)]) hj
        have hu2 : (M ++ [AObj.cells (tcells u)])[M.length]? = some (.cells (tcells u)) := at_snoc rfl
        (repeat (first | refine W_seq ?_ | refine W_block ?_ | refine W_blk ?_ | refine W_skip ?_ | (refine W_region [] (by rfl) fun K hK => ?_; simp only [go_sem, Nat.reduceEqDiff, Nat.reduceLT, Nat.reduceAdd, Nat.reduceLeDiff, Nat.reduceMul, Nat.reduceSub, Int.reduceLE, Int.reduceLT, Int.reduceToNat, Int.reducePow, Int.reduceEq, hi, hg]; refine WRun.done _ _ (hK _ _ ?_); clear hK)))
        refine W_cond_false (by simp only [go_sem, Nat.reduceEqDiff, Nat.reduceLT, Nat.reduceAdd, Nat.reduceLeDiff, Nat.reduceMul, Nat.reduceSub, Int.reduceLE, Int.reduceLT, Int.reduceToNat, Int.reducePow, Int.reduceEq]) ?_
        cases hfv : f v with
        | some k =>
          rw [hfv] at hgf
          (repeat (first | refine W_seq ?_ | refine W_block ?_ | refine W_blk ?_ | refine W_skip ?_ | (refine W_region [] (by rfl) fun K hK => ?_; simp only [go_sem, Nat.reduceEqDiff, Nat.reduceLT, Nat.reduceAdd, Nat.reduceLeDiff, Nat.reduceMul, Nat.reduceSub, Int.reduceLE, Int.reduceLT, Int.reduceToNat, Int.reducePow, Int.reduceEq, hj2, hgf]; refine WRun.done _ _ (hK _ _ ?_); clear hK)))
          refine W_cond_false (by simp only [go_sem, Nat.reduceEqDiff, Nat.reduceLT, Nat.reduceAdd, Nat.reduceLeDiff, Nat.reduceMul, Nat.reduceSub, Int.reduceLE, Int.reduceLT, Int.reduceToNat, Int.reducePow, Int.reduceEq]) ?_
          (repeat (first | refine W_seq ?_ | refine W_block ?_ | refine W_blk ?_ | refine W_skip ?_ | (refine W_region [] (by rfl) fun K hK => ?_; simp only [go_sem, Nat.reduceEqDiff, Nat.reduceLT, Nat.reduceAdd, Nat.reduceLeDiff, Nat.reduceMul, Nat.reduceSub, Int.reduceLE, Int.reduceLT, Int.reduceToNat, Int.reducePow, Int.reduceEq]; refine WRun.done _ _ (hK _ _ ?_); clear hK)))
          refine W_ret ?_
          simp only [go_sem, Nat.reduceEqDiff, Nat.reduceLT, Nat.reduceAdd, Nat.reduceLeDiff, Nat.reduceMul, Nat.reduceSub, Int.reduceLE, Int.reduceLT, Int.reduceToNat, Int.reducePow, Int.reduceEq]
          refine ⟨es1, f, by rw [Ext.same hj]; exact (Ext.refl M).app _, hf, hk, ?_⟩
          rw [hk v k hfv]; rfl
        | none =>
          rw [hfv] at hgf
          have hrv : r v < Kr := hKr v (by simp [Ty.vars])
          have hru := hm.rank v u hsv
          (repeat (first | refine W_seq ?_ | refine W_block ?_ | refine W_blk ?_ | refine W_skip ?_ | (refine W_region [] (by rfl) fun K hK => ?_; simp only [go_sem, Nat.reduceEqDiff, Nat.reduceLT, Nat.reduceAdd, Nat.reduceLeDiff, Nat.reduceMul, Nat.reduceSub, Int.reduceLE, Int.reduceLT, Int.reduceToNat, Int.reducePow, Int.reduceEq, hj2, hgf]; refine WRun.done _ _ (hK _ _ ?_); clear hK)))
          refine W_cond_true (by simp only [go_sem, Nat.reduceEqDiff, Nat.reduceLT, Nat.reduceAdd, Nat.reduceLeDiff, Nat.reduceMul, Nat.reduceSub, Int.reduceLE, Int.reduceLT, Int.reduceToNat, Int.reducePow, Int.reduceEq]) ?_
          (repeat (first | refine W_seq ?_ | refine W_block ?_ | refine W_blk ?_ | refine W_skip ?_))
          (refine W_region [] (by rfl) fun K hK => ?_; simp only [go_sem, Nat.reduceEqDiff, Nat.reduceLT, Nat.reduceAdd, Nat.reduceLeDiff, Nat.reduceMul, Nat.reduceSub, Int.reduceLE, Int.reduceLT, Int.reduceToNat, Int.reducePow, Int.reduceEq, hu2])
          refine ACalls.use (size_ok hs hm most hmost i j hij (r v) u.size u (Nat.le_refl _) hru (hs.ar v u hsv) _ hi2 es1 f hf hk hj2) (by simp only [go_sem, Nat.reduceEqDiff, Nat.reduceLT, Nat.reduceAdd, Nat.reduceLeDiff, Nat.reduceMul, Nat.reduceSub, Int.reduceLE, Int.reduceLT, Int.reduceToNat, Int.reducePow, Int.reduceEq, enc_eq]) ?_
          rintro r' M2 ⟨es4, f4, rfl, b1, b2, rfl⟩
          obtain ⟨es5, c1, c2⟩ := b1.put v (min (u.sub m).size (most + 1))
          have hj3 : ((M ++ [AObj.cells (tcells u)]).set j (.map es4))[j]? = some (.map es4) := List.getElem?_set_self (by simp; omega)
          simp only [go_sem, Nat.reduceEqDiff, Nat.reduceLT, Nat.reduceAdd, Nat.reduceLeDiff, Nat.reduceMul, Nat.reduceSub, Int.reduceLE, Int.reduceLT, Int.reduceToNat, Int.reducePow, Int.reduceEq]
          (refine WRun.done _ _ (hK _ _ ?_); clear hK)
          (repeat (first | refine W_seq ?_ | refine W_block ?_ | refine W_blk ?_ | refine W_skip ?_ | (refine W_region [] (by rfl) fun K hK => ?_; simp only [go_sem, Nat.reduceEqDiff, Nat.reduceLT, Nat.reduceAdd, Nat.reduceLeDiff, Nat.reduceMul, Nat.reduceSub, Int.reduceLE, Int.reduceLT, Int.reduceToNat, Int.reducePow, Int.reduceEq, hj3, c1]; refine WRun.done _ _ (hK _ _ ?_); clear hK)))
          refine W_ret ?_
          simp only [go_sem, Nat.reduceEqDiff, Nat.reduceLT, Nat.reduceAdd, Nat.reduceLeDiff, Nat.reduceMul, Nat.reduceSub, Int.reduceLE, Int.reduceLT, Int.reduceToNat, Int.reducePow, Int.reduceEq]
          refine ⟨es5, _, ?_, c2, fun w k hw => ?_, by rw [hsub]⟩
          · have h5 : Ext (M.set j (.map es1)) (M ++ [AObj.cells (tcells u)]) := by rw [Ext.same hj]; exact (Ext.refl M).app _
            have h6 := (h5.upd (y := .map es4) hjl).upd (y := .map es5) hjl
            exact h6
          · by_cases e : w = v
            · subst e
              simp at hw
              rw [← hw, hm.bd w u hsv]
            · simp [e] at hw
              exact b2 w k hw
    | app g l =>
      rw [Ar_app] at ht
      (repeat (first | refine W_seq ?_ | refine W_block ?_ | refine W_blk ?_ | refine W_skip ?_ | (refine W_region [5] (by rfl) fun K hK => ?_; simp only [go_sem, Nat.reduceEqDiff, Nat.reduceLT, Nat.reduceAdd, Nat.reduceLeDiff, Nat.reduceMul, Nat.reduceSub, Int.reduceLE, Int.reduceLT, Int.reduceToNat, Int.reducePow, Int.reduceEq]; refine WRun.done _ _ (hK _ _ ?_); clear hK)))
      refine W_cond_false (by simp only [go_sem, Nat.reduceEqDiff, Nat.reduceLT, Nat.reduceAdd, Nat.reduceLeDiff, Nat.reduceMul, Nat.reduceSub, Int.reduceLE, Int.reduceLT, Int.reduceToNat, Int.reducePow, Int.reduceEq]) ?_
      (repeat (first | refine W_seq ?_ | refine W_block ?_ | refine W_blk ?_ | refine W_skip ?_ | (refine W_region [] (by rfl) fun K hK => ?_; simp only [go_sem, Nat.reduceEqDiff, Nat.reduceLT, Nat.reduceAdd, Nat.reduceLeDiff, Nat.reduceMul, Nat.reduceSub, Int.reduceLE, Int.reduceLT, Int.reduceToNat, Int.reducePow, Int.reduceEq]; refine WRun.done _ _ (hK _ _ ?_); clear hK)))
      have hvars : ∀ {x : Ty}, x ∈ l → ∀ w, w ∈ x.vars → w ∈ (Ty.app g l).vars := fun hx w hw => Ty.mem_varsL.2 ⟨_, hx, hw⟩
      refine W_loop (α := Nat) (fun q F' M' => q ≤ l.length ∧ look F' 0 = .map i ∧ look F' 2 = V.int (most : Int) ∧ look F' 3 = .map j ∧ look F' 50 = .list .dull (encL l) ∧ look F' 51 = V.int l.length ∧ look F' 52 = V.int q ∧ look F' 12 = V.int ((min (1 + Ty.sizeL ((l.take q).map (Ty.sub m))) (most + 1) : Nat) : Int) ∧
        ∃ es2 f2, Ext (M.set j (.map es2)) M' ∧ NMap es2 f2 ∧ Kn m most f2) (fun q => l.length - q) 0 ⟨Nat.zero_le _, ?_, ?_, ?_, ?_, ?_, ?_, ?_, es1, f, by rw [Ext.same hj]; exact Ext.refl M, hf, hk⟩ ?_
      · simp only [go_sem, Nat.reduceEqDiff, Nat.reduceLT, Nat.reduceAdd, Nat.reduceLeDiff, Nat.reduceMul, Nat.reduceSub, Int.reduceLE, Int.reduceLT, Int.reduceToNat, Int.reducePow, Int.reduceEq]
      · simp only [go_sem, Nat.reduceEqDiff, Nat.reduceLT, Nat.reduceAdd, Nat.reduceLeDiff, Nat.reduceMul, Nat.reduceSub, Int.reduceLE, Int.reduceLT, Int.reduceToNat, Int.reducePow, Int.reduceEq]
      · simp only [go_sem, Nat.reduceEqDiff, Nat.reduceLT, Nat.reduceAdd, Nat.reduceLeDiff, Nat.reduceMul, Nat.reduceSub, Int.reduceLE, Int.reduceLT, Int.reduceToNat, Int.reducePow, Int.reduceEq]
      · simp only [go_sem, Nat.reduceEqDiff, Nat.reduceLT, Nat.reduceAdd, Nat.reduceLeDiff, Nat.reduceMul, Nat.reduceSub, Int.reduceLE, Int.reduceLT, Int.reduceToNat, Int.reducePow, Int.reduceEq]
      · simp only [go_sem, Nat.reduceEqDiff, Nat.reduceLT, Nat.reduceAdd, Nat.reduceLeDiff, Nat.reduceMul, Nat.reduceSub, Int.reduceLE, Int.reduceLT, Int.reduceToNat, Int.reducePow, Int.reduceEq]
      · simp only [go_sem, Nat.reduceEqDiff, Nat.reduceLT, Nat.reduceAdd, Nat.reduceLeDiff, Nat.reduceMul, Nat.reduceSub, Int.reduceLE, Int.reduceLT, Int.reduceToNat, Int.reducePow, Int.reduceEq]
      · simp only [go_sem, Nat.reduceEqDiff, Nat.reduceLT, Nat.reduceAdd, Nat.reduceLeDiff, Nat.reduceMul, Nat.reduceSub, Int.reduceLE, Int.reduceLT, Int.reduceToNat, Int.reducePow, Int.reduceEq]
        have : min (1 + Ty.sizeL []) (most + 1) = 1 := by simp [Ty.sizeL]
        rw [this]; rfl
      rintro q F' M' ⟨hq, f0, f2, f3, f50, f51, f52, f12, es2, ff2, hx, c1, c2⟩
      by_cases hlt : q < l.length
      · have hlt' : (q : Int) < (l.length : Int) := by omega
        have hw : IntKind.i64.wrap ((q : Int) + 1) = ((q + 1 : Nat) : Int) := by rw [wrapI _ (by omega) (by omega)]; omega
        obtain ⟨x, hxl⟩ : ∃ x, l[q]? = some x := ⟨l[q], by simp [hlt]⟩
        have hxm : x ∈ l := List.mem_of_getElem? hxl
        have hat := encL_at hxl
        have hi2 : M'[i]? = some (.map es) := by rw [hx.2 i (by simpa using hil), List.getElem?_set_ne (by omega)]; exact hi
        have hj2 : M'[j]? = some (.map es2) := by rw [hx.2 j (by simpa using hjl), List.getElem?_set_self hjl]
        have hsx : x.size < N := by have := app_size (f := g) hxm; omega
        have hn2 : (M' ++ [AObj.cells (tcells x)])[M'.length]? = some (.cells (tcells x)) := at_snoc rfl
        (repeat (first | refine W_seq ?_ | refine W_block ?_ | refine W_blk ?_ | refine W_skip ?_ | (refine W_region [] (by rfl) fun K hK => ?_; simp only [go_sem, Nat.reduceEqDiff, Nat.reduceLT, Nat.reduceAdd, Nat.reduceLeDiff, Nat.reduceMul, Nat.reduceSub, Int.reduceLE, Int.reduceLT, Int.reduceToNat, Int.reducePow, Int.reduceEq, f51, f52, hlt']; refine WRun.done _ _ (hK _ _ ?_); clear hK)))
        refine W_cond_true (by simp only [go_sem, Nat.reduceEqDiff, Nat.reduceLT, Nat.reduceAdd, Nat.reduceLeDiff, Nat.reduceMul, Nat.reduceSub, Int.reduceLE, Int.reduceLT, Int.reduceToNat, Int.reducePow, Int.reduceEq]) ?_
        (repeat (first | refine W_seq ?_ | refine W_block ?_ | refine W_blk ?_ | refine W_skip ?_ | (refine W_region [] (by rfl) fun K hK => ?_; simp only [go_sem, Nat.reduceEqDiff, Nat.reduceLT, Nat.reduceAdd, Nat.reduceLeDiff, Nat.reduceMul, Nat.reduceSub, Int.reduceLE, Int.reduceLT, Int.reduceToNat, Int.reducePow, Int.reduceEq, f50, f52, hat, Int.natCast_nonneg, Int.toNat_natCast]; refine WRun.done _ _ (hK _ _ ?_); clear hK)))
        (repeat (first | refine W_seq ?_ | refine W_block ?_ | refine W_blk ?_ | refine W_skip ?_))
        (refine W_region [] (by rfl) fun K hK => ?_; simp only [go_sem, Nat.reduceEqDiff, Nat.reduceLT, Nat.reduceAdd, Nat.reduceLeDiff, Nat.reduceMul, Nat.reduceSub, Int.reduceLE, Int.reduceLT, Int.reduceToNat, Int.reducePow, Int.reduceEq, f0, f2, f3, f12, hn2])
        refine ACalls.use (size_ok hs hm most hmost i j hij Kr x.size x (Nat.le_refl _) (fun w hw => hKr w (hvars hxm w hw)) (ht.2 x hxm) _ (at_app hi2) es2 ff2 c1 c2 (at_app hj2)) (by simp only [go_sem, Nat.reduceEqDiff, Nat.reduceLT, Nat.reduceAdd, Nat.reduceLeDiff, Nat.reduceMul, Nat.reduceSub, Int.reduceLE, Int.reduceLT, Int.reduceToNat, Int.reducePow, Int.reduceEq, enc_eq]) ?_
        rintro r' M2 ⟨es4, f4, rfl, b1, b2, rfl⟩
        have hadd : IntKind.i64.wrap (((min (1 + Ty.sizeL ((l.take q).map (Ty.sub m))) (most + 1) : Nat) : Int) + ((min (x.sub m).size (most + 1) : Nat) : Int)) = ((min (1 + Ty.sizeL ((l.take q).map (Ty.sub m))) (most + 1) + min (x.sub m).size (most + 1) : Nat) : Int) := by
          rw [wrapI _ (by omega) (by omega)]; omega
        simp only [go_sem, Nat.reduceEqDiff, Nat.reduceLT, Nat.reduceAdd, Nat.reduceLeDiff, Nat.reduceMul, Nat.reduceSub, Int.reduceLE, Int.reduceLT, Int.reduceToNat, Int.reducePow, Int.reduceEq, f2, hadd, hwm, imin]
        (refine WRun.done _ _ (hK _ _ ?_); clear hK)
        (repeat (first | refine W_seq ?_ | refine W_block ?_ | refine W_blk ?_ | refine W_skip ?_ | (refine W_region [] (by rfl) fun K hK => ?_; simp only [go_sem, Nat.reduceEqDiff, Nat.reduceLT, Nat.reduceAdd, Nat.reduceLeDiff, Nat.reduceMul, Nat.reduceSub, Int.reduceLE, Int.reduceLT, Int.reduceToNat, Int.reducePow, Int.reduceEq, f52, hw]; refine WRun.done _ _ (hK _ _ ?_); clear hK)))
        have hx4 := (hx.app [AObj.cells (tcells x)]).upd (y := .map es4) hjl
        refine W_stop ⟨q + 1, ⟨hlt, ?_, ?_, ?_, ?_, ?_, ?_, ?_, es4, f4, hx4, b1, b2⟩, by omega⟩
        · simp only [go_sem, Nat.reduceEqDiff, Nat.reduceLT, Nat.reduceAdd, Nat.reduceLeDiff, Nat.reduceMul, Nat.reduceSub, Int.reduceLE, Int.reduceLT, Int.reduceToNat, Int.reducePow, Int.reduceEq, f0]
        · simp only [go_sem, Nat.reduceEqDiff, Nat.reduceLT, Nat.reduceAdd, Nat.reduceLeDiff, Nat.reduceMul, Nat.reduceSub, Int.reduceLE, Int.reduceLT, Int.reduceToNat, Int.reducePow, Int.reduceEq, f2]
        · simp only [go_sem, Nat.reduceEqDiff, Nat.reduceLT, Nat.reduceAdd, Nat.reduceLeDiff, Nat.reduceMul, Nat.reduceSub, Int.reduceLE, Int.reduceLT, Int.reduceToNat, Int.reducePow, Int.reduceEq, f3]
        · simp only [go_sem, Nat.reduceEqDiff, Nat.reduceLT, Nat.reduceAdd, Nat.reduceLeDiff, Nat.reduceMul, Nat.reduceSub, Int.reduceLE, Int.reduceLT, Int.reduceToNat, Int.reducePow, Int.reduceEq, f50]
        · simp only [go_sem, Nat.reduceEqDiff, Nat.reduceLT, Nat.reduceAdd, Nat.reduceLeDiff, Nat.reduceMul, Nat.reduceSub, Int.reduceLE, Int.reduceLT, Int.reduceToNat, Int.reducePow, Int.reduceEq, f51]
        · simp only [go_sem, Nat.reduceEqDiff, Nat.reduceLT, Nat.reduceAdd, Nat.reduceLeDiff, Nat.reduceMul, Nat.reduceSub, Int.reduceLE, Int.reduceLT, Int.reduceToNat, Int.reducePow, Int.reduceEq]
        · simp only [go_sem, Nat.reduceEqDiff, Nat.reduceLT, Nat.reduceAdd, Nat.reduceLeDiff, Nat.reduceMul, Nat.reduceSub, Int.reduceLE, Int.reduceLT, Int.reduceToNat, Int.reducePow, Int.reduceEq]
          have : min (min (1 + Ty.sizeL ((l.take q).map (Ty.sub m))) (most + 1) + min (x.sub m).size (most + 1)) (most + 1) = min (1 + Ty.sizeL ((l.take (q + 1)).map (Ty.sub m))) (most + 1) := by
            rw [List.take_add_one, hxl, Option.toList_some, List.map_append, List.map_cons, List.map_nil, sizeL_snoc]; omega
          rw [this]
      · have hii : q = l.length := by omega
        subst hii
        rw [List.take_length] at f12
        (repeat (first | refine W_seq ?_ | refine W_block ?_ | refine W_blk ?_ | refine W_skip ?_ | (refine W_region [] (by rfl) fun K hK => ?_; simp only [go_sem, Nat.reduceEqDiff, Nat.reduceLT, Nat.reduceAdd, Nat.reduceLeDiff, Nat.reduceMul, Nat.reduceSub, Int.reduceLE, Int.reduceLT, Int.reduceToNat, Int.reducePow, Int.reduceEq, f51, f52, Int.lt_irrefl]; refine WRun.done _ _ (hK _ _ ?_); clear hK)))
        refine W_cond_false (by simp only [go_sem, Nat.reduceEqDiff, Nat.reduceLT, Nat.reduceAdd, Nat.reduceLeDiff, Nat.reduceMul, Nat.reduceSub, Int.reduceLE, Int.reduceLT, Int.reduceToNat, Int.reducePow, Int.reduceEq]) ?_
        refine W_exit (Qof_code (Qof_stop (Qof_blk_same ?_)))
        (repeat (first | refine W_seq ?_ | refine W_block ?_ | refine W_blk ?_ | refine W_skip ?_ | (refine W_region [] (by rfl) fun K hK => ?_; simp only [go_sem, Nat.reduceEqDiff, Nat.reduceLT, Nat.reduceAdd, Nat.reduceLeDiff, Nat.reduceMul, Nat.reduceSub, Int.reduceLE, Int.reduceLT, Int.reduceToNat, Int.reducePow, Int.reduceEq, f2, f12, hwm, imin]; refine WRun.done _ _ (hK _ _ ?_); clear hK)))
        refine W_ret ?_
        simp only [go_sem, Nat.reduceEqDiff, Nat.reduceLT, Nat.reduceAdd, Nat.reduceLeDiff, Nat.reduceMul, Nat.reduceSub, Int.reduceLE, Int.reduceLT, Int.reduceToNat, Int.reducePow, Int.reduceEq]
        refine ⟨es2, ff2, hx, c1, c2, ?_⟩
        have : min (min (1 + Ty.sizeL (l.map (Ty.sub m))) (most + 1)) (most + 1) = min ((Ty.app g l).sub m).size (most + 1) := by
          rw [sub_app, Ty.size]; omega
        rw [this]
  · rintro v M' ⟨es2, f2, hx, h1, h2, h3⟩
    obtain ⟨L, rfl⟩ := hx.out
    refine ⟨v, M.set j (.map es2), L, rfl, by simp, .inl rfl, by rw [h3]; rfl, fun o ho => ?_, es2, f2, rfl, h1, h2, h3⟩
    rcases List.mem_or_eq_of_mem_set ho with h | h
    · exact .inl h
    · exact .inr (by rw [h]; exact map_ids h1.closed _)
termination_by (Kr, N)

theorem Size_ok {es : List (Value × V)} {s : Nat → Option Ty} {m : Nat → Ty} {r : Nat → Nat} (hs : SMap es s) (hm : Sbs s m r) (most : Nat) (hmost : most ≤ 100000) (i : Nat) (t : Ty) (ht : Ar t) (M : AMem) (hi : M[i]? = some (.map es)) :
    ACalls Tryd.prog 27 [.map i, enc t, V.int (most : Int)] M (fun v M' => v = V.int ((min (t.sub m).size (most + 1) : Nat) : Int) ∧ M' = M) := by
  refine ACalls.shrink (R := fun v M' => v = V.int ((min (t.sub m).size (most + 1) : Nat) : Int) ∧ Ext M M') ?_ ?_
  · refine acalls_enter [.tmp 6] 12 Tryd.func27 rfl rfl rfl (by simp) ?_
    have hil := (List.getElem?_eq_some_iff.1 hi).1
    obtain ⟨Kr, hKr⟩ := max_bound r t.vars
    (repeat (first | refine W_seq ?_ | refine W_block ?_ | refine W_blk ?_ | refine W_skip ?_ | (refine W_region [4] (by rfl) fun K hK => ?_; simp only [go_sem, Nat.reduceEqDiff, Nat.reduceLT, Nat.reduceAdd, Nat.reduceLeDiff, Nat.reduceMul, Nat.reduceSub, Int.reduceLE, Int.reduceLT, Int.reduceToNat, Int.reducePow, Int.reduceEq]; refine WRun.done _ _ (hK _ _ ?_); clear hK)))
    (repeat (first | refine W_seq ?_ | refine W_block ?_ | refine W_blk ?_ | refine W_skip ?_))
    (refine W_region [] (by rfl) fun K hK => ?_; simp only [go_sem, Nat.reduceEqDiff, Nat.reduceLT, Nat.reduceAdd, Nat.reduceLeDiff, Nat.reduceMul, Nat.reduceSub, Int.reduceLE, Int.reduceLT, Int.reduceToNat, Int.reducePow, Int.reduceEq])
    refine ACalls.use (size_ok hs hm most hmost i M.length (by omega) Kr t.size t (Nat.le_refl _) hKr ht (M ++ [AObj.map []]) (at_app hi) [] (fun _ => none) NMap.start (fun v k h => (by cases h)) (at_snoc rfl)) (by simp only [go_sem, Nat.reduceEqDiff, Nat.reduceLT, Nat.reduceAdd, Nat.reduceLeDiff, Nat.reduceMul, Nat.reduceSub, Int.reduceLE, Int.reduceLT, Int.reduceToNat, Int.reducePow, Int.reduceEq, enc_eq]) ?_
    rintro r' M2 ⟨es4, f4, rfl, b1, b2, rfl⟩
    simp only [go_sem, Nat.reduceEqDiff, Nat.reduceLT, Nat.reduceAdd, Nat.reduceLeDiff, Nat.reduceMul, Nat.reduceSub, Int.reduceLE, Int.reduceLT, Int.reduceToNat, Int.reducePow, Int.reduceEq]
    (refine WRun.done _ _ (hK _ _ ?_); clear hK)
    refine W_ret ?_
    simp only [go_sem, Nat.reduceEqDiff, Nat.reduceLT, Nat.reduceAdd, Nat.reduceLeDiff, Nat.reduceMul, Nat.reduceSub, Int.reduceLE, Int.reduceLT, Int.reduceToNat, Int.reducePow, Int.reduceEq]
    exact (Ext.refl M).app _
  · rintro v M' ⟨rfl, hx⟩
    obtain ⟨L, rfl⟩ := hx.out
    exact ⟨_, M, L, rfl, Nat.le_refl _, .inl rfl, rfl, fun o ho => .inl ho, rfl, rfl⟩
theorem SizeInt_ok (i : Nat) : PCalls Tryd.prog 27 [.map i, enc tInt, V.int 5] (V.int 1) := by
  refine pcalls_of rfl fun M => ?_
  refine acalls_enter [.tmp 6] 12 Tryd.func27 rfl rfl rfl (by simp) ?_
  have h36 : ∀ M j, ACalls Tryd.prog 36 [.map i, enc tInt, V.int 5, .map j] M (fun v M' => v = V.int 1 ∧ M' = M) := by
    intro M j
    have := pcalls_of (P := Tryd.prog) (f := 36) (args := [.map i, enc tInt, V.int 5, .map j]) (r := V.int 1) rfl (fun M => by
      refine acalls_enter [.tmp 8] 71 Tryd.func36 rfl rfl rfl (by simp) ?_
      unfold tInt
      have w6 : IntKind.i64.wrap (5 + 1) = 6 := wrapI _ (by omega) (by omega)
      (repeat (first | refine W_seq ?_ | refine W_block ?_ | refine W_blk ?_ | refine W_skip ?_ | (refine W_region [5] (by rfl) fun K hK => ?_; simp only [go_sem, Nat.reduceEqDiff, Nat.reduceLT, Nat.reduceAdd, Nat.reduceLeDiff, Nat.reduceMul, Nat.reduceSub, Int.reduceLE, Int.reduceLT, Int.reduceToNat, Int.reducePow, Int.reduceEq]; refine WRun.done _ _ (hK _ _ ?_); clear hK)))
      refine W_cond_false (by simp only [go_sem, Nat.reduceEqDiff, Nat.reduceLT, Nat.reduceAdd, Nat.reduceLeDiff, Nat.reduceMul, Nat.reduceSub, Int.reduceLE, Int.reduceLT, Int.reduceToNat, Int.reducePow, Int.reduceEq]) ?_
      (repeat (first | refine W_seq ?_ | refine W_block ?_ | refine W_blk ?_ | refine W_skip ?_ | (refine W_region [] (by rfl) fun K hK => ?_; simp only [go_sem, Nat.reduceEqDiff, Nat.reduceLT, Nat.reduceAdd, Nat.reduceLeDiff, Nat.reduceMul, Nat.reduceSub, Int.reduceLE, Int.reduceLT, Int.reduceToNat, Int.reducePow, Int.reduceEq]; refine WRun.done _ _ (hK _ _ ?_); clear hK)))
      refine W_loop (α := Unit) (fun _ F' M' => M' = M ∧ look F' 2 = V.int 5 ∧ look F' 12 = V.int 1 ∧ look F' 51 = V.int 0 ∧ look F' 52 = V.int 0) (fun _ => 0) () ⟨rfl, ?_, ?_, ?_, ?_⟩ ?_
      · simp only [go_sem, Nat.reduceEqDiff, Nat.reduceLT, Nat.reduceAdd, Nat.reduceLeDiff, Nat.reduceMul, Nat.reduceSub, Int.reduceLE, Int.reduceLT, Int.reduceToNat, Int.reducePow, Int.reduceEq]
      · simp only [go_sem, Nat.reduceEqDiff, Nat.reduceLT, Nat.reduceAdd, Nat.reduceLeDiff, Nat.reduceMul, Nat.reduceSub, Int.reduceLE, Int.reduceLT, Int.reduceToNat, Int.reducePow, Int.reduceEq]
      · simp only [go_sem, Nat.reduceEqDiff, Nat.reduceLT, Nat.reduceAdd, Nat.reduceLeDiff, Nat.reduceMul, Nat.reduceSub, Int.reduceLE, Int.reduceLT, Int.reduceToNat, Int.reducePow, Int.reduceEq]
      · simp only [go_sem, Nat.reduceEqDiff, Nat.reduceLT, Nat.reduceAdd, Nat.reduceLeDiff, Nat.reduceMul, Nat.reduceSub, Int.reduceLE, Int.reduceLT, Int.reduceToNat, Int.reducePow, Int.reduceEq]
      rintro _ F' M' ⟨hMM, f2, f12, f51, f52⟩
      subst M'
      (repeat (first | refine W_seq ?_ | refine W_block ?_ | refine W_blk ?_ | refine W_skip ?_ | (refine W_region [] (by rfl) fun K hK => ?_; simp only [go_sem, Nat.reduceEqDiff, Nat.reduceLT, Nat.reduceAdd, Nat.reduceLeDiff, Nat.reduceMul, Nat.reduceSub, Int.reduceLE, Int.reduceLT, Int.reduceToNat, Int.reducePow, Int.reduceEq, f51, f52, Int.lt_irrefl]; refine WRun.done _ _ (hK _ _ ?_); clear hK)))
      refine W_cond_false (by simp only [go_sem, Nat.reduceEqDiff, Nat.reduceLT, Nat.reduceAdd, Nat.reduceLeDiff, Nat.reduceMul, Nat.reduceSub, Int.reduceLE, Int.reduceLT, Int.reduceToNat, Int.reducePow, Int.reduceEq]) ?_
      refine W_exit (Qof_code (Qof_stop (Qof_blk_same ?_)))
      (repeat (first | refine W_seq ?_ | refine W_block ?_ | refine W_blk ?_ | refine W_skip ?_ | (refine W_region [] (by rfl) fun K hK => ?_; simp only [go_sem, Nat.reduceEqDiff, Nat.reduceLT, Nat.reduceAdd, Nat.reduceLeDiff, Nat.reduceMul, Nat.reduceSub, Int.reduceLE, Int.reduceLT, Int.reduceToNat, Int.reducePow, Int.reduceEq, f2, f12, w6]; refine WRun.done _ _ (hK _ _ ?_); clear hK)))
      refine W_ret ?_
      simp only [go_sem, Nat.reduceEqDiff, Nat.reduceLT, Nat.reduceAdd, Nat.reduceLeDiff, Nat.reduceMul, Nat.reduceSub, Int.reduceLE, Int.reduceLT, Int.reduceToNat, Int.reducePow, Int.reduceEq]
      exact ⟨[], by simp⟩)
    exact this M
  (repeat (first | refine W_seq ?_ | refine W_block ?_ | refine W_blk ?_ | refine W_skip ?_ | (refine W_region [4] (by rfl) fun K hK => ?_; simp only [go_sem, Nat.reduceEqDiff, Nat.reduceLT, Nat.reduceAdd, Nat.reduceLeDiff, Nat.reduceMul, Nat.reduceSub, Int.reduceLE, Int.reduceLT, Int.reduceToNat, Int.reducePow, Int.reduceEq]; refine WRun.done _ _ (hK _ _ ?_); clear hK)))
  (repeat (first | refine W_seq ?_ | refine W_block ?_ | refine W_blk ?_ | refine W_skip ?_))
  (refine W_region [] (by rfl) fun K hK => ?_; simp only [go_sem, Nat.reduceEqDiff, Nat.reduceLT, Nat.reduceAdd, Nat.reduceLeDiff, Nat.reduceMul, Nat.reduceSub, Int.reduceLE, Int.reduceLT, Int.reduceToNat, Int.reducePow, Int.reduceEq, tInt])
  refine ACalls.use (h36 (M ++ [AObj.map []]) M.length) (by simp only [go_sem, Nat.reduceEqDiff, Nat.reduceLT, Nat.reduceAdd, Nat.reduceLeDiff, Nat.reduceMul, Nat.reduceSub, Int.reduceLE, Int.reduceLT, Int.reduceToNat, Int.reducePow, Int.reduceEq, tInt, enc_eq]) ?_
  rintro r' M2 ⟨rfl, rfl⟩
  simp only [go_sem, Nat.reduceEqDiff, Nat.reduceLT, Nat.reduceAdd, Nat.reduceLeDiff, Nat.reduceMul, Nat.reduceSub, Int.reduceLE, Int.reduceLT, Int.reduceToNat, Int.reducePow, Int.reduceEq]
  (refine WRun.done _ _ (hK _ _ ?_); clear hK)
  refine W_ret ?_
  simp only [go_sem, Nat.reduceEqDiff, Nat.reduceLT, Nat.reduceAdd, Nat.reduceLeDiff, Nat.reduceMul, Nat.reduceSub, Int.reduceLE, Int.reduceLT, Int.reduceToNat, Int.reducePow, Int.reduceEq]
  exact ⟨_, rfl⟩
end Go.Ax

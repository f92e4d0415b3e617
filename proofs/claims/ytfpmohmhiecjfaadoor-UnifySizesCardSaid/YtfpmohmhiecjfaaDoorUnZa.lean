/- The program's variables of a type. Conditions: none. -/
import Derived.Test.YtfpmohmhiecjfaaDoorUnW
set_option linter.unusedSimpArgs false
set_option linter.unusedVariables false
namespace Go.Ax
open Go.Proofs Go.Uni

def seenB (acc : List Nat) : Nat → Bool := fun v => decide (v ∈ acc)
theorem seen_add {acc : List Nat} {v : Nat} : (fun w => if w = v then true else seenB acc w) = seenB (addV acc v) := by
  funext w
  unfold seenB
  by_cases e : w = v
  · subst e; simp [addV_mem]
  · simp [e, addV_mem]
/-- What is so of the memory while the variables are gathered. -/
structure Gat (n0 i po pm pf : Nat) (M0 M : AMem) (acc : List Nat) : Prop where
  len : n0 ≤ M.length
  out : ∃ tg, TgIn n0 tg M ∧ M[po]? = some (.cells [.list tg (encV acc)])
  map : ∃ es, M[i]? = some (.map es) ∧ Seen es (seenB acc)
  rest : ∀ j, j < n0 → j ≠ i → j ≠ po → M[j]? = M0[j]?
  hi : i < n0
  hpo : po < n0
  hpm : M0[pm]? = some (.cells [.map i])
  hpf : M0[pf]? = some (.cells [.fn 33 [.ptr pm 0, .ptr po 0, .ptr pf 0]])
  lpm : pm < n0
  lpf : pf < n0
  d1 : i ≠ po
  d2 : pm ≠ i
  d3 : pm ≠ po
  d4 : pf ≠ i
  d5 : pf ≠ po
theorem Gat.atpm {n0 i po pm pf : Nat} {M0 M : AMem} {acc : List Nat} (h : Gat n0 i po pm pf M0 M acc) : M[pm]? = some (.cells [.map i]) := (h.rest pm h.lpm h.d2 h.d3).trans h.hpm
theorem Gat.atpf {n0 i po pm pf : Nat} {M0 M : AMem} {acc : List Nat} (h : Gat n0 i po pm pf M0 M acc) : M[pf]? = some (.cells [.fn 33 [.ptr pm 0, .ptr po 0, .ptr pf 0]]) := (h.rest pf h.lpf h.d4 h.d5).trans h.hpf
theorem Gat.app {n0 i po pm pf : Nat} {M0 M : AMem} {acc : List Nat} (h : Gat n0 i po pm pf M0 M acc) (L : AMem) : Gat n0 i po pm pf M0 (M ++ L) acc := by
  obtain ⟨tg, h1, h2⟩ := h.out
  obtain ⟨es, h3, h4⟩ := h.map
  exact ⟨by rw [List.length_append]; have := h.len; omega, ⟨tg, h1.app L, at_app h2⟩, ⟨es, at_app h3, h4⟩, fun j hj a b => by rw [List.getElem?_append_left (Nat.lt_of_lt_of_le hj h.len)]; exact h.rest j hj a b,
    h.hi, h.hpo, h.hpm, h.hpf, h.lpm, h.lpf, h.d1, h.d2, h.d3, h.d4, h.d5⟩

set_option maxHeartbeats 8000000 in
theorem walk_ok (n0 i po pm pf : Nat) (M0 : AMem) : ∀ (N : Nat) (t : Ty), t.size ≤ N → Ar t → VB t → ∀ acc, VOk acc → ∀ M, Gat n0 i po pm pf M0 M acc →
    ACalls Tryd.prog 33 [enc t, .ptr pm 0, .ptr po 0, .ptr pf 0] M (fun v M' => Gat n0 i po pm pf M0 M' (varsF acc t))
  | 0, t, h, _, _, _, _, _, _ => by cases t <;> simp [Ty.size] at h
  | N + 1, t, h, hA, hV, acc, hacc, M, hG => by
    have hal := hacc.len
    refine acalls_enter [] 34 Tryd.func33 rfl rfl rfl (by simp) ?_
    cases t with
    | var v =>
      have h0 : (0 : Int) ≤ (v : Int) := Int.natCast_nonneg v
      obtain ⟨tg, htg, hout⟩ := hG.out
      obtain ⟨es, hmap, hS⟩ := hG.map
      have hgs := hS.get v
      obtain ⟨es3, a1, a2⟩ := hS.put v
      rw [seen_add] at a2
      (repeat (first | refine W_seq ?_ | refine W_block ?_ | refine W_blk ?_ | refine W_skip ?_ | (refine W_region [4] (by rfl) fun K hK => ?_; simp only [go_sem, Nat.reduceEqDiff, Nat.reduceLT, Nat.reduceAdd, Nat.reduceLeDiff, Nat.reduceMul, Nat.reduceSub, Int.reduceLE, Int.reduceLT, Int.reduceToNat, Int.reducePow, Int.reduceEq]; refine WRun.done _ _ (hK _ _ ?_); clear hK)))
      refine W_cond_true (by simp only [go_sem, Nat.reduceEqDiff, Nat.reduceLT, Nat.reduceAdd, Nat.reduceLeDiff, Nat.reduceMul, Nat.reduceSub, Int.reduceLE, Int.reduceLT, Int.reduceToNat, Int.reducePow, Int.reduceEq, h0]) ?_
      by_cases hin : v ∈ acc
      · have hsn : seenB acc v = true := by simp [seenB, hin]
        rw [hsn] at hgs
        (repeat (first | refine W_seq ?_ | refine W_block ?_ | refine W_blk ?_ | refine W_skip ?_ | (refine W_region [] (by rfl) fun K hK => ?_; simp only [go_sem, Nat.reduceEqDiff, Nat.reduceLT, Nat.reduceAdd, Nat.reduceLeDiff, Nat.reduceMul, Nat.reduceSub, Int.reduceLE, Int.reduceLT, Int.reduceToNat, Int.reducePow, Int.reduceEq, hG.atpm, hmap, hgs]; refine WRun.done _ _ (hK _ _ ?_); clear hK)))
        have e1 : addV acc v = acc := if_pos hin
        refine W_cond_false (by simp only [go_sem, Nat.reduceEqDiff, Nat.reduceLT, Nat.reduceAdd, Nat.reduceLeDiff, Nat.reduceMul, Nat.reduceSub, Int.reduceLE, Int.reduceLT, Int.reduceToNat, Int.reducePow, Int.reduceEq]) ?_
        (repeat (first | refine W_seq ?_ | refine W_block ?_ | refine W_blk ?_ | refine W_skip ?_ | (refine W_region [] (by rfl) fun K hK => ?_; simp only [go_sem, Nat.reduceEqDiff, Nat.reduceLT, Nat.reduceAdd, Nat.reduceLeDiff, Nat.reduceMul, Nat.reduceSub, Int.reduceLE, Int.reduceLT, Int.reduceToNat, Int.reducePow, Int.reduceEq, hG.atpm, hmap, a1]; refine WRun.done _ _ (hK _ _ ?_); clear hK)))
        refine W_ret ?_
        simp only [go_sem, Nat.reduceEqDiff, Nat.reduceLT, Nat.reduceAdd, Nat.reduceLeDiff, Nat.reduceMul, Nat.reduceSub, Int.reduceLE, Int.reduceLT, Int.reduceToNat, Int.reducePow, Int.reduceEq]
        rw [varsF, e1]
        rw [e1] at a2
        have hil := (List.getElem?_eq_some_iff.1 hmap).1
        refine ⟨by simpa using hG.len, ⟨tg, htg.upd hmap (by intro e; cases e), by rw [List.getElem?_set_ne hG.d1]; exact hout⟩, ⟨es3, List.getElem?_set_self hil, a2⟩, fun j hj b c => by rw [List.getElem?_set_ne (fun e => b e.symm)]; exact hG.rest j hj b c,
          hG.hi, hG.hpo, hG.hpm, hG.hpf, hG.lpm, hG.lpf, hG.d1, hG.d2, hG.d3, hG.d4, hG.d5⟩
      · have hsn : seenB acc v = false := by simp [seenB, hin]
        rw [hsn] at hgs
        (repeat (first | refine W_seq ?_ | refine W_block ?_ | refine W_blk ?_ | refine W_skip ?_ | (refine W_region [] (by rfl) fun K hK => ?_; simp only [go_sem, Nat.reduceEqDiff, Nat.reduceLT, Nat.reduceAdd, Nat.reduceLeDiff, Nat.reduceMul, Nat.reduceSub, Int.reduceLE, Int.reduceLT, Int.reduceToNat, Int.reducePow, Int.reduceEq, hG.atpm, hmap, hgs]; refine WRun.done _ _ (hK _ _ ?_); clear hK)))
        refine W_cond_true (by simp only [go_sem, Nat.reduceEqDiff, Nat.reduceLT, Nat.reduceAdd, Nat.reduceLeDiff, Nat.reduceMul, Nat.reduceSub, Int.reduceLE, Int.reduceLT, Int.reduceToNat, Int.reducePow, Int.reduceEq]) ?_
        have hle : acc.length ≤ 1073741823 := by omega
        have ho2 := at_app (Y := [AObj.tail]) (dropTag_at htg hout)
        (repeat (first | refine W_seq ?_ | refine W_block ?_ | refine W_blk ?_ | refine W_skip ?_))
        (refine W_region [] (by rfl) fun K hK => ?_; simp only [go_sem, Nat.reduceEqDiff, Nat.reduceLT, Nat.reduceAdd, Nat.reduceLeDiff, Nat.reduceMul, Nat.reduceSub, Int.reduceLE, Int.reduceLT, Int.reduceToNat, Int.reducePow, Int.reduceEq, hout, htg.1, encV_ok, hle, ho2])
        (refine WRun.done _ _ (hK _ _ ?_); clear hK)
        have e1 : addV acc v = acc ++ [v] := if_neg hin
        have e2 : encV acc ++ [V.int (v : Int)] = encV (addV acc v) := by rw [e1, encV_app]; rfl
        rw [e2]
        have hkeep : ∀ j, j < n0 → (dropTag tg M)[j]? = M[j]? := fun j hj => by
          cases tg with
          | own k =>
            have := htg.2 k rfl
            simp only [dropTag]
            rw [List.getElem?_set_ne (by omega)]
          | _ => rfl
        have hln := hG.len
        have hdl : (dropTag tg M).length = M.length := dropTag_length tg M
        have hj3 : ∀ j, j < n0 → j ≠ po → ((dropTag tg M ++ [AObj.tail]).set po (.cells [V.list (.own M.length) (encV (addV acc v))]))[j]? = M[j]? := fun j hj hne => by
          rw [List.getElem?_set_ne (by omega), List.getElem?_append_left (by omega), hkeep j hj]
        have hpm3 := (hj3 pm hG.lpm hG.d3).trans hG.atpm
        have hi3 := (hj3 i hG.hi hG.d1).trans hmap
        have htg3 : TgIn n0 (.own M.length) ((dropTag tg M ++ [AObj.tail]).set po (.cells [V.list (.own M.length) (encV (addV acc v))])) := by
          have := (TgIn.new n0 (dropTag tg M) (by omega)).set (cs' := [V.list (.own M.length) (encV (addV acc v))]) ho2
          rw [dropTag_length] at this
          exact this
        have ho3 : ((dropTag tg M ++ [AObj.tail]).set po (.cells [V.list (.own M.length) (encV (addV acc v))]))[po]? = some (.cells [V.list (.own M.length) (encV (addV acc v))]) := List.getElem?_set_self (List.getElem?_eq_some_iff.1 ho2).1
        have hl3 : n0 ≤ ((dropTag tg M ++ [AObj.tail]).set po (.cells [V.list (.own M.length) (encV (addV acc v))])).length := by simp; omega
        generalize (dropTag tg M ++ [AObj.tail]).set po (.cells [V.list (.own M.length) (encV (addV acc v))]) = M3 at hj3 hpm3 hi3 htg3 ho3 hl3 ⊢
        (repeat (first | refine W_seq ?_ | refine W_block ?_ | refine W_blk ?_ | refine W_skip ?_ | (refine W_region [] (by rfl) fun K hK => ?_; simp only [go_sem, Nat.reduceEqDiff, Nat.reduceLT, Nat.reduceAdd, Nat.reduceLeDiff, Nat.reduceMul, Nat.reduceSub, Int.reduceLE, Int.reduceLT, Int.reduceToNat, Int.reducePow, Int.reduceEq, hpm3, hi3, a1]; refine WRun.done _ _ (hK _ _ ?_); clear hK)))
        refine W_ret ?_
        simp only [go_sem, Nat.reduceEqDiff, Nat.reduceLT, Nat.reduceAdd, Nat.reduceLeDiff, Nat.reduceMul, Nat.reduceSub, Int.reduceLE, Int.reduceLT, Int.reduceToNat, Int.reducePow, Int.reduceEq]
        have hil := (List.getElem?_eq_some_iff.1 hi3).1
        exact ⟨by simpa using hl3, ⟨_, htg3.upd hi3 (by intro e; cases e), by rw [List.getElem?_set_ne hG.d1]; exact ho3⟩, ⟨es3, List.getElem?_set_self hil, a2⟩, fun j hj b c => by rw [List.getElem?_set_ne (fun e => b e.symm), hj3 j hj c]; exact hG.rest j hj b c,
          hG.hi, hG.hpo, hG.hpm, hG.hpf, hG.lpm, hG.lpf, hG.d1, hG.d2, hG.d3, hG.d4, hG.d5⟩
    | app f l =>
      rw [Ar_app] at hA
      (repeat (first | refine W_seq ?_ | refine W_block ?_ | refine W_blk ?_ | refine W_skip ?_ | (refine W_region [4] (by rfl) fun K hK => ?_; simp only [go_sem, Nat.reduceEqDiff, Nat.reduceLT, Nat.reduceAdd, Nat.reduceLeDiff, Nat.reduceMul, Nat.reduceSub, Int.reduceLE, Int.reduceLT, Int.reduceToNat, Int.reducePow, Int.reduceEq]; refine WRun.done _ _ (hK _ _ ?_); clear hK)))
      refine W_cond_false (by simp only [go_sem, Nat.reduceEqDiff, Nat.reduceLT, Nat.reduceAdd, Nat.reduceLeDiff, Nat.reduceMul, Nat.reduceSub, Int.reduceLE, Int.reduceLT, Int.reduceToNat, Int.reducePow, Int.reduceEq]) ?_
      (repeat (first | refine W_seq ?_ | refine W_block ?_ | refine W_blk ?_ | refine W_skip ?_ | (refine W_region [] (by rfl) fun K hK => ?_; simp only [go_sem, Nat.reduceEqDiff, Nat.reduceLT, Nat.reduceAdd, Nat.reduceLeDiff, Nat.reduceMul, Nat.reduceSub, Int.reduceLE, Int.reduceLT, Int.reduceToNat, Int.reducePow, Int.reduceEq]; refine WRun.done _ _ (hK _ _ ?_); clear hK)))
      refine W_loop (α := Nat) (fun q F' M' => q ≤ l.length ∧ look F' 1 = .ptr pm 0 ∧ look F' 2 = .ptr po 0 ∧ look F' 3 = .ptr pf 0 ∧ look F' 24 = .list .dull (encL l) ∧ look F' 25 = V.int l.length ∧ look F' 26 = V.int q ∧ Gat n0 i po pm pf M0 M' (varsFL acc (l.take q)))
        (fun q => l.length - q) 0 ⟨Nat.zero_le _, ?_, ?_, ?_, ?_, ?_, ?_, hG⟩ ?_
      · simp only [go_sem, Nat.reduceEqDiff, Nat.reduceLT, Nat.reduceAdd, Nat.reduceLeDiff, Nat.reduceMul, Nat.reduceSub, Int.reduceLE, Int.reduceLT, Int.reduceToNat, Int.reducePow, Int.reduceEq]
      · simp only [go_sem, Nat.reduceEqDiff, Nat.reduceLT, Nat.reduceAdd, Nat.reduceLeDiff, Nat.reduceMul, Nat.reduceSub, Int.reduceLE, Int.reduceLT, Int.reduceToNat, Int.reducePow, Int.reduceEq]
      · simp only [go_sem, Nat.reduceEqDiff, Nat.reduceLT, Nat.reduceAdd, Nat.reduceLeDiff, Nat.reduceMul, Nat.reduceSub, Int.reduceLE, Int.reduceLT, Int.reduceToNat, Int.reducePow, Int.reduceEq]
      · simp only [go_sem, Nat.reduceEqDiff, Nat.reduceLT, Nat.reduceAdd, Nat.reduceLeDiff, Nat.reduceMul, Nat.reduceSub, Int.reduceLE, Int.reduceLT, Int.reduceToNat, Int.reducePow, Int.reduceEq]
      · simp only [go_sem, Nat.reduceEqDiff, Nat.reduceLT, Nat.reduceAdd, Nat.reduceLeDiff, Nat.reduceMul, Nat.reduceSub, Int.reduceLE, Int.reduceLT, Int.reduceToNat, Int.reducePow, Int.reduceEq]
      · simp only [go_sem, Nat.reduceEqDiff, Nat.reduceLT, Nat.reduceAdd, Nat.reduceLeDiff, Nat.reduceMul, Nat.reduceSub, Int.reduceLE, Int.reduceLT, Int.reduceToNat, Int.reducePow, Int.reduceEq]
      rintro q F' M' ⟨hq, f1, f2, f3, f24, f25, f26, hG⟩
      by_cases hlt : q < l.length
      · have hlt' : (q : Int) < (l.length : Int) := by omega
        have hw : IntKind.i64.wrap ((q : Int) + 1) = ((q + 1 : Nat) : Int) := by rw [wrapI _ (by omega) (by omega)]; omega
        obtain ⟨x, hxl⟩ : ∃ x, l[q]? = some x := ⟨l[q], by simp [hlt]⟩
        have hxm : x ∈ l := List.mem_of_getElem? hxl
        have hat := encL_at hxl
        (repeat (first | refine W_seq ?_ | refine W_block ?_ | refine W_blk ?_ | refine W_skip ?_ | (refine W_region [] (by rfl) fun K hK => ?_; simp only [go_sem, Nat.reduceEqDiff, Nat.reduceLT, Nat.reduceAdd, Nat.reduceLeDiff, Nat.reduceMul, Nat.reduceSub, Int.reduceLE, Int.reduceLT, Int.reduceToNat, Int.reducePow, Int.reduceEq, f25, f26, hlt']; refine WRun.done _ _ (hK _ _ ?_); clear hK)))
        refine W_cond_true (by simp only [go_sem, Nat.reduceEqDiff, Nat.reduceLT, Nat.reduceAdd, Nat.reduceLeDiff, Nat.reduceMul, Nat.reduceSub, Int.reduceLE, Int.reduceLT, Int.reduceToNat, Int.reducePow, Int.reduceEq]) ?_
        have hG2 := hG.app [AObj.cells (tcells x)]
        (repeat (first | refine W_seq ?_ | refine W_block ?_ | refine W_blk ?_ | refine W_skip ?_))
        (refine W_region [] (by rfl) fun K hK => ?_; simp only [go_sem, Nat.reduceEqDiff, Nat.reduceLT, Nat.reduceAdd, Nat.reduceLeDiff, Nat.reduceMul, Nat.reduceSub, Int.reduceLE, Int.reduceLT, Int.reduceToNat, Int.reducePow, Int.reduceEq, f24, f26, hat, Int.natCast_nonneg, Int.toNat_natCast])
        (refine WRun.done _ _ (hK _ _ ?_); clear hK)
        (repeat (first | refine W_seq ?_ | refine W_block ?_ | refine W_blk ?_ | refine W_skip ?_))
        (refine W_region [] (by rfl) fun K hK => ?_; simp only [go_sem, Nat.reduceEqDiff, Nat.reduceLT, Nat.reduceAdd, Nat.reduceLeDiff, Nat.reduceMul, Nat.reduceSub, Int.reduceLE, Int.reduceLT, Int.reduceToNat, Int.reducePow, Int.reduceEq, f3, hG2.atpf])
        refine ACalls.use (walk_ok n0 i po pm pf M0 N x (by have := app_size (f := f) hxm; omega) (hA.2 x hxm) (hV.arg hxm) _ (hacc.varsL fun y hy => hV.arg (List.mem_of_mem_take hy)) _ hG2) (by simp only [go_sem, Nat.reduceEqDiff, Nat.reduceLT, Nat.reduceAdd, Nat.reduceLeDiff, Nat.reduceMul, Nat.reduceSub, Int.reduceLE, Int.reduceLT, Int.reduceToNat, Int.reducePow, Int.reduceEq, enc_eq]) ?_
        intro r M2 hG3
        simp only [go_sem, Nat.reduceEqDiff, Nat.reduceLT, Nat.reduceAdd, Nat.reduceLeDiff, Nat.reduceMul, Nat.reduceSub, Int.reduceLE, Int.reduceLT, Int.reduceToNat, Int.reducePow, Int.reduceEq]
        (refine WRun.done _ _ (hK _ _ ?_); clear hK)
        (repeat (first | refine W_seq ?_ | refine W_block ?_ | refine W_blk ?_ | refine W_skip ?_ | (refine W_region [] (by rfl) fun K hK => ?_; simp only [go_sem, Nat.reduceEqDiff, Nat.reduceLT, Nat.reduceAdd, Nat.reduceLeDiff, Nat.reduceMul, Nat.reduceSub, Int.reduceLE, Int.reduceLT, Int.reduceToNat, Int.reducePow, Int.reduceEq, f26, hw]; refine WRun.done _ _ (hK _ _ ?_); clear hK)))
        refine W_stop ⟨q + 1, ⟨hlt, ?_, ?_, ?_, ?_, ?_, ?_, ?_⟩, by omega⟩
        · simp only [go_sem, Nat.reduceEqDiff, Nat.reduceLT, Nat.reduceAdd, Nat.reduceLeDiff, Nat.reduceMul, Nat.reduceSub, Int.reduceLE, Int.reduceLT, Int.reduceToNat, Int.reducePow, Int.reduceEq, f1]
        · simp only [go_sem, Nat.reduceEqDiff, Nat.reduceLT, Nat.reduceAdd, Nat.reduceLeDiff, Nat.reduceMul, Nat.reduceSub, Int.reduceLE, Int.reduceLT, Int.reduceToNat, Int.reducePow, Int.reduceEq, f2]
        · simp only [go_sem, Nat.reduceEqDiff, Nat.reduceLT, Nat.reduceAdd, Nat.reduceLeDiff, Nat.reduceMul, Nat.reduceSub, Int.reduceLE, Int.reduceLT, Int.reduceToNat, Int.reducePow, Int.reduceEq, f3]
        · simp only [go_sem, Nat.reduceEqDiff, Nat.reduceLT, Nat.reduceAdd, Nat.reduceLeDiff, Nat.reduceMul, Nat.reduceSub, Int.reduceLE, Int.reduceLT, Int.reduceToNat, Int.reducePow, Int.reduceEq, f24]
        · simp only [go_sem, Nat.reduceEqDiff, Nat.reduceLT, Nat.reduceAdd, Nat.reduceLeDiff, Nat.reduceMul, Nat.reduceSub, Int.reduceLE, Int.reduceLT, Int.reduceToNat, Int.reducePow, Int.reduceEq, f25]
        · simp only [go_sem, Nat.reduceEqDiff, Nat.reduceLT, Nat.reduceAdd, Nat.reduceLeDiff, Nat.reduceMul, Nat.reduceSub, Int.reduceLE, Int.reduceLT, Int.reduceToNat, Int.reducePow, Int.reduceEq]
        · rw [List.take_add_one, hxl, Option.toList_some, varsFL_snoc]; exact hG3
      · have hii : q = l.length := by omega
        subst hii
        (repeat (first | refine W_seq ?_ | refine W_block ?_ | refine W_blk ?_ | refine W_skip ?_ | (refine W_region [] (by rfl) fun K hK => ?_; simp only [go_sem, Nat.reduceEqDiff, Nat.reduceLT, Nat.reduceAdd, Nat.reduceLeDiff, Nat.reduceMul, Nat.reduceSub, Int.reduceLE, Int.reduceLT, Int.reduceToNat, Int.reducePow, Int.reduceEq, f25, f26, Int.lt_irrefl]; refine WRun.done _ _ (hK _ _ ?_); clear hK)))
        refine W_cond_false (by simp only [go_sem, Nat.reduceEqDiff, Nat.reduceLT, Nat.reduceAdd, Nat.reduceLeDiff, Nat.reduceMul, Nat.reduceSub, Int.reduceLE, Int.reduceLT, Int.reduceToNat, Int.reducePow, Int.reduceEq]) ?_
        refine W_exit (Qof_code (Qof_stop (Qof_blk_same ?_)))
        refine W_nil ?_
        simp only [go_sem, Nat.reduceEqDiff, Nat.reduceLT, Nat.reduceAdd, Nat.reduceLeDiff, Nat.reduceMul, Nat.reduceSub, Int.reduceLE, Int.reduceLT, Int.reduceToNat, Int.reducePow, Int.reduceEq]
        rw [varsF]
        rw [List.take_length] at hG
        exact hG

set_option maxHeartbeats 8000000 in
theorem uvars_ok (t : Ty) (hA : Ar t) (hV : VB t) : PCalls Tryd.prog 23 [enc t] (.list .dull (encV (varsF [] t))) := by
  refine pcalls_of (by simp only [V.closed, encV_closed]; rfl) fun M => ?_
  refine acalls_enter [.tmp 2] 12 Tryd.func23 rfl rfl rfl (by simp) ?_
  (repeat (first | refine W_seq ?_ | refine W_block ?_ | refine W_blk ?_ | refine W_skip ?_ | (refine W_region [1] (by rfl) fun K hK => ?_; simp only [go_sem, Nat.reduceEqDiff, Nat.reduceLT, Nat.reduceAdd, Nat.reduceLeDiff, Nat.reduceMul, Nat.reduceSub, Int.reduceLE, Int.reduceLT, Int.reduceToNat, Int.reducePow, Int.reduceEq]; refine WRun.done _ _ (hK _ _ ?_); clear hK)))
  obtain ⟨M0, hM0⟩ : ∃ M0, M0 = M ++ [AObj.cells [V.list Tag.full []]] ++ [AObj.map []] ++ [AObj.cells [V.map (List.length M + 1)]] ++
      [AObj.cells [V.fn 33 [V.ptr (List.length M + 1 + 1) 0, V.ptr (List.length M) 0, V.ptr (List.length M + 1 + 1 + 1) 0]]] := ⟨_, rfl⟩
  have hl0 : M0.length = M.length + 4 := by rw [hM0]; simp
  have hx0 : Ext M M0 := by rw [hM0]; exact ((((Ext.refl M).app _).app _).app _).app _
  have h0 : M0[M.length]? = some (.cells [V.list Tag.full []]) := by rw [hM0]; exact at_app (at_app (at_app (at_snoc rfl)))
  have h1 : M0[M.length + 1]? = some (.map []) := by rw [hM0]; exact at_app (at_app (at_snoc (by simp)))
  have h2 : M0[M.length + 1 + 1]? = some (.cells [V.map (M.length + 1)]) := by rw [hM0]; exact at_app (at_snoc (by simp))
  have h3 : M0[M.length + 1 + 1 + 1]? = some (.cells [V.fn 33 [V.ptr (List.length M + 1 + 1) 0, V.ptr (List.length M) 0, V.ptr (List.length M + 1 + 1 + 1) 0]]) := by rw [hM0]; exact at_snoc (by simp)
  have hG : Gat (M.length + 4) (M.length + 1) M.length (M.length + 1 + 1) (M.length + 1 + 1 + 1) M0 M0 [] :=
    ⟨by omega, ⟨.full, .full _ _, h0⟩, ⟨[], h1, Seen.start⟩, fun _ _ _ _ => rfl, by omega, by omega, h2, h3, by omega, by omega, by omega, by omega, by omega, by omega, by omega⟩
  rw [← hM0]
  (repeat (first | refine W_seq ?_ | refine W_block ?_ | refine W_blk ?_ | refine W_skip ?_))
  (refine W_region [] (by rfl) fun K hK => ?_; simp only [go_sem, Nat.reduceEqDiff, Nat.reduceLT, Nat.reduceAdd, Nat.reduceLeDiff, Nat.reduceMul, Nat.reduceSub, Int.reduceLE, Int.reduceLT, Int.reduceToNat, Int.reducePow, Int.reduceEq, h3])
  refine ACalls.use (walk_ok _ _ _ _ _ M0 _ t (Nat.le_refl _) hA hV [] VOk.nil M0 hG) (by simp only [go_sem, Nat.reduceEqDiff, Nat.reduceLT, Nat.reduceAdd, Nat.reduceLeDiff, Nat.reduceMul, Nat.reduceSub, Int.reduceLE, Int.reduceLT, Int.reduceToNat, Int.reducePow, Int.reduceEq, enc_eq]) ?_
  intro r M2 hG3
  obtain ⟨tg, _, hout⟩ := hG3.out
  simp only [go_sem, Nat.reduceEqDiff, Nat.reduceLT, Nat.reduceAdd, Nat.reduceLeDiff, Nat.reduceMul, Nat.reduceSub, Int.reduceLE, Int.reduceLT, Int.reduceToNat, Int.reducePow, Int.reduceEq]
  (refine WRun.done _ _ (hK _ _ ?_); clear hK)
  (repeat (first | refine W_seq ?_ | refine W_block ?_ | refine W_blk ?_ | refine W_skip ?_ | (refine W_region [] (by rfl) fun K hK => ?_; simp only [go_sem, Nat.reduceEqDiff, Nat.reduceLT, Nat.reduceAdd, Nat.reduceLeDiff, Nat.reduceMul, Nat.reduceSub, Int.reduceLE, Int.reduceLT, Int.reduceToNat, Int.reducePow, Int.reduceEq, hout]; refine WRun.done _ _ (hK _ _ ?_); clear hK)))
  refine W_ret ?_
  simp only [go_sem, Nat.reduceEqDiff, Nat.reduceLT, Nat.reduceAdd, Nat.reduceLeDiff, Nat.reduceMul, Nat.reduceSub, Int.reduceLE, Int.reduceLT, Int.reduceToNat, Int.reducePow, Int.reduceEq]
  refine (Ext.out (M := M) ⟨by have := hG3.len; omega, fun j hj => ?_⟩)
  rw [hG3.rest j (by omega) (by omega) (by omega)]
  exact hx0.2 j hj

/-- What numbers the variables have. -/
structure NMap (es : List (Value × V)) (f : Nat → Option Nat) : Prop where
  get : ∀ n : Nat, aget es (.int .i64 (n : Int)) = some ((f n).map fun k => V.int (k : Int))
  closed : ∀ p ∈ es, p.2.closed = true
  keys : ∀ p ∈ es, ∃ k : Int, p.1 = .int .i64 k
theorem NMap.start : NMap [] (fun _ => none) := ⟨fun _ => rfl, fun _ h => (by cases h), fun _ h => (by cases h)⟩
theorem NMap.put {es : List (Value × V)} {f : Nat → Option Nat} (h : NMap es f) (n k : Nat) : ∃ es', aput es (.int .i64 (n : Int)) (V.int (k : Int)) = some es' ∧ NMap es' (fun v => if v = n then some k else f v) := by
  obtain ⟨es', h1, h2, h3, h4⟩ := aput_get h.keys (n : Int) (V.int (k : Int))
  refine ⟨es', h1, fun j => ?_, fun p hp => ?_, h2⟩
  · rw [h4, h.get]
    by_cases hk : j = n
    · subst hk; simp
    · have : ¬ (j : Int) = (n : Int) := by omega
      simp [hk, this]
  · rcases h3 p hp with h5 | h5
    · exact h.closed p h5
    · rw [h5]; rfl

set_option maxHeartbeats 8000000 in
theorem rename_ok (i : Nat) (es : List (Value × V)) (f : Nat → Option Nat) (hf : NMap es f) : ∀ (N : Nat) (t : Ty), t.size ≤ N → Ar t → (∀ v ∈ t.vars, (f v).isSome = true) → ∀ M, M[i]? = some (.map es) →
    ACalls Tryd.prog 34 [enc t, .map i] M (fun v M' => v = enc (t.sub fun w => .var ((f w).getD 0)) ∧ M' = M)
  | 0, t, h, _, _, _, _ => by cases t <;> simp [Ty.size] at h
  | N + 1, t, h, hA, hF, M, hi => by
    refine ACalls.shrink (R := fun v M' => Ext M M' ∧ v.un = enc (t.sub fun w => .var ((f w).getD 0))) ?_ ?_
    · refine acalls_enter [.cell 4 30] 36 Tryd.func34 rfl rfl rfl (by simp) ?_
      have hil := (List.getElem?_eq_some_iff.1 hi).1
      cases t with
      | var v =>
        have h0 : (0 : Int) ≤ (v : Int) := Int.natCast_nonneg v
        have hg := hf.get v
        obtain ⟨k, hk⟩ := Option.isSome_iff_exists.1 (hF v (by simp [Ty.vars]))
        rw [hk] at hg
        have hi2 := at_app (Y := [AObj.cells [V.int 0, V.str ⟨#[]⟩, V.list Tag.full []]]) hi
        (repeat (first | refine W_seq ?_ | refine W_block ?_ | refine W_blk ?_ | refine W_skip ?_ | (refine W_region [2] (by rfl) fun K hK => ?_; simp only [go_sem, Nat.reduceEqDiff, Nat.reduceLT, Nat.reduceAdd, Nat.reduceLeDiff, Nat.reduceMul, Nat.reduceSub, Int.reduceLE, Int.reduceLT, Int.reduceToNat, Int.reducePow, Int.reduceEq]; refine WRun.done _ _ (hK _ _ ?_); clear hK)))
        refine W_cond_true (by simp only [go_sem, Nat.reduceEqDiff, Nat.reduceLT, Nat.reduceAdd, Nat.reduceLeDiff, Nat.reduceMul, Nat.reduceSub, Int.reduceLE, Int.reduceLT, Int.reduceToNat, Int.reducePow, Int.reduceEq, h0]) ?_
        (repeat (first | refine W_seq ?_ | refine W_block ?_ | refine W_blk ?_ | refine W_skip ?_))
        (refine W_region [] (by rfl) fun K hK => ?_; simp only [go_sem, Nat.reduceEqDiff, Nat.reduceLT, Nat.reduceAdd, Nat.reduceLeDiff, Nat.reduceMul, Nat.reduceSub, Int.reduceLE, Int.reduceLT, Int.reduceToNat, Int.reducePow, Int.reduceEq, hi2, hg])
        refine PCalls.use (var_ok (k : Int) (.var k) rfl (by simp)) (by simp only [go_sem, Nat.reduceEqDiff, Nat.reduceLT, Nat.reduceAdd, Nat.reduceLeDiff, Nat.reduceMul, Nat.reduceSub, Int.reduceLE, Int.reduceLT, Int.reduceToNat, Int.reducePow, Int.reduceEq]) ?_
        simp only [go_sem, Nat.reduceEqDiff, Nat.reduceLT, Nat.reduceAdd, Nat.reduceLeDiff, Nat.reduceMul, Nat.reduceSub, Int.reduceLE, Int.reduceLT, Int.reduceToNat, Int.reducePow, Int.reduceEq]
        (refine WRun.done _ _ (hK _ _ ?_); clear hK)
        refine W_ret ?_
        simp only [go_sem, Nat.reduceEqDiff, Nat.reduceLT, Nat.reduceAdd, Nat.reduceLeDiff, Nat.reduceMul, Nat.reduceSub, Int.reduceLE, Int.reduceLT, Int.reduceToNat, Int.reducePow, Int.reduceEq]
        exact ⟨(Ext.refl M).app _, by rw [Ty.sub, hk]; rfl⟩
      | app g l =>
        rw [Ar_app] at hA
        have hFl : ∀ x ∈ l, ∀ v ∈ x.vars, (f v).isSome = true := fun x hx v hv => hF v (Ty.mem_varsL.2 ⟨x, hx, hv⟩)
        (repeat (first | refine W_seq ?_ | refine W_block ?_ | refine W_blk ?_ | refine W_skip ?_ | (refine W_region [2] (by rfl) fun K hK => ?_; simp only [go_sem, Nat.reduceEqDiff, Nat.reduceLT, Nat.reduceAdd, Nat.reduceLeDiff, Nat.reduceMul, Nat.reduceSub, Int.reduceLE, Int.reduceLT, Int.reduceToNat, Int.reducePow, Int.reduceEq]; refine WRun.done _ _ (hK _ _ ?_); clear hK)))
        refine W_cond_false (by simp only [go_sem, Nat.reduceEqDiff, Nat.reduceLT, Nat.reduceAdd, Nat.reduceLeDiff, Nat.reduceMul, Nat.reduceSub, Int.reduceLE, Int.reduceLT, Int.reduceToNat, Int.reducePow, Int.reduceEq]) ?_
        (repeat (first | refine W_seq ?_ | refine W_block ?_ | refine W_blk ?_ | refine W_skip ?_ | (refine W_region [] (by rfl) fun K hK => ?_; simp only [go_sem, Nat.reduceEqDiff, Nat.reduceLT, Nat.reduceAdd, Nat.reduceLeDiff, Nat.reduceMul, Nat.reduceSub, Int.reduceLE, Int.reduceLT, Int.reduceToNat, Int.reducePow, Int.reduceEq]; refine WRun.done _ _ (hK _ _ ?_); clear hK)))
        have hx0 : Ext M (M ++ [AObj.cells [V.int 0, V.str ⟨#[]⟩, V.list Tag.full []]] ++ [AObj.cells [V.int (-1), V.str g, V.list Tag.full []]]) := ((Ext.refl M).app _).app _
        refine W_loop (α := Nat) (fun j F'' M'' => j ≤ l.length ∧ look F'' 1 = .map i ∧ look F'' 4 = .ptr M.length 0 ∧ look F'' 5 = .ptr (M.length + 1) 0 ∧ look F'' 20 = .list .dull (encL l) ∧ look F'' 21 = V.int l.length ∧ look F'' 22 = V.int j ∧ (∃ a b c, M''[M.length]? = some (.cells [a, b, c])) ∧
          Ext M M'' ∧ ∃ tg, TgIn M.length tg M'' ∧ M''[M.length + 1]? = some (.cells [V.int (-1), V.str g, .list tg (encL ((l.take j).map (Ty.sub fun w => .var ((f w).getD 0))))])) (fun j => l.length - j) 0 ⟨Nat.zero_le _, ?_, ?_, ?_, ?_, ?_, ?_, ⟨V.int 0, V.str ⟨#[]⟩, V.list Tag.full [], at_app (at_snoc rfl)⟩, hx0, .full, .full _ _, ?_⟩ ?_
        · simp only [go_sem, Nat.reduceEqDiff, Nat.reduceLT, Nat.reduceAdd, Nat.reduceLeDiff, Nat.reduceMul, Nat.reduceSub, Int.reduceLE, Int.reduceLT, Int.reduceToNat, Int.reducePow, Int.reduceEq]
        · simp only [go_sem, Nat.reduceEqDiff, Nat.reduceLT, Nat.reduceAdd, Nat.reduceLeDiff, Nat.reduceMul, Nat.reduceSub, Int.reduceLE, Int.reduceLT, Int.reduceToNat, Int.reducePow, Int.reduceEq]
        · simp only [go_sem, Nat.reduceEqDiff, Nat.reduceLT, Nat.reduceAdd, Nat.reduceLeDiff, Nat.reduceMul, Nat.reduceSub, Int.reduceLE, Int.reduceLT, Int.reduceToNat, Int.reducePow, Int.reduceEq]
        · simp only [go_sem, Nat.reduceEqDiff, Nat.reduceLT, Nat.reduceAdd, Nat.reduceLeDiff, Nat.reduceMul, Nat.reduceSub, Int.reduceLE, Int.reduceLT, Int.reduceToNat, Int.reducePow, Int.reduceEq]
        · simp only [go_sem, Nat.reduceEqDiff, Nat.reduceLT, Nat.reduceAdd, Nat.reduceLeDiff, Nat.reduceMul, Nat.reduceSub, Int.reduceLE, Int.reduceLT, Int.reduceToNat, Int.reducePow, Int.reduceEq]
        · simp only [go_sem, Nat.reduceEqDiff, Nat.reduceLT, Nat.reduceAdd, Nat.reduceLeDiff, Nat.reduceMul, Nat.reduceSub, Int.reduceLE, Int.reduceLT, Int.reduceToNat, Int.reducePow, Int.reduceEq]
        · exact at_snoc (by simp)
        rintro j F'' M'' ⟨hj, g1, g4, g5, g20, g21, g22, ⟨a, b, c, k4⟩, hx2, tg, htg, ho⟩
        by_cases hlt : j < l.length
        · have hlt' : (j : Int) < (l.length : Int) := by omega
          have hw : IntKind.i64.wrap ((j : Int) + 1) = ((j + 1 : Nat) : Int) := by rw [wrapI _ (by omega) (by omega)]; omega
          obtain ⟨x, hxl⟩ : ∃ x, l[j]? = some x := ⟨l[j], by simp [hlt]⟩
          have hxm : x ∈ l := List.mem_of_getElem? hxl
          have hat := encL_at hxl
          (repeat (first | refine W_seq ?_ | refine W_block ?_ | refine W_blk ?_ | refine W_skip ?_ | (refine W_region [] (by rfl) fun K hK => ?_; simp only [go_sem, Nat.reduceEqDiff, Nat.reduceLT, Nat.reduceAdd, Nat.reduceLeDiff, Nat.reduceMul, Nat.reduceSub, Int.reduceLE, Int.reduceLT, Int.reduceToNat, Int.reducePow, Int.reduceEq, g21, g22, hlt']; refine WRun.done _ _ (hK _ _ ?_); clear hK)))
          refine W_cond_true (by simp only [go_sem, Nat.reduceEqDiff, Nat.reduceLT, Nat.reduceAdd, Nat.reduceLeDiff, Nat.reduceMul, Nat.reduceSub, Int.reduceLE, Int.reduceLT, Int.reduceToNat, Int.reducePow, Int.reduceEq]) ?_
          (repeat (first | refine W_seq ?_ | refine W_block ?_ | refine W_blk ?_ | refine W_skip ?_ | (refine W_region [] (by rfl) fun K hK => ?_; simp only [go_sem, Nat.reduceEqDiff, Nat.reduceLT, Nat.reduceAdd, Nat.reduceLeDiff, Nat.reduceMul, Nat.reduceSub, Int.reduceLE, Int.reduceLT, Int.reduceToNat, Int.reducePow, Int.reduceEq, g20, g22, hat, Int.natCast_nonneg, Int.toNat_natCast]; refine WRun.done _ _ (hK _ _ ?_); clear hK)))
          have ho2 := at_app (Y := [AObj.cells (tcells x)]) ho
          have hx3 := hx2.app [AObj.cells (tcells x)]
          have htg3 := htg.app [AObj.cells (tcells x)]
          have hn3 : (M'' ++ [AObj.cells (tcells x)])[M''.length]? = some (AObj.cells (tcells x)) := at_snoc rfl
          have k43 := at_app (Y := [AObj.cells (tcells x)]) k4
          generalize hM3 : M'' ++ [AObj.cells (tcells x)] = M3 at ho2 hx3 htg3 hn3 k43 ⊢
          generalize hq : M''.length = q at hn3 ⊢
          have hi3 : M3[i]? = some (.map es) := by rw [hx3.2 i hil]; exact hi
          (refine W_draw [] (fun X => X[M.length + 1]? = some (.cells [V.int (-1), V.str g, .list tg (encL ((l.take j).map (Ty.sub fun w => .var ((f w).getD 0))))]) ∧ X[q]? = some (AObj.cells (tcells x))) mixed_ (by rfl) ?_ fun K hK => ?_)
          · exact ⟨ho2, hn3⟩
          (refine DR_quiet [0, 1, 2, 3] (by decide +kernel) (fun M_ hS_ => ?_) (fun K2 hK2 => ?_); (focus (simp only [go_sem, Nat.reduceEqDiff, Nat.reduceLT, Nat.reduceAdd, Nat.reduceLeDiff, Nat.reduceMul, Nat.reduceSub, Int.reduceLE, Int.reduceLT, Int.reduceToNat, Int.reducePow, Int.reduceEq, hS_, ho2, hn3, g1, g5])); simp only [go_sem, Nat.reduceEqDiff, Nat.reduceLT, Nat.reduceAdd, Nat.reduceLeDiff, Nat.reduceMul, Nat.reduceSub, Int.reduceLE, Int.reduceLT, Int.reduceToNat, Int.reducePow, Int.reduceEq, ho2, hn3, g1, g5]; refine hK2 _ ?_; clear hK2)
          (refine DR_sole' 4 (by decide +kernel) (by simp only [go_sem, Nat.reduceEqDiff, Nat.reduceLT, Nat.reduceAdd, Nat.reduceLeDiff, Nat.reduceMul, Nat.reduceSub, Int.reduceLE, Int.reduceLT, Int.reduceToNat, Int.reducePow, Int.reduceEq]) ?_; simp only [go_sem, Nat.reduceEqDiff, Nat.reduceLT, Nat.reduceAdd, Nat.reduceLeDiff, Nat.reduceMul, Nat.reduceSub, Int.reduceLE, Int.reduceLT, Int.reduceToNat, Int.reducePow, Int.reduceEq])
          refine ACalls.at (rename_ok i es f hf N x (by have := app_size (f := g) hxm; omega) (hA.2 x hxm) (hFl x hxm) M3 hi3) (by simp only [go_sem, Nat.reduceEqDiff, Nat.reduceLT, Nat.reduceAdd, Nat.reduceLeDiff, Nat.reduceMul, Nat.reduceSub, Int.reduceLE, Int.reduceLT, Int.reduceToNat, Int.reducePow, Int.reduceEq, enc_eq]) ?_
          rintro v Mv ⟨rfl, hMv⟩
          subst Mv
          refine ⟨⟨ho2, hn3⟩, ?_⟩
          (refine DR_quiet [5] (by decide +kernel) (fun M_ hS_ => ?_) (fun K2 hK2 => ?_); (focus (simp only [go_sem, Nat.reduceEqDiff, Nat.reduceLT, Nat.reduceAdd, Nat.reduceLeDiff, Nat.reduceMul, Nat.reduceSub, Int.reduceLE, Int.reduceLT, Int.reduceToNat, Int.reducePow, Int.reduceEq, hS_])); simp only [go_sem, Nat.reduceEqDiff, Nat.reduceLT, Nat.reduceAdd, Nat.reduceLeDiff, Nat.reduceMul, Nat.reduceSub, Int.reduceLE, Int.reduceLT, Int.reduceToNat, Int.reducePow, Int.reduceEq]; refine hK2 _ ?_; clear hK2)
          have hle : (l.take j).length ≤ 1073741823 := by rw [List.length_take]; omega
          (refine DR_sole' 6 (by decide +kernel) (by simp only [go_sem, Nat.reduceEqDiff, Nat.reduceLT, Nat.reduceAdd, Nat.reduceLeDiff, Nat.reduceMul, Nat.reduceSub, Int.reduceLE, Int.reduceLT, Int.reduceToNat, Int.reducePow, Int.reduceEq, htg3.1, encL_ok', hle]) ?_; simp only [go_sem, Nat.reduceEqDiff, Nat.reduceLT, Nat.reduceAdd, Nat.reduceLeDiff, Nat.reduceMul, Nat.reduceSub, Int.reduceLE, Int.reduceLT, Int.reduceToNat, Int.reducePow, Int.reduceEq, htg3.1, encL_ok', hle])
          have ho4 := at_app (Y := [AObj.tail]) (dropTag_at htg3 ho2)
          have hn4 := at_app (Y := [AObj.tail]) (dropTag_at htg3 hn3)
          refine ⟨⟨ho4, hn4⟩, ?_⟩
          (refine DR_quiet [7] (by decide +kernel) (fun M_ hS_ => ?_) (fun K2 hK2 => ?_); (focus (simp only [go_sem, Nat.reduceEqDiff, Nat.reduceLT, Nat.reduceAdd, Nat.reduceLeDiff, Nat.reduceMul, Nat.reduceSub, Int.reduceLE, Int.reduceLT, Int.reduceToNat, Int.reducePow, Int.reduceEq, hS_, g5])); simp only [go_sem, Nat.reduceEqDiff, Nat.reduceLT, Nat.reduceAdd, Nat.reduceLeDiff, Nat.reduceMul, Nat.reduceSub, Int.reduceLE, Int.reduceLT, Int.reduceToNat, Int.reducePow, Int.reduceEq, g5]; refine hK2 _ ?_; clear hK2)
          (refine DR_last' 8 (by decide +kernel) (by decide +kernel) (by decide +kernel) (by simp only [go_sem, Nat.reduceEqDiff, Nat.reduceLT, Nat.reduceAdd, Nat.reduceLeDiff, Nat.reduceMul, Nat.reduceSub, Int.reduceLE, Int.reduceLT, Int.reduceToNat, Int.reducePow, Int.reduceEq, ho4]) ?_; simp only [go_sem, Nat.reduceEqDiff, Nat.reduceLT, Nat.reduceAdd, Nat.reduceLeDiff, Nat.reduceMul, Nat.reduceSub, Int.reduceLE, Int.reduceLT, Int.reduceToNat, Int.reducePow, Int.reduceEq, ho4]; refine hK _ _ ?_; clear hK)
          (repeat (first | refine W_seq ?_ | refine W_block ?_ | refine W_blk ?_ | refine W_skip ?_ | (refine W_region [] (by rfl) fun K hK => ?_; simp only [go_sem, Nat.reduceEqDiff, Nat.reduceLT, Nat.reduceAdd, Nat.reduceLeDiff, Nat.reduceMul, Nat.reduceSub, Int.reduceLE, Int.reduceLT, Int.reduceToNat, Int.reducePow, Int.reduceEq, g22, hw]; refine WRun.done _ _ (hK _ _ ?_); clear hK)))
          have hx5 := ((dropTag_ext hx3 htg3).app [AObj.tail]).set (k := M.length + 1) (by omega) (.cells [V.int (-1), V.str g, .list (.own M3.length) (encL ((l.take j).map (Ty.sub fun w => .var ((f w).getD 0))) ++ [enc (x.sub fun w => .var ((f w).getD 0))])])
          refine W_stop ⟨j + 1, ⟨hlt, ?_, ?_, ?_, ?_, ?_, ?_, ⟨a, b, c, ?_⟩, hx5, .own M3.length, ?_, ?_⟩, by omega⟩
          · simp only [go_sem, Nat.reduceEqDiff, Nat.reduceLT, Nat.reduceAdd, Nat.reduceLeDiff, Nat.reduceMul, Nat.reduceSub, Int.reduceLE, Int.reduceLT, Int.reduceToNat, Int.reducePow, Int.reduceEq, g1]
          · simp only [go_sem, Nat.reduceEqDiff, Nat.reduceLT, Nat.reduceAdd, Nat.reduceLeDiff, Nat.reduceMul, Nat.reduceSub, Int.reduceLE, Int.reduceLT, Int.reduceToNat, Int.reducePow, Int.reduceEq, g4]
          · simp only [go_sem, Nat.reduceEqDiff, Nat.reduceLT, Nat.reduceAdd, Nat.reduceLeDiff, Nat.reduceMul, Nat.reduceSub, Int.reduceLE, Int.reduceLT, Int.reduceToNat, Int.reducePow, Int.reduceEq, g5]
          · simp only [go_sem, Nat.reduceEqDiff, Nat.reduceLT, Nat.reduceAdd, Nat.reduceLeDiff, Nat.reduceMul, Nat.reduceSub, Int.reduceLE, Int.reduceLT, Int.reduceToNat, Int.reducePow, Int.reduceEq, g20]
          · simp only [go_sem, Nat.reduceEqDiff, Nat.reduceLT, Nat.reduceAdd, Nat.reduceLeDiff, Nat.reduceMul, Nat.reduceSub, Int.reduceLE, Int.reduceLT, Int.reduceToNat, Int.reducePow, Int.reduceEq, g21]
          · simp only [go_sem, Nat.reduceEqDiff, Nat.reduceLT, Nat.reduceAdd, Nat.reduceLeDiff, Nat.reduceMul, Nat.reduceSub, Int.reduceLE, Int.reduceLT, Int.reduceToNat, Int.reducePow, Int.reduceEq]
          · rw [List.getElem?_set_ne (by omega)]; exact at_app (dropTag_at htg3 k43)
          · have := (TgIn.new M.length (dropTag tg M3) (by rw [dropTag_length]; exact hx3.1)).set (cs' := [V.int (-1), V.str g, .list (.own M3.length) (encL ((l.take j).map (Ty.sub fun w => .var ((f w).getD 0))) ++ [enc (x.sub fun w => .var ((f w).getD 0))])]) ho4
            rw [dropTag_length] at this
            exact this
          · rw [List.getElem?_set_self (List.getElem?_eq_some_iff.1 ho4).1, List.take_add_one, hxl]
            simp [encL_append, encL_cons, encL]
        · have hii : j = l.length := by omega
          subst hii
          (repeat (first | refine W_seq ?_ | refine W_block ?_ | refine W_blk ?_ | refine W_skip ?_ | (refine W_region [] (by rfl) fun K hK => ?_; simp only [go_sem, Nat.reduceEqDiff, Nat.reduceLT, Nat.reduceAdd, Nat.reduceLeDiff, Nat.reduceMul, Nat.reduceSub, Int.reduceLE, Int.reduceLT, Int.reduceToNat, Int.reducePow, Int.reduceEq, g21, g22, Int.lt_irrefl]; refine WRun.done _ _ (hK _ _ ?_); clear hK)))
          refine W_cond_false (by simp only [go_sem, Nat.reduceEqDiff, Nat.reduceLT, Nat.reduceAdd, Nat.reduceLeDiff, Nat.reduceMul, Nat.reduceSub, Int.reduceLE, Int.reduceLT, Int.reduceToNat, Int.reducePow, Int.reduceEq]) ?_
          refine W_exit (Qof_code (Qof_stop (Qof_blk_same ?_)))
          (repeat (first | refine W_seq ?_ | refine W_block ?_ | refine W_blk ?_ | refine W_skip ?_ | (refine W_region [] (by rfl) fun K hK => ?_; simp only [go_sem, Nat.reduceEqDiff, Nat.reduceLT, Nat.reduceAdd, Nat.reduceLeDiff, Nat.reduceMul, Nat.reduceSub, Int.reduceLE, Int.reduceLT, Int.reduceToNat, Int.reducePow, Int.reduceEq, g4, g5, k4, ho]; refine WRun.done _ _ (hK _ _ ?_); clear hK)))
          have h5 := List.getElem?_set_self (a := AObj.cells [V.int (-1), V.str g, .list tg (encL ((l.take l.length).map (Ty.sub fun w => .var ((f w).getD 0))))]) (List.getElem?_eq_some_iff.1 k4).1
          have h6 := hx2.set (k := M.length) (by omega) (.cells [V.int (-1), V.str g, .list tg (encL ((l.take l.length).map (Ty.sub fun w => .var ((f w).getD 0))))])
          refine W_ret ?_
          simp only [go_sem, Nat.reduceEqDiff, Nat.reduceLT, Nat.reduceAdd, Nat.reduceLeDiff, Nat.reduceMul, Nat.reduceSub, Int.reduceLE, Int.reduceLT, Int.reduceToNat, Int.reducePow, Int.reduceEq, g4, h5]
          refine ⟨h6, ?_⟩
          rw [sub_app]
          simp only [go_sem, Nat.reduceEqDiff, Nat.reduceLT, Nat.reduceAdd, Nat.reduceLeDiff, Nat.reduceMul, Nat.reduceSub, Int.reduceLE, Int.reduceLT, Int.reduceToNat, Int.reducePow, Int.reduceEq, List.take_length]
          rfl
    · rintro v M' ⟨hx, hv⟩
      obtain ⟨L, rfl⟩ := hx.out
      exact ⟨v.un, M, L, rfl, Nat.le_refl _, .inr rfl, by rw [hv]; exact V.ids_of_closed (enc_closed _), fun o ho => .inl ho, hv, rfl⟩

theorem seq_ren {l : List Nat} (hn : l.Nodup) {i n : Nat} (hi : l[i]? = some n) : (fun v => if v = n then some i else (if l.idxOf v < i then some (l.idxOf v) else none)) = fun v => if l.idxOf v < i + 1 then some (l.idxOf v) else none := by
  funext v
  obtain ⟨hil, hx⟩ := List.getElem?_eq_some_iff.1 hi
  by_cases e : v = n
  · subst e
    have : l.idxOf v = i := by subst hx; exact List.Nodup.idxOf_getElem hn i hil
    rw [if_pos rfl, this, if_pos (by omega)]
  · rw [if_neg e]
    by_cases h : l.idxOf v < i
    · rw [if_pos h, if_pos (by omega)]
    · have : l.idxOf v ≠ i := fun e2 => by
        have h3 : l.idxOf v < l.length := by omega
        have h4 := List.getElem_idxOf h3
        simp only [e2] at h4
        exact e (h4.symm.trans hx)
      rw [if_neg h, if_neg (by omega)]

set_option maxHeartbeats 8000000 in
theorem ucanon_ok (t : Ty) (hA : Ar t) (hV : VB t) : PCalls Tryd.prog 24 [enc t] (enc (canon t)) := by
  obtain ⟨l, hl⟩ : ∃ l, l = varsF [] t := ⟨_, rfl⟩
  have hk : VOk l := by rw [hl]; exact VOk.nil.vars hV
  have hin : ∀ v ∈ t.vars, v ∈ l := fun v hv => by rw [hl]; exact varsF_mem.2 (.inr hv)
  have hll := hk.len
  refine pcalls_of (enc_closed _) fun M => ?_
  refine acalls_enter [.cell 2 30] 22 Tryd.func24 rfl rfl rfl (by simp) ?_
  (repeat (first | refine W_seq ?_ | refine W_block ?_ | refine W_blk ?_ | refine W_skip ?_ | (refine W_region [1] (by rfl) fun K hK => ?_; simp only [go_sem, Nat.reduceEqDiff, Nat.reduceLT, Nat.reduceAdd, Nat.reduceLeDiff, Nat.reduceMul, Nat.reduceSub, Int.reduceLE, Int.reduceLT, Int.reduceToNat, Int.reducePow, Int.reduceEq]; refine WRun.done _ _ (hK _ _ ?_); clear hK)))
  have hx0 : Ext M (M ++ [AObj.cells [V.int 0, V.str ⟨#[]⟩, V.list Tag.full []]] ++ [AObj.map []]) := ((Ext.refl M).app _).app _
  have h20 : (M ++ [AObj.cells [V.int 0, V.str ⟨#[]⟩, V.list Tag.full []]] ++ [AObj.map []])[M.length]? = some (.cells [V.int 0, V.str ⟨#[]⟩, V.list Tag.full []]) := at_app (at_snoc rfl)
  have h30 : (M ++ [AObj.cells [V.int 0, V.str ⟨#[]⟩, V.list Tag.full []]] ++ [AObj.map []])[M.length + 1]? = some (.map []) := at_snoc (by simp)
  generalize M ++ [AObj.cells [V.int 0, V.str ⟨#[]⟩, V.list Tag.full []]] ++ [AObj.map []] = M1 at hx0 h20 h30 ⊢
  (repeat (first | refine W_seq ?_ | refine W_block ?_ | refine W_blk ?_ | refine W_skip ?_))
  (refine W_region [] (by rfl) fun K hK => ?_; simp only [go_sem, Nat.reduceEqDiff, Nat.reduceLT, Nat.reduceAdd, Nat.reduceLeDiff, Nat.reduceMul, Nat.reduceSub, Int.reduceLE, Int.reduceLT, Int.reduceToNat, Int.reducePow, Int.reduceEq])
  refine PCalls.use (uvars_ok t hA hV) (by simp only [go_sem, Nat.reduceEqDiff, Nat.reduceLT, Nat.reduceAdd, Nat.reduceLeDiff, Nat.reduceMul, Nat.reduceSub, Int.reduceLE, Int.reduceLT, Int.reduceToNat, Int.reducePow, Int.reduceEq, enc_eq]) ?_
  rw [← hl]
  simp only [go_sem, Nat.reduceEqDiff, Nat.reduceLT, Nat.reduceAdd, Nat.reduceLeDiff, Nat.reduceMul, Nat.reduceSub, Int.reduceLE, Int.reduceLT, Int.reduceToNat, Int.reducePow, Int.reduceEq]
  (refine WRun.done _ _ (hK _ _ ?_); clear hK)
  (repeat (first | refine W_seq ?_ | refine W_block ?_ | refine W_blk ?_ | refine W_skip ?_))
  refine W_loop (α := Nat) (fun q F' M' => q ≤ l.length ∧ Ext M M' ∧ look F' 1 = .pc (tcells t) ∧ look F' 2 = .ptr M.length 0 ∧ look F' 3 = .map (M.length + 1) ∧ look F' 8 = .list .dull (encV l) ∧ look F' 9 = V.int l.length ∧ look F' 10 = V.int q ∧ M'[M.length]? = some (.cells [V.int 0, V.str ⟨#[]⟩, V.list Tag.full []]) ∧ ∃ es, M'[M.length + 1]? = some (.map es) ∧ NMap es (fun v => if l.idxOf v < q then some (l.idxOf v) else none))
    (fun q => l.length - q) 0 ⟨Nat.zero_le _, hx0, ?_, ?_, ?_, ?_, ?_, ?_, h20, [], h30, by simpa using NMap.start⟩ ?_
  · simp only [go_sem, Nat.reduceEqDiff, Nat.reduceLT, Nat.reduceAdd, Nat.reduceLeDiff, Nat.reduceMul, Nat.reduceSub, Int.reduceLE, Int.reduceLT, Int.reduceToNat, Int.reducePow, Int.reduceEq]
  · simp only [go_sem, Nat.reduceEqDiff, Nat.reduceLT, Nat.reduceAdd, Nat.reduceLeDiff, Nat.reduceMul, Nat.reduceSub, Int.reduceLE, Int.reduceLT, Int.reduceToNat, Int.reducePow, Int.reduceEq]
  · simp only [go_sem, Nat.reduceEqDiff, Nat.reduceLT, Nat.reduceAdd, Nat.reduceLeDiff, Nat.reduceMul, Nat.reduceSub, Int.reduceLE, Int.reduceLT, Int.reduceToNat, Int.reducePow, Int.reduceEq]
  · simp only [go_sem, Nat.reduceEqDiff, Nat.reduceLT, Nat.reduceAdd, Nat.reduceLeDiff, Nat.reduceMul, Nat.reduceSub, Int.reduceLE, Int.reduceLT, Int.reduceToNat, Int.reducePow, Int.reduceEq]
  · simp only [go_sem, Nat.reduceEqDiff, Nat.reduceLT, Nat.reduceAdd, Nat.reduceLeDiff, Nat.reduceMul, Nat.reduceSub, Int.reduceLE, Int.reduceLT, Int.reduceToNat, Int.reducePow, Int.reduceEq]
  · simp only [go_sem, Nat.reduceEqDiff, Nat.reduceLT, Nat.reduceAdd, Nat.reduceLeDiff, Nat.reduceMul, Nat.reduceSub, Int.reduceLE, Int.reduceLT, Int.reduceToNat, Int.reducePow, Int.reduceEq]
  rintro q F' M' ⟨hq, hx, f1, f2, f3, f8, f9, f10, h2, es, h3, hN⟩
  by_cases hlt : q < l.length
  · have hlt' : (q : Int) < (l.length : Int) := by omega
    have hw : IntKind.i64.wrap ((q : Int) + 1) = ((q + 1 : Nat) : Int) := by rw [wrapI _ (by omega) (by omega)]; omega
    obtain ⟨n, hnl⟩ : ∃ x, l[q]? = some x := ⟨l[q], by simp [hlt]⟩
    have hat := encV_at hnl
    obtain ⟨es3, a1, a2⟩ := hN.put n q
    rw [seq_ren hk.1 hnl] at a2
    (repeat (first | refine W_seq ?_ | refine W_block ?_ | refine W_blk ?_ | refine W_skip ?_ | (refine W_region [] (by rfl) fun K hK => ?_; simp only [go_sem, Nat.reduceEqDiff, Nat.reduceLT, Nat.reduceAdd, Nat.reduceLeDiff, Nat.reduceMul, Nat.reduceSub, Int.reduceLE, Int.reduceLT, Int.reduceToNat, Int.reducePow, Int.reduceEq, f9, f10, hlt']; refine WRun.done _ _ (hK _ _ ?_); clear hK)))
    refine W_cond_true (by simp only [go_sem, Nat.reduceEqDiff, Nat.reduceLT, Nat.reduceAdd, Nat.reduceLeDiff, Nat.reduceMul, Nat.reduceSub, Int.reduceLE, Int.reduceLT, Int.reduceToNat, Int.reducePow, Int.reduceEq]) ?_
    (repeat (first | refine W_seq ?_ | refine W_block ?_ | refine W_blk ?_ | refine W_skip ?_ | (refine W_region [] (by rfl) fun K hK => ?_; simp only [go_sem, Nat.reduceEqDiff, Nat.reduceLT, Nat.reduceAdd, Nat.reduceLeDiff, Nat.reduceMul, Nat.reduceSub, Int.reduceLE, Int.reduceLT, Int.reduceToNat, Int.reducePow, Int.reduceEq, f3, f8, f10, hat, h3, a1, hw, Int.natCast_nonneg, Int.toNat_natCast]; refine WRun.done _ _ (hK _ _ ?_); clear hK)))
    refine W_stop ⟨q + 1, ⟨hlt, hx.set (k := M.length + 1) (by omega) _, ?_, ?_, ?_, ?_, ?_, ?_, ?_, es3, ?_, a2⟩, by omega⟩
    · simp only [go_sem, Nat.reduceEqDiff, Nat.reduceLT, Nat.reduceAdd, Nat.reduceLeDiff, Nat.reduceMul, Nat.reduceSub, Int.reduceLE, Int.reduceLT, Int.reduceToNat, Int.reducePow, Int.reduceEq, f1]
    · simp only [go_sem, Nat.reduceEqDiff, Nat.reduceLT, Nat.reduceAdd, Nat.reduceLeDiff, Nat.reduceMul, Nat.reduceSub, Int.reduceLE, Int.reduceLT, Int.reduceToNat, Int.reducePow, Int.reduceEq, f2]
    · simp only [go_sem, Nat.reduceEqDiff, Nat.reduceLT, Nat.reduceAdd, Nat.reduceLeDiff, Nat.reduceMul, Nat.reduceSub, Int.reduceLE, Int.reduceLT, Int.reduceToNat, Int.reducePow, Int.reduceEq, f3]
    · simp only [go_sem, Nat.reduceEqDiff, Nat.reduceLT, Nat.reduceAdd, Nat.reduceLeDiff, Nat.reduceMul, Nat.reduceSub, Int.reduceLE, Int.reduceLT, Int.reduceToNat, Int.reducePow, Int.reduceEq, f8]
    · simp only [go_sem, Nat.reduceEqDiff, Nat.reduceLT, Nat.reduceAdd, Nat.reduceLeDiff, Nat.reduceMul, Nat.reduceSub, Int.reduceLE, Int.reduceLT, Int.reduceToNat, Int.reducePow, Int.reduceEq, f9]
    · simp only [go_sem, Nat.reduceEqDiff, Nat.reduceLT, Nat.reduceAdd, Nat.reduceLeDiff, Nat.reduceMul, Nat.reduceSub, Int.reduceLE, Int.reduceLT, Int.reduceToNat, Int.reducePow, Int.reduceEq]
    · rw [List.getElem?_set_ne (by omega)]; exact h2
    · exact List.getElem?_set_self (List.getElem?_eq_some_iff.1 h3).1
  · have hii : q = l.length := by omega
    subst hii
    (repeat (first | refine W_seq ?_ | refine W_block ?_ | refine W_blk ?_ | refine W_skip ?_ | (refine W_region [] (by rfl) fun K hK => ?_; simp only [go_sem, Nat.reduceEqDiff, Nat.reduceLT, Nat.reduceAdd, Nat.reduceLeDiff, Nat.reduceMul, Nat.reduceSub, Int.reduceLE, Int.reduceLT, Int.reduceToNat, Int.reducePow, Int.reduceEq, f9, f10, Int.lt_irrefl]; refine WRun.done _ _ (hK _ _ ?_); clear hK)))
    refine W_cond_false (by simp only [go_sem, Nat.reduceEqDiff, Nat.reduceLT, Nat.reduceAdd, Nat.reduceLeDiff, Nat.reduceMul, Nat.reduceSub, Int.reduceLE, Int.reduceLT, Int.reduceToNat, Int.reducePow, Int.reduceEq]) ?_
    refine W_exit (Qof_code (Qof_stop (Qof_blk_same ?_)))
    have hsome : ∀ v ∈ t.vars, ((fun v => if l.idxOf v < l.length then some (l.idxOf v) else none) v).isSome = true := fun v hv => by
      simp [List.idxOf_lt_length_of_mem (hin v hv)]
    (repeat (first | refine W_seq ?_ | refine W_block ?_ | refine W_blk ?_ | refine W_skip ?_))
    (refine W_region [] (by rfl) fun K hK => ?_; simp only [go_sem, Nat.reduceEqDiff, Nat.reduceLT, Nat.reduceAdd, Nat.reduceLeDiff, Nat.reduceMul, Nat.reduceSub, Int.reduceLE, Int.reduceLT, Int.reduceToNat, Int.reducePow, Int.reduceEq, f1, f3])
    refine ACalls.use (rename_ok (M.length + 1) es _ hN _ t (Nat.le_refl _) hA hsome M' h3) (by simp only [go_sem, Nat.reduceEqDiff, Nat.reduceLT, Nat.reduceAdd, Nat.reduceLeDiff, Nat.reduceMul, Nat.reduceSub, Int.reduceLE, Int.reduceLT, Int.reduceToNat, Int.reducePow, Int.reduceEq, enc_eq]) ?_
    rintro r Mr ⟨rfl, hMr⟩
    subst Mr
    simp only [go_sem, Nat.reduceEqDiff, Nat.reduceLT, Nat.reduceAdd, Nat.reduceLeDiff, Nat.reduceMul, Nat.reduceSub, Int.reduceLE, Int.reduceLT, Int.reduceToNat, Int.reducePow, Int.reduceEq, f2, h2]
    (refine WRun.done _ _ (hK _ _ ?_); clear hK)
    have e : (t.sub fun w => .var ((if l.idxOf w < l.length then some (l.idxOf w) else none).getD 0)) = canon t := by
      rw [canon, ← hl]
      refine Ty.sub_congr fun v hv => ?_
      simp [List.idxOf_lt_length_of_mem (hin v hv), ren]
    rw [e]
    have h5 := List.getElem?_set_self (a := AObj.cells (tcells (canon t))) (List.getElem?_eq_some_iff.1 h2).1
    have h6 := (hx.set (k := M.length) (by omega) (.cells (tcells (canon t)))).out
    refine W_ret ?_
    simp only [go_sem, Nat.reduceEqDiff, Nat.reduceLT, Nat.reduceAdd, Nat.reduceLeDiff, Nat.reduceMul, Nat.reduceSub, Int.reduceLE, Int.reduceLT, Int.reduceToNat, Int.reducePow, Int.reduceEq, f2, h5]
    refine ⟨?_, h6⟩
    rw [enc_eq]
end Go.Ax

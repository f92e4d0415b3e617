import Derived.Test.YthbojmoiimknhaaSt1
set_option linter.unusedSimpArgs false
set_option linter.unusedVariables false
namespace Go.Ax
open Go.Proofs

theorem pack (n : Nat) (kind : Int) (hn : n ≤ 16384) (h1 : 1 ≤ kind) (h2 : kind ≤ 3) : bitsA .or .i64 (IntKind.i64.wrap ((n : Int) * 4)) kind = 4 * n + kind := by
  have e : IntKind.i64.wrap ((n : Int) * 4) = ((4 * n : Nat) : Int) := by
    rw [wrapI _ (by omega) (by omega)]
    omega
  rw [e]
  obtain ⟨m, rfl⟩ : ∃ m : Nat, kind = m := ⟨kind.toNat, by omega⟩
  have key : bitsA .or .i64 ((4 * n : Nat) : Int) (m : Int) = IntKind.i64.wrap ((BitVec.ofInt 64 ((4 * n : Nat) : Int) ||| BitVec.ofInt 64 (m : Int)).toNat : Int) := rfl
  rw [key, BitVec.ofInt_natCast, BitVec.ofInt_natCast]
  have b3 : (BitVec.ofNat 64 (4 * n) ||| BitVec.ofNat 64 m).toNat = 4 * n + m := by
    rw [BitVec.toNat_or, BitVec.toNat_ofNat, BitVec.toNat_ofNat, Nat.mod_eq_of_lt (by omega), Nat.mod_eq_of_lt (by omega)]
    have := Nat.shiftLeft_add_eq_or_of_lt (b := m) (i := 2) (by omega) n
    rw [Nat.shiftLeft_eq, show 2 ^ 2 = 4 from rfl] at this
    rw [Nat.mul_comm 4 n]
    exact this.symm
  rw [b3, wrapI _ (by omega) (by omega)]
  omega

set_option maxHeartbeats 2000000 in
theorem push_done (M : AMem) (i : Nat) (most : Int) (ws : List Int) (k : Option Nat) (kind a b : Int) (L : V) (ys : List Int) (hS : StackAt M i most ws k) (hw : ws.length ≤ 1000000) (hL : Ints M L ys) (hb : ¬ bad kind a b ys.length)
    (hm : ws.length + ys.length + 3 ≤ most) : ACalls Try.prog 14 [.ptr i 0, .agg [V.int kind, V.int a, V.int b, L]] M (fun r M' => r = V.int 0 ∧ StackAt M' i most (ws ++ ys ++ [a, b, 4 * ys.length + kind]) (some (M.length + 1)) ∧
      M'.length = M.length + 2 ∧ ∀ j, j < M.length → j ≠ i → k ≠ some j → M'[j]? = M[j]?) := by
  refine acalls_enter [.tmp 4] 80 Try.func14 rfl rfl rfl (by simp) ?_
  simp only [bad, not_or] at hb
  obtain ⟨c1, c2, c3, c4, c5⟩ := hb
  have c5' : ¬ (16384 : Int) < ys.length := by omega
  have e1 := wrapI ((ws.length : Int) + ys.length) (by omega) (by omega)
  have e2 := wrapI ((ws.length : Int) + ys.length + 3) (by omega) (by omega)
  have e3 := wrapI (ys.length : Int) (by omega) (by omega)
  have e4 := wrapI ((ys.length : Int) + 3) (by omega) (by omega)
  have hc := hS.cells
  have hn := hS.none
  have hi : i < M.length := (List.getElem?_eq_some_iff.1 hc).1
  have hsrc := ints_src hL
  have hone : (ys.map V.int).all V.one = true := by rw [List.all_eq_true]; intro y hy; obtain ⟨n, _, rfl⟩ := List.mem_map.1 hy; rfl
  have hp := pack ys.length kind (by omega) (by omega) (by omega)
  cases k with
  | none =>
    obtain rfl := hn rfl
    simp only [List.length_nil, Int.natCast_zero, Int.zero_add] at e1 e2 hm
    simp only [wordsV] at hc
    have hlen : ys.length ≤ 1073741824 := by omega
    rcases hL with ⟨tg, rfl⟩ | ⟨kk, cs, rfl, h1, h2⟩
    · (repeat (first | refine W_seq ?_ | refine W_block ?_ | refine W_blk ?_ | refine W_skip ?_ | (refine W_region [3] (by rfl) fun K hK => ?_; simp only [go_sem, Nat.reduceEqDiff, Nat.reduceLT, Nat.reduceAdd, Nat.reduceLeDiff, Nat.reduceMul, Nat.reduceSub, Int.reduceLE, Int.reduceLT, Int.reduceToNat, Int.reducePow, Int.reduceEq, c1, c2, c3, c4, c5', List.length_map]; refine WRun.done _ _ (hK _ _ ?_); clear hK)))
      refine W_cond_false (by simp only [go_sem, Nat.reduceEqDiff, Nat.reduceLT, Nat.reduceAdd, Nat.reduceLeDiff, Nat.reduceMul, Nat.reduceSub, Int.reduceLE, Int.reduceLT, Int.reduceToNat, Int.reducePow, Int.reduceEq]) ?_
      (repeat (first | refine W_seq ?_ | refine W_block ?_ | refine W_blk ?_ | refine W_skip ?_))
      (refine W_read [] mixed_ (by rfl) (by decide +kernel) (by decide +kernel) fun K2 hK2 => ?_; simp only [go_sem, List.size_toArray, List.range_succ, List.range_zero, QK, Nat.reduceEqDiff, Nat.reduceLT, Nat.reduceAdd, Nat.reduceLeDiff, Nat.reduceMul, Nat.reduceSub, Int.reduceLE, Int.reduceLT, Int.reduceToNat, Int.reducePow, Int.reduceEq, hc, e1, e2, List.length_map, List.length_nil]; refine hK2 _ ?_; clear hK2)
      refine W_cond_false (by simp only [go_sem, Nat.reduceEqDiff, Nat.reduceLT, Nat.reduceAdd, Nat.reduceLeDiff, Nat.reduceMul, Nat.reduceSub, Int.reduceLE, Int.reduceLT, Int.reduceToNat, Int.reducePow, Int.reduceEq]; simp [e3, e4]; omega) ?_
      (repeat (first | refine W_seq ?_ | refine W_block ?_ | refine W_blk ?_ | refine W_skip ?_))
      (refine W_draw [57] (fun M' => M'[i]? = some (.cells [.list .full [], V.int most])) mixed_ (by rfl) ?_ fun K hK => ?_)
      · exact hc
      (refine DR_quiet [0, 1, 2, 3, 4, 5, 6] (by decide +kernel) (fun M_ hS_ => ?_) (fun K2 hK2 => ?_); (focus (simp only [go_sem, Nat.reduceEqDiff, Nat.reduceLT, Nat.reduceAdd, Nat.reduceLeDiff, Nat.reduceMul, Nat.reduceSub, Int.reduceLE, Int.reduceLT, Int.reduceToNat, Int.reducePow, Int.reduceEq, hS_, hc])); simp only [go_sem, Nat.reduceEqDiff, Nat.reduceLT, Nat.reduceAdd, Nat.reduceLeDiff, Nat.reduceMul, Nat.reduceSub, Int.reduceLE, Int.reduceLT, Int.reduceToNat, Int.reducePow, Int.reduceEq, hc]; refine hK2 _ ?_; clear hK2)
      (refine DR_sole' 7 (by decide +kernel) (by simp only [go_sem, Nat.reduceEqDiff, Nat.reduceLT, Nat.reduceAdd, Nat.reduceLeDiff, Nat.reduceMul, Nat.reduceSub, Int.reduceLE, Int.reduceLT, Int.reduceToNat, Int.reducePow, Int.reduceEq, hsrc, hlen, Nat.zero_add, List.length_nil, List.nil_append]) ?_; simp only [go_sem, Nat.reduceEqDiff, Nat.reduceLT, Nat.reduceAdd, Nat.reduceLeDiff, Nat.reduceMul, Nat.reduceSub, Int.reduceLE, Int.reduceLT, Int.reduceToNat, Int.reducePow, Int.reduceEq, hsrc, hlen, Nat.zero_add, List.length_nil, List.nil_append])
      obtain ⟨M1, hM1⟩ : ∃ M1, M1 = M ++ [AObj.cells (List.map V.int ys)] := ⟨_, rfl⟩
      have q0 : M1.length = M.length + 1 := by simp [hM1]
      have q1 : M1[i]? = some (.cells [.list .full [], V.int most]) := by rw [hM1, List.getElem?_append_left hi]; exact hc
      have q2 : M1[M.length]? = some (.cells (List.map V.int ys)) := by simp [hM1]
      have q3 : ∀ j, j < M.length → (none : Option Nat) ≠ some j → M1[j]? = M[j]? := by
        intro j hj hne
        rw [hM1, List.getElem?_append_left hj]
      skip
      rw [← hM1]
      refine ⟨q1, ?_⟩
      (refine DR_quiet [8, 9] (by decide +kernel) (fun M_ hS_ => ?_) (fun K2 hK2 => ?_); (focus (simp only [go_sem, Nat.reduceEqDiff, Nat.reduceLT, Nat.reduceAdd, Nat.reduceLeDiff, Nat.reduceMul, Nat.reduceSub, Int.reduceLE, Int.reduceLT, Int.reduceToNat, Int.reducePow, Int.reduceEq, hS_, q1])); simp only [go_sem, Nat.reduceEqDiff, Nat.reduceLT, Nat.reduceAdd, Nat.reduceLeDiff, Nat.reduceMul, Nat.reduceSub, Int.reduceLE, Int.reduceLT, Int.reduceToNat, Int.reducePow, Int.reduceEq, q1]; refine hK2 _ ?_; clear hK2)
      (refine DR_last' 10 (by decide +kernel) (by decide +kernel) (by decide +kernel) (by simp only [go_sem, Nat.reduceEqDiff, Nat.reduceLT, Nat.reduceAdd, Nat.reduceLeDiff, Nat.reduceMul, Nat.reduceSub, Int.reduceLE, Int.reduceLT, Int.reduceToNat, Int.reducePow, Int.reduceEq, q1]) ?_; simp only [go_sem, Nat.reduceEqDiff, Nat.reduceLT, Nat.reduceAdd, Nat.reduceLeDiff, Nat.reduceMul, Nat.reduceSub, Int.reduceLE, Int.reduceLT, Int.reduceToNat, Int.reducePow, Int.reduceEq, q1]; refine hK _ _ ?_; clear hK)
      have hi1 : i < M1.length := by omega
      have hne1 : i ≠ M.length := by omega
      have r1 : (M1.set i (AObj.cells [V.arr M.length 0 (ys.length) 1, V.int most]))[i]? = some (.cells [V.arr M.length 0 (ys.length) 1, V.int most]) := by simp [hi1]
      have r2 : (M1.set i (AObj.cells [V.arr M.length 0 (ys.length) 1, V.int most]))[M.length]? = some (.cells (List.map V.int ys)) := by rw [List.getElem?_set_ne hne1]; exact q2
      have r3 : ∀ j, j < M.length → j ≠ i → (none : Option Nat) ≠ some j → (M1.set i (AObj.cells [V.arr M.length 0 (ys.length) 1, V.int most]))[j]? = M[j]? := by
        intro j hj hji hne
        rw [List.getElem?_set_ne (by omega)]
        exact q3 j hj hne
      have r0 : (M1.set i (AObj.cells [V.arr M.length 0 (ys.length) 1, V.int most])).length = M.length + 1 := by simp [q0]
      generalize M1.set i (AObj.cells [V.arr M.length 0 (ys.length) 1, V.int most]) = M2 at r0 r1 r2 r3 ⊢
      (repeat (first | refine W_seq ?_ | refine W_block ?_ | refine W_blk ?_ | refine W_skip ?_))
      (refine W_draw [77] (fun M' => M'[i]? = some (.cells [V.arr M.length 0 (ys.length) 1, V.int most])) mixed_ (by rfl) ?_ fun K hK => ?_)
      · exact r1
      (refine DR_quiet [0, 1, 2, 3, 4, 5, 6, 7, 8, 9, 10, 11, 12, 13, 14, 15, 16] (by decide +kernel) (fun M_ hS_ => ?_) (fun K2 hK2 => ?_); (focus (simp only [go_sem, Nat.reduceEqDiff, Nat.reduceLT, Nat.reduceAdd, Nat.reduceLeDiff, Nat.reduceMul, Nat.reduceSub, Int.reduceLE, Int.reduceLT, Int.reduceToNat, Int.reducePow, Int.reduceEq, hS_, r1, hp, List.length_map])); simp only [go_sem, Nat.reduceEqDiff, Nat.reduceLT, Nat.reduceAdd, Nat.reduceLeDiff, Nat.reduceMul, Nat.reduceSub, Int.reduceLE, Int.reduceLT, Int.reduceToNat, Int.reducePow, Int.reduceEq, r1, hp, List.length_map]; refine hK2 _ ?_; clear hK2)
      skip
      have hle2 : ys.length ≤ ((ys).map V.int).length := by simp
      have hlen3 : ys.length ≤ 1073741821 := by omega
      (refine DR_sole' 17 (by decide +kernel) (by simp only [go_sem, Nat.reduceEqDiff, Nat.reduceLT, Nat.reduceAdd, Nat.reduceLeDiff, Nat.reduceMul, Nat.reduceSub, Int.reduceLE, Int.reduceLT, Int.reduceToNat, Int.reducePow, Int.reduceEq, r2, hle2, hlen3, List.length_append, Nat.le_refl]) ?_; simp only [go_sem, Nat.reduceEqDiff, Nat.reduceLT, Nat.reduceAdd, Nat.reduceLeDiff, Nat.reduceMul, Nat.reduceSub, Int.reduceLE, Int.reduceLT, Int.reduceToNat, Int.reducePow, Int.reduceEq, r2, hle2, hlen3, List.length_append, Nat.le_refl])
      obtain ⟨M3, hM3⟩ : ∃ M3, M3 = M2.set M.length AObj.gone ++ [AObj.cells (List.take (ys.length) (List.map V.int (ys)) ++ cellsL [V.int a, V.int b, V.prim (Value.int IntKind.i64 (4 * ↑ys.length + kind))])] := ⟨_, rfl⟩
      have t0 : M3.length = M.length + 2 := by simp [hM3, r0]
      have t1 : M3[i]? = some (.cells [V.arr M.length 0 (ys.length) 1, V.int most]) := by
        rw [hM3, List.getElem?_append_left (by simp; omega), List.getElem?_set_ne (by omega)]; exact r1
      have t2 : M3[M.length + 1]? = some (.cells ((ys ++ [a, b, 4 * ys.length + kind]).map V.int)) := by
        rw [hM3, List.getElem?_append_right (by simp; omega)]
        simp [r0, cellsL, V.cells, List.take_of_length_le]
      have t3 : ∀ j, j < M.length → j ≠ i → (none : Option Nat) ≠ some j → M3[j]? = M[j]? := by
        intro j hj hji hne
        rw [hM3, List.getElem?_append_left (by simp; omega), List.getElem?_set_ne (by omega)]
        exact r3 j hj hji hne
      rw [← hM3, r0]
      refine ⟨t1, ?_⟩
      clear hM3
      (refine DR_quiet [18, 19] (by decide +kernel) (fun M_ hS_ => ?_) (fun K2 hK2 => ?_); (focus (simp only [go_sem, Nat.reduceEqDiff, Nat.reduceLT, Nat.reduceAdd, Nat.reduceLeDiff, Nat.reduceMul, Nat.reduceSub, Int.reduceLE, Int.reduceLT, Int.reduceToNat, Int.reducePow, Int.reduceEq, hS_, t1])); simp only [go_sem, Nat.reduceEqDiff, Nat.reduceLT, Nat.reduceAdd, Nat.reduceLeDiff, Nat.reduceMul, Nat.reduceSub, Int.reduceLE, Int.reduceLT, Int.reduceToNat, Int.reducePow, Int.reduceEq, t1]; refine hK2 _ ?_; clear hK2)
      (refine DR_last' 20 (by decide +kernel) (by decide +kernel) (by decide +kernel) (by simp only [go_sem, Nat.reduceEqDiff, Nat.reduceLT, Nat.reduceAdd, Nat.reduceLeDiff, Nat.reduceMul, Nat.reduceSub, Int.reduceLE, Int.reduceLT, Int.reduceToNat, Int.reducePow, Int.reduceEq, t1]) ?_; simp only [go_sem, Nat.reduceEqDiff, Nat.reduceLT, Nat.reduceAdd, Nat.reduceLeDiff, Nat.reduceMul, Nat.reduceSub, Int.reduceLE, Int.reduceLT, Int.reduceToNat, Int.reducePow, Int.reduceEq, t1]; refine hK _ _ ?_; clear hK)
      (repeat (first | refine W_seq ?_ | refine W_block ?_ | refine W_blk ?_ | refine W_skip ?_ | (refine W_region [] (by rfl) fun K hK => ?_; simp only [go_sem, Nat.reduceEqDiff, Nat.reduceLT, Nat.reduceAdd, Nat.reduceLeDiff, Nat.reduceMul, Nat.reduceSub, Int.reduceLE, Int.reduceLT, Int.reduceToNat, Int.reducePow, Int.reduceEq]; refine WRun.done _ _ (hK _ _ ?_); clear hK)))
      refine W_ret ?_
      simp only [go_sem, Nat.reduceEqDiff, Nat.reduceLT, Nat.reduceAdd, Nat.reduceLeDiff, Nat.reduceMul, Nat.reduceSub, Int.reduceLE, Int.reduceLT, Int.reduceToNat, Int.reducePow, Int.reduceEq]
      have hi3 : i < M3.length := by omega
      refine ⟨⟨?_, (fun h => by cases h), fun k' hk' => ?_⟩, ?_, ?_⟩
      · simp [hi3, wordsV, Nat.add_assoc]
      · injection hk' with hk'
        subst hk'
        exact ⟨by omega, _, (by rw [List.getElem?_set_ne (by omega)]; exact t2), List.take_of_length_le (by simp)⟩
      · simp [t0]
      · intro j hj hji hne
        rw [List.getElem?_set_ne (by omega)]
        exact t3 j hj hji hne

    · have hcl : ys.length ≤ cs.length := by
        have := congrArg List.length h2
        simp at this; omega
      (repeat (first | refine W_seq ?_ | refine W_block ?_ | refine W_blk ?_ | refine W_skip ?_ | (refine W_region [3] (by rfl) fun K hK => ?_; simp only [go_sem, Nat.reduceEqDiff, Nat.reduceLT, Nat.reduceAdd, Nat.reduceLeDiff, Nat.reduceMul, Nat.reduceSub, Int.reduceLE, Int.reduceLT, Int.reduceToNat, Int.reducePow, Int.reduceEq, c1, c2, c3, c4, c5', List.length_map]; refine WRun.done _ _ (hK _ _ ?_); clear hK)))
      refine W_cond_false (by simp only [go_sem, Nat.reduceEqDiff, Nat.reduceLT, Nat.reduceAdd, Nat.reduceLeDiff, Nat.reduceMul, Nat.reduceSub, Int.reduceLE, Int.reduceLT, Int.reduceToNat, Int.reducePow, Int.reduceEq]) ?_
      (repeat (first | refine W_seq ?_ | refine W_block ?_ | refine W_blk ?_ | refine W_skip ?_))
      (refine W_read [] mixed_ (by rfl) (by decide +kernel) (by decide +kernel) fun K2 hK2 => ?_; simp only [go_sem, List.size_toArray, List.range_succ, List.range_zero, QK, Nat.reduceEqDiff, Nat.reduceLT, Nat.reduceAdd, Nat.reduceLeDiff, Nat.reduceMul, Nat.reduceSub, Int.reduceLE, Int.reduceLT, Int.reduceToNat, Int.reducePow, Int.reduceEq, hc, e1, e2, List.length_map, List.length_nil]; refine hK2 _ ?_; clear hK2)
      refine W_cond_false (by simp only [go_sem, Nat.reduceEqDiff, Nat.reduceLT, Nat.reduceAdd, Nat.reduceLeDiff, Nat.reduceMul, Nat.reduceSub, Int.reduceLE, Int.reduceLT, Int.reduceToNat, Int.reducePow, Int.reduceEq]; simp [e3, e4]; omega) ?_
      (repeat (first | refine W_seq ?_ | refine W_block ?_ | refine W_blk ?_ | refine W_skip ?_))
      (refine W_draw [57] (fun M' => M'[i]? = some (.cells [.list .full [], V.int most])) mixed_ (by rfl) ?_ fun K hK => ?_)
      · exact hc
      (refine DR_quiet [0, 1, 2, 3, 4, 5, 6] (by decide +kernel) (fun M_ hS_ => ?_) (fun K2 hK2 => ?_); (focus (simp only [go_sem, Nat.reduceEqDiff, Nat.reduceLT, Nat.reduceAdd, Nat.reduceLeDiff, Nat.reduceMul, Nat.reduceSub, Int.reduceLE, Int.reduceLT, Int.reduceToNat, Int.reducePow, Int.reduceEq, hS_, hc])); simp only [go_sem, Nat.reduceEqDiff, Nat.reduceLT, Nat.reduceAdd, Nat.reduceLeDiff, Nat.reduceMul, Nat.reduceSub, Int.reduceLE, Int.reduceLT, Int.reduceToNat, Int.reducePow, Int.reduceEq, hc]; refine hK2 _ ?_; clear hK2)
      (refine DR_sole' 7 (by decide +kernel) (by simp only [go_sem, Nat.reduceEqDiff, Nat.reduceLT, Nat.reduceAdd, Nat.reduceLeDiff, Nat.reduceMul, Nat.reduceSub, Int.reduceLE, Int.reduceLT, Int.reduceToNat, Int.reducePow, Int.reduceEq, h1, hcl, h2, hone, hlen, Nat.zero_add, List.length_nil, List.nil_append]) ?_; simp only [go_sem, Nat.reduceEqDiff, Nat.reduceLT, Nat.reduceAdd, Nat.reduceLeDiff, Nat.reduceMul, Nat.reduceSub, Int.reduceLE, Int.reduceLT, Int.reduceToNat, Int.reducePow, Int.reduceEq, h1, hcl, h2, hone, hlen, Nat.zero_add, List.length_nil, List.nil_append])
      obtain ⟨M1, hM1⟩ : ∃ M1, M1 = M ++ [AObj.cells (List.map V.int ys)] := ⟨_, rfl⟩
      have q0 : M1.length = M.length + 1 := by simp [hM1]
      have q1 : M1[i]? = some (.cells [.list .full [], V.int most]) := by rw [hM1, List.getElem?_append_left hi]; exact hc
      have q2 : M1[M.length]? = some (.cells (List.map V.int ys)) := by simp [hM1]
      have q3 : ∀ j, j < M.length → (none : Option Nat) ≠ some j → M1[j]? = M[j]? := by
        intro j hj hne
        rw [hM1, List.getElem?_append_left hj]
      skip
      rw [← hM1]
      refine ⟨q1, ?_⟩
      (refine DR_quiet [8, 9] (by decide +kernel) (fun M_ hS_ => ?_) (fun K2 hK2 => ?_); (focus (simp only [go_sem, Nat.reduceEqDiff, Nat.reduceLT, Nat.reduceAdd, Nat.reduceLeDiff, Nat.reduceMul, Nat.reduceSub, Int.reduceLE, Int.reduceLT, Int.reduceToNat, Int.reducePow, Int.reduceEq, hS_, q1])); simp only [go_sem, Nat.reduceEqDiff, Nat.reduceLT, Nat.reduceAdd, Nat.reduceLeDiff, Nat.reduceMul, Nat.reduceSub, Int.reduceLE, Int.reduceLT, Int.reduceToNat, Int.reducePow, Int.reduceEq, q1]; refine hK2 _ ?_; clear hK2)
      (refine DR_last' 10 (by decide +kernel) (by decide +kernel) (by decide +kernel) (by simp only [go_sem, Nat.reduceEqDiff, Nat.reduceLT, Nat.reduceAdd, Nat.reduceLeDiff, Nat.reduceMul, Nat.reduceSub, Int.reduceLE, Int.reduceLT, Int.reduceToNat, Int.reducePow, Int.reduceEq, q1]) ?_; simp only [go_sem, Nat.reduceEqDiff, Nat.reduceLT, Nat.reduceAdd, Nat.reduceLeDiff, Nat.reduceMul, Nat.reduceSub, Int.reduceLE, Int.reduceLT, Int.reduceToNat, Int.reducePow, Int.reduceEq, q1]; refine hK _ _ ?_; clear hK)
      have hi1 : i < M1.length := by omega
      have hne1 : i ≠ M.length := by omega
      have r1 : (M1.set i (AObj.cells [V.arr M.length 0 (ys.length) 1, V.int most]))[i]? = some (.cells [V.arr M.length 0 (ys.length) 1, V.int most]) := by simp [hi1]
      have r2 : (M1.set i (AObj.cells [V.arr M.length 0 (ys.length) 1, V.int most]))[M.length]? = some (.cells (List.map V.int ys)) := by rw [List.getElem?_set_ne hne1]; exact q2
      have r3 : ∀ j, j < M.length → j ≠ i → (none : Option Nat) ≠ some j → (M1.set i (AObj.cells [V.arr M.length 0 (ys.length) 1, V.int most]))[j]? = M[j]? := by
        intro j hj hji hne
        rw [List.getElem?_set_ne (by omega)]
        exact q3 j hj hne
      have r0 : (M1.set i (AObj.cells [V.arr M.length 0 (ys.length) 1, V.int most])).length = M.length + 1 := by simp [q0]
      generalize M1.set i (AObj.cells [V.arr M.length 0 (ys.length) 1, V.int most]) = M2 at r0 r1 r2 r3 ⊢
      (repeat (first | refine W_seq ?_ | refine W_block ?_ | refine W_blk ?_ | refine W_skip ?_))
      (refine W_draw [77] (fun M' => M'[i]? = some (.cells [V.arr M.length 0 (ys.length) 1, V.int most])) mixed_ (by rfl) ?_ fun K hK => ?_)
      · exact r1
      (refine DR_quiet [0, 1, 2, 3, 4, 5, 6, 7, 8, 9, 10, 11, 12, 13, 14, 15, 16] (by decide +kernel) (fun M_ hS_ => ?_) (fun K2 hK2 => ?_); (focus (simp only [go_sem, Nat.reduceEqDiff, Nat.reduceLT, Nat.reduceAdd, Nat.reduceLeDiff, Nat.reduceMul, Nat.reduceSub, Int.reduceLE, Int.reduceLT, Int.reduceToNat, Int.reducePow, Int.reduceEq, hS_, r1, hp, List.length_map])); simp only [go_sem, Nat.reduceEqDiff, Nat.reduceLT, Nat.reduceAdd, Nat.reduceLeDiff, Nat.reduceMul, Nat.reduceSub, Int.reduceLE, Int.reduceLT, Int.reduceToNat, Int.reducePow, Int.reduceEq, r1, hp, List.length_map]; refine hK2 _ ?_; clear hK2)
      skip
      have hle2 : ys.length ≤ ((ys).map V.int).length := by simp
      have hlen3 : ys.length ≤ 1073741821 := by omega
      (refine DR_sole' 17 (by decide +kernel) (by simp only [go_sem, Nat.reduceEqDiff, Nat.reduceLT, Nat.reduceAdd, Nat.reduceLeDiff, Nat.reduceMul, Nat.reduceSub, Int.reduceLE, Int.reduceLT, Int.reduceToNat, Int.reducePow, Int.reduceEq, r2, hle2, hlen3, List.length_append, Nat.le_refl]) ?_; simp only [go_sem, Nat.reduceEqDiff, Nat.reduceLT, Nat.reduceAdd, Nat.reduceLeDiff, Nat.reduceMul, Nat.reduceSub, Int.reduceLE, Int.reduceLT, Int.reduceToNat, Int.reducePow, Int.reduceEq, r2, hle2, hlen3, List.length_append, Nat.le_refl])
      obtain ⟨M3, hM3⟩ : ∃ M3, M3 = M2.set M.length AObj.gone ++ [AObj.cells (List.take (ys.length) (List.map V.int (ys)) ++ cellsL [V.int a, V.int b, V.prim (Value.int IntKind.i64 (4 * ↑ys.length + kind))])] := ⟨_, rfl⟩
      have t0 : M3.length = M.length + 2 := by simp [hM3, r0]
      have t1 : M3[i]? = some (.cells [V.arr M.length 0 (ys.length) 1, V.int most]) := by
        rw [hM3, List.getElem?_append_left (by simp; omega), List.getElem?_set_ne (by omega)]; exact r1
      have t2 : M3[M.length + 1]? = some (.cells ((ys ++ [a, b, 4 * ys.length + kind]).map V.int)) := by
        rw [hM3, List.getElem?_append_right (by simp; omega)]
        simp [r0, cellsL, V.cells, List.take_of_length_le]
      have t3 : ∀ j, j < M.length → j ≠ i → (none : Option Nat) ≠ some j → M3[j]? = M[j]? := by
        intro j hj hji hne
        rw [hM3, List.getElem?_append_left (by simp; omega), List.getElem?_set_ne (by omega)]
        exact r3 j hj hji hne
      rw [← hM3, r0]
      refine ⟨t1, ?_⟩
      clear hM3
      (refine DR_quiet [18, 19] (by decide +kernel) (fun M_ hS_ => ?_) (fun K2 hK2 => ?_); (focus (simp only [go_sem, Nat.reduceEqDiff, Nat.reduceLT, Nat.reduceAdd, Nat.reduceLeDiff, Nat.reduceMul, Nat.reduceSub, Int.reduceLE, Int.reduceLT, Int.reduceToNat, Int.reducePow, Int.reduceEq, hS_, t1])); simp only [go_sem, Nat.reduceEqDiff, Nat.reduceLT, Nat.reduceAdd, Nat.reduceLeDiff, Nat.reduceMul, Nat.reduceSub, Int.reduceLE, Int.reduceLT, Int.reduceToNat, Int.reducePow, Int.reduceEq, t1]; refine hK2 _ ?_; clear hK2)
      (refine DR_last' 20 (by decide +kernel) (by decide +kernel) (by decide +kernel) (by simp only [go_sem, Nat.reduceEqDiff, Nat.reduceLT, Nat.reduceAdd, Nat.reduceLeDiff, Nat.reduceMul, Nat.reduceSub, Int.reduceLE, Int.reduceLT, Int.reduceToNat, Int.reducePow, Int.reduceEq, t1]) ?_; simp only [go_sem, Nat.reduceEqDiff, Nat.reduceLT, Nat.reduceAdd, Nat.reduceLeDiff, Nat.reduceMul, Nat.reduceSub, Int.reduceLE, Int.reduceLT, Int.reduceToNat, Int.reducePow, Int.reduceEq, t1]; refine hK _ _ ?_; clear hK)
      (repeat (first | refine W_seq ?_ | refine W_block ?_ | refine W_blk ?_ | refine W_skip ?_ | (refine W_region [] (by rfl) fun K hK => ?_; simp only [go_sem, Nat.reduceEqDiff, Nat.reduceLT, Nat.reduceAdd, Nat.reduceLeDiff, Nat.reduceMul, Nat.reduceSub, Int.reduceLE, Int.reduceLT, Int.reduceToNat, Int.reducePow, Int.reduceEq]; refine WRun.done _ _ (hK _ _ ?_); clear hK)))
      refine W_ret ?_
      simp only [go_sem, Nat.reduceEqDiff, Nat.reduceLT, Nat.reduceAdd, Nat.reduceLeDiff, Nat.reduceMul, Nat.reduceSub, Int.reduceLE, Int.reduceLT, Int.reduceToNat, Int.reducePow, Int.reduceEq]
      have hi3 : i < M3.length := by omega
      refine ⟨⟨?_, (fun h => by cases h), fun k' hk' => ?_⟩, ?_, ?_⟩
      · simp [hi3, wordsV, Nat.add_assoc]
      · injection hk' with hk'
        subst hk'
        exact ⟨by omega, _, (by rw [List.getElem?_set_ne (by omega)]; exact t2), List.take_of_length_le (by simp)⟩
      · simp [t0]
      · intro j hj hji hne
        rw [List.getElem?_set_ne (by omega)]
        exact t3 j hj hji hne

  | some k =>
    obtain ⟨hki, ws', hk, hws⟩ := hS.some k rfl
    simp only [wordsV] at hc
    have hle : ws.length ≤ ws'.length := by
      have := congrArg List.length hws
      simp at this; omega
    have hlen : ws.length + ys.length ≤ 1073741824 := by omega
    rcases hL with ⟨tg, rfl⟩ | ⟨kk, cs, rfl, h1, h2⟩
    · (repeat (first | refine W_seq ?_ | refine W_block ?_ | refine W_blk ?_ | refine W_skip ?_ | (refine W_region [3] (by rfl) fun K hK => ?_; simp only [go_sem, Nat.reduceEqDiff, Nat.reduceLT, Nat.reduceAdd, Nat.reduceLeDiff, Nat.reduceMul, Nat.reduceSub, Int.reduceLE, Int.reduceLT, Int.reduceToNat, Int.reducePow, Int.reduceEq, c1, c2, c3, c4, c5', List.length_map]; refine WRun.done _ _ (hK _ _ ?_); clear hK)))
      refine W_cond_false (by simp only [go_sem, Nat.reduceEqDiff, Nat.reduceLT, Nat.reduceAdd, Nat.reduceLeDiff, Nat.reduceMul, Nat.reduceSub, Int.reduceLE, Int.reduceLT, Int.reduceToNat, Int.reducePow, Int.reduceEq]) ?_
      (repeat (first | refine W_seq ?_ | refine W_block ?_ | refine W_blk ?_ | refine W_skip ?_))
      (refine W_read [] mixed_ (by rfl) (by decide +kernel) (by decide +kernel) fun K2 hK2 => ?_; simp only [go_sem, List.size_toArray, List.range_succ, List.range_zero, QK, Nat.reduceEqDiff, Nat.reduceLT, Nat.reduceAdd, Nat.reduceLeDiff, Nat.reduceMul, Nat.reduceSub, Int.reduceLE, Int.reduceLT, Int.reduceToNat, Int.reducePow, Int.reduceEq, hc, e1, e2, List.length_map, List.length_nil]; refine hK2 _ ?_; clear hK2)
      refine W_cond_false (by simp only [go_sem, Nat.reduceEqDiff, Nat.reduceLT, Nat.reduceAdd, Nat.reduceLeDiff, Nat.reduceMul, Nat.reduceSub, Int.reduceLE, Int.reduceLT, Int.reduceToNat, Int.reducePow, Int.reduceEq]; simp [e3, e4]; omega) ?_
      (repeat (first | refine W_seq ?_ | refine W_block ?_ | refine W_blk ?_ | refine W_skip ?_))
      (refine W_draw [57] (fun M' => M'[i]? = some (.cells [.arr k 0 ws.length 1, V.int most])) mixed_ (by rfl) ?_ fun K hK => ?_)
      · exact hc
      (refine DR_quiet [0, 1, 2, 3, 4, 5, 6] (by decide +kernel) (fun M_ hS_ => ?_) (fun K2 hK2 => ?_); (focus (simp only [go_sem, Nat.reduceEqDiff, Nat.reduceLT, Nat.reduceAdd, Nat.reduceLeDiff, Nat.reduceMul, Nat.reduceSub, Int.reduceLE, Int.reduceLT, Int.reduceToNat, Int.reducePow, Int.reduceEq, hS_, hc])); simp only [go_sem, Nat.reduceEqDiff, Nat.reduceLT, Nat.reduceAdd, Nat.reduceLeDiff, Nat.reduceMul, Nat.reduceSub, Int.reduceLE, Int.reduceLT, Int.reduceToNat, Int.reducePow, Int.reduceEq, hc]; refine hK2 _ ?_; clear hK2)
      (refine DR_sole' 7 (by decide +kernel) (by simp only [go_sem, Nat.reduceEqDiff, Nat.reduceLT, Nat.reduceAdd, Nat.reduceLeDiff, Nat.reduceMul, Nat.reduceSub, Int.reduceLE, Int.reduceLT, Int.reduceToNat, Int.reducePow, Int.reduceEq, hk, hle, hsrc, hlen, Nat.zero_add, List.length_nil, List.nil_append]) ?_; simp only [go_sem, Nat.reduceEqDiff, Nat.reduceLT, Nat.reduceAdd, Nat.reduceLeDiff, Nat.reduceMul, Nat.reduceSub, Int.reduceLE, Int.reduceLT, Int.reduceToNat, Int.reducePow, Int.reduceEq, hk, hle, hsrc, hlen, Nat.zero_add, List.length_nil, List.nil_append])
      obtain ⟨M1, hM1⟩ : ∃ M1, M1 = List.set M k AObj.gone ++ [AObj.cells (List.take ws.length ws' ++ List.map V.int ys)] := ⟨_, rfl⟩
      have q0 : M1.length = M.length + 1 := by simp [hM1]
      have q1 : M1[i]? = some (.cells [.arr k 0 ws.length 1, V.int most]) := by rw [hM1, List.getElem?_append_left (by simpa using hi), List.getElem?_set_ne hki]; exact hc
      have q2 : M1[M.length]? = some (.cells (List.take ws.length ws' ++ List.map V.int ys)) := by simp [hM1]
      have q3 : ∀ j, j < M.length → some k ≠ some j → M1[j]? = M[j]? := by
        intro j hj hne
        rw [hM1, List.getElem?_append_left (by simpa using hj), List.getElem?_set_ne (fun h => hne (by rw [h]))]
      skip
      rw [← hM1]
      refine ⟨q1, ?_⟩
      (refine DR_quiet [8, 9] (by decide +kernel) (fun M_ hS_ => ?_) (fun K2 hK2 => ?_); (focus (simp only [go_sem, Nat.reduceEqDiff, Nat.reduceLT, Nat.reduceAdd, Nat.reduceLeDiff, Nat.reduceMul, Nat.reduceSub, Int.reduceLE, Int.reduceLT, Int.reduceToNat, Int.reducePow, Int.reduceEq, hS_, q1])); simp only [go_sem, Nat.reduceEqDiff, Nat.reduceLT, Nat.reduceAdd, Nat.reduceLeDiff, Nat.reduceMul, Nat.reduceSub, Int.reduceLE, Int.reduceLT, Int.reduceToNat, Int.reducePow, Int.reduceEq, q1]; refine hK2 _ ?_; clear hK2)
      (refine DR_last' 10 (by decide +kernel) (by decide +kernel) (by decide +kernel) (by simp only [go_sem, Nat.reduceEqDiff, Nat.reduceLT, Nat.reduceAdd, Nat.reduceLeDiff, Nat.reduceMul, Nat.reduceSub, Int.reduceLE, Int.reduceLT, Int.reduceToNat, Int.reducePow, Int.reduceEq, q1]) ?_; simp only [go_sem, Nat.reduceEqDiff, Nat.reduceLT, Nat.reduceAdd, Nat.reduceLeDiff, Nat.reduceMul, Nat.reduceSub, Int.reduceLE, Int.reduceLT, Int.reduceToNat, Int.reducePow, Int.reduceEq, q1]; refine hK _ _ ?_; clear hK)
      have hi1 : i < M1.length := by omega
      have hne1 : i ≠ M.length := by omega
      have r1 : (M1.set i (AObj.cells [V.arr M.length 0 (ws.length + ys.length) 1, V.int most]))[i]? = some (.cells [V.arr M.length 0 (ws.length + ys.length) 1, V.int most]) := by simp [hi1]
      have r2 : (M1.set i (AObj.cells [V.arr M.length 0 (ws.length + ys.length) 1, V.int most]))[M.length]? = some (.cells (List.take ws.length ws' ++ List.map V.int ys)) := by rw [List.getElem?_set_ne hne1]; exact q2
      have r3 : ∀ j, j < M.length → j ≠ i → some k ≠ some j → (M1.set i (AObj.cells [V.arr M.length 0 (ws.length + ys.length) 1, V.int most]))[j]? = M[j]? := by
        intro j hj hji hne
        rw [List.getElem?_set_ne (by omega)]
        exact q3 j hj hne
      have r0 : (M1.set i (AObj.cells [V.arr M.length 0 (ws.length + ys.length) 1, V.int most])).length = M.length + 1 := by simp [q0]
      generalize M1.set i (AObj.cells [V.arr M.length 0 (ws.length + ys.length) 1, V.int most]) = M2 at r0 r1 r2 r3 ⊢
      (repeat (first | refine W_seq ?_ | refine W_block ?_ | refine W_blk ?_ | refine W_skip ?_))
      (refine W_draw [77] (fun M' => M'[i]? = some (.cells [V.arr M.length 0 (ws.length + ys.length) 1, V.int most])) mixed_ (by rfl) ?_ fun K hK => ?_)
      · exact r1
      (refine DR_quiet [0, 1, 2, 3, 4, 5, 6, 7, 8, 9, 10, 11, 12, 13, 14, 15, 16] (by decide +kernel) (fun M_ hS_ => ?_) (fun K2 hK2 => ?_); (focus (simp only [go_sem, Nat.reduceEqDiff, Nat.reduceLT, Nat.reduceAdd, Nat.reduceLeDiff, Nat.reduceMul, Nat.reduceSub, Int.reduceLE, Int.reduceLT, Int.reduceToNat, Int.reducePow, Int.reduceEq, hS_, r1, hp, List.length_map])); simp only [go_sem, Nat.reduceEqDiff, Nat.reduceLT, Nat.reduceAdd, Nat.reduceLeDiff, Nat.reduceMul, Nat.reduceSub, Int.reduceLE, Int.reduceLT, Int.reduceToNat, Int.reducePow, Int.reduceEq, r1, hp, List.length_map]; refine hK2 _ ?_; clear hK2)
      rw [hws, ← List.map_append] at r2
      have hle2 : ws.length + ys.length ≤ ((ws ++ ys).map V.int).length := by simp
      have hlen3 : ws.length + ys.length ≤ 1073741821 := by omega
      (refine DR_sole' 17 (by decide +kernel) (by simp only [go_sem, Nat.reduceEqDiff, Nat.reduceLT, Nat.reduceAdd, Nat.reduceLeDiff, Nat.reduceMul, Nat.reduceSub, Int.reduceLE, Int.reduceLT, Int.reduceToNat, Int.reducePow, Int.reduceEq, r2, hle2, hlen3, List.length_append, Nat.le_refl]) ?_; simp only [go_sem, Nat.reduceEqDiff, Nat.reduceLT, Nat.reduceAdd, Nat.reduceLeDiff, Nat.reduceMul, Nat.reduceSub, Int.reduceLE, Int.reduceLT, Int.reduceToNat, Int.reducePow, Int.reduceEq, r2, hle2, hlen3, List.length_append, Nat.le_refl])
      obtain ⟨M3, hM3⟩ : ∃ M3, M3 = M2.set M.length AObj.gone ++ [AObj.cells (List.take (ws.length + ys.length) (List.map V.int (ws ++ ys)) ++ cellsL [V.int a, V.int b, V.prim (Value.int IntKind.i64 (4 * ↑ys.length + kind))])] := ⟨_, rfl⟩
      have t0 : M3.length = M.length + 2 := by simp [hM3, r0]
      have t1 : M3[i]? = some (.cells [V.arr M.length 0 (ws.length + ys.length) 1, V.int most]) := by
        rw [hM3, List.getElem?_append_left (by simp; omega), List.getElem?_set_ne (by omega)]; exact r1
      have t2 : M3[M.length + 1]? = some (.cells ((ws ++ ys ++ [a, b, 4 * ys.length + kind]).map V.int)) := by
        rw [hM3, List.getElem?_append_right (by simp; omega)]
        simp [r0, cellsL, V.cells, List.take_of_length_le]
      have t3 : ∀ j, j < M.length → j ≠ i → some k ≠ some j → M3[j]? = M[j]? := by
        intro j hj hji hne
        rw [hM3, List.getElem?_append_left (by simp; omega), List.getElem?_set_ne (by omega)]
        exact r3 j hj hji hne
      rw [← hM3, r0]
      refine ⟨t1, ?_⟩
      clear hM3
      (refine DR_quiet [18, 19] (by decide +kernel) (fun M_ hS_ => ?_) (fun K2 hK2 => ?_); (focus (simp only [go_sem, Nat.reduceEqDiff, Nat.reduceLT, Nat.reduceAdd, Nat.reduceLeDiff, Nat.reduceMul, Nat.reduceSub, Int.reduceLE, Int.reduceLT, Int.reduceToNat, Int.reducePow, Int.reduceEq, hS_, t1])); simp only [go_sem, Nat.reduceEqDiff, Nat.reduceLT, Nat.reduceAdd, Nat.reduceLeDiff, Nat.reduceMul, Nat.reduceSub, Int.reduceLE, Int.reduceLT, Int.reduceToNat, Int.reducePow, Int.reduceEq, t1]; refine hK2 _ ?_; clear hK2)
      (refine DR_last' 20 (by decide +kernel) (by decide +kernel) (by decide +kernel) (by simp only [go_sem, Nat.reduceEqDiff, Nat.reduceLT, Nat.reduceAdd, Nat.reduceLeDiff, Nat.reduceMul, Nat.reduceSub, Int.reduceLE, Int.reduceLT, Int.reduceToNat, Int.reducePow, Int.reduceEq, t1]) ?_; simp only [go_sem, Nat.reduceEqDiff, Nat.reduceLT, Nat.reduceAdd, Nat.reduceLeDiff, Nat.reduceMul, Nat.reduceSub, Int.reduceLE, Int.reduceLT, Int.reduceToNat, Int.reducePow, Int.reduceEq, t1]; refine hK _ _ ?_; clear hK)
      (repeat (first | refine W_seq ?_ | refine W_block ?_ | refine W_blk ?_ | refine W_skip ?_ | (refine W_region [] (by rfl) fun K hK => ?_; simp only [go_sem, Nat.reduceEqDiff, Nat.reduceLT, Nat.reduceAdd, Nat.reduceLeDiff, Nat.reduceMul, Nat.reduceSub, Int.reduceLE, Int.reduceLT, Int.reduceToNat, Int.reducePow, Int.reduceEq]; refine WRun.done _ _ (hK _ _ ?_); clear hK)))
      refine W_ret ?_
      simp only [go_sem, Nat.reduceEqDiff, Nat.reduceLT, Nat.reduceAdd, Nat.reduceLeDiff, Nat.reduceMul, Nat.reduceSub, Int.reduceLE, Int.reduceLT, Int.reduceToNat, Int.reducePow, Int.reduceEq]
      have hi3 : i < M3.length := by omega
      refine ⟨⟨?_, (fun h => by cases h), fun k' hk' => ?_⟩, ?_, ?_⟩
      · simp [hi3, wordsV, Nat.add_assoc]
      · injection hk' with hk'
        subst hk'
        exact ⟨by omega, _, (by rw [List.getElem?_set_ne (by omega)]; exact t2), List.take_of_length_le (by simp)⟩
      · simp [t0]
      · intro j hj hji hne
        rw [List.getElem?_set_ne (by omega)]
        exact t3 j hj hji hne

    · have hcl : ys.length ≤ cs.length := by
        have := congrArg List.length h2
        simp at this; omega
      (repeat (first | refine W_seq ?_ | refine W_block ?_ | refine W_blk ?_ | refine W_skip ?_ | (refine W_region [3] (by rfl) fun K hK => ?_; simp only [go_sem, Nat.reduceEqDiff, Nat.reduceLT, Nat.reduceAdd, Nat.reduceLeDiff, Nat.reduceMul, Nat.reduceSub, Int.reduceLE, Int.reduceLT, Int.reduceToNat, Int.reducePow, Int.reduceEq, c1, c2, c3, c4, c5', List.length_map]; refine WRun.done _ _ (hK _ _ ?_); clear hK)))
      refine W_cond_false (by simp only [go_sem, Nat.reduceEqDiff, Nat.reduceLT, Nat.reduceAdd, Nat.reduceLeDiff, Nat.reduceMul, Nat.reduceSub, Int.reduceLE, Int.reduceLT, Int.reduceToNat, Int.reducePow, Int.reduceEq]) ?_
      (repeat (first | refine W_seq ?_ | refine W_block ?_ | refine W_blk ?_ | refine W_skip ?_))
      (refine W_read [] mixed_ (by rfl) (by decide +kernel) (by decide +kernel) fun K2 hK2 => ?_; simp only [go_sem, List.size_toArray, List.range_succ, List.range_zero, QK, Nat.reduceEqDiff, Nat.reduceLT, Nat.reduceAdd, Nat.reduceLeDiff, Nat.reduceMul, Nat.reduceSub, Int.reduceLE, Int.reduceLT, Int.reduceToNat, Int.reducePow, Int.reduceEq, hc, e1, e2, List.length_map, List.length_nil]; refine hK2 _ ?_; clear hK2)
      refine W_cond_false (by simp only [go_sem, Nat.reduceEqDiff, Nat.reduceLT, Nat.reduceAdd, Nat.reduceLeDiff, Nat.reduceMul, Nat.reduceSub, Int.reduceLE, Int.reduceLT, Int.reduceToNat, Int.reducePow, Int.reduceEq]; simp [e3, e4]; omega) ?_
      (repeat (first | refine W_seq ?_ | refine W_block ?_ | refine W_blk ?_ | refine W_skip ?_))
      (refine W_draw [57] (fun M' => M'[i]? = some (.cells [.arr k 0 ws.length 1, V.int most])) mixed_ (by rfl) ?_ fun K hK => ?_)
      · exact hc
      (refine DR_quiet [0, 1, 2, 3, 4, 5, 6] (by decide +kernel) (fun M_ hS_ => ?_) (fun K2 hK2 => ?_); (focus (simp only [go_sem, Nat.reduceEqDiff, Nat.reduceLT, Nat.reduceAdd, Nat.reduceLeDiff, Nat.reduceMul, Nat.reduceSub, Int.reduceLE, Int.reduceLT, Int.reduceToNat, Int.reducePow, Int.reduceEq, hS_, hc])); simp only [go_sem, Nat.reduceEqDiff, Nat.reduceLT, Nat.reduceAdd, Nat.reduceLeDiff, Nat.reduceMul, Nat.reduceSub, Int.reduceLE, Int.reduceLT, Int.reduceToNat, Int.reducePow, Int.reduceEq, hc]; refine hK2 _ ?_; clear hK2)
      (refine DR_sole' 7 (by decide +kernel) (by simp only [go_sem, Nat.reduceEqDiff, Nat.reduceLT, Nat.reduceAdd, Nat.reduceLeDiff, Nat.reduceMul, Nat.reduceSub, Int.reduceLE, Int.reduceLT, Int.reduceToNat, Int.reducePow, Int.reduceEq, hk, hle, h1, hcl, h2, hone, hlen, Nat.zero_add, List.length_nil, List.nil_append]) ?_; simp only [go_sem, Nat.reduceEqDiff, Nat.reduceLT, Nat.reduceAdd, Nat.reduceLeDiff, Nat.reduceMul, Nat.reduceSub, Int.reduceLE, Int.reduceLT, Int.reduceToNat, Int.reducePow, Int.reduceEq, hk, hle, h1, hcl, h2, hone, hlen, Nat.zero_add, List.length_nil, List.nil_append])
      obtain ⟨M1, hM1⟩ : ∃ M1, M1 = List.set M k AObj.gone ++ [AObj.cells (List.take ws.length ws' ++ List.map V.int ys)] := ⟨_, rfl⟩
      have q0 : M1.length = M.length + 1 := by simp [hM1]
      have q1 : M1[i]? = some (.cells [.arr k 0 ws.length 1, V.int most]) := by rw [hM1, List.getElem?_append_left (by simpa using hi), List.getElem?_set_ne hki]; exact hc
      have q2 : M1[M.length]? = some (.cells (List.take ws.length ws' ++ List.map V.int ys)) := by simp [hM1]
      have q3 : ∀ j, j < M.length → some k ≠ some j → M1[j]? = M[j]? := by
        intro j hj hne
        rw [hM1, List.getElem?_append_left (by simpa using hj), List.getElem?_set_ne (fun h => hne (by rw [h]))]
      skip
      rw [← hM1]
      refine ⟨q1, ?_⟩
      (refine DR_quiet [8, 9] (by decide +kernel) (fun M_ hS_ => ?_) (fun K2 hK2 => ?_); (focus (simp only [go_sem, Nat.reduceEqDiff, Nat.reduceLT, Nat.reduceAdd, Nat.reduceLeDiff, Nat.reduceMul, Nat.reduceSub, Int.reduceLE, Int.reduceLT, Int.reduceToNat, Int.reducePow, Int.reduceEq, hS_, q1])); simp only [go_sem, Nat.reduceEqDiff, Nat.reduceLT, Nat.reduceAdd, Nat.reduceLeDiff, Nat.reduceMul, Nat.reduceSub, Int.reduceLE, Int.reduceLT, Int.reduceToNat, Int.reducePow, Int.reduceEq, q1]; refine hK2 _ ?_; clear hK2)
      (refine DR_last' 10 (by decide +kernel) (by decide +kernel) (by decide +kernel) (by simp only [go_sem, Nat.reduceEqDiff, Nat.reduceLT, Nat.reduceAdd, Nat.reduceLeDiff, Nat.reduceMul, Nat.reduceSub, Int.reduceLE, Int.reduceLT, Int.reduceToNat, Int.reducePow, Int.reduceEq, q1]) ?_; simp only [go_sem, Nat.reduceEqDiff, Nat.reduceLT, Nat.reduceAdd, Nat.reduceLeDiff, Nat.reduceMul, Nat.reduceSub, Int.reduceLE, Int.reduceLT, Int.reduceToNat, Int.reducePow, Int.reduceEq, q1]; refine hK _ _ ?_; clear hK)
      have hi1 : i < M1.length := by omega
      have hne1 : i ≠ M.length := by omega
      have r1 : (M1.set i (AObj.cells [V.arr M.length 0 (ws.length + ys.length) 1, V.int most]))[i]? = some (.cells [V.arr M.length 0 (ws.length + ys.length) 1, V.int most]) := by simp [hi1]
      have r2 : (M1.set i (AObj.cells [V.arr M.length 0 (ws.length + ys.length) 1, V.int most]))[M.length]? = some (.cells (List.take ws.length ws' ++ List.map V.int ys)) := by rw [List.getElem?_set_ne hne1]; exact q2
      have r3 : ∀ j, j < M.length → j ≠ i → some k ≠ some j → (M1.set i (AObj.cells [V.arr M.length 0 (ws.length + ys.length) 1, V.int most]))[j]? = M[j]? := by
        intro j hj hji hne
        rw [List.getElem?_set_ne (by omega)]
        exact q3 j hj hne
      have r0 : (M1.set i (AObj.cells [V.arr M.length 0 (ws.length + ys.length) 1, V.int most])).length = M.length + 1 := by simp [q0]
      generalize M1.set i (AObj.cells [V.arr M.length 0 (ws.length + ys.length) 1, V.int most]) = M2 at r0 r1 r2 r3 ⊢
      (repeat (first | refine W_seq ?_ | refine W_block ?_ | refine W_blk ?_ | refine W_skip ?_))
      (refine W_draw [77] (fun M' => M'[i]? = some (.cells [V.arr M.length 0 (ws.length + ys.length) 1, V.int most])) mixed_ (by rfl) ?_ fun K hK => ?_)
      · exact r1
      (refine DR_quiet [0, 1, 2, 3, 4, 5, 6, 7, 8, 9, 10, 11, 12, 13, 14, 15, 16] (by decide +kernel) (fun M_ hS_ => ?_) (fun K2 hK2 => ?_); (focus (simp only [go_sem, Nat.reduceEqDiff, Nat.reduceLT, Nat.reduceAdd, Nat.reduceLeDiff, Nat.reduceMul, Nat.reduceSub, Int.reduceLE, Int.reduceLT, Int.reduceToNat, Int.reducePow, Int.reduceEq, hS_, r1, hp, List.length_map])); simp only [go_sem, Nat.reduceEqDiff, Nat.reduceLT, Nat.reduceAdd, Nat.reduceLeDiff, Nat.reduceMul, Nat.reduceSub, Int.reduceLE, Int.reduceLT, Int.reduceToNat, Int.reducePow, Int.reduceEq, r1, hp, List.length_map]; refine hK2 _ ?_; clear hK2)
      rw [hws, ← List.map_append] at r2
      have hle2 : ws.length + ys.length ≤ ((ws ++ ys).map V.int).length := by simp
      have hlen3 : ws.length + ys.length ≤ 1073741821 := by omega
      (refine DR_sole' 17 (by decide +kernel) (by simp only [go_sem, Nat.reduceEqDiff, Nat.reduceLT, Nat.reduceAdd, Nat.reduceLeDiff, Nat.reduceMul, Nat.reduceSub, Int.reduceLE, Int.reduceLT, Int.reduceToNat, Int.reducePow, Int.reduceEq, r2, hle2, hlen3, List.length_append, Nat.le_refl]) ?_; simp only [go_sem, Nat.reduceEqDiff, Nat.reduceLT, Nat.reduceAdd, Nat.reduceLeDiff, Nat.reduceMul, Nat.reduceSub, Int.reduceLE, Int.reduceLT, Int.reduceToNat, Int.reducePow, Int.reduceEq, r2, hle2, hlen3, List.length_append, Nat.le_refl])
      obtain ⟨M3, hM3⟩ : ∃ M3, M3 = M2.set M.length AObj.gone ++ [AObj.cells (List.take (ws.length + ys.length) (List.map V.int (ws ++ ys)) ++ cellsL [V.int a, V.int b, V.prim (Value.int IntKind.i64 (4 * ↑ys.length + kind))])] := ⟨_, rfl⟩
      have t0 : M3.length = M.length + 2 := by simp [hM3, r0]
      have t1 : M3[i]? = some (.cells [V.arr M.length 0 (ws.length + ys.length) 1, V.int most]) := by
        rw [hM3, List.getElem?_append_left (by simp; omega), List.getElem?_set_ne (by omega)]; exact r1
      have t2 : M3[M.length + 1]? = some (.cells ((ws ++ ys ++ [a, b, 4 * ys.length + kind]).map V.int)) := by
        rw [hM3, List.getElem?_append_right (by simp; omega)]
        simp [r0, cellsL, V.cells, List.take_of_length_le]
      have t3 : ∀ j, j < M.length → j ≠ i → some k ≠ some j → M3[j]? = M[j]? := by
        intro j hj hji hne
        rw [hM3, List.getElem?_append_left (by simp; omega), List.getElem?_set_ne (by omega)]
        exact r3 j hj hji hne
      rw [← hM3, r0]
      refine ⟨t1, ?_⟩
      clear hM3
      (refine DR_quiet [18, 19] (by decide +kernel) (fun M_ hS_ => ?_) (fun K2 hK2 => ?_); (focus (simp only [go_sem, Nat.reduceEqDiff, Nat.reduceLT, Nat.reduceAdd, Nat.reduceLeDiff, Nat.reduceMul, Nat.reduceSub, Int.reduceLE, Int.reduceLT, Int.reduceToNat, Int.reducePow, Int.reduceEq, hS_, t1])); simp only [go_sem, Nat.reduceEqDiff, Nat.reduceLT, Nat.reduceAdd, Nat.reduceLeDiff, Nat.reduceMul, Nat.reduceSub, Int.reduceLE, Int.reduceLT, Int.reduceToNat, Int.reducePow, Int.reduceEq, t1]; refine hK2 _ ?_; clear hK2)
      (refine DR_last' 20 (by decide +kernel) (by decide +kernel) (by decide +kernel) (by simp only [go_sem, Nat.reduceEqDiff, Nat.reduceLT, Nat.reduceAdd, Nat.reduceLeDiff, Nat.reduceMul, Nat.reduceSub, Int.reduceLE, Int.reduceLT, Int.reduceToNat, Int.reducePow, Int.reduceEq, t1]) ?_; simp only [go_sem, Nat.reduceEqDiff, Nat.reduceLT, Nat.reduceAdd, Nat.reduceLeDiff, Nat.reduceMul, Nat.reduceSub, Int.reduceLE, Int.reduceLT, Int.reduceToNat, Int.reducePow, Int.reduceEq, t1]; refine hK _ _ ?_; clear hK)
      (repeat (first | refine W_seq ?_ | refine W_block ?_ | refine W_blk ?_ | refine W_skip ?_ | (refine W_region [] (by rfl) fun K hK => ?_; simp only [go_sem, Nat.reduceEqDiff, Nat.reduceLT, Nat.reduceAdd, Nat.reduceLeDiff, Nat.reduceMul, Nat.reduceSub, Int.reduceLE, Int.reduceLT, Int.reduceToNat, Int.reducePow, Int.reduceEq]; refine WRun.done _ _ (hK _ _ ?_); clear hK)))
      refine W_ret ?_
      simp only [go_sem, Nat.reduceEqDiff, Nat.reduceLT, Nat.reduceAdd, Nat.reduceLeDiff, Nat.reduceMul, Nat.reduceSub, Int.reduceLE, Int.reduceLT, Int.reduceToNat, Int.reducePow, Int.reduceEq]
      have hi3 : i < M3.length := by omega
      refine ⟨⟨?_, (fun h => by cases h), fun k' hk' => ?_⟩, ?_, ?_⟩
      · simp [hi3, wordsV, Nat.add_assoc]
      · injection hk' with hk'
        subst hk'
        exact ⟨by omega, _, (by rw [List.getElem?_set_ne (by omega)]; exact t2), List.take_of_length_le (by simp)⟩
      · simp [t0]
      · intro j hj hji hne
        rw [List.getElem?_set_ne (by omega)]
        exact t3 j hj hji hne

end Go.Ax

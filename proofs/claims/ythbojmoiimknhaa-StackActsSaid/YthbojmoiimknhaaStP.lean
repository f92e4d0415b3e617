import Derived.Test.YthbojmoiimknhaaStO
set_option linter.unusedSimpArgs false
set_option linter.unusedVariables false
namespace Go.Ax
open Go.Proofs

def actsV (l : List ActIn) : List V := l.map fun a => V.agg a.cells

/-- One act. -/
theorem act_body {Ret : Fr → AMem → Prop} {k1 : List It} {most : Int} {i : Nat} {ls : List LFrm} {k lk : Option Nat} {acts : List ActIn} {n : Nat} {F : Fr} {M : AMem} (hR : ActR most i ls k lk (actsV acts) n F M) (hmost : most ≤ 16384) (hls : ls.length ≤ 100) (hn : n < acts.length)
    (hkd : ∀ a ∈ acts, 0 ≤ a.kd ∧ a.kd < 256)
    (hk : ∀ F' M' ls' k' lk', ActR most i ls' k' lk' (actsV acts) n F' M' → ls'.length ≤ ls.length + 1 → W Try.prog 301 Ret k1 F' M')
    (hkx : ∀ F' M', ActR most i ls k lk (actsV acts) n F' M' → Qof Try.prog 301 Ret k1 (.exit 1) F' M')
    (hret : ∀ F' M', look F' 4 = V.bool true → Ret F' M') :
    W Try.prog 301 Ret (.code (part [1,1,1,1,1,1,0,1,1,1,1,1,0,1] body3) :: k1) F M := by
  have ⟨hst, hlen, f0, f5, f7, f8, f51, f52, f53⟩ := hR
  obtain ⟨hil, hkl, hlkl, hlsl⟩ := hst.lts
  obtain ⟨a, ha⟩ : ∃ a, acts[n]? = some a := ⟨_, List.getElem?_eq_getElem hn⟩
  have hpa : (actsV acts)[n]? = some (V.agg a.cells) := by rw [actsV, List.getElem?_map, ha]; rfl
  have hal : (actsV acts).length = acts.length := by simp [actsV]
  have hlt : (n : Int) < ((actsV acts).length : Int) := by omega
  obtain ⟨hkd0, hkd1⟩ := hkd a (List.mem_of_getElem? ha)
  have after : ∀ F' M' ls' k' lk', ActR most i ls' k' lk' (actsV acts) n F' M' → ls'.length ≤ ls.length + 1 → W Try.prog 301 Ret (.code (part [1,1,1,1,1,1,0,1,1,1,1,1,0,1,1,1] body3) :: k1) F' M' := by
    intro F' M' ls' k' lk' hR' hls'
    have ⟨hst', hlen', g0, g5, g7, g8, g51, g52, g53⟩ := hR'
    (repeat (first | refine W_seq ?_ | refine W_block ?_ | refine W_blk ?_ | refine W_skip ?_))
    (refine W_region [] (by rfl) fun K hK => ?_; simp only [go_sem, Nat.reduceEqDiff, Nat.reduceLT, Nat.reduceAdd, Nat.reduceLeDiff, Nat.reduceMul, Nat.reduceSub, Int.reduceLE, Int.reduceLT, Int.reduceToNat, Int.reducePow, Int.reduceEq, g5])
    refine WRun.call _ _ _ _ _ _ _ (used_ok M' i most _ k' hst'.stack) ?_
    rintro r X ⟨rfl, rfl⟩
    simp only [go_sem, Nat.reduceEqDiff, Nat.reduceLT, Nat.reduceAdd, Nat.reduceLeDiff, Nat.reduceMul, Nat.reduceSub, Int.reduceLE, Int.reduceLT, Int.reduceToNat, Int.reducePow, Int.reduceEq, g8]
    (refine WRun.done _ _ (hK _ _ ?_); clear hK)
    refine W_cond_false (by simp only [go_sem, Nat.reduceEqDiff, Nat.reduceLT, Nat.reduceAdd, Nat.reduceLeDiff, Nat.reduceMul, Nat.reduceSub, Int.reduceLE, Int.reduceLT, Int.reduceToNat, Int.reducePow, Int.reduceEq]) ?_
    refine W_skip ?_
    refine hk _ X ls' k' lk' (hR'.next hst' hlen' ?_ ?_ ?_ ?_ ?_ ?_ ?_) hls'
    · simp only [go_sem, Nat.reduceEqDiff, Nat.reduceLT, Nat.reduceAdd, Nat.reduceLeDiff, Nat.reduceMul, Nat.reduceSub, Int.reduceLE, Int.reduceLT, Int.reduceToNat, Int.reducePow, Int.reduceEq]
    · simp only [go_sem, Nat.reduceEqDiff, Nat.reduceLT, Nat.reduceAdd, Nat.reduceLeDiff, Nat.reduceMul, Nat.reduceSub, Int.reduceLE, Int.reduceLT, Int.reduceToNat, Int.reducePow, Int.reduceEq]
    · simp only [go_sem, Nat.reduceEqDiff, Nat.reduceLT, Nat.reduceAdd, Nat.reduceLeDiff, Nat.reduceMul, Nat.reduceSub, Int.reduceLE, Int.reduceLT, Int.reduceToNat, Int.reducePow, Int.reduceEq, g7]
    · simp only [go_sem, Nat.reduceEqDiff, Nat.reduceLT, Nat.reduceAdd, Nat.reduceLeDiff, Nat.reduceMul, Nat.reduceSub, Int.reduceLE, Int.reduceLT, Int.reduceToNat, Int.reducePow, Int.reduceEq, g8]
    · simp only [go_sem, Nat.reduceEqDiff, Nat.reduceLT, Nat.reduceAdd, Nat.reduceLeDiff, Nat.reduceMul, Nat.reduceSub, Int.reduceLE, Int.reduceLT, Int.reduceToNat, Int.reducePow, Int.reduceEq]
    · simp only [go_sem, Nat.reduceEqDiff, Nat.reduceLT, Nat.reduceAdd, Nat.reduceLeDiff, Nat.reduceMul, Nat.reduceSub, Int.reduceLE, Int.reduceLT, Int.reduceToNat, Int.reducePow, Int.reduceEq]
    · simp only [go_sem, Nat.reduceEqDiff, Nat.reduceLT, Nat.reduceAdd, Nat.reduceLeDiff, Nat.reduceMul, Nat.reduceSub, Int.reduceLE, Int.reduceLT, Int.reduceToNat, Int.reducePow, Int.reduceEq]
  (repeat (first | refine W_seq ?_ | refine W_block ?_ | refine W_blk ?_ | refine W_skip ?_))
  simp only [ActIn.cells] at hpa
  (refine W_region [] (by rfl) fun K hK => ?_; simp only [go_sem, Nat.reduceEqDiff, Nat.reduceLT, Nat.reduceAdd, Nat.reduceLeDiff, Nat.reduceMul, Nat.reduceSub, Int.reduceLE, Int.reduceLT, Int.reduceToNat, Int.reducePow, Int.reduceEq, f51, f53, hpa, hlt, at_left, set_left, Int.natCast_nonneg, Int.toNat_natCast, List.head?_drop])
  (refine WRun.done _ _ (hK _ _ ?_); clear hK)
  have hk1 : ∀ j, j < M.length → (M ++ [AObj.cells a.cells])[j]? = M[j]? := fun j hj => List.getElem?_append_left hj
  have st1 : ActSt (M ++ [AObj.cells a.cells]) i most ls k lk := hst.same (hk1 _ hil) (fun k' e => hk1 _ (hkl k' e)) (fun k' e => hk1 _ (hlkl k' e)) (fun y hy => hk1 _ (hlsl y hy))
  have hx1 : (M ++ [AObj.cells a.cells])[M.length]? = some (.cells a.cells) := by simp
  change W Try.prog 301 Ret _ _ (M ++ [AObj.cells a.cells])
  generalize M ++ [AObj.cells a.cells] = M1 at st1 hx1 ⊢
  have hx1' := hx1
  simp only [ActIn.cells] at hx1'
  have hX : ∀ F', look F' 10 = .ptr M.length 0 → ActX a M.length i ls k lk F' M1 := fun F' e10 => ⟨e10, hx1, by omega, fun e => by have := hkl _ e; omega, fun e => by have := hlkl _ e; omega, fun y hy e => by have := hlsl y hy; omega⟩
  (repeat (first | refine W_seq ?_ | refine W_block ?_ | refine W_blk ?_ | refine W_skip ?_))
  (refine W_region [] (by rfl) fun K hK => ?_; simp only [go_sem, Nat.reduceEqDiff, Nat.reduceLT, Nat.reduceAdd, Nat.reduceLeDiff, Nat.reduceMul, Nat.reduceSub, Int.reduceLE, Int.reduceLT, Int.reduceToNat, Int.reducePow, Int.reduceEq, hx1', ne_eq, not_false_eq_true, Nat.zero_add])
  (refine WRun.done _ _ (hK _ _ ?_); clear hK)
  (repeat (first | refine W_seq ?_ | refine W_block ?_ | refine W_blk ?_ | refine W_skip ?_))
  have reg : ∀ F', (∀ t, t < 10 ∨ 59 < t ∨ (50 < t ∧ t < 54) → t < 134 → look F' t = look F t) → ActR most i ls k lk (actsV acts) n F' M1 := by
    intro F' e
    exact hR.next st1 hlen (e 0 (by omega) (by omega)) (e 5 (by omega) (by omega)) ((e 7 (by omega) (by omega)).trans f7) ((e 8 (by omega) (by omega)).trans f8) (e 51 (by omega) (by omega)) (e 52 (by omega) (by omega)) (e 53 (by omega) (by omega))
  by_cases h0 : a.kd.tmod 3 = 0
  · (refine W_region [] (by rfl) fun K hK => ?_; simp only [go_sem, Nat.reduceEqDiff, Nat.reduceLT, Nat.reduceAdd, Nat.reduceLeDiff, Nat.reduceMul, Nat.reduceSub, Int.reduceLE, Int.reduceLT, Int.reduceToNat, Int.reducePow, Int.reduceEq, h0])
    (refine WRun.done _ _ (hK _ _ ?_); clear hK)
    refine W_cond_true (by simp only [go_sem, Nat.reduceEqDiff, Nat.reduceLT, Nat.reduceAdd, Nat.reduceLeDiff, Nat.reduceMul, Nat.reduceSub, Int.reduceLE, Int.reduceLT, Int.reduceToNat, Int.reducePow, Int.reduceEq]) ?_
    refine act_push (a := a) (x := M.length) (reg _ ?_) (hX _ ?_) hmost hls (fun F' M' ls' k' lk' h1 h2 => W_blk (after F' M' ls' k' lk' h1 h2)) hret
    · intro t ht h134
      have n1 : (t = 134) = False := eq_false (by omega)
      have n2 : (t = 135) = False := eq_false (by omega)
      have n3 : (t = 59) = False := eq_false (by omega)
      have n4 : (t = 58) = False := eq_false (by omega)
      have n5 : (t = 57) = False := eq_false (by omega)
      have n6 : (t = 10) = False := eq_false (by omega)
      have n7 : (t = 56) = False := eq_false (by omega)
      have n8 : (t = 55) = False := eq_false (by omega)
      simp only [go_sem, Nat.reduceEqDiff, Nat.reduceLT, Nat.reduceAdd, Nat.reduceLeDiff, Nat.reduceMul, Nat.reduceSub, Int.reduceLE, Int.reduceLT, Int.reduceToNat, Int.reducePow, Int.reduceEq, n1, n2, n3, n4, n5, n6, n7, n8, if_false]
    · simp only [go_sem, Nat.reduceEqDiff, Nat.reduceLT, Nat.reduceAdd, Nat.reduceLeDiff, Nat.reduceMul, Nat.reduceSub, Int.reduceLE, Int.reduceLT, Int.reduceToNat, Int.reducePow, Int.reduceEq]
  · have h0' : (a.kd.tmod 3 = 0) = False := eq_false h0
    (refine W_region [] (by rfl) fun K hK => ?_; simp only [go_sem, Nat.reduceEqDiff, Nat.reduceLT, Nat.reduceAdd, Nat.reduceLeDiff, Nat.reduceMul, Nat.reduceSub, Int.reduceLE, Int.reduceLT, Int.reduceToNat, Int.reducePow, Int.reduceEq, h0'])
    (refine WRun.done _ _ (hK _ _ ?_); clear hK)
    refine W_cond_false (by simp only [go_sem, Nat.reduceEqDiff, Nat.reduceLT, Nat.reduceAdd, Nat.reduceLeDiff, Nat.reduceMul, Nat.reduceSub, Int.reduceLE, Int.reduceLT, Int.reduceToNat, Int.reducePow, Int.reduceEq]) ?_
    (repeat (first | refine W_seq ?_ | refine W_block ?_ | refine W_blk ?_ | refine W_skip ?_))
    by_cases h1 : a.kd.tmod 3 = 1
    · (refine W_region [] (by rfl) fun K hK => ?_; simp only [go_sem, Nat.reduceEqDiff, Nat.reduceLT, Nat.reduceAdd, Nat.reduceLeDiff, Nat.reduceMul, Nat.reduceSub, Int.reduceLE, Int.reduceLT, Int.reduceToNat, Int.reducePow, Int.reduceEq, h1])
      (refine WRun.done _ _ (hK _ _ ?_); clear hK)
      refine W_cond_true (by simp only [go_sem, Nat.reduceEqDiff, Nat.reduceLT, Nat.reduceAdd, Nat.reduceLeDiff, Nat.reduceMul, Nat.reduceSub, Int.reduceLE, Int.reduceLT, Int.reduceToNat, Int.reducePow, Int.reduceEq]) ?_
      refine act_pop (reg _ ?_) hmost hls (fun F' M' ls' k' lk' h1 h2 => W_blk (after F' M' ls' k' lk' h1 h2)) (fun F' M' h1 => Qof_blk_other (by decide) (Qof_code (hkx F' M' h1)))
      intro t ht h134
      have n1 : (t = 134) = False := eq_false (by omega)
      have n2 : (t = 135) = False := eq_false (by omega)
      have n3 : (t = 59) = False := eq_false (by omega)
      have n4 : (t = 58) = False := eq_false (by omega)
      have n5 : (t = 57) = False := eq_false (by omega)
      have n6 : (t = 10) = False := eq_false (by omega)
      have n7 : (t = 56) = False := eq_false (by omega)
      have n8 : (t = 55) = False := eq_false (by omega)
      have n9 : (t = 223) = False := eq_false (by omega)
      have n10 : (t = 224) = False := eq_false (by omega)
      simp only [go_sem, Nat.reduceEqDiff, Nat.reduceLT, Nat.reduceAdd, Nat.reduceLeDiff, Nat.reduceMul, Nat.reduceSub, Int.reduceLE, Int.reduceLT, Int.reduceToNat, Int.reducePow, Int.reduceEq, n1, n2, n3, n4, n5, n6, n7, n8, n9, n10, if_false]
    · have h1' : (a.kd.tmod 3 = 1) = False := eq_false h1
      (refine W_region [] (by rfl) fun K hK => ?_; simp only [go_sem, Nat.reduceEqDiff, Nat.reduceLT, Nat.reduceAdd, Nat.reduceLeDiff, Nat.reduceMul, Nat.reduceSub, Int.reduceLE, Int.reduceLT, Int.reduceToNat, Int.reducePow, Int.reduceEq, h1'])
      (refine WRun.done _ _ (hK _ _ ?_); clear hK)
      refine W_cond_false (by simp only [go_sem, Nat.reduceEqDiff, Nat.reduceLT, Nat.reduceAdd, Nat.reduceLeDiff, Nat.reduceMul, Nat.reduceSub, Int.reduceLE, Int.reduceLT, Int.reduceToNat, Int.reducePow, Int.reduceEq]) ?_
      refine act_map (a := a) (x := M.length) (reg _ ?_) (hX _ ?_) hmost hls (fun F' M' ls' k' lk' h1 h2 => W_blk (after F' M' ls' k' lk' h1 h2))
      · intro t ht h134
        have n1 : (t = 134) = False := eq_false (by omega)
        have n2 : (t = 135) = False := eq_false (by omega)
        have n3 : (t = 59) = False := eq_false (by omega)
        have n4 : (t = 58) = False := eq_false (by omega)
        have n5 : (t = 57) = False := eq_false (by omega)
        have n6 : (t = 10) = False := eq_false (by omega)
        have n7 : (t = 56) = False := eq_false (by omega)
        have n8 : (t = 55) = False := eq_false (by omega)
        have n9 : (t = 223) = False := eq_false (by omega)
        have n10 : (t = 224) = False := eq_false (by omega)
        simp only [go_sem, Nat.reduceEqDiff, Nat.reduceLT, Nat.reduceAdd, Nat.reduceLeDiff, Nat.reduceMul, Nat.reduceSub, Int.reduceLE, Int.reduceLT, Int.reduceToNat, Int.reducePow, Int.reduceEq, n1, n2, n3, n4, n5, n6, n7, n8, n9, n10, if_false]
      · simp only [go_sem, Nat.reduceEqDiff, Nat.reduceLT, Nat.reduceAdd, Nat.reduceLeDiff, Nat.reduceMul, Nat.reduceSub, Int.reduceLE, Int.reduceLT, Int.reduceToNat, Int.reducePow, Int.reduceEq]
end Go.Ax

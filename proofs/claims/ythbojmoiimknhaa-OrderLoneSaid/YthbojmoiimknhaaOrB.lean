import Derived.Test.YthbojmoiimknhaaOrA
set_option linter.unusedSimpArgs false
set_option linter.unusedVariables false
namespace Go.Ax
open Go.Proofs Go.Ord

/-- The registers that stay. -/
def St2 (F F' : Fr) : Prop := look F' 0 = look F 0 ∧ look F' 1 = look F 1

/-- The entry: number, low, stack, on. -/
theorem walk_enter {Ret : Fr → AMem → Prop} {k0 : List It} {M0 M : AMem} {B n : Nat} {x : V} {d : Ids} {s : TS} {sk : Option Nat} (h : VisAt M0 B n x d s sk M) (hx : x.one = true ∧ x.cells = [x] ∧ x.okv = true) (i : Nat) (hi : i < n) (hn : n ≤ 1000000) (hnx : s.next + 1 ≤ n) (hst : s.stk.length ≤ n) (hB : B ≤ M.length)
    (F : Fr) (f0 : look F 0 = .ptr d.v 0) (f1 : look F 1 = V.int i)
    (hk : ∀ F' M' sk', look F' 0 = .ptr d.v 0 → look F' 1 = V.int i → VisAt M0 B n x d (enter s i) sk' M' → M.length ≤ M'.length → W Try.prog 190 Ret (.code (part [1,1,1] body41) :: k0) F' M') :
    W Try.prog 190 Ret (.code body41 :: k0) F M := by
  obtain ⟨hx1, hx2, hx3⟩ := hx
  have hw : IntKind.i64.wrap ((s.next : Int) + 1) = ((s.next + 1 : Nat) : Int) := by rw [wrapI _ (by omega) (by omega)]; omega
  have hv := h.v
  have hvl := lt_of_at hv
  (repeat (first | refine W_seq ?_ | refine W_block ?_ | refine W_blk ?_ | refine W_skip ?_))
  (refine W_region [] (by rfl) fun K hK => ?_; simp only [go_sem, Nat.reduceEqDiff, Nat.reduceLT, Nat.reduceAdd, Nat.reduceLeDiff, Nat.reduceMul, Nat.reduceSub, Int.reduceLE, Int.reduceLT, Int.reduceToNat, Int.reducePow, Int.reduceEq, f0, hv, hw, Nat.zero_add])
  (refine WRun.done _ _ (hK _ _ ?_); clear hK)
  have h1 := h.setV (s.next + 1) s.groups
  generalize hM1 : M.set d.v (.cells [x, .arr d.lo 0 n 1, .arr d.nu 0 n 1, .arr d.on 0 n 1, wordsV sk s.stk.length, V.int ((s.next + 1 : Nat) : Int), .arr d.gr 0 n 1, V.int s.groups]) = M1 at h1 ⊢
  (repeat (first | refine W_seq ?_ | refine W_block ?_ | refine W_blk ?_ | refine W_skip ?_))
  have hv1 := h1.v
  have hin : (i : Int) < (n : Int) := by omega
  have hi1 : i + 1 ≤ n := by omega
  have hlo := h1.lo
  have hnu := h1.nu
  have hll := lt_of_at hlo
  have hid := h1.ids
  have hnl : (M1.set d.nu (.cells (cellsN n (upd s.num i (s.next + 1)))))[d.lo]? = some (.cells (cellsN n s.low)) := by rw [List.getElem?_set_ne hid.b1.symm]; exact hlo
  have o1 := overN s.low hi (s.next + 1)
  have o2 := overN s.num hi (s.next + 1)
  (refine W_draw [] (fun X => X[d.v]? = some (.cells [x, .arr d.lo 0 n 1, .arr d.nu 0 n 1, .arr d.on 0 n 1, wordsV sk s.stk.length, V.int ((s.next + 1 : Nat) : Int), .arr d.gr 0 n 1, V.int s.groups])) mixed_ (by rfl) ?_ fun K hK => ?_)
  · exact hv1
  (refine DR_quiet [0, 1, 2, 3, 4, 5, 6, 7, 8, 9, 10, 11, 12, 13, 14, 15, 16, 17, 18] (by decide +kernel) (fun M_ hS_ => ?_) (fun K2 hK2 => ?_); (focus (simp only [go_sem, Nat.reduceEqDiff, Nat.reduceLT, Nat.reduceAdd, Nat.reduceLeDiff, Nat.reduceMul, Nat.reduceSub, Int.reduceLE, Int.reduceLT, Int.reduceToNat, Int.reducePow, Int.reduceEq, hS_, f0, f1, hv1, hin, Nat.zero_add, Int.natCast_nonneg, Int.toNat_natCast])); simp only [go_sem, Nat.reduceEqDiff, Nat.reduceLT, Nat.reduceAdd, Nat.reduceLeDiff, Nat.reduceMul, Nat.reduceSub, Int.reduceLE, Int.reduceLT, Int.reduceToNat, Int.reducePow, Int.reduceEq, f0, f1, hv1, hin, Nat.zero_add, Int.natCast_nonneg, Int.toNat_natCast]; refine hK2 _ ?_; clear hK2)
  (refine DR_sole' 19 (by decide +kernel) (by simp only [go_sem, Nat.reduceEqDiff, Nat.reduceLT, Nat.reduceAdd, Nat.reduceLeDiff, Nat.reduceMul, Nat.reduceSub, Int.reduceLE, Int.reduceLT, Int.reduceToNat, Int.reducePow, Int.reduceEq, hnu, cellsN_len, hi1, o2]) ?_; simp only [go_sem, Nat.reduceEqDiff, Nat.reduceLT, Nat.reduceAdd, Nat.reduceLeDiff, Nat.reduceMul, Nat.reduceSub, Int.reduceLE, Int.reduceLT, Int.reduceToNat, Int.reducePow, Int.reduceEq, hnu, cellsN_len, hi1, o2])
  refine ⟨by rw [List.getElem?_set_ne hid.a2.symm]; exact hv1, ?_⟩
  (refine DR_quiet [20] (by decide +kernel) (fun M_ hS_ => ?_) (fun K2 hK2 => ?_); (focus (simp only [go_sem, Nat.reduceEqDiff, Nat.reduceLT, Nat.reduceAdd, Nat.reduceLeDiff, Nat.reduceMul, Nat.reduceSub, Int.reduceLE, Int.reduceLT, Int.reduceToNat, Int.reducePow, Int.reduceEq, hS_, f0, f1, hv1, hin, Nat.zero_add, Int.natCast_nonneg, Int.toNat_natCast])); simp only [go_sem, Nat.reduceEqDiff, Nat.reduceLT, Nat.reduceAdd, Nat.reduceLeDiff, Nat.reduceMul, Nat.reduceSub, Int.reduceLE, Int.reduceLT, Int.reduceToNat, Int.reducePow, Int.reduceEq, f0, f1, hv1, hin, Nat.zero_add, Int.natCast_nonneg, Int.toNat_natCast]; refine hK2 _ ?_; clear hK2)
  (refine DR_last' 21 (by decide +kernel) (by decide +kernel) (by decide +kernel) (by simp only [go_sem, Nat.reduceEqDiff, Nat.reduceLT, Nat.reduceAdd, Nat.reduceLeDiff, Nat.reduceMul, Nat.reduceSub, Int.reduceLE, Int.reduceLT, Int.reduceToNat, Int.reducePow, Int.reduceEq, hnl, cellsN_len, hi1, o1]) ?_; simp only [go_sem, Nat.reduceEqDiff, Nat.reduceLT, Nat.reduceAdd, Nat.reduceLeDiff, Nat.reduceMul, Nat.reduceSub, Int.reduceLE, Int.reduceLT, Int.reduceToNat, Int.reducePow, Int.reduceEq, hnl, cellsN_len, hi1, o1]; refine hK _ _ ?_; clear hK)
  have h2 := (h1.setNu (upd s.num i (s.next + 1))).setLo (upd s.low i (s.next + 1))
  have hml2 : ((M1.set d.nu (.cells (cellsN n (upd s.num i (s.next + 1))))).set d.lo (.cells (cellsN n (upd s.low i (s.next + 1))))).length = M.length := by rw [← hM1]; simp
  generalize hM2 : (M1.set d.nu (.cells (cellsN n (upd s.num i (s.next + 1))))).set d.lo (.cells (cellsN n (upd s.low i (s.next + 1)))) = M2 at h2 hml2 ⊢
  clear hnl hM2 hM1 hv hvl hv1 hlo hnu hll h1
  have h2 : VisAt M0 B n x d { s with num := upd s.num i (s.next + 1), low := upd s.low i (s.next + 1), next := s.next + 1 } sk M2 := h2
  have hv2 := h2.v
  have hvl2 := lt_of_at hv2
  have hon := h2.on
  have onl := lt_of_at hon
  have o3 := overB s.on hi true
  cases sk with
  | none =>
    have hs0 : s.stk = [] := h2.sN rfl
    simp only [wordsV] at hv2
    (repeat (first | refine W_seq ?_ | refine W_block ?_ | refine W_blk ?_ | refine W_skip ?_))
    (refine W_draw [46] (fun X => X[d.v]? = some (.cells [x, .arr d.lo 0 n 1, .arr d.nu 0 n 1, .arr d.on 0 n 1, .list .full [], V.int ((s.next + 1 : Nat) : Int), .arr d.gr 0 n 1, V.int s.groups])) mixed_ (by rfl) ?_ fun K hK => ?_)
    · exact hv2
    (refine DR_quiet [0, 1, 2, 3, 4, 5, 6, 7, 8, 9, 10, 11] (by decide +kernel) (fun M_ hS_ => ?_) (fun K2 hK2 => ?_); (focus (simp only [go_sem, Nat.reduceEqDiff, Nat.reduceLT, Nat.reduceAdd, Nat.reduceLeDiff, Nat.reduceMul, Nat.reduceSub, Int.reduceLE, Int.reduceLT, Int.reduceToNat, Int.reducePow, Int.reduceEq, hS_, f0, f1, hv2, hin, Nat.zero_add, Int.natCast_nonneg, Int.toNat_natCast])); simp only [go_sem, Nat.reduceEqDiff, Nat.reduceLT, Nat.reduceAdd, Nat.reduceLeDiff, Nat.reduceMul, Nat.reduceSub, Int.reduceLE, Int.reduceLT, Int.reduceToNat, Int.reducePow, Int.reduceEq, f0, f1, hv2, hin, Nat.zero_add, Int.natCast_nonneg, Int.toNat_natCast]; refine hK2 _ ?_; clear hK2)
    (refine DR_sole' 12 (by decide +kernel) (by simp only [go_sem, Nat.reduceEqDiff, Nat.reduceLT, Nat.reduceAdd, Nat.reduceLeDiff, Nat.reduceMul, Nat.reduceSub, Int.reduceLE, Int.reduceLT, Int.reduceToNat, Int.reducePow, Int.reduceEq]) ?_; simp only [go_sem, Nat.reduceEqDiff, Nat.reduceLT, Nat.reduceAdd, Nat.reduceLeDiff, Nat.reduceMul, Nat.reduceSub, Int.reduceLE, Int.reduceLT, Int.reduceToNat, Int.reducePow, Int.reduceEq])
    refine ⟨by rw [List.getElem?_append_left hvl2]; exact hv2, ?_⟩
    (refine DR_quiet [13, 14] (by decide +kernel) (fun M_ hS_ => ?_) (fun K2 hK2 => ?_); (focus (simp only [go_sem, Nat.reduceEqDiff, Nat.reduceLT, Nat.reduceAdd, Nat.reduceLeDiff, Nat.reduceMul, Nat.reduceSub, Int.reduceLE, Int.reduceLT, Int.reduceToNat, Int.reducePow, Int.reduceEq, hS_, f0])); simp only [go_sem, Nat.reduceEqDiff, Nat.reduceLT, Nat.reduceAdd, Nat.reduceLeDiff, Nat.reduceMul, Nat.reduceSub, Int.reduceLE, Int.reduceLT, Int.reduceToNat, Int.reducePow, Int.reduceEq, f0]; refine hK2 _ ?_; clear hK2)
    (refine DR_break 15 (by decide +kernel) (by decide +kernel) (by simp only [go_sem, Nat.reduceEqDiff, Nat.reduceLT, Nat.reduceAdd, Nat.reduceLeDiff, Nat.reduceMul, Nat.reduceSub, Int.reduceLE, Int.reduceLT, Int.reduceToNat, Int.reducePow, Int.reduceEq, at_left hvl2, hv2, set_left hvl2]) ?_; simp only [go_sem, Nat.reduceEqDiff, Nat.reduceLT, Nat.reduceAdd, Nat.reduceLeDiff, Nat.reduceMul, Nat.reduceSub, Int.reduceLE, Int.reduceLT, Int.reduceToNat, Int.reducePow, Int.reduceEq, at_left hvl2, hv2, set_left hvl2])
    (refine DRN_still 16 (by decide +kernel) (by decide +kernel) (by simp only [go_sem, Nat.reduceEqDiff, Nat.reduceLT, Nat.reduceAdd, Nat.reduceLeDiff, Nat.reduceMul, Nat.reduceSub, Int.reduceLE, Int.reduceLT, Int.reduceToNat, Int.reducePow, Int.reduceEq, hin, Nat.zero_add, Int.natCast_nonneg, Int.toNat_natCast]) ?_; simp only [go_sem, Nat.reduceEqDiff, Nat.reduceLT, Nat.reduceAdd, Nat.reduceLeDiff, Nat.reduceMul, Nat.reduceSub, Int.reduceLE, Int.reduceLT, Int.reduceToNat, Int.reducePow, Int.reduceEq, hin, Nat.zero_add, Int.natCast_nonneg, Int.toNat_natCast])
    have hq : ∀ c, (M2.set d.v c)[d.on]? = M2[d.on]? := fun c => List.getElem?_set_ne hid.a3
    (refine DRN_sole 17 (by decide +kernel) (by decide +kernel) (by simp only [go_sem, Nat.reduceEqDiff, Nat.reduceLT, Nat.reduceAdd, Nat.reduceLeDiff, Nat.reduceMul, Nat.reduceSub, Int.reduceLE, Int.reduceLT, Int.reduceToNat, Int.reducePow, Int.reduceEq, at_left, onl, hon, hq, cellsB_len, hi1, o3, List.length_set]) ?_; simp only [go_sem, Nat.reduceEqDiff, Nat.reduceLT, Nat.reduceAdd, Nat.reduceLeDiff, Nat.reduceMul, Nat.reduceSub, Int.reduceLE, Int.reduceLT, Int.reduceToNat, Int.reducePow, Int.reduceEq, at_left, onl, hon, hq, cellsB_len, hi1, o3, List.length_set])
    (refine DRN_end (by decide +kernel) (hK _ _ ?_); clear hK)
    refine hk _ _ (some M2.length) (by simp only [go_sem, Nat.reduceEqDiff, Nat.reduceLT, Nat.reduceAdd, Nat.reduceLeDiff, Nat.reduceMul, Nat.reduceSub, Int.reduceLE, Int.reduceLT, Int.reduceToNat, Int.reducePow, Int.reduceEq, f0]) (by simp only [go_sem, Nat.reduceEqDiff, Nat.reduceLT, Nat.reduceAdd, Nat.reduceLeDiff, Nat.reduceMul, Nat.reduceSub, Int.reduceLE, Int.reduceLT, Int.reduceToNat, Int.reducePow, Int.reduceEq, f1]) ?_ (by simp [hml2])
    refine (h2.setStk (M2.set d.v (.cells [x, .arr d.lo 0 n 1, .arr d.nu 0 n 1, .arr d.on 0 n 1, .arr M2.length 0 1 1, V.int ((s.next + 1 : Nat) : Int), .arr d.gr 0 n 1, V.int s.groups]) ++ [.cells [V.int i]]) (some M2.length) (s.stk ++ [i]) ?_ ?_ ?_ ?_ ?_).setOn (upd s.on i true)
    · rw [List.getElem?_append_left (by simp; exact hvl2), List.getElem?_set_self hvl2]
      simp [wordsV, hs0]
    · intro j h1 _ h3
      rw [List.getElem?_append_left (by simp; exact h3), List.getElem?_set_ne (Ne.symm h1)]
    · omega
    · intro e; cases e
    · intro k e
      obtain rfl : M2.length = k := by injection e
      refine ⟨⟨by omega, ?_, ?_, ?_, ?_, by omega⟩, [V.int i], by simp, by simp [hs0]⟩
      · have := lt_of_at h2.lo; omega
      · have := lt_of_at h2.nu; omega
      · have := lt_of_at h2.on; omega
      · have := lt_of_at h2.gr; omega
  | some k =>
    obtain ⟨hkk, cs, hcs, hct⟩ := h2.sS k rfl
    have hkl := lt_of_at hcs
    have hcl : s.stk.length ≤ cs.length := by
      have := congrArg List.length hct
      simp at this; omega
    have hl30 : s.stk.length + 1 ≤ 1073741824 := by omega
    simp only [wordsV] at hv2
    (repeat (first | refine W_seq ?_ | refine W_block ?_ | refine W_blk ?_ | refine W_skip ?_))
    (refine W_draw [46] (fun X => X[d.v]? = some (.cells [x, .arr d.lo 0 n 1, .arr d.nu 0 n 1, .arr d.on 0 n 1, .arr k 0 s.stk.length 1, V.int ((s.next + 1 : Nat) : Int), .arr d.gr 0 n 1, V.int s.groups])) mixed_ (by rfl) ?_ fun K hK => ?_)
    · exact hv2
    (refine DR_quiet [0, 1, 2, 3, 4, 5, 6, 7, 8, 9, 10, 11] (by decide +kernel) (fun M_ hS_ => ?_) (fun K2 hK2 => ?_); (focus (simp only [go_sem, Nat.reduceEqDiff, Nat.reduceLT, Nat.reduceAdd, Nat.reduceLeDiff, Nat.reduceMul, Nat.reduceSub, Int.reduceLE, Int.reduceLT, Int.reduceToNat, Int.reducePow, Int.reduceEq, hS_, f0, f1, hv2, hin, Nat.zero_add, Int.natCast_nonneg, Int.toNat_natCast])); simp only [go_sem, Nat.reduceEqDiff, Nat.reduceLT, Nat.reduceAdd, Nat.reduceLeDiff, Nat.reduceMul, Nat.reduceSub, Int.reduceLE, Int.reduceLT, Int.reduceToNat, Int.reducePow, Int.reduceEq, f0, f1, hv2, hin, Nat.zero_add, Int.natCast_nonneg, Int.toNat_natCast]; refine hK2 _ ?_; clear hK2)
    (refine DR_sole' 12 (by decide +kernel) (by simp only [go_sem, Nat.reduceEqDiff, Nat.reduceLT, Nat.reduceAdd, Nat.reduceLeDiff, Nat.reduceMul, Nat.reduceSub, Int.reduceLE, Int.reduceLT, Int.reduceToNat, Int.reducePow, Int.reduceEq, hcs, hcl, hl30]) ?_; simp only [go_sem, Nat.reduceEqDiff, Nat.reduceLT, Nat.reduceAdd, Nat.reduceLeDiff, Nat.reduceMul, Nat.reduceSub, Int.reduceLE, Int.reduceLT, Int.reduceToNat, Int.reducePow, Int.reduceEq, hcs, hcl, hl30])
    have hv3 : (M2.set k .gone)[d.v]? = some (.cells [x, .arr d.lo 0 n 1, .arr d.nu 0 n 1, .arr d.on 0 n 1, .arr k 0 s.stk.length 1, V.int ((s.next + 1 : Nat) : Int), .arr d.gr 0 n 1, V.int s.groups]) := by rw [List.getElem?_set_ne hkk.1]; exact hv2
    have hvl3 : d.v < (M2.set k .gone).length := by simp; exact hvl2
    refine ⟨by rw [List.getElem?_append_left hvl3]; exact hv3, ?_⟩
    (refine DR_quiet [13, 14] (by decide +kernel) (fun M_ hS_ => ?_) (fun K2 hK2 => ?_); (focus (simp only [go_sem, Nat.reduceEqDiff, Nat.reduceLT, Nat.reduceAdd, Nat.reduceLeDiff, Nat.reduceMul, Nat.reduceSub, Int.reduceLE, Int.reduceLT, Int.reduceToNat, Int.reducePow, Int.reduceEq, hS_, f0])); simp only [go_sem, Nat.reduceEqDiff, Nat.reduceLT, Nat.reduceAdd, Nat.reduceLeDiff, Nat.reduceMul, Nat.reduceSub, Int.reduceLE, Int.reduceLT, Int.reduceToNat, Int.reducePow, Int.reduceEq, f0]; refine hK2 _ ?_; clear hK2)
    (refine DR_break 15 (by decide +kernel) (by decide +kernel) (by simp only [go_sem, Nat.reduceEqDiff, Nat.reduceLT, Nat.reduceAdd, Nat.reduceLeDiff, Nat.reduceMul, Nat.reduceSub, Int.reduceLE, Int.reduceLT, Int.reduceToNat, Int.reducePow, Int.reduceEq, at_left hvl3, hv3, set_left hvl3]) ?_; simp only [go_sem, Nat.reduceEqDiff, Nat.reduceLT, Nat.reduceAdd, Nat.reduceLeDiff, Nat.reduceMul, Nat.reduceSub, Int.reduceLE, Int.reduceLT, Int.reduceToNat, Int.reducePow, Int.reduceEq, at_left hvl3, hv3, set_left hvl3])
    (refine DRN_still 16 (by decide +kernel) (by decide +kernel) (by simp only [go_sem, Nat.reduceEqDiff, Nat.reduceLT, Nat.reduceAdd, Nat.reduceLeDiff, Nat.reduceMul, Nat.reduceSub, Int.reduceLE, Int.reduceLT, Int.reduceToNat, Int.reducePow, Int.reduceEq, hin, Nat.zero_add, Int.natCast_nonneg, Int.toNat_natCast]) ?_; simp only [go_sem, Nat.reduceEqDiff, Nat.reduceLT, Nat.reduceAdd, Nat.reduceLeDiff, Nat.reduceMul, Nat.reduceSub, Int.reduceLE, Int.reduceLT, Int.reduceToNat, Int.reducePow, Int.reduceEq, hin, Nat.zero_add, Int.natCast_nonneg, Int.toNat_natCast])
    have hq : ∀ c, ((M2.set k .gone).set d.v c)[d.on]? = M2[d.on]? := fun c => by rw [List.getElem?_set_ne hid.a3, List.getElem?_set_ne hkk.2.2.2.1]
    (refine DRN_sole 17 (by decide +kernel) (by decide +kernel) (by simp only [go_sem, Nat.reduceEqDiff, Nat.reduceLT, Nat.reduceAdd, Nat.reduceLeDiff, Nat.reduceMul, Nat.reduceSub, Int.reduceLE, Int.reduceLT, Int.reduceToNat, Int.reducePow, Int.reduceEq, at_left, onl, hon, hq, cellsB_len, hi1, o3, List.length_set]) ?_; simp only [go_sem, Nat.reduceEqDiff, Nat.reduceLT, Nat.reduceAdd, Nat.reduceLeDiff, Nat.reduceMul, Nat.reduceSub, Int.reduceLE, Int.reduceLT, Int.reduceToNat, Int.reducePow, Int.reduceEq, at_left, onl, hon, hq, cellsB_len, hi1, o3, List.length_set])
    (refine DRN_end (by decide +kernel) (hK _ _ ?_); clear hK)
    refine hk _ _ (some M2.length) (by simp only [go_sem, Nat.reduceEqDiff, Nat.reduceLT, Nat.reduceAdd, Nat.reduceLeDiff, Nat.reduceMul, Nat.reduceSub, Int.reduceLE, Int.reduceLT, Int.reduceToNat, Int.reducePow, Int.reduceEq, f0]) (by simp only [go_sem, Nat.reduceEqDiff, Nat.reduceLT, Nat.reduceAdd, Nat.reduceLeDiff, Nat.reduceMul, Nat.reduceSub, Int.reduceLE, Int.reduceLT, Int.reduceToNat, Int.reducePow, Int.reduceEq, f1]) ?_ (by simp [hml2])
    refine (h2.setStk ((M2.set k .gone).set d.v (.cells [x, .arr d.lo 0 n 1, .arr d.nu 0 n 1, .arr d.on 0 n 1, .arr M2.length 0 (s.stk.length + 1) 1, V.int ((s.next + 1 : Nat) : Int), .arr d.gr 0 n 1, V.int s.groups]) ++ [.cells (cs.take s.stk.length ++ [V.int i])]) (some M2.length) (s.stk ++ [i]) ?_ ?_ ?_ ?_ ?_).setOn (upd s.on i true)
    · rw [List.getElem?_append_left (by simp; exact hvl2), List.getElem?_set_self hvl3]
      simp [wordsV]
    · intro j h1 h2 h3
      rw [List.getElem?_append_left (by simp; exact h3), List.getElem?_set_ne (Ne.symm h1), List.getElem?_set_ne (fun e => h2 (by rw [e]))]
    · omega
    · intro e; cases e
    · intro k' e
      obtain rfl : M2.length = k' := by injection e
      refine ⟨⟨by omega, ?_, ?_, ?_, ?_, by omega⟩, cs.take s.stk.length ++ [V.int i], by simp, by rw [hct, List.map_append]; exact List.take_of_length_le (by simp)⟩
      · have := lt_of_at h2.lo; omega
      · have := lt_of_at h2.nu; omega
      · have := lt_of_at h2.on; omega
      · have := lt_of_at h2.gr; omega
end Go.Ax

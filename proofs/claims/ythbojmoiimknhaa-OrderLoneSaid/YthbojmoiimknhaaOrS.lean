import Derived.Test.YthbojmoiimknhaaOrR
set_option linter.unusedSimpArgs false
set_option linter.unusedVariables false
namespace Go.Ax
open Go.Proofs Go.Ord

/-- The reference's first part: are all in range? -/
theorem ref_check {Ret : Fr → AMem → Prop} {k0 : List It} {M : AMem} {to : List (List Int)} (hn : to.length ≤ 9223372036854775807) (hrl : ∀ l ∈ to, l.length ≤ 9223372036854775807) (F : Fr) (f0 : look F 0 = .list .dull (rowsV to))
    (hbad : ∀ F', look F' 2 = .list .full [] → look F' 3 = V.int 1 → okTo to = false → Ret F' M)
    (hk : ∀ F', look F' 0 = .list .dull (rowsV to) → look F' 4 = V.int to.length → okTo to = true → W Try.prog 139 Ret (.code (part [1,1,1] body31) :: k0) F' M) :
    W Try.prog 139 Ret (.code body31 :: k0) F M := by
  obtain ⟨n, hnn⟩ : ∃ n, n = to.length := ⟨_, rfl⟩
  rw [← hnn] at hk hn
  (repeat (first | refine W_seq ?_ | refine W_block ?_ | refine W_blk ?_ | refine W_skip ?_))
  (refine W_region [] (by rfl) fun K hK => ?_; simp only [go_sem, Nat.reduceEqDiff, Nat.reduceLT, Nat.reduceAdd, Nat.reduceLeDiff, Nat.reduceMul, Nat.reduceSub, Int.reduceLE, Int.reduceLT, Int.reduceToNat, Int.reducePow, Int.reduceEq])
  (refine WRun.done _ _ (hK _ _ ?_); clear hK)
  (repeat (first | refine W_seq ?_ | refine W_block ?_ | refine W_blk ?_ | refine W_skip ?_))
  (refine W_region [] (by rfl) fun K hK => ?_; simp only [go_sem, Nat.reduceEqDiff, Nat.reduceLT, Nat.reduceAdd, Nat.reduceLeDiff, Nat.reduceMul, Nat.reduceSub, Int.reduceLE, Int.reduceLT, Int.reduceToNat, Int.reducePow, Int.reduceEq, f0, rowsV_len])
  (refine WRun.done _ _ (hK _ _ ?_); clear hK)
  (repeat (first | refine W_seq ?_ | refine W_block ?_ | refine W_blk ?_ | refine W_skip ?_))
  (refine W_region [] (by rfl) fun K hK => ?_; simp only [go_sem, Nat.reduceEqDiff, Nat.reduceLT, Nat.reduceAdd, Nat.reduceLeDiff, Nat.reduceMul, Nat.reduceSub, Int.reduceLE, Int.reduceLT, Int.reduceToNat, Int.reducePow, Int.reduceEq])
  (refine WRun.done _ _ (hK _ _ ?_); clear hK)
  (repeat (first | refine W_seq ?_ | refine W_block ?_ | refine W_blk ?_ | refine W_skip ?_))
  refine W_loop (α := Nat) (fun i F' M' => i ≤ n ∧ M' = M ∧ look F' 0 = .list .dull (rowsV to) ∧ look F' 4 = V.int n ∧ look F' 5 = V.int i ∧ ∀ l ∈ to.take i, l.all (okNum n) = true)
    (fun i => n - i) 0 ⟨Nat.zero_le _, rfl, ?_, ?_, ?_, by simp⟩ ?_
  · simp only [go_sem, Nat.reduceEqDiff, Nat.reduceLT, Nat.reduceAdd, Nat.reduceLeDiff, Nat.reduceMul, Nat.reduceSub, Int.reduceLE, Int.reduceLT, Int.reduceToNat, Int.reducePow, Int.reduceEq, f0]
  · simp only [go_sem, Nat.reduceEqDiff, Nat.reduceLT, Nat.reduceAdd, Nat.reduceLeDiff, Nat.reduceMul, Nat.reduceSub, Int.reduceLE, Int.reduceLT, Int.reduceToNat, Int.reducePow, Int.reduceEq, hnn]
  · simp only [go_sem, Nat.reduceEqDiff, Nat.reduceLT, Nat.reduceAdd, Nat.reduceLeDiff, Nat.reduceMul, Nat.reduceSub, Int.reduceLE, Int.reduceLT, Int.reduceToNat, Int.reducePow, Int.reduceEq]
  clear f0 F
  rintro i F M' ⟨hi, rfl, f0, f4, f5, hso⟩
  by_cases hlt : i < n
  · have hlt' : (i : Int) < (n : Int) := by omega
    have hlt2 : (i : Int) < (to.length : Int) := by omega
    have hw1 : IntKind.i64.wrap ((i : Int) + 1) = ((i + 1 : Nat) : Int) := by rw [wrapI _ (by omega) (by omega)]; omega
    obtain ⟨row, hrow⟩ : ∃ row, to[i]? = some row := ⟨_, List.getElem?_eq_getElem (by omega)⟩
    have hmem := List.mem_of_getElem? hrow
    have hrl1 := hrl row hmem
    have hrv := rowsV_at hrow
    have htk : to.take (i + 1) = to.take i ++ [row] := by rw [List.take_add_one, hrow]; rfl
    (repeat (first | refine W_seq ?_ | refine W_block ?_ | refine W_blk ?_ | refine W_skip ?_))
    (refine W_region [] (by rfl) fun K hK => ?_; simp only [go_sem, Nat.reduceEqDiff, Nat.reduceLT, Nat.reduceAdd, Nat.reduceLeDiff, Nat.reduceMul, Nat.reduceSub, Int.reduceLE, Int.reduceLT, Int.reduceToNat, Int.reducePow, Int.reduceEq, f4, f5, hlt'])
    (refine WRun.done _ _ (hK _ _ ?_); clear hK)
    (repeat (first | refine W_seq ?_ | refine W_block ?_ | refine W_blk ?_ | refine W_skip ?_))
    refine W_cond_true (by simp only [go_sem, Nat.reduceEqDiff, Nat.reduceLT, Nat.reduceAdd, Nat.reduceLeDiff, Nat.reduceMul, Nat.reduceSub, Int.reduceLE, Int.reduceLT, Int.reduceToNat, Int.reducePow, Int.reduceEq]) ?_
    (repeat (first | refine W_seq ?_ | refine W_block ?_ | refine W_blk ?_ | refine W_skip ?_))
    (refine W_region [] (by rfl) fun K hK => ?_; simp only [go_sem, Nat.reduceEqDiff, Nat.reduceLT, Nat.reduceAdd, Nat.reduceLeDiff, Nat.reduceMul, Nat.reduceSub, Int.reduceLE, Int.reduceLT, Int.reduceToNat, Int.reducePow, Int.reduceEq])
    (refine WRun.done _ _ (hK _ _ ?_); clear hK)
    (repeat (first | refine W_seq ?_ | refine W_block ?_ | refine W_blk ?_ | refine W_skip ?_))
    refine W_loop (α := Nat) (fun q F' M2 => q ≤ row.length ∧ M2 = M' ∧ look F' 0 = .list .dull (rowsV to) ∧ look F' 4 = V.int n ∧ look F' 5 = V.int i ∧ look F' 6 = V.int q ∧ ∀ k ∈ row.take q, okNum n k = true)
      (fun q => row.length - q) 0 ⟨Nat.zero_le _, rfl, ?_, ?_, ?_, ?_, by simp⟩ ?_
    · simp only [go_sem, Nat.reduceEqDiff, Nat.reduceLT, Nat.reduceAdd, Nat.reduceLeDiff, Nat.reduceMul, Nat.reduceSub, Int.reduceLE, Int.reduceLT, Int.reduceToNat, Int.reducePow, Int.reduceEq, f0]
    · simp only [go_sem, Nat.reduceEqDiff, Nat.reduceLT, Nat.reduceAdd, Nat.reduceLeDiff, Nat.reduceMul, Nat.reduceSub, Int.reduceLE, Int.reduceLT, Int.reduceToNat, Int.reducePow, Int.reduceEq, f4]
    · simp only [go_sem, Nat.reduceEqDiff, Nat.reduceLT, Nat.reduceAdd, Nat.reduceLeDiff, Nat.reduceMul, Nat.reduceSub, Int.reduceLE, Int.reduceLT, Int.reduceToNat, Int.reducePow, Int.reduceEq, f5]
    · simp only [go_sem, Nat.reduceEqDiff, Nat.reduceLT, Nat.reduceAdd, Nat.reduceLeDiff, Nat.reduceMul, Nat.reduceSub, Int.reduceLE, Int.reduceLT, Int.reduceToNat, Int.reducePow, Int.reduceEq]
    clear f0 f4 f5 F
    rintro q F M2 ⟨hq, rfl, f0, f4, f5, f6, hqo⟩
    by_cases hlq : q < row.length
    · have hlq' : (q : Int) < (row.length : Int) := by omega
      obtain ⟨k, hkr⟩ : ∃ k, row[q]? = some k := ⟨_, List.getElem?_eq_getElem hlq⟩
      have hpk := ints_at hkr
      have hw2 : IntKind.i64.wrap ((q : Int) + 1) = ((q + 1 : Nat) : Int) := by rw [wrapI _ (by omega) (by omega)]; omega
      have htq : row.take (q + 1) = row.take q ++ [k] := by rw [List.take_add_one, hkr]; rfl
      (repeat (first | refine W_seq ?_ | refine W_block ?_ | refine W_blk ?_ | refine W_skip ?_))
      (refine W_region [] (by rfl) fun K hK => ?_; simp only [go_sem, Nat.reduceEqDiff, Nat.reduceLT, Nat.reduceAdd, Nat.reduceLeDiff, Nat.reduceMul, Nat.reduceSub, Int.reduceLE, Int.reduceLT, Int.reduceToNat, Int.reducePow, Int.reduceEq, f0, f5, f6, hrv, hlt2, rowsV_len, hlq', List.length_map, Int.natCast_nonneg, Int.toNat_natCast, List.head?_drop])
      (refine WRun.done _ _ (hK _ _ ?_); clear hK)
      (repeat (first | refine W_seq ?_ | refine W_block ?_ | refine W_blk ?_ | refine W_skip ?_))
      refine W_cond_true (by simp only [go_sem, Nat.reduceEqDiff, Nat.reduceLT, Nat.reduceAdd, Nat.reduceLeDiff, Nat.reduceMul, Nat.reduceSub, Int.reduceLE, Int.reduceLT, Int.reduceToNat, Int.reducePow, Int.reduceEq]) ?_
      (repeat (first | refine W_seq ?_ | refine W_block ?_ | refine W_blk ?_ | refine W_skip ?_))
      have bad : okNum n k = false → okTo to = false := by
        intro hb
        cases ho : okTo to with
        | false => rfl
        | true =>
          have := List.all_eq_true.1 (List.all_eq_true.1 ho row hmem) k (List.mem_of_getElem? hkr)
          rw [← hnn, hb] at this; cases this
      by_cases h0 : k < 0
      · (refine W_region [] (by rfl) fun K hK => ?_; simp only [go_sem, Nat.reduceEqDiff, Nat.reduceLT, Nat.reduceAdd, Nat.reduceLeDiff, Nat.reduceMul, Nat.reduceSub, Int.reduceLE, Int.reduceLT, Int.reduceToNat, Int.reducePow, Int.reduceEq, f0, f5, f6, hrv, hlt2, hpk, h0, rowsV_len, hlq', List.length_map, Int.natCast_nonneg, Int.toNat_natCast, List.head?_drop])
        (refine WRun.done _ _ (hK _ _ ?_); clear hK)
        (repeat (first | refine W_seq ?_ | refine W_block ?_ | refine W_blk ?_ | refine W_skip ?_))
        refine W_cond_true (by simp only [go_sem, Nat.reduceEqDiff, Nat.reduceLT, Nat.reduceAdd, Nat.reduceLeDiff, Nat.reduceMul, Nat.reduceSub, Int.reduceLE, Int.reduceLT, Int.reduceToNat, Int.reducePow, Int.reduceEq]) ?_
        (repeat (first | refine W_seq ?_ | refine W_block ?_ | refine W_blk ?_ | refine W_skip ?_))
        (refine W_region [] (by rfl) fun K hK => ?_; simp only [go_sem, Nat.reduceEqDiff, Nat.reduceLT, Nat.reduceAdd, Nat.reduceLeDiff, Nat.reduceMul, Nat.reduceSub, Int.reduceLE, Int.reduceLT, Int.reduceToNat, Int.reducePow, Int.reduceEq])
        (refine WRun.done _ _ (hK _ _ ?_); clear hK)
        refine W_ret (hbad _ ?_ ?_ (bad (by simp [okNum]; omega)))
        · simp only [go_sem, Nat.reduceEqDiff, Nat.reduceLT, Nat.reduceAdd, Nat.reduceLeDiff, Nat.reduceMul, Nat.reduceSub, Int.reduceLE, Int.reduceLT, Int.reduceToNat, Int.reducePow, Int.reduceEq]
        · simp only [go_sem, Nat.reduceEqDiff, Nat.reduceLT, Nat.reduceAdd, Nat.reduceLeDiff, Nat.reduceMul, Nat.reduceSub, Int.reduceLE, Int.reduceLT, Int.reduceToNat, Int.reducePow, Int.reduceEq]
      · by_cases h1 : (n : Int) ≤ k
        · (refine W_region [] (by rfl) fun K hK => ?_; simp only [go_sem, Nat.reduceEqDiff, Nat.reduceLT, Nat.reduceAdd, Nat.reduceLeDiff, Nat.reduceMul, Nat.reduceSub, Int.reduceLE, Int.reduceLT, Int.reduceToNat, Int.reducePow, Int.reduceEq, f0, f4, f5, f6, hrv, hlt2, hpk, h0, h1, rowsV_len, hlq', List.length_map, Int.natCast_nonneg, Int.toNat_natCast, List.head?_drop])
          (refine WRun.done _ _ (hK _ _ ?_); clear hK)
          (repeat (first | refine W_seq ?_ | refine W_block ?_ | refine W_blk ?_ | refine W_skip ?_))
          refine W_cond_true (by simp only [go_sem, Nat.reduceEqDiff, Nat.reduceLT, Nat.reduceAdd, Nat.reduceLeDiff, Nat.reduceMul, Nat.reduceSub, Int.reduceLE, Int.reduceLT, Int.reduceToNat, Int.reducePow, Int.reduceEq]) ?_
          (repeat (first | refine W_seq ?_ | refine W_block ?_ | refine W_blk ?_ | refine W_skip ?_))
          (refine W_region [] (by rfl) fun K hK => ?_; simp only [go_sem, Nat.reduceEqDiff, Nat.reduceLT, Nat.reduceAdd, Nat.reduceLeDiff, Nat.reduceMul, Nat.reduceSub, Int.reduceLE, Int.reduceLT, Int.reduceToNat, Int.reducePow, Int.reduceEq])
          (refine WRun.done _ _ (hK _ _ ?_); clear hK)
          refine W_ret (hbad _ ?_ ?_ (bad (by simp [okNum]; omega)))
          · simp only [go_sem, Nat.reduceEqDiff, Nat.reduceLT, Nat.reduceAdd, Nat.reduceLeDiff, Nat.reduceMul, Nat.reduceSub, Int.reduceLE, Int.reduceLT, Int.reduceToNat, Int.reducePow, Int.reduceEq]
          · simp only [go_sem, Nat.reduceEqDiff, Nat.reduceLT, Nat.reduceAdd, Nat.reduceLeDiff, Nat.reduceMul, Nat.reduceSub, Int.reduceLE, Int.reduceLT, Int.reduceToNat, Int.reducePow, Int.reduceEq]
        · have hkok : okNum n k = true := by simp [okNum]; omega
          (refine W_region [] (by rfl) fun K hK => ?_; simp only [go_sem, Nat.reduceEqDiff, Nat.reduceLT, Nat.reduceAdd, Nat.reduceLeDiff, Nat.reduceMul, Nat.reduceSub, Int.reduceLE, Int.reduceLT, Int.reduceToNat, Int.reducePow, Int.reduceEq, f0, f4, f5, f6, hrv, hlt2, hpk, h0, h1, rowsV_len, hlq', List.length_map, Int.natCast_nonneg, Int.toNat_natCast, List.head?_drop])
          (refine WRun.done _ _ (hK _ _ ?_); clear hK)
          (repeat (first | refine W_seq ?_ | refine W_block ?_ | refine W_blk ?_ | refine W_skip ?_))
          refine W_cond_false (by simp only [go_sem, Nat.reduceEqDiff, Nat.reduceLT, Nat.reduceAdd, Nat.reduceLeDiff, Nat.reduceMul, Nat.reduceSub, Int.reduceLE, Int.reduceLT, Int.reduceToNat, Int.reducePow, Int.reduceEq]) ?_
          (repeat (first | refine W_seq ?_ | refine W_block ?_ | refine W_blk ?_ | refine W_skip ?_))
          (refine W_region [] (by rfl) fun K hK => ?_; simp only [go_sem, Nat.reduceEqDiff, Nat.reduceLT, Nat.reduceAdd, Nat.reduceLeDiff, Nat.reduceMul, Nat.reduceSub, Int.reduceLE, Int.reduceLT, Int.reduceToNat, Int.reducePow, Int.reduceEq, f6, hw2])
          (refine WRun.done _ _ (hK _ _ ?_); clear hK)
          refine W_stop ⟨q + 1, ⟨hlq, rfl, ?_, ?_, ?_, ?_, ?_⟩, by omega⟩
          · simp only [go_sem, Nat.reduceEqDiff, Nat.reduceLT, Nat.reduceAdd, Nat.reduceLeDiff, Nat.reduceMul, Nat.reduceSub, Int.reduceLE, Int.reduceLT, Int.reduceToNat, Int.reducePow, Int.reduceEq, f0]
          · simp only [go_sem, Nat.reduceEqDiff, Nat.reduceLT, Nat.reduceAdd, Nat.reduceLeDiff, Nat.reduceMul, Nat.reduceSub, Int.reduceLE, Int.reduceLT, Int.reduceToNat, Int.reducePow, Int.reduceEq, f4]
          · simp only [go_sem, Nat.reduceEqDiff, Nat.reduceLT, Nat.reduceAdd, Nat.reduceLeDiff, Nat.reduceMul, Nat.reduceSub, Int.reduceLE, Int.reduceLT, Int.reduceToNat, Int.reducePow, Int.reduceEq, f5]
          · simp only [go_sem, Nat.reduceEqDiff, Nat.reduceLT, Nat.reduceAdd, Nat.reduceLeDiff, Nat.reduceMul, Nat.reduceSub, Int.reduceLE, Int.reduceLT, Int.reduceToNat, Int.reducePow, Int.reduceEq]
          · intro k' hk'
            rw [htq] at hk'
            rcases List.mem_append.1 hk' with hk' | hk'
            · exact hqo k' hk'
            · have : k' = k := by simpa using hk'
              subst this; exact hkok
    · have hlq' : ¬ (q : Int) < (row.length : Int) := by omega
      rw [List.take_of_length_le (by omega)] at hqo
      (repeat (first | refine W_seq ?_ | refine W_block ?_ | refine W_blk ?_ | refine W_skip ?_))
      (refine W_region [] (by rfl) fun K hK => ?_; simp only [go_sem, Nat.reduceEqDiff, Nat.reduceLT, Nat.reduceAdd, Nat.reduceLeDiff, Nat.reduceMul, Nat.reduceSub, Int.reduceLE, Int.reduceLT, Int.reduceToNat, Int.reducePow, Int.reduceEq, f0, f5, f6, hrv, hlt2, rowsV_len, hlq', List.length_map, Int.natCast_nonneg, Int.toNat_natCast, List.head?_drop])
      (refine WRun.done _ _ (hK _ _ ?_); clear hK)
      (repeat (first | refine W_seq ?_ | refine W_block ?_ | refine W_blk ?_ | refine W_skip ?_))
      refine W_cond_false (by simp only [go_sem, Nat.reduceEqDiff, Nat.reduceLT, Nat.reduceAdd, Nat.reduceLeDiff, Nat.reduceMul, Nat.reduceSub, Int.reduceLE, Int.reduceLT, Int.reduceToNat, Int.reducePow, Int.reduceEq]) ?_
      refine W_exit (Qof_code (Qof_stop (Qof_blk_same ?_)))
      (repeat (first | refine W_seq ?_ | refine W_block ?_ | refine W_blk ?_ | refine W_skip ?_))
      (refine W_region [] (by rfl) fun K hK => ?_; simp only [go_sem, Nat.reduceEqDiff, Nat.reduceLT, Nat.reduceAdd, Nat.reduceLeDiff, Nat.reduceMul, Nat.reduceSub, Int.reduceLE, Int.reduceLT, Int.reduceToNat, Int.reducePow, Int.reduceEq, f5, hw1])
      (refine WRun.done _ _ (hK _ _ ?_); clear hK)
      refine W_stop ⟨i + 1, ⟨hlt, rfl, ?_, ?_, ?_, ?_⟩, by omega⟩
      · simp only [go_sem, Nat.reduceEqDiff, Nat.reduceLT, Nat.reduceAdd, Nat.reduceLeDiff, Nat.reduceMul, Nat.reduceSub, Int.reduceLE, Int.reduceLT, Int.reduceToNat, Int.reducePow, Int.reduceEq, f0]
      · simp only [go_sem, Nat.reduceEqDiff, Nat.reduceLT, Nat.reduceAdd, Nat.reduceLeDiff, Nat.reduceMul, Nat.reduceSub, Int.reduceLE, Int.reduceLT, Int.reduceToNat, Int.reducePow, Int.reduceEq, f4]
      · simp only [go_sem, Nat.reduceEqDiff, Nat.reduceLT, Nat.reduceAdd, Nat.reduceLeDiff, Nat.reduceMul, Nat.reduceSub, Int.reduceLE, Int.reduceLT, Int.reduceToNat, Int.reducePow, Int.reduceEq]
      · intro l hl
        rw [htk] at hl
        rcases List.mem_append.1 hl with hl | hl
        · exact hso l hl
        · have : l = row := by simpa using hl
          subst this; exact List.all_eq_true.2 hqo
  · have hlt' : ¬ (i : Int) < (n : Int) := by omega
    rw [List.take_of_length_le (by omega)] at hso
    (repeat (first | refine W_seq ?_ | refine W_block ?_ | refine W_blk ?_ | refine W_skip ?_))
    (refine W_region [] (by rfl) fun K hK => ?_; simp only [go_sem, Nat.reduceEqDiff, Nat.reduceLT, Nat.reduceAdd, Nat.reduceLeDiff, Nat.reduceMul, Nat.reduceSub, Int.reduceLE, Int.reduceLT, Int.reduceToNat, Int.reducePow, Int.reduceEq, f4, f5, hlt'])
    (refine WRun.done _ _ (hK _ _ ?_); clear hK)
    (repeat (first | refine W_seq ?_ | refine W_block ?_ | refine W_blk ?_ | refine W_skip ?_))
    refine W_cond_false (by simp only [go_sem, Nat.reduceEqDiff, Nat.reduceLT, Nat.reduceAdd, Nat.reduceLeDiff, Nat.reduceMul, Nat.reduceSub, Int.reduceLE, Int.reduceLT, Int.reduceToNat, Int.reducePow, Int.reduceEq]) ?_
    refine W_exit (Qof_code (Qof_stop (Qof_blk_same ?_)))
    refine hk _ ?_ ?_ (List.all_eq_true.2 fun l hl => by rw [← hnn]; exact hso l hl)
    · simp only [go_sem, Nat.reduceEqDiff, Nat.reduceLT, Nat.reduceAdd, Nat.reduceLeDiff, Nat.reduceMul, Nat.reduceSub, Int.reduceLE, Int.reduceLT, Int.reduceToNat, Int.reducePow, Int.reduceEq, f0]
    · simp only [go_sem, Nat.reduceEqDiff, Nat.reduceLT, Nat.reduceAdd, Nat.reduceLeDiff, Nat.reduceMul, Nat.reduceSub, Int.reduceLE, Int.reduceLT, Int.reduceToNat, Int.reducePow, Int.reduceEq, f4]

open Classical in
/-- The members of one's group among the first k. -/
noncomputable def clsTo (to : List (List Nat)) (i k : Nat) : List Nat := (List.range k).filter fun q => decide (Mut to i q)
theorem clsTo_all {to : List (List Nat)} {i n : Nat} (hn : n = to.length) : clsTo to i n = cls to i := by rw [hn]; rfl
open Classical in
theorem clsTo_succ (to : List (List Nat)) (i k : Nat) : clsTo to i (k + 1) = if Mut to i k then clsTo to i k ++ [k] else clsTo to i k := by
  simp only [clsTo, List.range_succ, List.filter_append, List.filter_cons, List.filter_nil]
  split <;> simp_all
theorem clsTo_len (to : List (List Nat)) (i k : Nat) : (clsTo to i k).length ≤ k := by
  unfold clsTo
  exact Nat.le_trans (List.length_filter_le _ _) (by simp)

def muB (R : Nat → Nat → Bool) (i q : Nat) : Bool := decide (q = i) || (R i q && R q i)
theorem muB_iff {to : List (List Nat)} {n : Nat} {R : Nat → Nat → Bool} (hR : ∀ i k, i < n → k < n → (R i k = true ↔ RchP to i k)) {i q : Nat} (hi : i < n) (hq : q < n) : muB R i q = true ↔ Mut to i q := by
  simp only [muB, Bool.or_eq_true, decide_eq_true_eq, Bool.and_eq_true, hR i q hi hq, hR q i hq hi]
  constructor
  · rintro (rfl | ⟨h1, h2⟩)
    · exact .refl _
    · exact ⟨rch_iff.2 (.inr h1), rch_iff.2 (.inr h2)⟩
  · rintro ⟨h1, h2⟩
    rcases rch_iff.1 h1 with rfl | h1
    · exact .inl rfl
    · rcases rch_iff.1 h2 with rfl | h2
      · exact .inl rfl
      · exact .inr ⟨h1, h2⟩

/-- Is nothing in the way, among the first k? -/
def rdB (R : Nat → Nat → Bool) (dd : Nat → Bool) (i k : Nat) : Bool := !dd i && (List.range k).all fun q => !(R i q && !muB R i q && !dd q)
theorem rdB_succ (R : Nat → Nat → Bool) (dd : Nat → Bool) (i k : Nat) : rdB R dd i (k + 1) = (rdB R dd i k && !(R i k && !muB R i k && !dd k)) := by
  simp [rdB, List.range_succ, Bool.and_assoc]
theorem rdB_iff {to : List (List Nat)} {n : Nat} {R : Nat → Nat → Bool} (hn : n = to.length) (hg : Good to) (hR : ∀ i k, i < n → k < n → (R i k = true ↔ RchP to i k)) {dd : Nat → Bool} {i : Nat} (hi : i < n) : rdB R dd i n = true ↔ Rdy to dd i := by
  simp only [rdB, Bool.and_eq_true, Bool.not_eq_true', List.all_eq_true, List.mem_range]
  constructor
  · rintro ⟨h1, h2⟩
    refine ⟨by omega, h1, fun k hk hm => ?_⟩
    have hkn : k < n := by rw [hn]; exact hk.lt hg (by omega)
    have h3 := h2 k hkn
    rcases rch_iff.1 hk with rfl | hk'
    · exact absurd (Mut.refl _) hm
    · have h4 := (hR i k hi hkn).2 hk'
      have h5 : muB R i k = false := by
        cases hb : muB R i k with
        | false => rfl
        | true => exact absurd ((muB_iff hR hi hkn).1 hb) hm
      rw [h4, h5] at h3
      simpa using h3
  · rintro ⟨h1, h2, h3⟩
    refine ⟨h2, fun k hk => ?_⟩
    cases h4 : R i k with
    | false => rfl
    | true =>
      cases h5 : muB R i k with
      | true => rfl
      | false =>
        have : ¬ Mut to i k := fun hm => by rw [(muB_iff hR hi hk).2 hm] at h5; cases h5
        simp [h3 k (rch_iff.2 (.inr ((hR i k hi hk).1 h4))) this]

/-- The registers of the reference. -/
structure RefR (n : Nat) (ids : List Nat) (tg : Tag) (dn : Nat) (tgo : Tag) (rs : List V) (c i : Nat) (F : Fr) : Prop where
  f4 : look F 4 = V.int n
  f7 : look F 7 = .list tg (ids.map fun j => V.arr j 0 n 1)
  f8 : look F 8 = .arr dn 0 n 1
  f9 : look F 9 = .list tgo rs
  f10 : look F 10 = V.int c
  f11 : look F 11 = V.int i
theorem RefR.mk' {n : Nat} {ids : List Nat} {tg : Tag} {dn : Nat} {tgo : Tag} {rs : List V} {c i : Nat} {F F' : Fr} (h : RefR n ids tg dn tgo rs c i F) (h4 : look F' 4 = look F 4) (h7 : look F' 7 = look F 7) (h8 : look F' 8 = look F 8) (h9 : look F' 9 = look F 9) (h10 : look F' 10 = look F 10) (h11 : look F' 11 = look F 11) : RefR n ids tg dn tgo rs c i F' :=
  ⟨h4.trans h.f4, h7.trans h.f7, h8.trans h.f8, h9.trans h.f9, h10.trans h.f10, h11.trans h.f11⟩

/-- One step of the look. -/
theorem ref_body9 {Ret : Fr → AMem → Prop} {k0 : List It} {M : AMem} {L n : Nat} {to : List (List Nat)} {ids : List Nat} {R : Nat → Nat → Bool} {dn : Nat} {dd : Nat → Bool} {tg tgo : Tag} {B : Nat} (hrb : RB M B ids n R) (hil : ids.length = n) (hdn : M[dn]? = some (.cells (cellsB n dd))) (hn40 : n ≤ 40) (hR : ∀ i k, i < n → k < n → (R i k = true ↔ RchP to i k)) {i k : Nat} (hi : i < n) (hlk : k < n)
    (c : Nat) (rs : List V) (tl : Tag) (htl : TailOk M L tl) (hL : L ≤ M.length)
    (F : Fr) (hr : RefR n ids tg dn tgo rs c i F) (f12 : look F 12 = V.bool (rdB R dd i k)) (f13 : look F 13 = .list tl (nats (clsTo to i k))) (f14 : look F 14 = V.int k)
    (hk : ∀ F' M' tl', RefR n ids tg dn tgo rs c i F' → look F' 12 = V.bool (rdB R dd i (k + 1)) → look F' 13 = .list tl' (nats (clsTo to i (k + 1))) → look F' 14 = V.int k → TailOk M' L tl' → M.length ≤ M'.length → (∀ j, j < L → M'[j]? = M[j]?) → W Try.prog 139 Ret k0 F' M') (hrbL : ∀ (p id : Nat), ids[p]? = some id → id < L) (hdL : dn < L) :
    W Try.prog 139 Ret (.code (part [1,1,1,1,1,1,0,1,1,1,1,1,1,1,1,1,0,1,1,1,0,1,1,1,1,0,1] body31) :: k0) F M := by
  have hto := htl.ok
  have hcx := nats_cells (clsTo to i k)
  have hcl : (clsTo to i k).length + 1 ≤ 1073741824 := by have := clsTo_len to i k; omega
  have ⟨f4, f7, f8, f9, f10, f11⟩ := hr
  (repeat (first | refine W_seq ?_ | refine W_block ?_ | refine W_blk ?_ | refine W_skip ?_))
  refine ref_r23 (tg := tg) hrb hil hi hlk _ f7 f11 f14 ?_
  intro F2 hF g15
  have g12 := (hF 12 (by decide) (by decide)).trans f12
  have g13 := (hF 13 (by decide) (by decide)).trans f13
  have g14 := (hF 14 (by decide) (by decide)).trans f14
  have gr : RefR n ids tg dn tgo rs c i F2 := hr.mk' (hF 4 (by decide) (by decide)) (hF 7 (by decide) (by decide)) (hF 8 (by decide) (by decide)) (hF 9 (by decide) (by decide)) (hF 10 (by decide) (by decide)) (hF 11 (by decide) (by decide))
  clear hF f4 f7 f8 f9 f10 f11 f12 f13 f14 hr
  change look F2 15 = V.bool (muB R i k) at g15
  have cont : ∀ F3 M3 tl3, RefR n ids tg dn tgo rs c i F3 → look F3 12 = V.bool (rdB R dd i k) → look F3 13 = .list tl3 (nats (clsTo to i (k + 1))) → look F3 14 = V.int k → look F3 15 = V.bool (muB R i k) →
      TailOk M3 L tl3 → M.length ≤ M3.length → (∀ j, j < L → M3[j]? = M[j]?) →
      W Try.prog 139 Ret (.code (part [1,1,1,1,1,1,0,1,1,1,1,1,1,1,1,1,0,1,1,1,0,1,1,1,1,0,1,1,1] body31) :: k0) F3 M3 := by
    intro F3 M3 tl3 hr3 e12 e13 e14 e15 htl3 hml3 hk3
    have hrb3 : RB M3 B ids n R := ⟨hrb.nd, hrb.base, fun p id hp => by rw [hk3 id (hrbL p id hp)]; exact hrb.rows p id hp⟩
    have hdn3 : M3[dn]? = some (.cells (cellsB n dd)) := by rw [hk3 dn hdL]; exact hdn
    (repeat (first | refine W_seq ?_ | refine W_block ?_ | refine W_blk ?_ | refine W_skip ?_))
    refine ref_r26 (tg := tg) hrb3 hil hdn3 hi hlk F3 hr3.f7 hr3.f8 hr3.f11 e14 e15 ?_
    intro F4 hF g117
    have g12 := (hF 12 (by decide)).trans e12
    have g13 := (hF 13 (by decide)).trans e13
    have g14 := (hF 14 (by decide)).trans e14
    have gr : RefR n ids tg dn tgo rs c i F4 := hr3.mk' (hF 4 (by decide)) (hF 7 (by decide)) (hF 8 (by decide)) (hF 9 (by decide)) (hF 10 (by decide)) (hF 11 (by decide))
    cases hb : (R i k && !muB R i k && !dd k) with
    | true =>
      rw [hb] at g117
      refine W_cond_true (by simp only [go_sem, Nat.reduceEqDiff, Nat.reduceLT, Nat.reduceAdd, Nat.reduceLeDiff, Nat.reduceMul, Nat.reduceSub, Int.reduceLE, Int.reduceLT, Int.reduceToNat, Int.reducePow, Int.reduceEq, g117]) ?_
      (repeat (first | refine W_seq ?_ | refine W_block ?_ | refine W_blk ?_ | refine W_skip ?_))
      (refine W_region [] (by rfl) fun K hK => ?_; simp only [go_sem, Nat.reduceEqDiff, Nat.reduceLT, Nat.reduceAdd, Nat.reduceLeDiff, Nat.reduceMul, Nat.reduceSub, Int.reduceLE, Int.reduceLT, Int.reduceToNat, Int.reducePow, Int.reduceEq])
      (refine WRun.done _ _ (hK _ _ ?_); clear hK)
      refine hk _ M3 tl3 (gr.mk' ?_ ?_ ?_ ?_ ?_ ?_) ?_ ?_ ?_ htl3 hml3 hk3
      · simp only [go_sem, Nat.reduceEqDiff, Nat.reduceLT, Nat.reduceAdd, Nat.reduceLeDiff, Nat.reduceMul, Nat.reduceSub, Int.reduceLE, Int.reduceLT, Int.reduceToNat, Int.reducePow, Int.reduceEq]
      · simp only [go_sem, Nat.reduceEqDiff, Nat.reduceLT, Nat.reduceAdd, Nat.reduceLeDiff, Nat.reduceMul, Nat.reduceSub, Int.reduceLE, Int.reduceLT, Int.reduceToNat, Int.reducePow, Int.reduceEq]
      · simp only [go_sem, Nat.reduceEqDiff, Nat.reduceLT, Nat.reduceAdd, Nat.reduceLeDiff, Nat.reduceMul, Nat.reduceSub, Int.reduceLE, Int.reduceLT, Int.reduceToNat, Int.reducePow, Int.reduceEq]
      · simp only [go_sem, Nat.reduceEqDiff, Nat.reduceLT, Nat.reduceAdd, Nat.reduceLeDiff, Nat.reduceMul, Nat.reduceSub, Int.reduceLE, Int.reduceLT, Int.reduceToNat, Int.reducePow, Int.reduceEq]
      · simp only [go_sem, Nat.reduceEqDiff, Nat.reduceLT, Nat.reduceAdd, Nat.reduceLeDiff, Nat.reduceMul, Nat.reduceSub, Int.reduceLE, Int.reduceLT, Int.reduceToNat, Int.reducePow, Int.reduceEq]
      · simp only [go_sem, Nat.reduceEqDiff, Nat.reduceLT, Nat.reduceAdd, Nat.reduceLeDiff, Nat.reduceMul, Nat.reduceSub, Int.reduceLE, Int.reduceLT, Int.reduceToNat, Int.reducePow, Int.reduceEq]
      · simp only [go_sem, Nat.reduceEqDiff, Nat.reduceLT, Nat.reduceAdd, Nat.reduceLeDiff, Nat.reduceMul, Nat.reduceSub, Int.reduceLE, Int.reduceLT, Int.reduceToNat, Int.reducePow, Int.reduceEq, rdB_succ, hb, Bool.not_true, Bool.and_false]
      · simp only [go_sem, Nat.reduceEqDiff, Nat.reduceLT, Nat.reduceAdd, Nat.reduceLeDiff, Nat.reduceMul, Nat.reduceSub, Int.reduceLE, Int.reduceLT, Int.reduceToNat, Int.reducePow, Int.reduceEq, g13]
      · simp only [go_sem, Nat.reduceEqDiff, Nat.reduceLT, Nat.reduceAdd, Nat.reduceLeDiff, Nat.reduceMul, Nat.reduceSub, Int.reduceLE, Int.reduceLT, Int.reduceToNat, Int.reducePow, Int.reduceEq, g14]
    | false =>
      rw [hb] at g117
      refine W_cond_false (by simp only [go_sem, Nat.reduceEqDiff, Nat.reduceLT, Nat.reduceAdd, Nat.reduceLeDiff, Nat.reduceMul, Nat.reduceSub, Int.reduceLE, Int.reduceLT, Int.reduceToNat, Int.reducePow, Int.reduceEq, g117]) ?_
      refine W_skip ?_
      refine hk _ M3 tl3 gr ?_ g13 g14 htl3 hml3 hk3
      rw [g12, rdB_succ, hb]; simp
  have hmi := muB_iff hR hi hlk
  (repeat (first | refine W_seq ?_ | refine W_block ?_ | refine W_blk ?_ | refine W_skip ?_))
  (refine W_region [] (by rfl) fun K hK => ?_; simp only [go_sem, Nat.reduceEqDiff, Nat.reduceLT, Nat.reduceAdd, Nat.reduceLeDiff, Nat.reduceMul, Nat.reduceSub, Int.reduceLE, Int.reduceLT, Int.reduceToNat, Int.reducePow, Int.reduceEq, g15])
  (refine WRun.done _ _ (hK _ _ ?_); clear hK)
  (repeat (first | refine W_seq ?_ | refine W_block ?_ | refine W_blk ?_ | refine W_skip ?_))
  cases hb : muB R i k with
  | true =>
    have hcs : clsTo to i (k + 1) = clsTo to i k ++ [k] := by rw [clsTo_succ, if_pos (hmi.1 hb)]
    refine W_cond_true (by simp only [go_sem, Nat.reduceEqDiff, Nat.reduceLT, Nat.reduceAdd, Nat.reduceLeDiff, Nat.reduceMul, Nat.reduceSub, Int.reduceLE, Int.reduceLT, Int.reduceToNat, Int.reducePow, Int.reduceEq, hb]) ?_
    (repeat (first | refine W_seq ?_ | refine W_block ?_ | refine W_blk ?_ | refine W_skip ?_))
    (refine W_region [] (by rfl) fun K hK => ?_; simp only [go_sem, Nat.reduceEqDiff, Nat.reduceLT, Nat.reduceAdd, Nat.reduceLeDiff, Nat.reduceMul, Nat.reduceSub, Int.reduceLE, Int.reduceLT, Int.reduceToNat, Int.reducePow, Int.reduceEq, g13, g14, hto, hcx, hcl, nats_len, nats_snoc, ← hcs])
    (refine WRun.done _ _ (hK _ _ ?_); clear hK)
    refine cont _ _ (.own M.length) (gr.mk' ?_ ?_ ?_ ?_ ?_ ?_) ?_ ?_ ?_ ?_ ?_ ?_ ?_
    · simp only [go_sem, Nat.reduceEqDiff, Nat.reduceLT, Nat.reduceAdd, Nat.reduceLeDiff, Nat.reduceMul, Nat.reduceSub, Int.reduceLE, Int.reduceLT, Int.reduceToNat, Int.reducePow, Int.reduceEq]
    · simp only [go_sem, Nat.reduceEqDiff, Nat.reduceLT, Nat.reduceAdd, Nat.reduceLeDiff, Nat.reduceMul, Nat.reduceSub, Int.reduceLE, Int.reduceLT, Int.reduceToNat, Int.reducePow, Int.reduceEq]
    · simp only [go_sem, Nat.reduceEqDiff, Nat.reduceLT, Nat.reduceAdd, Nat.reduceLeDiff, Nat.reduceMul, Nat.reduceSub, Int.reduceLE, Int.reduceLT, Int.reduceToNat, Int.reducePow, Int.reduceEq]
    · simp only [go_sem, Nat.reduceEqDiff, Nat.reduceLT, Nat.reduceAdd, Nat.reduceLeDiff, Nat.reduceMul, Nat.reduceSub, Int.reduceLE, Int.reduceLT, Int.reduceToNat, Int.reducePow, Int.reduceEq]
    · simp only [go_sem, Nat.reduceEqDiff, Nat.reduceLT, Nat.reduceAdd, Nat.reduceLeDiff, Nat.reduceMul, Nat.reduceSub, Int.reduceLE, Int.reduceLT, Int.reduceToNat, Int.reducePow, Int.reduceEq]
    · simp only [go_sem, Nat.reduceEqDiff, Nat.reduceLT, Nat.reduceAdd, Nat.reduceLeDiff, Nat.reduceMul, Nat.reduceSub, Int.reduceLE, Int.reduceLT, Int.reduceToNat, Int.reducePow, Int.reduceEq]
    · simp only [go_sem, Nat.reduceEqDiff, Nat.reduceLT, Nat.reduceAdd, Nat.reduceLeDiff, Nat.reduceMul, Nat.reduceSub, Int.reduceLE, Int.reduceLT, Int.reduceToNat, Int.reducePow, Int.reduceEq, g12]
    · simp only [go_sem, Nat.reduceEqDiff, Nat.reduceLT, Nat.reduceAdd, Nat.reduceLeDiff, Nat.reduceMul, Nat.reduceSub, Int.reduceLE, Int.reduceLT, Int.reduceToNat, Int.reducePow, Int.reduceEq]
    · simp only [go_sem, Nat.reduceEqDiff, Nat.reduceLT, Nat.reduceAdd, Nat.reduceLeDiff, Nat.reduceMul, Nat.reduceSub, Int.reduceLE, Int.reduceLT, Int.reduceToNat, Int.reducePow, Int.reduceEq, g14]
    · simp only [go_sem, Nat.reduceEqDiff, Nat.reduceLT, Nat.reduceAdd, Nat.reduceLeDiff, Nat.reduceMul, Nat.reduceSub, Int.reduceLE, Int.reduceLT, Int.reduceToNat, Int.reducePow, Int.reduceEq, g15, hb]
    · refine .inr ⟨M.length, rfl, hL, ?_⟩
      rw [List.getElem?_append_right (by rw [dropTag_sz]; exact Nat.le_refl _)]
      simp [dropTag_sz]
    · simp [dropTag_sz]
    · intro j hj
      rw [List.getElem?_append_left (by rw [dropTag_sz]; omega), dropTag_ne _ _ (htl.ne hj)]
  | false =>
    have hcs : clsTo to i (k + 1) = clsTo to i k := by rw [clsTo_succ, if_neg (fun h => by rw [hmi.2 h] at hb; cases hb)]
    refine W_cond_false (by simp only [go_sem, Nat.reduceEqDiff, Nat.reduceLT, Nat.reduceAdd, Nat.reduceLeDiff, Nat.reduceMul, Nat.reduceSub, Int.reduceLE, Int.reduceLT, Int.reduceToNat, Int.reducePow, Int.reduceEq, hb]) ?_
    refine W_skip ?_
    refine cont _ _ tl (gr.mk' ?_ ?_ ?_ ?_ ?_ ?_) ?_ ?_ ?_ ?_ htl (Nat.le_refl _) (fun _ _ => rfl)
    · simp only [go_sem, Nat.reduceEqDiff, Nat.reduceLT, Nat.reduceAdd, Nat.reduceLeDiff, Nat.reduceMul, Nat.reduceSub, Int.reduceLE, Int.reduceLT, Int.reduceToNat, Int.reducePow, Int.reduceEq]
    · simp only [go_sem, Nat.reduceEqDiff, Nat.reduceLT, Nat.reduceAdd, Nat.reduceLeDiff, Nat.reduceMul, Nat.reduceSub, Int.reduceLE, Int.reduceLT, Int.reduceToNat, Int.reducePow, Int.reduceEq]
    · simp only [go_sem, Nat.reduceEqDiff, Nat.reduceLT, Nat.reduceAdd, Nat.reduceLeDiff, Nat.reduceMul, Nat.reduceSub, Int.reduceLE, Int.reduceLT, Int.reduceToNat, Int.reducePow, Int.reduceEq]
    · simp only [go_sem, Nat.reduceEqDiff, Nat.reduceLT, Nat.reduceAdd, Nat.reduceLeDiff, Nat.reduceMul, Nat.reduceSub, Int.reduceLE, Int.reduceLT, Int.reduceToNat, Int.reducePow, Int.reduceEq]
    · simp only [go_sem, Nat.reduceEqDiff, Nat.reduceLT, Nat.reduceAdd, Nat.reduceLeDiff, Nat.reduceMul, Nat.reduceSub, Int.reduceLE, Int.reduceLT, Int.reduceToNat, Int.reducePow, Int.reduceEq]
    · simp only [go_sem, Nat.reduceEqDiff, Nat.reduceLT, Nat.reduceAdd, Nat.reduceLeDiff, Nat.reduceMul, Nat.reduceSub, Int.reduceLE, Int.reduceLT, Int.reduceToNat, Int.reducePow, Int.reduceEq]
    · simp only [go_sem, Nat.reduceEqDiff, Nat.reduceLT, Nat.reduceAdd, Nat.reduceLeDiff, Nat.reduceMul, Nat.reduceSub, Int.reduceLE, Int.reduceLT, Int.reduceToNat, Int.reducePow, Int.reduceEq, g12]
    · simp only [go_sem, Nat.reduceEqDiff, Nat.reduceLT, Nat.reduceAdd, Nat.reduceLeDiff, Nat.reduceMul, Nat.reduceSub, Int.reduceLE, Int.reduceLT, Int.reduceToNat, Int.reducePow, Int.reduceEq, g13, hcs]
    · simp only [go_sem, Nat.reduceEqDiff, Nat.reduceLT, Nat.reduceAdd, Nat.reduceLeDiff, Nat.reduceMul, Nat.reduceSub, Int.reduceLE, Int.reduceLT, Int.reduceToNat, Int.reducePow, Int.reduceEq, g14]
    · simp only [go_sem, Nat.reduceEqDiff, Nat.reduceLT, Nat.reduceAdd, Nat.reduceLeDiff, Nat.reduceMul, Nat.reduceSub, Int.reduceLE, Int.reduceLT, Int.reduceToNat, Int.reducePow, Int.reduceEq, g15, hb]

/-- The reference looks at one thing: its group, and whether it can come. -/
theorem ref_look {Ret : Fr → AMem → Prop} {k0 : List It} {M : AMem} {B n : Nat} {to : List (List Nat)} {ids : List Nat} {R : Nat → Nat → Bool} {dn : Nat} {dd : Nat → Bool} {tgo tg : Tag} (h : RefSt M B ids n R dn dd tgo) (hn : n = to.length) (hn40 : n ≤ 40) (hg : Good to) (hR : ∀ i k, i < n → k < n → (R i k = true ↔ RchP to i k)) {i : Nat} (hi : i < n)
    (c : Nat) (rs : List V) (F : Fr) (hr : RefR n ids tg dn tgo rs c i F)
    (hk : ∀ F' M' tl b, RefR n ids tg dn tgo rs c i F' → look F' 12 = V.bool b → look F' 13 = .list tl (nats (cls to i)) → (b = true ↔ Rdy to dd i) →
      M.length ≤ M'.length → (∀ j, j < M.length → M'[j]? = M[j]?) → W Try.prog 139 Ret (.code (part [1,1,1,1,1,1,0,1,1,1,1,1,1,1,1,1,0,1,1,1,1] body31) :: k0) F' M') :
    W Try.prog 139 Ret (.code (part [1,1,1,1,1,1,0,1,1,1,1,1,1,1,1,1,0,1] body31) :: k0) F M := by
  have hi' : (i : Int) < (n : Int) := by omega
  have hdn := h.dnc
  have hdi := cellsB_at dd hi
  have ⟨f4, f7, f8, f9, f10, f11⟩ := hr
  (repeat (first | refine W_seq ?_ | refine W_block ?_ | refine W_blk ?_ | refine W_skip ?_))
  (refine W_region [] (by rfl) fun K hK => ?_; simp only [go_sem, Nat.reduceEqDiff, Nat.reduceLT, Nat.reduceAdd, Nat.reduceLeDiff, Nat.reduceMul, Nat.reduceSub, Int.reduceLE, Int.reduceLT, Int.reduceToNat, Int.reducePow, Int.reduceEq, f8, f11, hi', hdn, hdi, Int.natCast_nonneg, Int.toNat_natCast, List.head?_drop, Nat.zero_add])
  (refine WRun.done _ _ (hK _ _ ?_); clear hK)
  (repeat (first | refine W_seq ?_ | refine W_block ?_ | refine W_blk ?_ | refine W_skip ?_))
  (refine W_region [] (by rfl) fun K hK => ?_; simp only [go_sem, Nat.reduceEqDiff, Nat.reduceLT, Nat.reduceAdd, Nat.reduceLeDiff, Nat.reduceMul, Nat.reduceSub, Int.reduceLE, Int.reduceLT, Int.reduceToNat, Int.reducePow, Int.reduceEq])
  (refine WRun.done _ _ (hK _ _ ?_); clear hK)
  (repeat (first | refine W_seq ?_ | refine W_block ?_ | refine W_blk ?_ | refine W_skip ?_))
  (refine W_region [] (by rfl) fun K hK => ?_; simp only [go_sem, Nat.reduceEqDiff, Nat.reduceLT, Nat.reduceAdd, Nat.reduceLeDiff, Nat.reduceMul, Nat.reduceSub, Int.reduceLE, Int.reduceLT, Int.reduceToNat, Int.reducePow, Int.reduceEq])
  (refine WRun.done _ _ (hK _ _ ?_); clear hK)
  (repeat (first | refine W_seq ?_ | refine W_block ?_ | refine W_blk ?_ | refine W_skip ?_))
  refine W_loop (α := Nat × Tag) (fun q F' M' => q.1 ≤ n ∧ RefR n ids tg dn tgo rs c i F' ∧ look F' 12 = V.bool (rdB R dd i q.1) ∧
      look F' 13 = .list q.2 (nats (clsTo to i q.1)) ∧ look F' 14 = V.int q.1 ∧ TailOk M' M.length q.2 ∧ M.length ≤ M'.length ∧ (∀ j, j < M.length → M'[j]? = M[j]?))
    (fun q => n - q.1) (0, .full) ⟨Nat.zero_le _, hr.mk' ?_ ?_ ?_ ?_ ?_ ?_, ?_, ?_, ?_, .inl rfl, Nat.le_refl _, fun _ _ => rfl⟩ ?_
  · simp only [go_sem, Nat.reduceEqDiff, Nat.reduceLT, Nat.reduceAdd, Nat.reduceLeDiff, Nat.reduceMul, Nat.reduceSub, Int.reduceLE, Int.reduceLT, Int.reduceToNat, Int.reducePow, Int.reduceEq]
  · simp only [go_sem, Nat.reduceEqDiff, Nat.reduceLT, Nat.reduceAdd, Nat.reduceLeDiff, Nat.reduceMul, Nat.reduceSub, Int.reduceLE, Int.reduceLT, Int.reduceToNat, Int.reducePow, Int.reduceEq]
  · simp only [go_sem, Nat.reduceEqDiff, Nat.reduceLT, Nat.reduceAdd, Nat.reduceLeDiff, Nat.reduceMul, Nat.reduceSub, Int.reduceLE, Int.reduceLT, Int.reduceToNat, Int.reducePow, Int.reduceEq]
  · simp only [go_sem, Nat.reduceEqDiff, Nat.reduceLT, Nat.reduceAdd, Nat.reduceLeDiff, Nat.reduceMul, Nat.reduceSub, Int.reduceLE, Int.reduceLT, Int.reduceToNat, Int.reducePow, Int.reduceEq]
  · simp only [go_sem, Nat.reduceEqDiff, Nat.reduceLT, Nat.reduceAdd, Nat.reduceLeDiff, Nat.reduceMul, Nat.reduceSub, Int.reduceLE, Int.reduceLT, Int.reduceToNat, Int.reducePow, Int.reduceEq]
  · simp only [go_sem, Nat.reduceEqDiff, Nat.reduceLT, Nat.reduceAdd, Nat.reduceLeDiff, Nat.reduceMul, Nat.reduceSub, Int.reduceLE, Int.reduceLT, Int.reduceToNat, Int.reducePow, Int.reduceEq]
  · simp only [go_sem, Nat.reduceEqDiff, Nat.reduceLT, Nat.reduceAdd, Nat.reduceLeDiff, Nat.reduceMul, Nat.reduceSub, Int.reduceLE, Int.reduceLT, Int.reduceToNat, Int.reducePow, Int.reduceEq]
    simp [rdB]
  · simp only [go_sem, Nat.reduceEqDiff, Nat.reduceLT, Nat.reduceAdd, Nat.reduceLeDiff, Nat.reduceMul, Nat.reduceSub, Int.reduceLE, Int.reduceLT, Int.reduceToNat, Int.reducePow, Int.reduceEq]
    rfl
  · simp only [go_sem, Nat.reduceEqDiff, Nat.reduceLT, Nat.reduceAdd, Nat.reduceLeDiff, Nat.reduceMul, Nat.reduceSub, Int.reduceLE, Int.reduceLT, Int.reduceToNat, Int.reducePow, Int.reduceEq]
  clear f4 f7 f8 f9 f10 f11 hr F
  rintro ⟨k, tl⟩ F M1 ⟨hkn, hr, f12, f13, f14, htl, hml, hkeep⟩
  simp only at hkn f12 f13 f14 htl
  have h1 := h.grow hkeep
  have f4 := hr.f4
  by_cases hlk : k < n
  · have hlk' : (k : Int) < (n : Int) := by omega
    have hwk : IntKind.i64.wrap ((k : Int) + 1) = ((k + 1 : Nat) : Int) := by rw [wrapI _ (by omega) (by omega)]; omega
    (repeat (first | refine W_seq ?_ | refine W_block ?_ | refine W_blk ?_ | refine W_skip ?_))
    (refine W_region [] (by rfl) fun K hK => ?_; simp only [go_sem, Nat.reduceEqDiff, Nat.reduceLT, Nat.reduceAdd, Nat.reduceLeDiff, Nat.reduceMul, Nat.reduceSub, Int.reduceLE, Int.reduceLT, Int.reduceToNat, Int.reducePow, Int.reduceEq, f4, f14, hlk'])
    (refine WRun.done _ _ (hK _ _ ?_); clear hK)
    refine W_cond_true (by simp only [go_sem, Nat.reduceEqDiff, Nat.reduceLT, Nat.reduceAdd, Nat.reduceLeDiff, Nat.reduceMul, Nat.reduceSub, Int.reduceLE, Int.reduceLT, Int.reduceToNat, Int.reducePow, Int.reduceEq]) ?_
    refine W_skip ?_
    refine W_seq ?_
    refine W_block ?_
    refine ref_body9 (L := M.length) h1.rb h.il h1.dnc hn40 hR hi hlk c rs tl htl hml _ (hr.mk' ?_ ?_ ?_ ?_ ?_ ?_) ?_ ?_ ?_ ?_ (fun p id hp => lt_of_at (h.rb.rows p id hp)) (lt_of_at h.dnc)
    · simp only [go_sem, Nat.reduceEqDiff, Nat.reduceLT, Nat.reduceAdd, Nat.reduceLeDiff, Nat.reduceMul, Nat.reduceSub, Int.reduceLE, Int.reduceLT, Int.reduceToNat, Int.reducePow, Int.reduceEq]
    · simp only [go_sem, Nat.reduceEqDiff, Nat.reduceLT, Nat.reduceAdd, Nat.reduceLeDiff, Nat.reduceMul, Nat.reduceSub, Int.reduceLE, Int.reduceLT, Int.reduceToNat, Int.reducePow, Int.reduceEq]
    · simp only [go_sem, Nat.reduceEqDiff, Nat.reduceLT, Nat.reduceAdd, Nat.reduceLeDiff, Nat.reduceMul, Nat.reduceSub, Int.reduceLE, Int.reduceLT, Int.reduceToNat, Int.reducePow, Int.reduceEq]
    · simp only [go_sem, Nat.reduceEqDiff, Nat.reduceLT, Nat.reduceAdd, Nat.reduceLeDiff, Nat.reduceMul, Nat.reduceSub, Int.reduceLE, Int.reduceLT, Int.reduceToNat, Int.reducePow, Int.reduceEq]
    · simp only [go_sem, Nat.reduceEqDiff, Nat.reduceLT, Nat.reduceAdd, Nat.reduceLeDiff, Nat.reduceMul, Nat.reduceSub, Int.reduceLE, Int.reduceLT, Int.reduceToNat, Int.reducePow, Int.reduceEq]
    · simp only [go_sem, Nat.reduceEqDiff, Nat.reduceLT, Nat.reduceAdd, Nat.reduceLeDiff, Nat.reduceMul, Nat.reduceSub, Int.reduceLE, Int.reduceLT, Int.reduceToNat, Int.reducePow, Int.reduceEq]
    · simp only [go_sem, Nat.reduceEqDiff, Nat.reduceLT, Nat.reduceAdd, Nat.reduceLeDiff, Nat.reduceMul, Nat.reduceSub, Int.reduceLE, Int.reduceLT, Int.reduceToNat, Int.reducePow, Int.reduceEq, f12]
    · simp only [go_sem, Nat.reduceEqDiff, Nat.reduceLT, Nat.reduceAdd, Nat.reduceLeDiff, Nat.reduceMul, Nat.reduceSub, Int.reduceLE, Int.reduceLT, Int.reduceToNat, Int.reducePow, Int.reduceEq, f13]
    · simp only [go_sem, Nat.reduceEqDiff, Nat.reduceLT, Nat.reduceAdd, Nat.reduceLeDiff, Nat.reduceMul, Nat.reduceSub, Int.reduceLE, Int.reduceLT, Int.reduceToNat, Int.reducePow, Int.reduceEq, f14]
    intro F3 M3 tl3 hr3 e12 e13 e14 htl3 hml3 hk3
    (repeat (first | refine W_seq ?_ | refine W_block ?_ | refine W_blk ?_ | refine W_skip ?_))
    (refine W_region [] (by rfl) fun K hK => ?_; simp only [go_sem, Nat.reduceEqDiff, Nat.reduceLT, Nat.reduceAdd, Nat.reduceLeDiff, Nat.reduceMul, Nat.reduceSub, Int.reduceLE, Int.reduceLT, Int.reduceToNat, Int.reducePow, Int.reduceEq, e14, hwk])
    (refine WRun.done _ _ (hK _ _ ?_); clear hK)
    refine W_stop ⟨(k + 1, tl3), ⟨hlk, hr3.mk' ?_ ?_ ?_ ?_ ?_ ?_, ?_, ?_, ?_, htl3, by omega, fun j hj => (hk3 j hj).trans (hkeep j hj)⟩, by show n - (k + 1) < n - k; omega⟩
    · simp only [go_sem, Nat.reduceEqDiff, Nat.reduceLT, Nat.reduceAdd, Nat.reduceLeDiff, Nat.reduceMul, Nat.reduceSub, Int.reduceLE, Int.reduceLT, Int.reduceToNat, Int.reducePow, Int.reduceEq]
    · simp only [go_sem, Nat.reduceEqDiff, Nat.reduceLT, Nat.reduceAdd, Nat.reduceLeDiff, Nat.reduceMul, Nat.reduceSub, Int.reduceLE, Int.reduceLT, Int.reduceToNat, Int.reducePow, Int.reduceEq]
    · simp only [go_sem, Nat.reduceEqDiff, Nat.reduceLT, Nat.reduceAdd, Nat.reduceLeDiff, Nat.reduceMul, Nat.reduceSub, Int.reduceLE, Int.reduceLT, Int.reduceToNat, Int.reducePow, Int.reduceEq]
    · simp only [go_sem, Nat.reduceEqDiff, Nat.reduceLT, Nat.reduceAdd, Nat.reduceLeDiff, Nat.reduceMul, Nat.reduceSub, Int.reduceLE, Int.reduceLT, Int.reduceToNat, Int.reducePow, Int.reduceEq]
    · simp only [go_sem, Nat.reduceEqDiff, Nat.reduceLT, Nat.reduceAdd, Nat.reduceLeDiff, Nat.reduceMul, Nat.reduceSub, Int.reduceLE, Int.reduceLT, Int.reduceToNat, Int.reducePow, Int.reduceEq]
    · simp only [go_sem, Nat.reduceEqDiff, Nat.reduceLT, Nat.reduceAdd, Nat.reduceLeDiff, Nat.reduceMul, Nat.reduceSub, Int.reduceLE, Int.reduceLT, Int.reduceToNat, Int.reducePow, Int.reduceEq]
    · simp only [go_sem, Nat.reduceEqDiff, Nat.reduceLT, Nat.reduceAdd, Nat.reduceLeDiff, Nat.reduceMul, Nat.reduceSub, Int.reduceLE, Int.reduceLT, Int.reduceToNat, Int.reducePow, Int.reduceEq, e12]
    · simp only [go_sem, Nat.reduceEqDiff, Nat.reduceLT, Nat.reduceAdd, Nat.reduceLeDiff, Nat.reduceMul, Nat.reduceSub, Int.reduceLE, Int.reduceLT, Int.reduceToNat, Int.reducePow, Int.reduceEq, e13]
    · simp only [go_sem, Nat.reduceEqDiff, Nat.reduceLT, Nat.reduceAdd, Nat.reduceLeDiff, Nat.reduceMul, Nat.reduceSub, Int.reduceLE, Int.reduceLT, Int.reduceToNat, Int.reducePow, Int.reduceEq]
  · have hlk' : ¬ (k : Int) < (n : Int) := by omega
    have hkn' : k = n := by omega
    subst hkn'
    (repeat (first | refine W_seq ?_ | refine W_block ?_ | refine W_blk ?_ | refine W_skip ?_))
    (refine W_region [] (by rfl) fun K hK => ?_; simp only [go_sem, Nat.reduceEqDiff, Nat.reduceLT, Nat.reduceAdd, Nat.reduceLeDiff, Nat.reduceMul, Nat.reduceSub, Int.reduceLE, Int.reduceLT, Int.reduceToNat, Int.reducePow, Int.reduceEq, f4, f14, hlk'])
    (refine WRun.done _ _ (hK _ _ ?_); clear hK)
    (repeat (first | refine W_seq ?_ | refine W_block ?_ | refine W_blk ?_ | refine W_skip ?_))
    refine W_cond_false (by simp only [go_sem, Nat.reduceEqDiff, Nat.reduceLT, Nat.reduceAdd, Nat.reduceLeDiff, Nat.reduceMul, Nat.reduceSub, Int.reduceLE, Int.reduceLT, Int.reduceToNat, Int.reducePow, Int.reduceEq]) ?_
    refine W_exit (Qof_code (Qof_stop (Qof_blk_same ?_)))
    refine hk _ M1 tl _ (hr.mk' ?_ ?_ ?_ ?_ ?_ ?_) ?_ ?_ (rdB_iff hn hg hR hi) hml hkeep
    · simp only [go_sem, Nat.reduceEqDiff, Nat.reduceLT, Nat.reduceAdd, Nat.reduceLeDiff, Nat.reduceMul, Nat.reduceSub, Int.reduceLE, Int.reduceLT, Int.reduceToNat, Int.reducePow, Int.reduceEq]
    · simp only [go_sem, Nat.reduceEqDiff, Nat.reduceLT, Nat.reduceAdd, Nat.reduceLeDiff, Nat.reduceMul, Nat.reduceSub, Int.reduceLE, Int.reduceLT, Int.reduceToNat, Int.reducePow, Int.reduceEq]
    · simp only [go_sem, Nat.reduceEqDiff, Nat.reduceLT, Nat.reduceAdd, Nat.reduceLeDiff, Nat.reduceMul, Nat.reduceSub, Int.reduceLE, Int.reduceLT, Int.reduceToNat, Int.reducePow, Int.reduceEq]
    · simp only [go_sem, Nat.reduceEqDiff, Nat.reduceLT, Nat.reduceAdd, Nat.reduceLeDiff, Nat.reduceMul, Nat.reduceSub, Int.reduceLE, Int.reduceLT, Int.reduceToNat, Int.reducePow, Int.reduceEq]
    · simp only [go_sem, Nat.reduceEqDiff, Nat.reduceLT, Nat.reduceAdd, Nat.reduceLeDiff, Nat.reduceMul, Nat.reduceSub, Int.reduceLE, Int.reduceLT, Int.reduceToNat, Int.reducePow, Int.reduceEq]
    · simp only [go_sem, Nat.reduceEqDiff, Nat.reduceLT, Nat.reduceAdd, Nat.reduceLeDiff, Nat.reduceMul, Nat.reduceSub, Int.reduceLE, Int.reduceLT, Int.reduceToNat, Int.reducePow, Int.reduceEq]
    · simp only [go_sem, Nat.reduceEqDiff, Nat.reduceLT, Nat.reduceAdd, Nat.reduceLeDiff, Nat.reduceMul, Nat.reduceSub, Int.reduceLE, Int.reduceLT, Int.reduceToNat, Int.reducePow, Int.reduceEq, f12]
    · simp only [go_sem, Nat.reduceEqDiff, Nat.reduceLT, Nat.reduceAdd, Nat.reduceLeDiff, Nat.reduceMul, Nat.reduceSub, Int.reduceLE, Int.reduceLT, Int.reduceToNat, Int.reducePow, Int.reduceEq, f13, clsTo_all hn]
end Go.Ax

import Derived.Test.YthbojmoiimknhaaOrY
import Derived.Test.YthbojmoiimknhaaOrU
set_option linter.unusedSimpArgs false
set_option linter.unusedVariables false
namespace Go.Ord
/-- What reaches alike is ordered alike. -/
theorem Seq.alike {to to' : List (List Nat)} (hl : to.length = to'.length) (hr : ∀ i k, Rch to i k ↔ Rch to' i k) {d : Nat → Bool} {l : List (List Nat)} (h : Seq to d l) : Seq to' d l := by
  have hm : ∀ i k, Mut to i k ↔ Mut to' i k := fun i k => by simp only [Mut, hr]
  have hc : ∀ i, cls to i = cls to' i := by
    intro i
    unfold cls
    rw [hl]
    apply List.filter_congr
    intro k _
    have := hm i k
    by_cases h : Mut to i k
    · simp [h, this.1 h]
    · have h2 : ¬ Mut to' i k := fun hc => h (this.2 hc)
      simp [h, h2]
  have hd : ∀ d i, Rdy to d i ↔ Rdy to' d i := fun d i => by simp only [Rdy, hl, hr, hm]
  induction h with
  | nil d h => exact .nil d fun i hi => h i (by omega)
  | cons d i l hn _ ih =>
    rw [hc]
    refine .cons d i l ⟨(hd d i).1 hn.1, fun j hj => hn.2 j ((hd d j).2 hj)⟩ ?_
    have : mark to d i = mark to' d i := by
      funext k
      simp only [mark]
      have := hm i k
      by_cases h : Mut to i k
      · simp [h, this.1 h]
      · have h2 : ¬ Mut to' i k := fun hc => h (this.2 hc)
        simp [h, h2]
    rw [← this]; exact ih
end Go.Ord
namespace Go.Ax
open Go.Proofs Go.Ord

/-- small, where no row is too long for any machine. -/
theorem order_small2 (M : AMem) (to : List (List Int)) (hl : to.length ≤ 140737488351232) (hrl : ∀ l ∈ to, l.length ≤ 140737488351232) :
    ACalls Try.prog 29 [.list .dull (rowsV to)] M (fun r M' => M' = M ∧ ∃ b, r = V.bool b ∧ (b = true → to.length ≤ 40 ∧ (to.map List.length).sum ≤ 400)) := by
  refine acalls_enter [.tmp 2] 24 Try.func29 rfl rfl rfl (by simp) ?_
  (repeat (first | refine W_seq ?_ | refine W_block ?_ | refine W_blk ?_ | refine W_skip ?_))
  (refine W_region [] (by rfl) fun K hK => ?_; simp only [go_sem, Nat.reduceEqDiff, Nat.reduceLT, Nat.reduceAdd, Nat.reduceLeDiff, Nat.reduceMul, Nat.reduceSub, Int.reduceLE, Int.reduceLT, Int.reduceToNat, Int.reducePow, Int.reduceEq])
  (refine WRun.done _ _ (hK _ _ ?_); clear hK)
  (repeat (first | refine W_seq ?_ | refine W_block ?_ | refine W_blk ?_ | refine W_skip ?_))
  (refine W_region [] (by rfl) fun K hK => ?_; simp only [go_sem, Nat.reduceEqDiff, Nat.reduceLT, Nat.reduceAdd, Nat.reduceLeDiff, Nat.reduceMul, Nat.reduceSub, Int.reduceLE, Int.reduceLT, Int.reduceToNat, Int.reducePow, Int.reduceEq])
  (refine WRun.done _ _ (hK _ _ ?_); clear hK)
  (repeat (first | refine W_seq ?_ | refine W_block ?_ | refine W_blk ?_ | refine W_skip ?_))
  (refine W_region [] (by rfl) fun K hK => ?_; simp only [go_sem, Nat.reduceEqDiff, Nat.reduceLT, Nat.reduceAdd, Nat.reduceLeDiff, Nat.reduceMul, Nat.reduceSub, Int.reduceLE, Int.reduceLT, Int.reduceToNat, Int.reducePow, Int.reduceEq, rowsV_len])
  (refine WRun.done _ _ (hK _ _ ?_); clear hK)
  (repeat (first | refine W_seq ?_ | refine W_block ?_ | refine W_blk ?_ | refine W_skip ?_))
  refine W_loop (α := Nat × Int) (fun q F' M' => q.1 ≤ to.length ∧ M' = M ∧ look F' 0 = .list .dull (rowsV to) ∧ look F' 6 = .list .dull (rowsV to) ∧ look F' 7 = V.int to.length ∧ look F' 8 = V.int q.1 ∧ look F' 3 = V.int q.2 ∧ (to.length ≤ 40 → q.2 = ((to.take q.1).map List.length).sum ∧ ((to.take q.1).map List.length).sum ≤ q.1 * 140737488351232))
    (fun q => to.length - q.1) (0, 0) ⟨Nat.zero_le _, rfl, ?_, ?_, ?_, ?_, ?_, fun _ => ⟨by simp, by simp⟩⟩ ?_
  · simp only [go_sem, Nat.reduceEqDiff, Nat.reduceLT, Nat.reduceAdd, Nat.reduceLeDiff, Nat.reduceMul, Nat.reduceSub, Int.reduceLE, Int.reduceLT, Int.reduceToNat, Int.reducePow, Int.reduceEq]
  · simp only [go_sem, Nat.reduceEqDiff, Nat.reduceLT, Nat.reduceAdd, Nat.reduceLeDiff, Nat.reduceMul, Nat.reduceSub, Int.reduceLE, Int.reduceLT, Int.reduceToNat, Int.reducePow, Int.reduceEq]
  · simp only [go_sem, Nat.reduceEqDiff, Nat.reduceLT, Nat.reduceAdd, Nat.reduceLeDiff, Nat.reduceMul, Nat.reduceSub, Int.reduceLE, Int.reduceLT, Int.reduceToNat, Int.reducePow, Int.reduceEq]
  · simp only [go_sem, Nat.reduceEqDiff, Nat.reduceLT, Nat.reduceAdd, Nat.reduceLeDiff, Nat.reduceMul, Nat.reduceSub, Int.reduceLE, Int.reduceLT, Int.reduceToNat, Int.reducePow, Int.reduceEq]
  · simp only [go_sem, Nat.reduceEqDiff, Nat.reduceLT, Nat.reduceAdd, Nat.reduceLeDiff, Nat.reduceMul, Nat.reduceSub, Int.reduceLE, Int.reduceLT, Int.reduceToNat, Int.reducePow, Int.reduceEq]
  rintro ⟨j, z⟩ F M' ⟨hj, rfl, f0, f6, f7, f8, f3, hz⟩
  simp only at hj f8 f3 hz
  by_cases hlt : j < to.length
  · have hlt' : (j : Int) < (to.length : Int) := by omega
    have hw1 : IntKind.i64.wrap ((j : Int) + 1) = ((j + 1 : Nat) : Int) := by rw [wrapI _ (by omega) (by omega)]; omega
    obtain ⟨row, hrow⟩ : ∃ row, to[j]? = some row := ⟨_, List.getElem?_eq_getElem hlt⟩
    have hp := rowsV_at hrow
    have hr1 := hrl row (List.mem_of_getElem? hrow)
    (repeat (first | refine W_seq ?_ | refine W_block ?_ | refine W_blk ?_ | refine W_skip ?_))
    (refine W_region [] (by rfl) fun K hK => ?_; simp only [go_sem, Nat.reduceEqDiff, Nat.reduceLT, Nat.reduceAdd, Nat.reduceLeDiff, Nat.reduceMul, Nat.reduceSub, Int.reduceLE, Int.reduceLT, Int.reduceToNat, Int.reducePow, Int.reduceEq, f7, f8, hlt'])
    (refine WRun.done _ _ (hK _ _ ?_); clear hK)
    (repeat (first | refine W_seq ?_ | refine W_block ?_ | refine W_blk ?_ | refine W_skip ?_))
    refine W_cond_true (by simp only [go_sem, Nat.reduceEqDiff, Nat.reduceLT, Nat.reduceAdd, Nat.reduceLeDiff, Nat.reduceMul, Nat.reduceSub, Int.reduceLE, Int.reduceLT, Int.reduceToNat, Int.reducePow, Int.reduceEq]) ?_
    (repeat (first | refine W_seq ?_ | refine W_block ?_ | refine W_blk ?_ | refine W_skip ?_))
    (refine W_region [] (by rfl) fun K hK => ?_; simp only [go_sem, Nat.reduceEqDiff, Nat.reduceLT, Nat.reduceAdd, Nat.reduceLeDiff, Nat.reduceMul, Nat.reduceSub, Int.reduceLE, Int.reduceLT, Int.reduceToNat, Int.reducePow, Int.reduceEq, f6, f8, hp, hlt', rowsV_len, Int.natCast_nonneg, Int.toNat_natCast, List.head?_drop])
    (refine WRun.done _ _ (hK _ _ ?_); clear hK)
    (repeat (first | refine W_seq ?_ | refine W_block ?_ | refine W_blk ?_ | refine W_skip ?_))
    (refine W_region [] (by rfl) fun K hK => ?_; simp only [go_sem, Nat.reduceEqDiff, Nat.reduceLT, Nat.reduceAdd, Nat.reduceLeDiff, Nat.reduceMul, Nat.reduceSub, Int.reduceLE, Int.reduceLT, Int.reduceToNat, Int.reducePow, Int.reduceEq, f3, List.length_map])
    (refine WRun.done _ _ (hK _ _ ?_); clear hK)
    (repeat (first | refine W_seq ?_ | refine W_block ?_ | refine W_blk ?_ | refine W_skip ?_))
    (refine W_region [] (by rfl) fun K hK => ?_; simp only [go_sem, Nat.reduceEqDiff, Nat.reduceLT, Nat.reduceAdd, Nat.reduceLeDiff, Nat.reduceMul, Nat.reduceSub, Int.reduceLE, Int.reduceLT, Int.reduceToNat, Int.reducePow, Int.reduceEq, f8, hw1])
    (refine WRun.done _ _ (hK _ _ ?_); clear hK)
    refine W_stop ⟨(j + 1, IntKind.i64.wrap (z + (row.length : Int))), ⟨hlt, rfl, ?_, ?_, ?_, ?_, ?_, fun h40 => ?_⟩, by show to.length - (j + 1) < to.length - j; omega⟩
    · simp only [go_sem, Nat.reduceEqDiff, Nat.reduceLT, Nat.reduceAdd, Nat.reduceLeDiff, Nat.reduceMul, Nat.reduceSub, Int.reduceLE, Int.reduceLT, Int.reduceToNat, Int.reducePow, Int.reduceEq, f0]
    · simp only [go_sem, Nat.reduceEqDiff, Nat.reduceLT, Nat.reduceAdd, Nat.reduceLeDiff, Nat.reduceMul, Nat.reduceSub, Int.reduceLE, Int.reduceLT, Int.reduceToNat, Int.reducePow, Int.reduceEq, f6]
    · simp only [go_sem, Nat.reduceEqDiff, Nat.reduceLT, Nat.reduceAdd, Nat.reduceLeDiff, Nat.reduceMul, Nat.reduceSub, Int.reduceLE, Int.reduceLT, Int.reduceToNat, Int.reducePow, Int.reduceEq, f7]
    · simp only [go_sem, Nat.reduceEqDiff, Nat.reduceLT, Nat.reduceAdd, Nat.reduceLeDiff, Nat.reduceMul, Nat.reduceSub, Int.reduceLE, Int.reduceLT, Int.reduceToNat, Int.reducePow, Int.reduceEq]
    · simp only [go_sem, Nat.reduceEqDiff, Nat.reduceLT, Nat.reduceAdd, Nat.reduceLeDiff, Nat.reduceMul, Nat.reduceSub, Int.reduceLE, Int.reduceLT, Int.reduceToNat, Int.reducePow, Int.reduceEq]
    · obtain ⟨h1, h2⟩ := hz h40
      have e : ((to.take (j + 1)).map List.length).sum = ((to.take j).map List.length).sum + row.length := by
        rw [List.take_add_one, hrow]; simp
      show IntKind.i64.wrap (z + (row.length : Int)) = _ ∧ _ ≤ (j + 1) * 140737488351232
      rw [e]
      refine ⟨?_, by omega⟩
      rw [wrapI _ (by omega) (by omega)]; omega
  · have hlt' : ¬ (j : Int) < (to.length : Int) := by omega
    have htk : to.take j = to := List.take_of_length_le (by omega)
    rw [htk] at hz
    (repeat (first | refine W_seq ?_ | refine W_block ?_ | refine W_blk ?_ | refine W_skip ?_))
    (refine W_region [] (by rfl) fun K hK => ?_; simp only [go_sem, Nat.reduceEqDiff, Nat.reduceLT, Nat.reduceAdd, Nat.reduceLeDiff, Nat.reduceMul, Nat.reduceSub, Int.reduceLE, Int.reduceLT, Int.reduceToNat, Int.reducePow, Int.reduceEq, f7, f8, hlt'])
    (refine WRun.done _ _ (hK _ _ ?_); clear hK)
    (repeat (first | refine W_seq ?_ | refine W_block ?_ | refine W_blk ?_ | refine W_skip ?_))
    refine W_cond_false (by simp only [go_sem, Nat.reduceEqDiff, Nat.reduceLT, Nat.reduceAdd, Nat.reduceLeDiff, Nat.reduceMul, Nat.reduceSub, Int.reduceLE, Int.reduceLT, Int.reduceToNat, Int.reducePow, Int.reduceEq]) ?_
    refine W_exit (Qof_code (Qof_stop (Qof_blk_same ?_)))
    (repeat (first | refine W_seq ?_ | refine W_block ?_ | refine W_blk ?_ | refine W_skip ?_))
    by_cases h40 : to.length ≤ 40
    · have h40' : ((to.length : Int) ≤ 40) = True := eq_true (by omega)
      obtain ⟨h1, h2⟩ := hz h40
      by_cases h4 : z ≤ 400
      · have h4' : (z ≤ 400) = True := eq_true h4
        (refine W_region [] (by rfl) fun K hK => ?_; simp only [go_sem, Nat.reduceEqDiff, Nat.reduceLT, Nat.reduceAdd, Nat.reduceLeDiff, Nat.reduceMul, Nat.reduceSub, Int.reduceLE, Int.reduceLT, Int.reduceToNat, Int.reducePow, Int.reduceEq, f0, f3, h40', h4', rowsV_len])
        (refine WRun.done _ _ (hK _ _ ?_); clear hK)
        refine W_ret ?_
        simp only [go_sem, Nat.reduceEqDiff, Nat.reduceLT, Nat.reduceAdd, Nat.reduceLeDiff, Nat.reduceMul, Nat.reduceSub, Int.reduceLE, Int.reduceLT, Int.reduceToNat, Int.reducePow, Int.reduceEq]
        exact ⟨true, rfl, fun _ => ⟨h40, by omega⟩⟩
      · have h4' : (z ≤ 400) = False := eq_false h4
        (refine W_region [] (by rfl) fun K hK => ?_; simp only [go_sem, Nat.reduceEqDiff, Nat.reduceLT, Nat.reduceAdd, Nat.reduceLeDiff, Nat.reduceMul, Nat.reduceSub, Int.reduceLE, Int.reduceLT, Int.reduceToNat, Int.reducePow, Int.reduceEq, f0, f3, h40', h4', rowsV_len])
        (refine WRun.done _ _ (hK _ _ ?_); clear hK)
        refine W_ret ?_
        simp only [go_sem, Nat.reduceEqDiff, Nat.reduceLT, Nat.reduceAdd, Nat.reduceLeDiff, Nat.reduceMul, Nat.reduceSub, Int.reduceLE, Int.reduceLT, Int.reduceToNat, Int.reducePow, Int.reduceEq]
        exact ⟨false, rfl, fun h => by cases h⟩
    · have h40' : ((to.length : Int) ≤ 40) = False := eq_false (by omega)
      (refine W_region [] (by rfl) fun K hK => ?_; simp only [go_sem, Nat.reduceEqDiff, Nat.reduceLT, Nat.reduceAdd, Nat.reduceLeDiff, Nat.reduceMul, Nat.reduceSub, Int.reduceLE, Int.reduceLT, Int.reduceToNat, Int.reducePow, Int.reduceEq, f0, f3, h40', rowsV_len])
      (refine WRun.done _ _ (hK _ _ ?_); clear hK)
      refine W_ret ?_
      simp only [go_sem, Nat.reduceEqDiff, Nat.reduceLT, Nat.reduceAdd, Nat.reduceLeDiff, Nat.reduceMul, Nat.reduceSub, Int.reduceLE, Int.reduceLT, Int.reduceToNat, Int.reducePow, Int.reduceEq]
      exact ⟨false, rfl, fun h => by cases h⟩

theorem sum_mem {l : List (List Int)} {r : List Int} (h : r ∈ l) : r.length ≤ (l.map List.length).sum := by
  induction l with
  | nil => cases h
  | cons a l ih =>
    rw [List.map_cons, List.sum_cons]
    rcases List.mem_cons.1 h with rfl | h
    · omega
    · have := ih h; omega

/-- slices.EqualFunc of slices.Equal over groups. -/
theorem equalFunc_ok (t1 t2 : Tag) (rs1 rs2 : List V) (l : List (List Nat)) (h1 : RowsR rs1 l) (h2 : RowsR rs2 l) (hl : l.length ≤ 1000000) (hgl : ∀ g ∈ l, g.length ≤ 1000000) (M : AMem) :
    ACalls Try.prog 36 [.list t1 rs1, .list t2 rs2, .fn 34 []] M (fun r M' => r = V.bool true ∧ M' = M) := by
  refine acalls_enter [.tmp 6] 32 Try.func36 rfl rfl rfl (by simp) ?_
  have L1 := h1.1
  have L2 := h2.1
  have hz : ((rs1.length : Int) = (rs2.length : Int)) = True := eq_true (by omega)
  (repeat (first | refine W_seq ?_ | refine W_block ?_ | refine W_blk ?_ | refine W_skip ?_))
  (refine W_region [] (by rfl) fun K hK => ?_; simp only [go_sem, Nat.reduceEqDiff, Nat.reduceLT, Nat.reduceAdd, Nat.reduceLeDiff, Nat.reduceMul, Nat.reduceSub, Int.reduceLE, Int.reduceLT, Int.reduceToNat, Int.reducePow, Int.reduceEq])
  (refine WRun.done _ _ (hK _ _ ?_); clear hK)
  (repeat (first | refine W_seq ?_ | refine W_block ?_ | refine W_blk ?_ | refine W_skip ?_))
  (refine W_region [] (by rfl) fun K hK => ?_; simp only [go_sem, Nat.reduceEqDiff, Nat.reduceLT, Nat.reduceAdd, Nat.reduceLeDiff, Nat.reduceMul, Nat.reduceSub, Int.reduceLE, Int.reduceLT, Int.reduceToNat, Int.reducePow, Int.reduceEq, hz])
  (refine WRun.done _ _ (hK _ _ ?_); clear hK)
  (repeat (first | refine W_seq ?_ | refine W_block ?_ | refine W_blk ?_ | refine W_skip ?_))
  refine W_cond_false (by simp only [go_sem, Nat.reduceEqDiff, Nat.reduceLT, Nat.reduceAdd, Nat.reduceLeDiff, Nat.reduceMul, Nat.reduceSub, Int.reduceLE, Int.reduceLT, Int.reduceToNat, Int.reducePow, Int.reduceEq]) ?_
  (repeat (first | refine W_seq ?_ | refine W_block ?_ | refine W_blk ?_ | refine W_skip ?_))
  (refine W_region [] (by rfl) fun K hK => ?_; simp only [go_sem, Nat.reduceEqDiff, Nat.reduceLT, Nat.reduceAdd, Nat.reduceLeDiff, Nat.reduceMul, Nat.reduceSub, Int.reduceLE, Int.reduceLT, Int.reduceToNat, Int.reducePow, Int.reduceEq])
  (refine WRun.done _ _ (hK _ _ ?_); clear hK)
  (repeat (first | refine W_seq ?_ | refine W_block ?_ | refine W_blk ?_ | refine W_skip ?_))
  refine W_loop (α := Nat) (fun k F' M' => k ≤ l.length ∧ M' = M ∧ look F' 1 = .list t2 rs2 ∧ look F' 2 = .fn 34 [] ∧ look F' 15 = .list t1 rs1 ∧ look F' 16 = V.int l.length ∧ look F' 17 = V.int k) (fun k => l.length - k) 0 ⟨Nat.zero_le _, rfl, ?_, ?_, ?_, ?_, ?_⟩ ?_
  · simp only [go_sem, Nat.reduceEqDiff, Nat.reduceLT, Nat.reduceAdd, Nat.reduceLeDiff, Nat.reduceMul, Nat.reduceSub, Int.reduceLE, Int.reduceLT, Int.reduceToNat, Int.reducePow, Int.reduceEq]
  · simp only [go_sem, Nat.reduceEqDiff, Nat.reduceLT, Nat.reduceAdd, Nat.reduceLeDiff, Nat.reduceMul, Nat.reduceSub, Int.reduceLE, Int.reduceLT, Int.reduceToNat, Int.reducePow, Int.reduceEq]
  · simp only [go_sem, Nat.reduceEqDiff, Nat.reduceLT, Nat.reduceAdd, Nat.reduceLeDiff, Nat.reduceMul, Nat.reduceSub, Int.reduceLE, Int.reduceLT, Int.reduceToNat, Int.reducePow, Int.reduceEq]
  · simp only [go_sem, Nat.reduceEqDiff, Nat.reduceLT, Nat.reduceAdd, Nat.reduceLeDiff, Nat.reduceMul, Nat.reduceSub, Int.reduceLE, Int.reduceLT, Int.reduceToNat, Int.reducePow, Int.reduceEq, L1]
  · simp only [go_sem, Nat.reduceEqDiff, Nat.reduceLT, Nat.reduceAdd, Nat.reduceLeDiff, Nat.reduceMul, Nat.reduceSub, Int.reduceLE, Int.reduceLT, Int.reduceToNat, Int.reducePow, Int.reduceEq]
  rintro k F M' ⟨hk, rfl, f1, f2, f15, f16, f17⟩
  by_cases hlt : k < l.length
  · have hlt' : (k : Int) < (l.length : Int) := by omega
    have hlt1 : (k : Int) < (rs1.length : Int) := by omega
    have hlt2 : (k : Int) < (rs2.length : Int) := by omega
    have hw1 : IntKind.i64.wrap ((k : Int) + 1) = ((k + 1 : Nat) : Int) := by rw [wrapI _ (by omega) (by omega)]; omega
    obtain ⟨g, hg⟩ : ∃ g, l[k]? = some g := ⟨_, List.getElem?_eq_getElem hlt⟩
    obtain ⟨u1, p1⟩ := h1.2 k g hg
    obtain ⟨u2, p2⟩ := h2.2 k g hg
    have hg1 := hgl g (List.mem_of_getElem? hg)
    (repeat (first | refine W_seq ?_ | refine W_block ?_ | refine W_blk ?_ | refine W_skip ?_))
    (refine W_region [] (by rfl) fun K hK => ?_; simp only [go_sem, Nat.reduceEqDiff, Nat.reduceLT, Nat.reduceAdd, Nat.reduceLeDiff, Nat.reduceMul, Nat.reduceSub, Int.reduceLE, Int.reduceLT, Int.reduceToNat, Int.reducePow, Int.reduceEq, f16, f17, hlt'])
    (refine WRun.done _ _ (hK _ _ ?_); clear hK)
    (repeat (first | refine W_seq ?_ | refine W_block ?_ | refine W_blk ?_ | refine W_skip ?_))
    refine W_cond_true (by simp only [go_sem, Nat.reduceEqDiff, Nat.reduceLT, Nat.reduceAdd, Nat.reduceLeDiff, Nat.reduceMul, Nat.reduceSub, Int.reduceLE, Int.reduceLT, Int.reduceToNat, Int.reducePow, Int.reduceEq]) ?_
    (repeat (first | refine W_seq ?_ | refine W_block ?_ | refine W_blk ?_ | refine W_skip ?_))
    (refine W_region [] (by rfl) fun K hK => ?_; simp only [go_sem, Nat.reduceEqDiff, Nat.reduceLT, Nat.reduceAdd, Nat.reduceLeDiff, Nat.reduceMul, Nat.reduceSub, Int.reduceLE, Int.reduceLT, Int.reduceToNat, Int.reducePow, Int.reduceEq, f15, f17, hlt1, p1, Int.natCast_nonneg, Int.toNat_natCast, List.head?_drop])
    (refine WRun.done _ _ (hK _ _ ?_); clear hK)
    (repeat (first | refine W_seq ?_ | refine W_block ?_ | refine W_blk ?_ | refine W_skip ?_))
    (refine W_region [] (by rfl) fun K hK => ?_; simp only [go_sem, Nat.reduceEqDiff, Nat.reduceLT, Nat.reduceAdd, Nat.reduceLeDiff, Nat.reduceMul, Nat.reduceSub, Int.reduceLE, Int.reduceLT, Int.reduceToNat, Int.reducePow, Int.reduceEq, f1, hlt2, p2, Int.natCast_nonneg, Int.toNat_natCast, List.head?_drop])
    (refine WRun.done _ _ (hK _ _ ?_); clear hK)
    (repeat (first | refine W_seq ?_ | refine W_block ?_ | refine W_blk ?_ | refine W_skip ?_))
    (refine W_region [] (by rfl) fun K hK => ?_; simp only [go_sem, Nat.reduceEqDiff, Nat.reduceLT, Nat.reduceAdd, Nat.reduceLeDiff, Nat.reduceMul, Nat.reduceSub, Int.reduceLE, Int.reduceLT, Int.reduceToNat, Int.reducePow, Int.reduceEq, f2])
    refine WRun.call _ _ _ _ _ _ _ (equal_nats u1 u2 g g (by omega) M') ?_
    rintro r M2 ⟨rfl, rfl⟩
    have hde : decide (g = g) = true := by simp
    simp only [go_sem, Nat.reduceEqDiff, Nat.reduceLT, Nat.reduceAdd, Nat.reduceLeDiff, Nat.reduceMul, Nat.reduceSub, Int.reduceLE, Int.reduceLT, Int.reduceToNat, Int.reducePow, Int.reduceEq, hde]
    (refine WRun.done _ _ (hK _ _ ?_); clear hK)
    (repeat (first | refine W_seq ?_ | refine W_block ?_ | refine W_blk ?_ | refine W_skip ?_))
    refine W_cond_false (by simp only [go_sem, Nat.reduceEqDiff, Nat.reduceLT, Nat.reduceAdd, Nat.reduceLeDiff, Nat.reduceMul, Nat.reduceSub, Int.reduceLE, Int.reduceLT, Int.reduceToNat, Int.reducePow, Int.reduceEq]) ?_
    (repeat (first | refine W_seq ?_ | refine W_block ?_ | refine W_blk ?_ | refine W_skip ?_))
    (refine W_region [] (by rfl) fun K hK => ?_; simp only [go_sem, Nat.reduceEqDiff, Nat.reduceLT, Nat.reduceAdd, Nat.reduceLeDiff, Nat.reduceMul, Nat.reduceSub, Int.reduceLE, Int.reduceLT, Int.reduceToNat, Int.reducePow, Int.reduceEq, f17, hw1])
    (refine WRun.done _ _ (hK _ _ ?_); clear hK)
    refine W_stop ⟨k + 1, ⟨hlt, rfl, ?_, ?_, ?_, ?_, ?_⟩, by omega⟩
    · simp only [go_sem, Nat.reduceEqDiff, Nat.reduceLT, Nat.reduceAdd, Nat.reduceLeDiff, Nat.reduceMul, Nat.reduceSub, Int.reduceLE, Int.reduceLT, Int.reduceToNat, Int.reducePow, Int.reduceEq, f1]
    · simp only [go_sem, Nat.reduceEqDiff, Nat.reduceLT, Nat.reduceAdd, Nat.reduceLeDiff, Nat.reduceMul, Nat.reduceSub, Int.reduceLE, Int.reduceLT, Int.reduceToNat, Int.reducePow, Int.reduceEq, f2]
    · simp only [go_sem, Nat.reduceEqDiff, Nat.reduceLT, Nat.reduceAdd, Nat.reduceLeDiff, Nat.reduceMul, Nat.reduceSub, Int.reduceLE, Int.reduceLT, Int.reduceToNat, Int.reducePow, Int.reduceEq, f15]
    · simp only [go_sem, Nat.reduceEqDiff, Nat.reduceLT, Nat.reduceAdd, Nat.reduceLeDiff, Nat.reduceMul, Nat.reduceSub, Int.reduceLE, Int.reduceLT, Int.reduceToNat, Int.reducePow, Int.reduceEq, f16]
    · simp only [go_sem, Nat.reduceEqDiff, Nat.reduceLT, Nat.reduceAdd, Nat.reduceLeDiff, Nat.reduceMul, Nat.reduceSub, Int.reduceLE, Int.reduceLT, Int.reduceToNat, Int.reducePow, Int.reduceEq]
  · have hlt' : ¬ (k : Int) < (l.length : Int) := by omega
    (repeat (first | refine W_seq ?_ | refine W_block ?_ | refine W_blk ?_ | refine W_skip ?_))
    (refine W_region [] (by rfl) fun K hK => ?_; simp only [go_sem, Nat.reduceEqDiff, Nat.reduceLT, Nat.reduceAdd, Nat.reduceLeDiff, Nat.reduceMul, Nat.reduceSub, Int.reduceLE, Int.reduceLT, Int.reduceToNat, Int.reducePow, Int.reduceEq, f16, f17, hlt'])
    (refine WRun.done _ _ (hK _ _ ?_); clear hK)
    (repeat (first | refine W_seq ?_ | refine W_block ?_ | refine W_blk ?_ | refine W_skip ?_))
    refine W_cond_false (by simp only [go_sem, Nat.reduceEqDiff, Nat.reduceLT, Nat.reduceAdd, Nat.reduceLeDiff, Nat.reduceMul, Nat.reduceSub, Int.reduceLE, Int.reduceLT, Int.reduceToNat, Int.reducePow, Int.reduceEq]) ?_
    refine W_exit (Qof_code (Qof_stop (Qof_blk_same ?_)))
    (repeat (first | refine W_seq ?_ | refine W_block ?_ | refine W_blk ?_ | refine W_skip ?_))
    (refine W_region [] (by rfl) fun K hK => ?_; simp only [go_sem, Nat.reduceEqDiff, Nat.reduceLT, Nat.reduceAdd, Nat.reduceLeDiff, Nat.reduceMul, Nat.reduceSub, Int.reduceLE, Int.reduceLT, Int.reduceToNat, Int.reducePow, Int.reduceEq])
    (refine WRun.done _ _ (hK _ _ ?_); clear hK)
    refine W_ret ?_
    simp only [go_sem, Nat.reduceEqDiff, Nat.reduceLT, Nat.reduceAdd, Nat.reduceLeDiff, Nat.reduceMul, Nat.reduceSub, Int.reduceLE, Int.reduceLT, Int.reduceToNat, Int.reducePow, Int.reduceEq]
end Go.Ax

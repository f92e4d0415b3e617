import Derived.Test.YthbojmoiimknhaaOrLo
set_option linter.unusedSimpArgs false
set_option linter.unusedVariables false
namespace Go.Ax
open Go.Proofs Go.Ord

def loneI (to : List (List Int)) (row : List Nat) : List (List Int) := to ++ [row.map fun w : Nat => (w : Int)]
theorem loneI_len (to : List (List Int)) (row : List Nat) : (loneI to row).length = to.length + 1 := by simp [loneI]
theorem loneI_N (to : List (List Int)) (row : List Nat) : toN (loneI to row) = toN to ++ [row] := by
  simp only [toN, loneI, List.map_append, List.map_cons, List.map_nil, List.map_map]
  congr 2
  have : ((Int.toNat ∘ fun w : Nat => (w : Int)) : Nat → Nat) = id := by funext w; simp
  rw [this, List.map_id]
theorem loneI_ok {to : List (List Int)} {row : List Nat} (hok : okTo to = true) (hr : ∀ k ∈ row, k < to.length) : okTo (loneI to row) = true := by
  simp only [okTo, List.all_eq_true, loneI_len]
  intro l hl z hz
  rcases List.mem_append.1 hl with hl | hl
  · have := List.all_eq_true.1 (List.all_eq_true.1 hok l hl) z hz
    simp [okNum] at this ⊢
    omega
  · have hl : l = row.map fun w : Nat => (w : Int) := by simpa using hl
    rw [hl] at hz
    obtain ⟨w, hw, rfl⟩ := List.mem_map.1 hz
    have := hr w hw
    simp [okNum]; omega

/-- What Groups answers of one thing more. -/
theorem lone_said {to : List (List Int)} {row : List Nat} {l : List (List Nat)} (hok : okTo to = true) (hr : ∀ k ∈ row, k < to.length) (hl : Seq (toN to) (fun _ => false) l) {r : V} (h : GroupsSaid (loneI to row) r) : ∃ tg rs, r = .tup [.list tg rs, V.int 0] ∧ RowsR rs (l ++ [[to.length]]) := by
  unfold GroupsSaid at h
  rw [loneI_ok hok hr, loneI_N] at h
  simp only [if_true] at h
  obtain ⟨tg, rs, l2, rfl, h1, h2⟩ := h
  have hr' : ∀ k ∈ row, k < (toN to).length := fun k hk => by rw [toN_len]; exact hr k hk
  have h3 := hl.lone (toN_good hok) hr' (fun _ => false) (fun _ _ => rfl) rfl
  obtain rfl := Seq.det (lone_good (toN_good hok) hr') h3 h2 fun _ _ => rfl
  rw [toN_len] at h1
  exact ⟨tg, rs, rfl, h1⟩

theorem lone_toI {to : List (List Int)} {row : List Nat} (M : AMem) (B : Nat) (tg u : Tag) : ToI M B (.list tg (rowsV to ++ [V.list u (nats row)])) (loneI to row) (rowsV to ++ [V.list u (nats row)]) := by
  refine ⟨by simp [rowsV_len, loneI], fun i l hi => ?_, .inl ⟨_, rfl⟩⟩
  by_cases hil : i < to.length
  · rw [loneI, List.getElem?_append_left hil] at hi
    exact ⟨.dull, by rw [List.getElem?_append_left (by rw [rowsV_len]; exact hil)]; exact rowsV_at hi⟩
  · have hie : i = to.length := by
      have := (List.getElem?_eq_some_iff.1 hi).1
      rw [loneI_len] at this; omega
    subst hie
    simp [loneI] at hi
    subst hi
    exact ⟨u, by rw [← rowsV_len to]; simp [nats, Function.comp_def]⟩

theorem order_lone_law (M : AMem) (to : List (List Int)) (hlen : to.length ≤ 140737488351232) (hrl : ∀ l ∈ to, l.length ≤ 140737488351232) : ACalls Try.prog 10 [.list .dull (rowsV to)] M (fun r _ => r = V.bool true) := by
  refine acalls_enter [.tmp 2] 124 Try.func10 rfl rfl rfl (by simp) ?_
  (repeat (first | refine W_seq ?_ | refine W_block ?_ | refine W_blk ?_ | refine W_skip ?_))
  (refine W_region [] (by rfl) fun K hK => ?_; simp only [go_sem, Nat.reduceEqDiff, Nat.reduceLT, Nat.reduceAdd, Nat.reduceLeDiff, Nat.reduceMul, Nat.reduceSub, Int.reduceLE, Int.reduceLT, Int.reduceToNat, Int.reducePow, Int.reduceEq])
  (refine WRun.done _ _ (hK _ _ ?_); clear hK)
  (repeat (first | refine W_seq ?_ | refine W_block ?_ | refine W_blk ?_ | refine W_skip ?_))
  (refine W_region [] (by rfl) fun K hK => ?_; simp only [go_sem, Nat.reduceEqDiff, Nat.reduceLT, Nat.reduceAdd, Nat.reduceLeDiff, Nat.reduceMul, Nat.reduceSub, Int.reduceLE, Int.reduceLT, Int.reduceToNat, Int.reducePow, Int.reduceEq])
  refine WRun.call _ _ _ _ _ _ _ (order_lives M) ?_
  rintro r M1 ⟨rfl, hl1, _⟩
  simp only [go_sem, Nat.reduceEqDiff, Nat.reduceLT, Nat.reduceAdd, Nat.reduceLeDiff, Nat.reduceMul, Nat.reduceSub, Int.reduceLE, Int.reduceLT, Int.reduceToNat, Int.reducePow, Int.reduceEq]
  refine WRun.call _ _ _ _ _ _ _ (order_small2 M1 to hlen hrl) ?_
  rintro r M2 ⟨rfl, b, rfl, hb⟩
  simp only [go_sem, Nat.reduceEqDiff, Nat.reduceLT, Nat.reduceAdd, Nat.reduceLeDiff, Nat.reduceMul, Nat.reduceSub, Int.reduceLE, Int.reduceLT, Int.reduceToNat, Int.reducePow, Int.reduceEq]
  (refine WRun.done _ _ (hK _ _ ?_); clear hK)
  (repeat (first | refine W_seq ?_ | refine W_block ?_ | refine W_blk ?_ | refine W_skip ?_))
  cases b with
  | false =>
    refine W_cond_true (by simp only [go_sem, Nat.reduceEqDiff, Nat.reduceLT, Nat.reduceAdd, Nat.reduceLeDiff, Nat.reduceMul, Nat.reduceSub, Int.reduceLE, Int.reduceLT, Int.reduceToNat, Int.reducePow, Int.reduceEq]) ?_
    (repeat (first | refine W_seq ?_ | refine W_block ?_ | refine W_blk ?_ | refine W_skip ?_))
    (refine W_region [] (by rfl) fun K hK => ?_; simp only [go_sem, Nat.reduceEqDiff, Nat.reduceLT, Nat.reduceAdd, Nat.reduceLeDiff, Nat.reduceMul, Nat.reduceSub, Int.reduceLE, Int.reduceLT, Int.reduceToNat, Int.reducePow, Int.reduceEq])
    refine WRun.call _ _ _ _ _ _ _ (order_lives _) ?_
    rintro r M3 ⟨rfl, _, _⟩
    simp only [go_sem, Nat.reduceEqDiff, Nat.reduceLT, Nat.reduceAdd, Nat.reduceLeDiff, Nat.reduceMul, Nat.reduceSub, Int.reduceLE, Int.reduceLT, Int.reduceToNat, Int.reducePow, Int.reduceEq]
    (refine WRun.done _ _ (hK _ _ ?_); clear hK)
    refine W_ret ?_
    simp only [go_sem, Nat.reduceEqDiff, Nat.reduceLT, Nat.reduceAdd, Nat.reduceLeDiff, Nat.reduceMul, Nat.reduceSub, Int.reduceLE, Int.reduceLT, Int.reduceToNat, Int.reducePow, Int.reduceEq]
  | true =>
  obtain ⟨h40, h400⟩ := hb rfl
  have hrl400 : ∀ l ∈ to, l.length ≤ 400 := fun l hl => Nat.le_trans (sum_mem hl) h400
  refine W_cond_false (by simp only [go_sem, Nat.reduceEqDiff, Nat.reduceLT, Nat.reduceAdd, Nat.reduceLeDiff, Nat.reduceMul, Nat.reduceSub, Int.reduceLE, Int.reduceLT, Int.reduceToNat, Int.reducePow, Int.reduceEq]) ?_
  (repeat (first | refine W_seq ?_ | refine W_block ?_ | refine W_blk ?_ | refine W_skip ?_))
  (refine W_region [] (by rfl) fun K hK => ?_; simp only [go_sem, Nat.reduceEqDiff, Nat.reduceLT, Nat.reduceAdd, Nat.reduceLeDiff, Nat.reduceMul, Nat.reduceSub, Int.reduceLE, Int.reduceLT, Int.reduceToNat, Int.reducePow, Int.reduceEq])
  refine WRun.call _ _ _ _ _ _ _ (groups_ok (toI_rowsV _ _ to) (by omega) (fun l hl => by have := hrl400 l hl; omega)) ?_
  rintro r1 M3 ⟨hs1, _, _⟩
  unfold GroupsSaid at hs1
  cases hok : okTo to with
  | false =>
    rw [hok] at hs1
    simp only [Bool.false_eq_true, if_false] at hs1
    subst hs1
    simp only [go_sem, Nat.reduceEqDiff, Nat.reduceLT, Nat.reduceAdd, Nat.reduceLeDiff, Nat.reduceMul, Nat.reduceSub, Int.reduceLE, Int.reduceLT, Int.reduceToNat, Int.reducePow, Int.reduceEq]
    (refine WRun.done _ _ (hK _ _ ?_); clear hK)
    (repeat (first | refine W_seq ?_ | refine W_block ?_ | refine W_blk ?_ | refine W_skip ?_))
    (refine W_region [] (by rfl) fun K hK => ?_; simp only [go_sem, Nat.reduceEqDiff, Nat.reduceLT, Nat.reduceAdd, Nat.reduceLeDiff, Nat.reduceMul, Nat.reduceSub, Int.reduceLE, Int.reduceLT, Int.reduceToNat, Int.reducePow, Int.reduceEq])
    (refine WRun.done _ _ (hK _ _ ?_); clear hK)
    (repeat (first | refine W_seq ?_ | refine W_block ?_ | refine W_blk ?_ | refine W_skip ?_))
    refine W_cond_true (by simp only [go_sem, Nat.reduceEqDiff, Nat.reduceLT, Nat.reduceAdd, Nat.reduceLeDiff, Nat.reduceMul, Nat.reduceSub, Int.reduceLE, Int.reduceLT, Int.reduceToNat, Int.reducePow, Int.reduceEq]) ?_
    (repeat (first | refine W_seq ?_ | refine W_block ?_ | refine W_blk ?_ | refine W_skip ?_))
    (refine W_region [] (by rfl) fun K hK => ?_; simp only [go_sem, Nat.reduceEqDiff, Nat.reduceLT, Nat.reduceAdd, Nat.reduceLeDiff, Nat.reduceMul, Nat.reduceSub, Int.reduceLE, Int.reduceLT, Int.reduceToNat, Int.reducePow, Int.reduceEq])
    (refine WRun.done _ _ (hK _ _ ?_); clear hK)
    refine W_ret ?_
    simp only [go_sem, Nat.reduceEqDiff, Nat.reduceLT, Nat.reduceAdd, Nat.reduceLeDiff, Nat.reduceMul, Nat.reduceSub, Int.reduceLE, Int.reduceLT, Int.reduceToNat, Int.reducePow, Int.reduceEq]
  | true =>
  rw [hok] at hs1
  simp only [if_true] at hs1
  obtain ⟨tg1, rs1, l1, rfl, hr1, hq1⟩ := hs1
  have hgood := toN_good hok
  obtain ⟨n, hnn⟩ : ∃ n, n = to.length := ⟨_, rfl⟩
  have hnt : (toN to).length = n := by rw [toN_len]; exact hnn.symm
  have hl40 : l1.length ≤ 40 := by have := hq1.len; have := left_le (to := toN to) (fun _ => false); omega
  have hgl : ∀ g ∈ l1, g.length ≤ 40 := fun g hg => by
    obtain ⟨i, _, _, rfl⟩ := hq1.mem g hg
    have := cls_len (to := toN to) i
    omega
  simp only [go_sem, Nat.reduceEqDiff, Nat.reduceLT, Nat.reduceAdd, Nat.reduceLeDiff, Nat.reduceMul, Nat.reduceSub, Int.reduceLE, Int.reduceLT, Int.reduceToNat, Int.reducePow, Int.reduceEq]
  (refine WRun.done _ _ (hK _ _ ?_); clear hK)
  (repeat (first | refine W_seq ?_ | refine W_block ?_ | refine W_blk ?_ | refine W_skip ?_))
  (refine W_region [] (by rfl) fun K hK => ?_; simp only [go_sem, Nat.reduceEqDiff, Nat.reduceLT, Nat.reduceAdd, Nat.reduceLeDiff, Nat.reduceMul, Nat.reduceSub, Int.reduceLE, Int.reduceLT, Int.reduceToNat, Int.reducePow, Int.reduceEq])
  (refine WRun.done _ _ (hK _ _ ?_); clear hK)
  (repeat (first | refine W_seq ?_ | refine W_block ?_ | refine W_blk ?_ | refine W_skip ?_))
  refine W_cond_false (by simp only [go_sem, Nat.reduceEqDiff, Nat.reduceLT, Nat.reduceAdd, Nat.reduceLeDiff, Nat.reduceMul, Nat.reduceSub, Int.reduceLE, Int.reduceLT, Int.reduceToNat, Int.reducePow, Int.reduceEq]) ?_
  (repeat (first | refine W_seq ?_ | refine W_block ?_ | refine W_blk ?_ | refine W_skip ?_))
  (refine W_region [] (by rfl) fun K hK => ?_; simp only [go_sem, Nat.reduceEqDiff, Nat.reduceLT, Nat.reduceAdd, Nat.reduceLeDiff, Nat.reduceMul, Nat.reduceSub, Int.reduceLE, Int.reduceLT, Int.reduceToNat, Int.reducePow, Int.reduceEq])
  (refine WRun.done _ _ (hK _ _ ?_); clear hK)
  (repeat (first | refine W_seq ?_ | refine W_block ?_ | refine W_blk ?_ | refine W_skip ?_))
  (refine W_region [] (by rfl) fun K hK => ?_; simp only [go_sem, Nat.reduceEqDiff, Nat.reduceLT, Nat.reduceAdd, Nat.reduceLeDiff, Nat.reduceMul, Nat.reduceSub, Int.reduceLE, Int.reduceLT, Int.reduceToNat, Int.reducePow, Int.reduceEq, rowsV_len, ← hnn])
  (refine WRun.done _ _ (hK _ _ ?_); clear hK)
  (repeat (first | refine W_seq ?_ | refine W_block ?_ | refine W_blk ?_ | refine W_skip ?_))
  refine W_loop (α := Nat × Tag) (fun q F' M' => q.1 ≤ n ∧ look F' 0 = .list .dull (rowsV to) ∧ look F' 3 = .list tg1 rs1 ∧ look F' 5 = .list q.2 (nats (List.range q.1)) ∧ look F' 28 = V.int n ∧ look F' 29 = V.int q.1 ∧ TailOk M' 0 q.2)
    (fun q => n - q.1) (0, .full) ⟨Nat.zero_le _, ?_, ?_, ?_, ?_, ?_, .inl rfl⟩ ?_
  · simp only [go_sem, Nat.reduceEqDiff, Nat.reduceLT, Nat.reduceAdd, Nat.reduceLeDiff, Nat.reduceMul, Nat.reduceSub, Int.reduceLE, Int.reduceLT, Int.reduceToNat, Int.reducePow, Int.reduceEq]
  · simp only [go_sem, Nat.reduceEqDiff, Nat.reduceLT, Nat.reduceAdd, Nat.reduceLeDiff, Nat.reduceMul, Nat.reduceSub, Int.reduceLE, Int.reduceLT, Int.reduceToNat, Int.reducePow, Int.reduceEq]
  · simp only [go_sem, Nat.reduceEqDiff, Nat.reduceLT, Nat.reduceAdd, Nat.reduceLeDiff, Nat.reduceMul, Nat.reduceSub, Int.reduceLE, Int.reduceLT, Int.reduceToNat, Int.reducePow, Int.reduceEq]
    rfl
  · simp only [go_sem, Nat.reduceEqDiff, Nat.reduceLT, Nat.reduceAdd, Nat.reduceLeDiff, Nat.reduceMul, Nat.reduceSub, Int.reduceLE, Int.reduceLT, Int.reduceToNat, Int.reducePow, Int.reduceEq]
  · simp only [go_sem, Nat.reduceEqDiff, Nat.reduceLT, Nat.reduceAdd, Nat.reduceLeDiff, Nat.reduceMul, Nat.reduceSub, Int.reduceLE, Int.reduceLT, Int.reduceToNat, Int.reducePow, Int.reduceEq]
  rintro ⟨i, ta⟩ F M4 ⟨hi, f0, f3, f5, f28, f29, hta⟩
  simp only at hi f5 f29 hta
  by_cases hlt : i < n
  · have hlt' : (i : Int) < (n : Int) := by omega
    have hw1 : IntKind.i64.wrap ((i : Int) + 1) = ((i + 1 : Nat) : Int) := by rw [wrapI _ (by omega) (by omega)]; omega
    have hra : nats (List.range i) ++ [V.int (i : Int)] = nats (List.range (i + 1)) := by rw [nats_snoc, List.range_succ]
    have hcx := nats_cells (List.range i)
    have hll : i + 1 ≤ 1073741824 := by omega
    have hto := hta.ok
    (repeat (first | refine W_seq ?_ | refine W_block ?_ | refine W_blk ?_ | refine W_skip ?_))
    (refine W_region [] (by rfl) fun K hK => ?_; simp only [go_sem, Nat.reduceEqDiff, Nat.reduceLT, Nat.reduceAdd, Nat.reduceLeDiff, Nat.reduceMul, Nat.reduceSub, Int.reduceLE, Int.reduceLT, Int.reduceToNat, Int.reducePow, Int.reduceEq, f28, f29, hlt'])
    (refine WRun.done _ _ (hK _ _ ?_); clear hK)
    (repeat (first | refine W_seq ?_ | refine W_block ?_ | refine W_blk ?_ | refine W_skip ?_))
    refine W_cond_true (by simp only [go_sem, Nat.reduceEqDiff, Nat.reduceLT, Nat.reduceAdd, Nat.reduceLeDiff, Nat.reduceMul, Nat.reduceSub, Int.reduceLE, Int.reduceLT, Int.reduceToNat, Int.reducePow, Int.reduceEq]) ?_
    (repeat (first | refine W_seq ?_ | refine W_block ?_ | refine W_blk ?_ | refine W_skip ?_))
    (refine W_region [] (by rfl) fun K hK => ?_; simp only [go_sem, Nat.reduceEqDiff, Nat.reduceLT, Nat.reduceAdd, Nat.reduceLeDiff, Nat.reduceMul, Nat.reduceSub, Int.reduceLE, Int.reduceLT, Int.reduceToNat, Int.reducePow, Int.reduceEq, f29])
    (refine WRun.done _ _ (hK _ _ ?_); clear hK)
    (repeat (first | refine W_seq ?_ | refine W_block ?_ | refine W_blk ?_ | refine W_skip ?_))
    (refine W_region [] (by rfl) fun K hK => ?_; simp only [go_sem, Nat.reduceEqDiff, Nat.reduceLT, Nat.reduceAdd, Nat.reduceLeDiff, Nat.reduceMul, Nat.reduceSub, Int.reduceLE, Int.reduceLT, Int.reduceToNat, Int.reducePow, Int.reduceEq, f5, hto, hcx, hll, hra, nats_len, List.length_range])
    (refine WRun.done _ _ (hK _ _ ?_); clear hK)
    (repeat (first | refine W_seq ?_ | refine W_block ?_ | refine W_blk ?_ | refine W_skip ?_))
    (refine W_region [] (by rfl) fun K hK => ?_; simp only [go_sem, Nat.reduceEqDiff, Nat.reduceLT, Nat.reduceAdd, Nat.reduceLeDiff, Nat.reduceMul, Nat.reduceSub, Int.reduceLE, Int.reduceLT, Int.reduceToNat, Int.reducePow, Int.reduceEq, f29, hw1])
    (refine WRun.done _ _ (hK _ _ ?_); clear hK)
    refine W_stop ⟨(i + 1, .own M4.length), ⟨hlt, ?_, ?_, ?_, ?_, ?_, ?_⟩, by show n - (i + 1) < n - i; omega⟩
    · simp only [go_sem, Nat.reduceEqDiff, Nat.reduceLT, Nat.reduceAdd, Nat.reduceLeDiff, Nat.reduceMul, Nat.reduceSub, Int.reduceLE, Int.reduceLT, Int.reduceToNat, Int.reducePow, Int.reduceEq, f0]
    · simp only [go_sem, Nat.reduceEqDiff, Nat.reduceLT, Nat.reduceAdd, Nat.reduceLeDiff, Nat.reduceMul, Nat.reduceSub, Int.reduceLE, Int.reduceLT, Int.reduceToNat, Int.reducePow, Int.reduceEq, f3]
    · simp only [go_sem, Nat.reduceEqDiff, Nat.reduceLT, Nat.reduceAdd, Nat.reduceLeDiff, Nat.reduceMul, Nat.reduceSub, Int.reduceLE, Int.reduceLT, Int.reduceToNat, Int.reducePow, Int.reduceEq]
    · simp only [go_sem, Nat.reduceEqDiff, Nat.reduceLT, Nat.reduceAdd, Nat.reduceLeDiff, Nat.reduceMul, Nat.reduceSub, Int.reduceLE, Int.reduceLT, Int.reduceToNat, Int.reducePow, Int.reduceEq, f28]
    · simp only [go_sem, Nat.reduceEqDiff, Nat.reduceLT, Nat.reduceAdd, Nat.reduceLeDiff, Nat.reduceMul, Nat.reduceSub, Int.reduceLE, Int.reduceLT, Int.reduceToNat, Int.reducePow, Int.reduceEq]
    · refine .inr ⟨M4.length, rfl, Nat.zero_le _, ?_⟩
      rw [List.getElem?_append_right (by rw [dropTag_sz]; exact Nat.le_refl _)]
      simp [dropTag_sz]
  · have hin : i = n := by omega
    subst hin
    have hlt' : ¬ (i : Int) < (i : Int) := by omega
    have hrc : (∀ y ∈ rowsV to, y.cells.length = 1) = True := eq_true (by
      intro y hy
      obtain ⟨l, _, rfl⟩ := List.mem_map.1 hy
      rfl)
    have hrl1 : i + 1 ≤ 1073741824 := by omega
    have hb1 : ∀ (row : List Nat), row.length ≤ 40 → ∀ l ∈ loneI to row, l.length ≤ 9223372036854775807 := by
      intro row hrow l hl
      rcases List.mem_append.1 hl with hl | hl
      · have := hrl400 l hl; omega
      · have hl : l = row.map fun w : Nat => (w : Int) := by simpa using hl
        rw [hl]; simp; omega
    (repeat (first | refine W_seq ?_ | refine W_block ?_ | refine W_blk ?_ | refine W_skip ?_))
    (refine W_region [] (by rfl) fun K hK => ?_; simp only [go_sem, Nat.reduceEqDiff, Nat.reduceLT, Nat.reduceAdd, Nat.reduceLeDiff, Nat.reduceMul, Nat.reduceSub, Int.reduceLE, Int.reduceLT, Int.reduceToNat, Int.reducePow, Int.reduceEq, f28, f29, hlt'])
    (refine WRun.done _ _ (hK _ _ ?_); clear hK)
    (repeat (first | refine W_seq ?_ | refine W_block ?_ | refine W_blk ?_ | refine W_skip ?_))
    refine W_cond_false (by simp only [go_sem, Nat.reduceEqDiff, Nat.reduceLT, Nat.reduceAdd, Nat.reduceLeDiff, Nat.reduceMul, Nat.reduceSub, Int.reduceLE, Int.reduceLT, Int.reduceToNat, Int.reducePow, Int.reduceEq]) ?_
    refine W_exit (Qof_code (Qof_stop (Qof_blk_same ?_)))
    (repeat (first | refine W_seq ?_ | refine W_block ?_ | refine W_blk ?_ | refine W_skip ?_))
    (refine W_region [] (by rfl) fun K hK => ?_; simp only [go_sem, Nat.reduceEqDiff, Nat.reduceLT, Nat.reduceAdd, Nat.reduceLeDiff, Nat.reduceMul, Nat.reduceSub, Int.reduceLE, Int.reduceLT, Int.reduceToNat, Int.reducePow, Int.reduceEq, f0])
    refine WRun.call _ _ _ _ _ _ _ (clone_ok to h40 M4) ?_
    rintro r M5 ⟨tc, rfl, htc, _, _⟩
    have hto := htc.ok
    simp only [go_sem, Nat.reduceEqDiff, Nat.reduceLT, Nat.reduceAdd, Nat.reduceLeDiff, Nat.reduceMul, Nat.reduceSub, Int.reduceLE, Int.reduceLT, Int.reduceToNat, Int.reducePow, Int.reduceEq, f5, hto, hrc, hrl1, rowsV_len, ← hnn]
    refine WRun.call _ _ _ _ _ _ _ (groups_ok (lone_toI (to := to) (row := List.range i) _ _ _ ta) (by rw [loneI_len]; omega) (hb1 _ (by simp; omega))) ?_
    rintro r2 M6 ⟨hs2, _, _⟩
    obtain ⟨tg2, rs2, rfl, hr2⟩ := lone_said hok (fun k hk => by have := List.mem_range.1 hk; omega) hq1 hs2
    simp only [go_sem, Nat.reduceEqDiff, Nat.reduceLT, Nat.reduceAdd, Nat.reduceLeDiff, Nat.reduceMul, Nat.reduceSub, Int.reduceLE, Int.reduceLT, Int.reduceToNat, Int.reducePow, Int.reduceEq]
    (refine WRun.done _ _ (hK _ _ ?_); clear hK)
    (repeat (first | refine W_seq ?_ | refine W_block ?_ | refine W_blk ?_ | refine W_skip ?_))
    (refine W_region [] (by rfl) fun K hK => ?_; simp only [go_sem, Nat.reduceEqDiff, Nat.reduceLT, Nat.reduceAdd, Nat.reduceLeDiff, Nat.reduceMul, Nat.reduceSub, Int.reduceLE, Int.reduceLT, Int.reduceToNat, Int.reducePow, Int.reduceEq, f0])
    refine WRun.call _ _ _ _ _ _ _ (clone_ok to h40 M6) ?_
    rintro r M7 ⟨tc2, rfl, htc2, _, _⟩
    have hto2 := htc2.ok
    simp only [go_sem, Nat.reduceEqDiff, Nat.reduceLT, Nat.reduceAdd, Nat.reduceLeDiff, Nat.reduceMul, Nat.reduceSub, Int.reduceLE, Int.reduceLT, Int.reduceToNat, Int.reducePow, Int.reduceEq, hto2, hrc, hrl1, rowsV_len, ← hnn]
    refine WRun.call _ _ _ _ _ _ _ (groups_ok (lone_toI (to := to) (row := []) _ _ _ .full) (by rw [loneI_len]; omega) (hb1 _ (by simp))) ?_
    rintro r3 M8 ⟨hs3, _, _⟩
    obtain ⟨tg3, rs3, rfl, hr3⟩ := lone_said hok (fun k hk => by cases hk) hq1 hs3
    simp only [go_sem, Nat.reduceEqDiff, Nat.reduceLT, Nat.reduceAdd, Nat.reduceLeDiff, Nat.reduceMul, Nat.reduceSub, Int.reduceLE, Int.reduceLT, Int.reduceToNat, Int.reducePow, Int.reduceEq]
    (refine WRun.done _ _ (hK _ _ ?_); clear hK)
    have L1 := hr1.1
    have L2 : rs2.length = l1.length + 1 := by rw [hr2.1]; simp
    have L3 : rs3.length = l1.length + 1 := by rw [hr3.1]; simp
    have hwa : IntKind.i64.wrap ((rs1.length : Int) + 1) = ((l1.length + 1 : Nat) : Int) := by rw [wrapI _ (by omega) (by omega)]; omega
    have hz2 : ((rs2.length : Int) = ((l1.length + 1 : Nat) : Int)) = True := eq_true (by omega)
    have hz3 : ((rs3.length : Int) = ((l1.length + 1 : Nat) : Int)) = True := eq_true (by omega)
    (repeat (first | refine W_seq ?_ | refine W_block ?_ | refine W_blk ?_ | refine W_skip ?_))
    (refine W_region [] (by rfl) fun K hK => ?_; simp only [go_sem, Nat.reduceEqDiff, Nat.reduceLT, Nat.reduceAdd, Nat.reduceLeDiff, Nat.reduceMul, Nat.reduceSub, Int.reduceLE, Int.reduceLT, Int.reduceToNat, Int.reducePow, Int.reduceEq, f3, hwa, hz2, hz3])
    (refine WRun.done _ _ (hK _ _ ?_); clear hK)
    (repeat (first | refine W_seq ?_ | refine W_block ?_ | refine W_blk ?_ | refine W_skip ?_))
    refine W_cond_false (by simp only [go_sem, Nat.reduceEqDiff, Nat.reduceLT, Nat.reduceAdd, Nat.reduceLeDiff, Nat.reduceMul, Nat.reduceSub, Int.reduceLE, Int.reduceLT, Int.reduceToNat, Int.reducePow, Int.reduceEq]) ?_
    (repeat (first | refine W_seq ?_ | refine W_block ?_ | refine W_blk ?_ | refine W_skip ?_))
    (refine W_region [] (by rfl) fun K hK => ?_; simp only [go_sem, Nat.reduceEqDiff, Nat.reduceLT, Nat.reduceAdd, Nat.reduceLeDiff, Nat.reduceMul, Nat.reduceSub, Int.reduceLE, Int.reduceLT, Int.reduceToNat, Int.reducePow, Int.reduceEq, f3])
    (refine WRun.done _ _ (hK _ _ ?_); clear hK)
    (repeat (first | refine W_seq ?_ | refine W_block ?_ | refine W_blk ?_ | refine W_skip ?_))
    refine W_loop (α := Nat) (fun q F' _ => q ≤ l1.length ∧ look F' 0 = .list .dull (rowsV to) ∧ look F' 3 = .list tg1 rs1 ∧ look F' 7 = .list tg2 rs2 ∧ look F' 9 = .list tg3 rs3 ∧ look F' 77 = V.int l1.length ∧ look F' 78 = V.int q) (fun q => l1.length - q) 0 ⟨Nat.zero_le _, ?_, ?_, ?_, ?_, ?_, ?_⟩ ?_
    · simp only [go_sem, Nat.reduceEqDiff, Nat.reduceLT, Nat.reduceAdd, Nat.reduceLeDiff, Nat.reduceMul, Nat.reduceSub, Int.reduceLE, Int.reduceLT, Int.reduceToNat, Int.reducePow, Int.reduceEq, f0]
    · simp only [go_sem, Nat.reduceEqDiff, Nat.reduceLT, Nat.reduceAdd, Nat.reduceLeDiff, Nat.reduceMul, Nat.reduceSub, Int.reduceLE, Int.reduceLT, Int.reduceToNat, Int.reducePow, Int.reduceEq, f3]
    · simp only [go_sem, Nat.reduceEqDiff, Nat.reduceLT, Nat.reduceAdd, Nat.reduceLeDiff, Nat.reduceMul, Nat.reduceSub, Int.reduceLE, Int.reduceLT, Int.reduceToNat, Int.reducePow, Int.reduceEq]
    · simp only [go_sem, Nat.reduceEqDiff, Nat.reduceLT, Nat.reduceAdd, Nat.reduceLeDiff, Nat.reduceMul, Nat.reduceSub, Int.reduceLE, Int.reduceLT, Int.reduceToNat, Int.reducePow, Int.reduceEq]
    · simp only [go_sem, Nat.reduceEqDiff, Nat.reduceLT, Nat.reduceAdd, Nat.reduceLeDiff, Nat.reduceMul, Nat.reduceSub, Int.reduceLE, Int.reduceLT, Int.reduceToNat, Int.reducePow, Int.reduceEq, L1]
    · simp only [go_sem, Nat.reduceEqDiff, Nat.reduceLT, Nat.reduceAdd, Nat.reduceLeDiff, Nat.reduceMul, Nat.reduceSub, Int.reduceLE, Int.reduceLT, Int.reduceToNat, Int.reducePow, Int.reduceEq]
    clear f0 f3 f5 f28 f29 F
    rintro q F M9 ⟨hq, f0, f3, f7, f9, f77, f78⟩
    by_cases hlq : q < l1.length
    · have hlq' : (q : Int) < (l1.length : Int) := by omega
      have hlq1 : (q : Int) < (rs1.length : Int) := by omega
      have hlq2 : (q : Int) < (rs2.length : Int) := by omega
      have hlq3 : (q : Int) < (rs3.length : Int) := by omega
      have hw1 : IntKind.i64.wrap ((q : Int) + 1) = ((q + 1 : Nat) : Int) := by rw [wrapI _ (by omega) (by omega)]; omega
      obtain ⟨g, hg⟩ : ∃ g, l1[q]? = some g := ⟨_, List.getElem?_eq_getElem hlq⟩
      have hgm := List.mem_of_getElem? hg
      have hg40 := hgl g hgm
      obtain ⟨u1, p1⟩ := hr1.2 q g hg
      obtain ⟨u2, p2⟩ := hr2.2 q g (by rw [List.getElem?_append_left hlq]; exact hg)
      obtain ⟨u3, p3⟩ := hr3.2 q g (by rw [List.getElem?_append_left hlq]; exact hg)
      have hde : decide (g = g) = true := by simp
      (repeat (first | refine W_seq ?_ | refine W_block ?_ | refine W_blk ?_ | refine W_skip ?_))
      (refine W_region [] (by rfl) fun K hK => ?_; simp only [go_sem, Nat.reduceEqDiff, Nat.reduceLT, Nat.reduceAdd, Nat.reduceLeDiff, Nat.reduceMul, Nat.reduceSub, Int.reduceLE, Int.reduceLT, Int.reduceToNat, Int.reducePow, Int.reduceEq, f77, f78, hlq'])
      (refine WRun.done _ _ (hK _ _ ?_); clear hK)
      (repeat (first | refine W_seq ?_ | refine W_block ?_ | refine W_blk ?_ | refine W_skip ?_))
      refine W_cond_true (by simp only [go_sem, Nat.reduceEqDiff, Nat.reduceLT, Nat.reduceAdd, Nat.reduceLeDiff, Nat.reduceMul, Nat.reduceSub, Int.reduceLE, Int.reduceLT, Int.reduceToNat, Int.reducePow, Int.reduceEq]) ?_
      (repeat (first | refine W_seq ?_ | refine W_block ?_ | refine W_blk ?_ | refine W_skip ?_))
      (refine W_region [] (by rfl) fun K hK => ?_; simp only [go_sem, Nat.reduceEqDiff, Nat.reduceLT, Nat.reduceAdd, Nat.reduceLeDiff, Nat.reduceMul, Nat.reduceSub, Int.reduceLE, Int.reduceLT, Int.reduceToNat, Int.reducePow, Int.reduceEq, f78])
      (refine WRun.done _ _ (hK _ _ ?_); clear hK)
      (repeat (first | refine W_seq ?_ | refine W_block ?_ | refine W_blk ?_ | refine W_skip ?_))
      (refine W_draw [] (fun X => X = M9) mixed_ (by rfl) ?_ fun K hK => ?_)
      · rfl
      (refine DR_quiet [0, 1, 2, 3, 4, 5, 6, 7] (by decide +kernel) (fun M_ hS_ => ?_) (fun K2 hK2 => ?_); (focus (simp only [go_sem, Nat.reduceEqDiff, Nat.reduceLT, Nat.reduceAdd, Nat.reduceLeDiff, Nat.reduceMul, Nat.reduceSub, Int.reduceLE, Int.reduceLT, Int.reduceToNat, Int.reducePow, Int.reduceEq, hS_, f3, f7, f78, hlq1, hlq2, p1, p2, Int.natCast_nonneg, Int.toNat_natCast, List.head?_drop])); simp only [go_sem, Nat.reduceEqDiff, Nat.reduceLT, Nat.reduceAdd, Nat.reduceLeDiff, Nat.reduceMul, Nat.reduceSub, Int.reduceLE, Int.reduceLT, Int.reduceToNat, Int.reducePow, Int.reduceEq, f3, f7, f78, hlq1, hlq2, p1, p2, Int.natCast_nonneg, Int.toNat_natCast, List.head?_drop]; refine hK2 _ ?_; clear hK2)
      (refine DR_sole' 8 (by decide +kernel) (by simp only [go_sem, Nat.reduceEqDiff, Nat.reduceLT, Nat.reduceAdd, Nat.reduceLeDiff, Nat.reduceMul, Nat.reduceSub, Int.reduceLE, Int.reduceLT, Int.reduceToNat, Int.reducePow, Int.reduceEq]) ?_; simp only [go_sem, Nat.reduceEqDiff, Nat.reduceLT, Nat.reduceAdd, Nat.reduceLeDiff, Nat.reduceMul, Nat.reduceSub, Int.reduceLE, Int.reduceLT, Int.reduceToNat, Int.reducePow, Int.reduceEq])
      refine ⟨_, equal_nats u1 u2 g g (by omega) M9, ?_⟩
      rintro r X ⟨rfl, rfl⟩
      refine ⟨rfl, ?_⟩
      (refine DR_quiet [9, 10, 11, 12, 13, 14, 15, 16, 17, 18] (by decide +kernel) (fun M_ hS_ => ?_) (fun K2 hK2 => ?_); (focus (simp only [go_sem, Nat.reduceEqDiff, Nat.reduceLT, Nat.reduceAdd, Nat.reduceLeDiff, Nat.reduceMul, Nat.reduceSub, Int.reduceLE, Int.reduceLT, Int.reduceToNat, Int.reducePow, Int.reduceEq, hS_, hde, f3, f9, f78, hlq1, hlq3, p1, p3, Int.natCast_nonneg, Int.toNat_natCast, List.head?_drop])); simp only [go_sem, Nat.reduceEqDiff, Nat.reduceLT, Nat.reduceAdd, Nat.reduceLeDiff, Nat.reduceMul, Nat.reduceSub, Int.reduceLE, Int.reduceLT, Int.reduceToNat, Int.reducePow, Int.reduceEq, hde, f3, f9, f78, hlq1, hlq3, p1, p3, Int.natCast_nonneg, Int.toNat_natCast, List.head?_drop]; refine hK2 _ ?_; clear hK2)
      (refine DR_sole' 19 (by decide +kernel) (by simp only [go_sem, Nat.reduceEqDiff, Nat.reduceLT, Nat.reduceAdd, Nat.reduceLeDiff, Nat.reduceMul, Nat.reduceSub, Int.reduceLE, Int.reduceLT, Int.reduceToNat, Int.reducePow, Int.reduceEq]) ?_; simp only [go_sem, Nat.reduceEqDiff, Nat.reduceLT, Nat.reduceAdd, Nat.reduceLeDiff, Nat.reduceMul, Nat.reduceSub, Int.reduceLE, Int.reduceLT, Int.reduceToNat, Int.reducePow, Int.reduceEq])
      refine ⟨_, equal_nats u1 u3 g g (by omega) X, ?_⟩
      rintro r X ⟨rfl, rfl⟩
      refine ⟨rfl, ?_⟩
      (refine DR_quiet [20, 21] (by decide +kernel) (fun M_ hS_ => ?_) (fun K2 hK2 => ?_); (focus (simp only [go_sem, Nat.reduceEqDiff, Nat.reduceLT, Nat.reduceAdd, Nat.reduceLeDiff, Nat.reduceMul, Nat.reduceSub, Int.reduceLE, Int.reduceLT, Int.reduceToNat, Int.reducePow, Int.reduceEq, hS_, hde])); simp only [go_sem, Nat.reduceEqDiff, Nat.reduceLT, Nat.reduceAdd, Nat.reduceLeDiff, Nat.reduceMul, Nat.reduceSub, Int.reduceLE, Int.reduceLT, Int.reduceToNat, Int.reducePow, Int.reduceEq, hde]; refine hK2 _ ?_; clear hK2)
      (refine DR_end (by decide +kernel) (hK _ _ ?_); clear hK)
      refine W_cond_false (by simp only [go_sem, Nat.reduceEqDiff, Nat.reduceLT, Nat.reduceAdd, Nat.reduceLeDiff, Nat.reduceMul, Nat.reduceSub, Int.reduceLE, Int.reduceLT, Int.reduceToNat, Int.reducePow, Int.reduceEq]) ?_
      (repeat (first | refine W_seq ?_ | refine W_block ?_ | refine W_blk ?_ | refine W_skip ?_))
      (refine W_region [] (by rfl) fun K hK => ?_; simp only [go_sem, Nat.reduceEqDiff, Nat.reduceLT, Nat.reduceAdd, Nat.reduceLeDiff, Nat.reduceMul, Nat.reduceSub, Int.reduceLE, Int.reduceLT, Int.reduceToNat, Int.reducePow, Int.reduceEq, f78, hw1])
      (refine WRun.done _ _ (hK _ _ ?_); clear hK)
      refine W_stop ⟨q + 1, ⟨hlq, ?_, ?_, ?_, ?_, ?_, ?_⟩, by omega⟩
      · simp only [go_sem, Nat.reduceEqDiff, Nat.reduceLT, Nat.reduceAdd, Nat.reduceLeDiff, Nat.reduceMul, Nat.reduceSub, Int.reduceLE, Int.reduceLT, Int.reduceToNat, Int.reducePow, Int.reduceEq, f0]
      · simp only [go_sem, Nat.reduceEqDiff, Nat.reduceLT, Nat.reduceAdd, Nat.reduceLeDiff, Nat.reduceMul, Nat.reduceSub, Int.reduceLE, Int.reduceLT, Int.reduceToNat, Int.reducePow, Int.reduceEq, f3]
      · simp only [go_sem, Nat.reduceEqDiff, Nat.reduceLT, Nat.reduceAdd, Nat.reduceLeDiff, Nat.reduceMul, Nat.reduceSub, Int.reduceLE, Int.reduceLT, Int.reduceToNat, Int.reducePow, Int.reduceEq, f7]
      · simp only [go_sem, Nat.reduceEqDiff, Nat.reduceLT, Nat.reduceAdd, Nat.reduceLeDiff, Nat.reduceMul, Nat.reduceSub, Int.reduceLE, Int.reduceLT, Int.reduceToNat, Int.reducePow, Int.reduceEq, f9]
      · simp only [go_sem, Nat.reduceEqDiff, Nat.reduceLT, Nat.reduceAdd, Nat.reduceLeDiff, Nat.reduceMul, Nat.reduceSub, Int.reduceLE, Int.reduceLT, Int.reduceToNat, Int.reducePow, Int.reduceEq, f77]
      · simp only [go_sem, Nat.reduceEqDiff, Nat.reduceLT, Nat.reduceAdd, Nat.reduceLeDiff, Nat.reduceMul, Nat.reduceSub, Int.reduceLE, Int.reduceLT, Int.reduceToNat, Int.reducePow, Int.reduceEq]
    · have hlq' : ¬ (q : Int) < (l1.length : Int) := by omega
      obtain ⟨u2, p2⟩ := hr2.2 l1.length [to.length] (by simp)
      obtain ⟨u3, p3⟩ := hr3.2 l1.length [to.length] (by simp)
      have hlt2 : (l1.length : Int) < (rs2.length : Int) := by omega
      have hlt3 : (l1.length : Int) < (rs3.length : Int) := by omega
      have pn : [V.int ((to.length : Nat) : Int)] = nats [to.length] := rfl
      have hde : decide ([to.length] = [to.length]) = true := by simp
      (repeat (first | refine W_seq ?_ | refine W_block ?_ | refine W_blk ?_ | refine W_skip ?_))
      (refine W_region [] (by rfl) fun K hK => ?_; simp only [go_sem, Nat.reduceEqDiff, Nat.reduceLT, Nat.reduceAdd, Nat.reduceLeDiff, Nat.reduceMul, Nat.reduceSub, Int.reduceLE, Int.reduceLT, Int.reduceToNat, Int.reducePow, Int.reduceEq, f77, f78, hlq'])
      (refine WRun.done _ _ (hK _ _ ?_); clear hK)
      (repeat (first | refine W_seq ?_ | refine W_block ?_ | refine W_blk ?_ | refine W_skip ?_))
      refine W_cond_false (by simp only [go_sem, Nat.reduceEqDiff, Nat.reduceLT, Nat.reduceAdd, Nat.reduceLeDiff, Nat.reduceMul, Nat.reduceSub, Int.reduceLE, Int.reduceLT, Int.reduceToNat, Int.reducePow, Int.reduceEq]) ?_
      refine W_exit (Qof_code (Qof_stop (Qof_blk_same ?_)))
      (repeat (first | refine W_seq ?_ | refine W_block ?_ | refine W_blk ?_ | refine W_skip ?_))
      (refine W_region [] (by rfl) fun K hK => ?_; simp only [go_sem, Nat.reduceEqDiff, Nat.reduceLT, Nat.reduceAdd, Nat.reduceLeDiff, Nat.reduceMul, Nat.reduceSub, Int.reduceLE, Int.reduceLT, Int.reduceToNat, Int.reducePow, Int.reduceEq, f0, f3, f7, L1, hlt2, p2, rowsV_len, Int.natCast_nonneg, Int.toNat_natCast, List.head?_drop])
      refine WRun.call _ _ _ _ _ _ _ (equal_nats u2 .full [to.length] [to.length] (by simp) M9) ?_
      rintro r X ⟨rfl, rfl⟩
      simp only [go_sem, Nat.reduceEqDiff, Nat.reduceLT, Nat.reduceAdd, Nat.reduceLeDiff, Nat.reduceMul, Nat.reduceSub, Int.reduceLE, Int.reduceLT, Int.reduceToNat, Int.reducePow, Int.reduceEq, hde, f0, f3, f9, L1, hlt3, p3, rowsV_len, Int.natCast_nonneg, Int.toNat_natCast, List.head?_drop]
      refine WRun.call _ _ _ _ _ _ _ (equal_nats u3 .full [to.length] [to.length] (by simp) X) ?_
      rintro r X2 ⟨rfl, rfl⟩
      simp only [go_sem, Nat.reduceEqDiff, Nat.reduceLT, Nat.reduceAdd, Nat.reduceLeDiff, Nat.reduceMul, Nat.reduceSub, Int.reduceLE, Int.reduceLT, Int.reduceToNat, Int.reducePow, Int.reduceEq, hde]
      (refine WRun.done _ _ (hK _ _ ?_); clear hK)
      refine W_ret ?_
      simp only [go_sem, Nat.reduceEqDiff, Nat.reduceLT, Nat.reduceAdd, Nat.reduceLeDiff, Nat.reduceMul, Nat.reduceSub, Int.reduceLE, Int.reduceLT, Int.reduceToNat, Int.reducePow, Int.reduceEq]
end Go.Ax

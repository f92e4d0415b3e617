import Derived.Test.YthbojmoiimknhaaOrTu
set_option linter.unusedSimpArgs false
set_option linter.unusedVariables false
namespace Go.Ax
open Go.Proofs Go.Ord

def backI (n : Nat) (ml : Nat → List Nat) : List (List Int) := (List.range n).map fun k => (ml k).map fun w : Nat => (w : Int)
theorem backI_len (n : Nat) (ml : Nat → List Nat) : (backI n ml).length = n := by simp [backI]
theorem backI_at {n : Nat} {ml : Nat → List Nat} {k : Nat} (h : k < n) : (backI n ml)[k]? = some ((ml k).map fun w : Nat => (w : Int)) := by simp [backI, h]
theorem backI_ok {n : Nat} {ml : Nat → List Nat} (h : ∀ k w, k < n → w ∈ ml k → w < n) : okTo (backI n ml) = true := by
  simp only [okTo, List.all_eq_true, backI_len]
  intro l hl z hz
  obtain ⟨k, hk, rfl⟩ := List.mem_map.1 hl
  obtain ⟨w, hw, rfl⟩ := List.mem_map.1 hz
  have := h k w (List.mem_range.1 hk) hw
  simp [okNum]; omega
theorem backI_adj {n : Nat} {ml : Nat → List Nat} {k : Nat} (h : k < n) : adj (toN (backI n ml)) k = ml k := by
  rw [adj_toN, backI_at h]
  simp only [Option.getD_some, List.map_map]
  have : ((Int.toNat ∘ fun w : Nat => (w : Int)) : Nat → Nat) = id := by funext w; simp
  rw [this, List.map_id]
theorem nats_ints (l : List Nat) : nats l = (l.map fun w : Nat => (w : Int)).map V.int := by rw [nats, List.map_map]; rfl

theorem order_turned_law (M : AMem) (to : List (List Int)) (hlen : to.length ≤ 140737488351232) (hrl : ∀ l ∈ to, l.length ≤ 140737488351232) : ACalls Try.prog 8 [.list .dull (rowsV to)] M (fun r _ => r = V.bool true) := by
  refine acalls_enter [.tmp 2] 84 Try.func8 rfl rfl rfl (by simp) ?_
  (repeat (first | refine W_seq ?_ | refine W_block ?_ | refine W_blk ?_ | refine W_skip ?_))
  (refine W_region [] (by rfl) fun K hK => ?_; simp only [go_sem, Nat.reduceEqDiff, Nat.reduceLT, Nat.reduceAdd, Nat.reduceLeDiff, Nat.reduceMul, Nat.reduceSub, Int.reduceLE, Int.reduceLT, Int.reduceToNat, Int.reducePow, Int.reduceEq])
  (refine WRun.done _ _ (hK _ _ ?_); clear hK)
  (repeat (first | refine W_seq ?_ | refine W_block ?_ | refine W_blk ?_ | refine W_skip ?_))
  (refine W_region [] (by rfl) fun K hK => ?_; simp only [go_sem, Nat.reduceEqDiff, Nat.reduceLT, Nat.reduceAdd, Nat.reduceLeDiff, Nat.reduceMul, Nat.reduceSub, Int.reduceLE, Int.reduceLT, Int.reduceToNat, Int.reducePow, Int.reduceEq])
  refine WRun.call _ _ _ _ _ _ _ (order_lives M) ?_
  rintro r M1 ⟨rfl, hl1, _⟩
  simp only [go_sem, Nat.reduceEqDiff, Nat.reduceLT, Nat.reduceAdd, Nat.reduceLeDiff, Nat.reduceMul, Nat.reduceSub, Int.reduceLE, Int.reduceLT, Int.reduceToNat, Int.reducePow, Int.reduceEq]
  refine WRun.call _ _ _ _ _ _ _ (order_small2 M1 to hlen hrl) ?_
  rintro r M2 ⟨rfl, b, rfl, hb⟩
  simp only [go_sem, Nat.reduceEqDiff, Nat.reduceLT, Nat.reduceAdd, Nat.reduceLeDiff, Nat.reduceMul, Nat.reduceSub, Int.reduceLE, Int.reduceLT, Int.reduceToNat, Int.reducePow, Int.reduceEq]
  (refine WRun.done _ _ (hK _ _ ?_); clear hK)
  (repeat (first | refine W_seq ?_ | refine W_block ?_ | refine W_blk ?_ | refine W_skip ?_))
  cases b with
  | false =>
    refine W_cond_true (by simp only [go_sem, Nat.reduceEqDiff, Nat.reduceLT, Nat.reduceAdd, Nat.reduceLeDiff, Nat.reduceMul, Nat.reduceSub, Int.reduceLE, Int.reduceLT, Int.reduceToNat, Int.reducePow, Int.reduceEq]) ?_
    (repeat (first | refine W_seq ?_ | refine W_block ?_ | refine W_blk ?_ | refine W_skip ?_))
    (refine W_region [] (by rfl) fun K hK => ?_; simp only [go_sem, Nat.reduceEqDiff, Nat.reduceLT, Nat.reduceAdd, Nat.reduceLeDiff, Nat.reduceMul, Nat.reduceSub, Int.reduceLE, Int.reduceLT, Int.reduceToNat, Int.reducePow, Int.reduceEq])
    refine WRun.call _ _ _ _ _ _ _ (order_lives _) ?_
    rintro r M3 ⟨rfl, _, _⟩
    simp only [go_sem, Nat.reduceEqDiff, Nat.reduceLT, Nat.reduceAdd, Nat.reduceLeDiff, Nat.reduceMul, Nat.reduceSub, Int.reduceLE, Int.reduceLT, Int.reduceToNat, Int.reducePow, Int.reduceEq]
    (refine WRun.done _ _ (hK _ _ ?_); clear hK)
    refine W_ret ?_
    simp only [go_sem, Nat.reduceEqDiff, Nat.reduceLT, Nat.reduceAdd, Nat.reduceLeDiff, Nat.reduceMul, Nat.reduceSub, Int.reduceLE, Int.reduceLT, Int.reduceToNat, Int.reducePow, Int.reduceEq]
  | true =>
  obtain ⟨h40, h400⟩ := hb rfl
  have hrl400 : ∀ l ∈ to, l.length ≤ 400 := fun l hl => Nat.le_trans (sum_mem hl) h400
  refine W_cond_false (by simp only [go_sem, Nat.reduceEqDiff, Nat.reduceLT, Nat.reduceAdd, Nat.reduceLeDiff, Nat.reduceMul, Nat.reduceSub, Int.reduceLE, Int.reduceLT, Int.reduceToNat, Int.reducePow, Int.reduceEq]) ?_
  (repeat (first | refine W_seq ?_ | refine W_block ?_ | refine W_blk ?_ | refine W_skip ?_))
  (refine W_region [] (by rfl) fun K hK => ?_; simp only [go_sem, Nat.reduceEqDiff, Nat.reduceLT, Nat.reduceAdd, Nat.reduceLeDiff, Nat.reduceMul, Nat.reduceSub, Int.reduceLE, Int.reduceLT, Int.reduceToNat, Int.reducePow, Int.reduceEq])
  refine WRun.call _ _ _ _ _ _ _ (groups_ok (toI_rowsV _ _ to) (by omega) (fun l hl => by have := hrl400 l hl; omega)) ?_
  rintro r1 M3 ⟨hs1, _, _⟩
  unfold GroupsSaid at hs1
  cases hok : okTo to with
  | false =>
    rw [hok] at hs1
    simp only [Bool.false_eq_true, if_false] at hs1
    subst hs1
    simp only [go_sem, Nat.reduceEqDiff, Nat.reduceLT, Nat.reduceAdd, Nat.reduceLeDiff, Nat.reduceMul, Nat.reduceSub, Int.reduceLE, Int.reduceLT, Int.reduceToNat, Int.reducePow, Int.reduceEq]
    (refine WRun.done _ _ (hK _ _ ?_); clear hK)
    (repeat (first | refine W_seq ?_ | refine W_block ?_ | refine W_blk ?_ | refine W_skip ?_))
    (refine W_region [] (by rfl) fun K hK => ?_; simp only [go_sem, Nat.reduceEqDiff, Nat.reduceLT, Nat.reduceAdd, Nat.reduceLeDiff, Nat.reduceMul, Nat.reduceSub, Int.reduceLE, Int.reduceLT, Int.reduceToNat, Int.reducePow, Int.reduceEq])
    (refine WRun.done _ _ (hK _ _ ?_); clear hK)
    (repeat (first | refine W_seq ?_ | refine W_block ?_ | refine W_blk ?_ | refine W_skip ?_))
    refine W_cond_true (by simp only [go_sem, Nat.reduceEqDiff, Nat.reduceLT, Nat.reduceAdd, Nat.reduceLeDiff, Nat.reduceMul, Nat.reduceSub, Int.reduceLE, Int.reduceLT, Int.reduceToNat, Int.reducePow, Int.reduceEq]) ?_
    (repeat (first | refine W_seq ?_ | refine W_block ?_ | refine W_blk ?_ | refine W_skip ?_))
    (refine W_region [] (by rfl) fun K hK => ?_; simp only [go_sem, Nat.reduceEqDiff, Nat.reduceLT, Nat.reduceAdd, Nat.reduceLeDiff, Nat.reduceMul, Nat.reduceSub, Int.reduceLE, Int.reduceLT, Int.reduceToNat, Int.reducePow, Int.reduceEq])
    (refine WRun.done _ _ (hK _ _ ?_); clear hK)
    refine W_ret ?_
    simp only [go_sem, Nat.reduceEqDiff, Nat.reduceLT, Nat.reduceAdd, Nat.reduceLeDiff, Nat.reduceMul, Nat.reduceSub, Int.reduceLE, Int.reduceLT, Int.reduceToNat, Int.reducePow, Int.reduceEq]
  | true =>
  rw [hok] at hs1
  simp only [if_true] at hs1
  obtain ⟨tg1, rs1, l1, rfl, hr1, hq1⟩ := hs1
  have hgood := toN_good hok
  obtain ⟨n, hnn⟩ : ∃ n, n = to.length := ⟨_, rfl⟩
  have hnt : (toN to).length = n := by rw [toN_len]; exact hnn.symm
  have hn30 : (n : Int) ≤ 1073741824 := by omega
  simp only [go_sem, Nat.reduceEqDiff, Nat.reduceLT, Nat.reduceAdd, Nat.reduceLeDiff, Nat.reduceMul, Nat.reduceSub, Int.reduceLE, Int.reduceLT, Int.reduceToNat, Int.reducePow, Int.reduceEq]
  (refine WRun.done _ _ (hK _ _ ?_); clear hK)
  (repeat (first | refine W_seq ?_ | refine W_block ?_ | refine W_blk ?_ | refine W_skip ?_))
  (refine W_region [] (by rfl) fun K hK => ?_; simp only [go_sem, Nat.reduceEqDiff, Nat.reduceLT, Nat.reduceAdd, Nat.reduceLeDiff, Nat.reduceMul, Nat.reduceSub, Int.reduceLE, Int.reduceLT, Int.reduceToNat, Int.reducePow, Int.reduceEq])
  (refine WRun.done _ _ (hK _ _ ?_); clear hK)
  (repeat (first | refine W_seq ?_ | refine W_block ?_ | refine W_blk ?_ | refine W_skip ?_))
  refine W_cond_false (by simp only [go_sem, Nat.reduceEqDiff, Nat.reduceLT, Nat.reduceAdd, Nat.reduceLeDiff, Nat.reduceMul, Nat.reduceSub, Int.reduceLE, Int.reduceLT, Int.reduceToNat, Int.reducePow, Int.reduceEq]) ?_
  (repeat (first | refine W_seq ?_ | refine W_block ?_ | refine W_blk ?_ | refine W_skip ?_))
  (refine W_region [] (by rfl) fun K hK => ?_; simp only [go_sem, Nat.reduceEqDiff, Nat.reduceLT, Nat.reduceAdd, Nat.reduceLeDiff, Nat.reduceMul, Nat.reduceSub, Int.reduceLE, Int.reduceLT, Int.reduceToNat, Int.reducePow, Int.reduceEq, rowsV_len, ← hnn, hn30, Int.natCast_nonneg, Int.toNat_natCast, Int.le_refl])
  (refine WRun.done _ _ (hK _ _ ?_); clear hK)
  (repeat (first | refine W_seq ?_ | refine W_block ?_ | refine W_blk ?_ | refine W_skip ?_))
  (refine W_region [] (by rfl) fun K hK => ?_; simp only [go_sem, Nat.reduceEqDiff, Nat.reduceLT, Nat.reduceAdd, Nat.reduceLeDiff, Nat.reduceMul, Nat.reduceSub, Int.reduceLE, Int.reduceLT, Int.reduceToNat, Int.reducePow, Int.reduceEq, rowsV_len, ← hnn])
  (refine WRun.done _ _ (hK _ _ ?_); clear hK)
  (repeat (first | refine W_seq ?_ | refine W_block ?_ | refine W_blk ?_ | refine W_skip ?_))
  refine W_loop (α := Nat × (Nat → Tag) × (Nat → List Nat)) (fun q F' M' => q.1 ≤ n ∧ look F' 3 = .list tg1 rs1 ∧ look F' 5 = .arr M3.length 0 n 1 ∧ look F' 34 = .list .dull (rowsV to) ∧ look F' 35 = V.int n ∧ look F' 36 = V.int q.1 ∧
      M'[M3.length]? = some (.cells (cellsR n q.2.1 q.2.2)) ∧ TagsOk M' M3.length n q.2.1 ∧ (∀ k w, k < n → (w ∈ q.2.2 k ↔ w < q.1 ∧ k ∈ adj (toN to) w)) ∧ ∀ k, k < n → (q.2.2 k).length ≤ ((to.take q.1).map List.length).sum)
    (fun q => n - q.1) (0, fun _ => .full, fun _ => []) ⟨Nat.zero_le _, ?_, ?_, ?_, ?_, ?_, ?_, ⟨fun _ _ => .inl rfl, fun _ _ _ _ _ e => (by cases e)⟩, ?_, ?_⟩ ?_
  · simp only [go_sem, Nat.reduceEqDiff, Nat.reduceLT, Nat.reduceAdd, Nat.reduceLeDiff, Nat.reduceMul, Nat.reduceSub, Int.reduceLE, Int.reduceLT, Int.reduceToNat, Int.reducePow, Int.reduceEq]
  · simp only [go_sem, Nat.reduceEqDiff, Nat.reduceLT, Nat.reduceAdd, Nat.reduceLeDiff, Nat.reduceMul, Nat.reduceSub, Int.reduceLE, Int.reduceLT, Int.reduceToNat, Int.reducePow, Int.reduceEq]
  · simp only [go_sem, Nat.reduceEqDiff, Nat.reduceLT, Nat.reduceAdd, Nat.reduceLeDiff, Nat.reduceMul, Nat.reduceSub, Int.reduceLE, Int.reduceLT, Int.reduceToNat, Int.reducePow, Int.reduceEq]
  · simp only [go_sem, Nat.reduceEqDiff, Nat.reduceLT, Nat.reduceAdd, Nat.reduceLeDiff, Nat.reduceMul, Nat.reduceSub, Int.reduceLE, Int.reduceLT, Int.reduceToNat, Int.reducePow, Int.reduceEq]
  · simp only [go_sem, Nat.reduceEqDiff, Nat.reduceLT, Nat.reduceAdd, Nat.reduceLeDiff, Nat.reduceMul, Nat.reduceSub, Int.reduceLE, Int.reduceLT, Int.reduceToNat, Int.reducePow, Int.reduceEq]
  · rw [List.getElem?_append_right (Nat.le_refl _), Nat.sub_self]
    show some (AObj.cells (List.replicate n _)) = _
    rw [replicate_map]
    rfl
  · intro k w hk
    simp
  · intro k hk
    simp
  rintro ⟨i, t, ml⟩ F M4 ⟨hi, f3, f5, f34, f35, f36, hbk, htg, hml, hln⟩
  simp only at hi f36 hbk htg hml hln
  by_cases hlt : i < n
  · have hlt' : (i : Int) < (n : Int) := by omega
    have hlt2 : (i : Int) < (to.length : Int) := by omega
    have hw1 : IntKind.i64.wrap ((i : Int) + 1) = ((i + 1 : Nat) : Int) := by rw [wrapI _ (by omega) (by omega)]; omega
    obtain ⟨row, hrow⟩ : ∃ row, to[i]? = some row := ⟨_, List.getElem?_eq_getElem (by omega)⟩
    have hmem := List.mem_of_getElem? hrow
    have hrv := rowsV_at hrow
    have hr400 := hrl400 row hmem
    have hrok := List.all_eq_true.1 hok row hmem
    have hadj : adj (toN to) i = row.map Int.toNat := by rw [adj_toN, hrow]; rfl
    have hsum : ((to.take (i + 1)).map List.length).sum = ((to.take i).map List.length).sum + row.length := by
      rw [List.take_add_one, hrow]; simp
    have hsle : ((to.take (i + 1)).map List.length).sum ≤ 400 := by
      have h1 : ((to.take (i + 1)).map List.length).sum + ((to.drop (i + 1)).map List.length).sum = (to.map List.length).sum := by
        rw [← List.sum_append, ← List.map_append, List.take_append_drop]
      omega
    (repeat (first | refine W_seq ?_ | refine W_block ?_ | refine W_blk ?_ | refine W_skip ?_))
    (refine W_region [] (by rfl) fun K hK => ?_; simp only [go_sem, Nat.reduceEqDiff, Nat.reduceLT, Nat.reduceAdd, Nat.reduceLeDiff, Nat.reduceMul, Nat.reduceSub, Int.reduceLE, Int.reduceLT, Int.reduceToNat, Int.reducePow, Int.reduceEq, f35, f36, hlt'])
    (refine WRun.done _ _ (hK _ _ ?_); clear hK)
    (repeat (first | refine W_seq ?_ | refine W_block ?_ | refine W_blk ?_ | refine W_skip ?_))
    refine W_cond_true (by simp only [go_sem, Nat.reduceEqDiff, Nat.reduceLT, Nat.reduceAdd, Nat.reduceLeDiff, Nat.reduceMul, Nat.reduceSub, Int.reduceLE, Int.reduceLT, Int.reduceToNat, Int.reducePow, Int.reduceEq]) ?_
    (repeat (first | refine W_seq ?_ | refine W_block ?_ | refine W_blk ?_ | refine W_skip ?_))
    (refine W_region [] (by rfl) fun K hK => ?_; simp only [go_sem, Nat.reduceEqDiff, Nat.reduceLT, Nat.reduceAdd, Nat.reduceLeDiff, Nat.reduceMul, Nat.reduceSub, Int.reduceLE, Int.reduceLT, Int.reduceToNat, Int.reducePow, Int.reduceEq, f34, f36, hrv, hlt2, rowsV_len, Int.natCast_nonneg, Int.toNat_natCast, List.head?_drop])
    (refine WRun.done _ _ (hK _ _ ?_); clear hK)
    (repeat (first | refine W_seq ?_ | refine W_block ?_ | refine W_blk ?_ | refine W_skip ?_))
    (refine W_region [] (by rfl) fun K hK => ?_; simp only [go_sem, Nat.reduceEqDiff, Nat.reduceLT, Nat.reduceAdd, Nat.reduceLeDiff, Nat.reduceMul, Nat.reduceSub, Int.reduceLE, Int.reduceLT, Int.reduceToNat, Int.reducePow, Int.reduceEq, List.length_map])
    (refine WRun.done _ _ (hK _ _ ?_); clear hK)
    (repeat (first | refine W_seq ?_ | refine W_block ?_ | refine W_blk ?_ | refine W_skip ?_))
    refine W_loop (α := Nat × (Nat → Tag) × (Nat → List Nat)) (fun q F' M' => q.1 ≤ row.length ∧ look F' 3 = .list tg1 rs1 ∧ look F' 5 = .arr M3.length 0 n 1 ∧ look F' 6 = V.int i ∧ look F' 34 = .list .dull (rowsV to) ∧ look F' 35 = V.int n ∧ look F' 36 = V.int i ∧ look F' 41 = .list .dull (row.map V.int) ∧ look F' 42 = V.int row.length ∧ look F' 43 = V.int q.1 ∧
        M'[M3.length]? = some (.cells (cellsR n q.2.1 q.2.2)) ∧ TagsOk M' M3.length n q.2.1 ∧ (∀ k w, k < n → (w ∈ q.2.2 k ↔ (w < i ∧ k ∈ adj (toN to) w) ∨ (w = i ∧ k ∈ (row.take q.1).map Int.toNat))) ∧ ∀ k, k < n → (q.2.2 k).length ≤ ((to.take i).map List.length).sum + q.1)
      (fun q => row.length - q.1) (0, t, ml) ⟨Nat.zero_le _, ?_, ?_, ?_, ?_, ?_, ?_, ?_, ?_, ?_, hbk, htg, ?_, ?_⟩ ?_
    · simp only [go_sem, Nat.reduceEqDiff, Nat.reduceLT, Nat.reduceAdd, Nat.reduceLeDiff, Nat.reduceMul, Nat.reduceSub, Int.reduceLE, Int.reduceLT, Int.reduceToNat, Int.reducePow, Int.reduceEq, f3]
    · simp only [go_sem, Nat.reduceEqDiff, Nat.reduceLT, Nat.reduceAdd, Nat.reduceLeDiff, Nat.reduceMul, Nat.reduceSub, Int.reduceLE, Int.reduceLT, Int.reduceToNat, Int.reducePow, Int.reduceEq, f5]
    · simp only [go_sem, Nat.reduceEqDiff, Nat.reduceLT, Nat.reduceAdd, Nat.reduceLeDiff, Nat.reduceMul, Nat.reduceSub, Int.reduceLE, Int.reduceLT, Int.reduceToNat, Int.reducePow, Int.reduceEq]
    · simp only [go_sem, Nat.reduceEqDiff, Nat.reduceLT, Nat.reduceAdd, Nat.reduceLeDiff, Nat.reduceMul, Nat.reduceSub, Int.reduceLE, Int.reduceLT, Int.reduceToNat, Int.reducePow, Int.reduceEq, f34]
    · simp only [go_sem, Nat.reduceEqDiff, Nat.reduceLT, Nat.reduceAdd, Nat.reduceLeDiff, Nat.reduceMul, Nat.reduceSub, Int.reduceLE, Int.reduceLT, Int.reduceToNat, Int.reducePow, Int.reduceEq, f35]
    · simp only [go_sem, Nat.reduceEqDiff, Nat.reduceLT, Nat.reduceAdd, Nat.reduceLeDiff, Nat.reduceMul, Nat.reduceSub, Int.reduceLE, Int.reduceLT, Int.reduceToNat, Int.reducePow, Int.reduceEq, f36]
    · simp only [go_sem, Nat.reduceEqDiff, Nat.reduceLT, Nat.reduceAdd, Nat.reduceLeDiff, Nat.reduceMul, Nat.reduceSub, Int.reduceLE, Int.reduceLT, Int.reduceToNat, Int.reducePow, Int.reduceEq]
    · simp only [go_sem, Nat.reduceEqDiff, Nat.reduceLT, Nat.reduceAdd, Nat.reduceLeDiff, Nat.reduceMul, Nat.reduceSub, Int.reduceLE, Int.reduceLT, Int.reduceToNat, Int.reducePow, Int.reduceEq]
    · simp only [go_sem, Nat.reduceEqDiff, Nat.reduceLT, Nat.reduceAdd, Nat.reduceLeDiff, Nat.reduceMul, Nat.reduceSub, Int.reduceLE, Int.reduceLT, Int.reduceToNat, Int.reducePow, Int.reduceEq]
    · intro k w hk
      rw [hml k w hk]; simp
    · intro k hk
      exact hln k hk
    clear f3 f5 f34 f35 f36 F hbk htg hml hln
    rintro ⟨q, t, ml⟩ F M5 ⟨hq, f3, f5, f6, f34, f35, f36, f41, f42, f43, hbk, htg, hml, hln⟩
    simp only at hq f43 hbk htg hml hln
    by_cases hlq : q < row.length
    · have hlq' : (q : Int) < (row.length : Int) := by omega
      have hw2 : IntKind.i64.wrap ((q : Int) + 1) = ((q + 1 : Nat) : Int) := by rw [wrapI _ (by omega) (by omega)]; omega
      obtain ⟨z, hz⟩ : ∃ z, row[q]? = some z := ⟨_, List.getElem?_eq_getElem hlq⟩
      have pz := ints_at hz
      have hzn := List.all_eq_true.1 hrok z (List.mem_of_getElem? hz)
      simp [okNum] at hzn
      obtain ⟨k, rfl⟩ : ∃ k : Nat, z = k := ⟨z.toNat, by omega⟩
      have hkn : k < n := by omega
      have hkn' : (k : Int) < (n : Int) := by omega
      have hk1 : k + 1 ≤ n := hkn
      have hck := cellsR_at t ml hkn
      have hcx := nats_cells (ml k)
      have hll : (ml k).length + 1 ≤ 1073741824 := by have := hln k hkn; omega
      obtain ⟨c1, c2, c3, c4, c5⟩ := cellsR_step hbk htg hkn (ml k ++ [i])
      have ov := overR t ml hkn (.own M5.length) (ml k ++ [i])
      have htq : row.take (q + 1) = row.take q ++ [(k : Int)] := by rw [List.take_add_one, hz]; rfl
      (repeat (first | refine W_seq ?_ | refine W_block ?_ | refine W_blk ?_ | refine W_skip ?_))
      (refine W_region [] (by rfl) fun K hK => ?_; simp only [go_sem, Nat.reduceEqDiff, Nat.reduceLT, Nat.reduceAdd, Nat.reduceLeDiff, Nat.reduceMul, Nat.reduceSub, Int.reduceLE, Int.reduceLT, Int.reduceToNat, Int.reducePow, Int.reduceEq, f42, f43, hlq'])
      (refine WRun.done _ _ (hK _ _ ?_); clear hK)
      (repeat (first | refine W_seq ?_ | refine W_block ?_ | refine W_blk ?_ | refine W_skip ?_))
      refine W_cond_true (by simp only [go_sem, Nat.reduceEqDiff, Nat.reduceLT, Nat.reduceAdd, Nat.reduceLeDiff, Nat.reduceMul, Nat.reduceSub, Int.reduceLE, Int.reduceLT, Int.reduceToNat, Int.reducePow, Int.reduceEq]) ?_
      (repeat (first | refine W_seq ?_ | refine W_block ?_ | refine W_blk ?_ | refine W_skip ?_))
      (refine W_region [] (by rfl) fun K hK => ?_; simp only [go_sem, Nat.reduceEqDiff, Nat.reduceLT, Nat.reduceAdd, Nat.reduceLeDiff, Nat.reduceMul, Nat.reduceSub, Int.reduceLE, Int.reduceLT, Int.reduceToNat, Int.reducePow, Int.reduceEq, f41, f43, pz, hlq', List.length_map, Int.natCast_nonneg, Int.toNat_natCast, List.head?_drop])
      (refine WRun.done _ _ (hK _ _ ?_); clear hK)
      (repeat (first | refine W_seq ?_ | refine W_block ?_ | refine W_blk ?_ | refine W_skip ?_))
      (refine W_region [] (by rfl) fun K hK => ?_; simp only [go_sem, Nat.reduceEqDiff, Nat.reduceLT, Nat.reduceAdd, Nat.reduceLeDiff, Nat.reduceMul, Nat.reduceSub, Int.reduceLE, Int.reduceLT, Int.reduceToNat, Int.reducePow, Int.reduceEq, f5, f6, hbk, hck, hkn', c1, hcx, hll, nats_len, nats_snoc, at_left, set_left, c2, c3, cellsR_len, hk1, ov, Int.natCast_nonneg, Int.toNat_natCast, List.head?_drop, Nat.zero_add])
      (refine WRun.done _ _ (hK _ _ ?_); clear hK)
      (repeat (first | refine W_seq ?_ | refine W_block ?_ | refine W_blk ?_ | refine W_skip ?_))
      (refine W_region [] (by rfl) fun K hK => ?_; simp only [go_sem, Nat.reduceEqDiff, Nat.reduceLT, Nat.reduceAdd, Nat.reduceLeDiff, Nat.reduceMul, Nat.reduceSub, Int.reduceLE, Int.reduceLT, Int.reduceToNat, Int.reducePow, Int.reduceEq, f43, hw2])
      (refine WRun.done _ _ (hK _ _ ?_); clear hK)
      refine W_stop ⟨(q + 1, upd t k (.own M5.length), upd ml k (ml k ++ [i])), ⟨hlq, ?_, ?_, ?_, ?_, ?_, ?_, ?_, ?_, ?_, c4, c5, ?_, ?_⟩, by show row.length - (q + 1) < row.length - q; omega⟩
      · simp only [go_sem, Nat.reduceEqDiff, Nat.reduceLT, Nat.reduceAdd, Nat.reduceLeDiff, Nat.reduceMul, Nat.reduceSub, Int.reduceLE, Int.reduceLT, Int.reduceToNat, Int.reducePow, Int.reduceEq, f3]
      · simp only [go_sem, Nat.reduceEqDiff, Nat.reduceLT, Nat.reduceAdd, Nat.reduceLeDiff, Nat.reduceMul, Nat.reduceSub, Int.reduceLE, Int.reduceLT, Int.reduceToNat, Int.reducePow, Int.reduceEq, f5]
      · simp only [go_sem, Nat.reduceEqDiff, Nat.reduceLT, Nat.reduceAdd, Nat.reduceLeDiff, Nat.reduceMul, Nat.reduceSub, Int.reduceLE, Int.reduceLT, Int.reduceToNat, Int.reducePow, Int.reduceEq, f6]
      · simp only [go_sem, Nat.reduceEqDiff, Nat.reduceLT, Nat.reduceAdd, Nat.reduceLeDiff, Nat.reduceMul, Nat.reduceSub, Int.reduceLE, Int.reduceLT, Int.reduceToNat, Int.reducePow, Int.reduceEq, f34]
      · simp only [go_sem, Nat.reduceEqDiff, Nat.reduceLT, Nat.reduceAdd, Nat.reduceLeDiff, Nat.reduceMul, Nat.reduceSub, Int.reduceLE, Int.reduceLT, Int.reduceToNat, Int.reducePow, Int.reduceEq, f35]
      · simp only [go_sem, Nat.reduceEqDiff, Nat.reduceLT, Nat.reduceAdd, Nat.reduceLeDiff, Nat.reduceMul, Nat.reduceSub, Int.reduceLE, Int.reduceLT, Int.reduceToNat, Int.reducePow, Int.reduceEq, f36]
      · simp only [go_sem, Nat.reduceEqDiff, Nat.reduceLT, Nat.reduceAdd, Nat.reduceLeDiff, Nat.reduceMul, Nat.reduceSub, Int.reduceLE, Int.reduceLT, Int.reduceToNat, Int.reducePow, Int.reduceEq, f41]
      · simp only [go_sem, Nat.reduceEqDiff, Nat.reduceLT, Nat.reduceAdd, Nat.reduceLeDiff, Nat.reduceMul, Nat.reduceSub, Int.reduceLE, Int.reduceLT, Int.reduceToNat, Int.reducePow, Int.reduceEq, f42]
      · simp only [go_sem, Nat.reduceEqDiff, Nat.reduceLT, Nat.reduceAdd, Nat.reduceLeDiff, Nat.reduceMul, Nat.reduceSub, Int.reduceLE, Int.reduceLT, Int.reduceToNat, Int.reducePow, Int.reduceEq]
      · intro k' w hk'
        show w ∈ upd ml k (ml k ++ [i]) k' ↔ _
        have h0 := hml k' w hk'
        have e1 : List.map Int.toNat [(k : Int)] = [k] := by simp
        by_cases hkk : k' = k
        · rw [hkk, upd_same, List.mem_append, ← hkk, h0, htq, List.map_append, List.mem_append, e1, List.mem_singleton, List.mem_singleton]
          constructor
          · rintro ((h1 | ⟨h1, h2⟩) | h1)
            · exact .inl h1
            · exact .inr ⟨h1, .inl h2⟩
            · exact .inr ⟨h1, .inr hkk⟩
          · rintro (h1 | ⟨h1, h2 | h2⟩)
            · exact .inl (.inl h1)
            · exact .inl (.inr ⟨h1, h2⟩)
            · exact .inr h1
        · rw [upd_ne _ _ hkk, h0, htq, List.map_append, List.mem_append, e1, List.mem_singleton]
          constructor
          · rintro (h1 | ⟨h1, h2⟩)
            · exact .inl h1
            · exact .inr ⟨h1, .inl h2⟩
          · rintro (h1 | ⟨h1, h2 | h2⟩)
            · exact .inl h1
            · exact .inr ⟨h1, h2⟩
            · exact absurd h2 hkk
      · intro k' hk'
        show (upd ml k (ml k ++ [i]) k').length ≤ _ + (q + 1)
        have h0 := hln k' hk'
        by_cases hkk : k' = k
        · rw [hkk, upd_same, List.length_append, List.length_singleton, ← hkk]; omega
        · rw [upd_ne _ _ hkk]; omega
    · have hlq' : ¬ (q : Int) < (row.length : Int) := by omega
      have hrq : row.take q = row := List.take_of_length_le (by omega)
      (repeat (first | refine W_seq ?_ | refine W_block ?_ | refine W_blk ?_ | refine W_skip ?_))
      (refine W_region [] (by rfl) fun K hK => ?_; simp only [go_sem, Nat.reduceEqDiff, Nat.reduceLT, Nat.reduceAdd, Nat.reduceLeDiff, Nat.reduceMul, Nat.reduceSub, Int.reduceLE, Int.reduceLT, Int.reduceToNat, Int.reducePow, Int.reduceEq, f42, f43, hlq'])
      (refine WRun.done _ _ (hK _ _ ?_); clear hK)
      (repeat (first | refine W_seq ?_ | refine W_block ?_ | refine W_blk ?_ | refine W_skip ?_))
      refine W_cond_false (by simp only [go_sem, Nat.reduceEqDiff, Nat.reduceLT, Nat.reduceAdd, Nat.reduceLeDiff, Nat.reduceMul, Nat.reduceSub, Int.reduceLE, Int.reduceLT, Int.reduceToNat, Int.reducePow, Int.reduceEq]) ?_
      refine W_exit (Qof_code (Qof_stop (Qof_blk_same ?_)))
      (repeat (first | refine W_seq ?_ | refine W_block ?_ | refine W_blk ?_ | refine W_skip ?_))
      (refine W_region [] (by rfl) fun K hK => ?_; simp only [go_sem, Nat.reduceEqDiff, Nat.reduceLT, Nat.reduceAdd, Nat.reduceLeDiff, Nat.reduceMul, Nat.reduceSub, Int.reduceLE, Int.reduceLT, Int.reduceToNat, Int.reducePow, Int.reduceEq, f36, hw1])
      (refine WRun.done _ _ (hK _ _ ?_); clear hK)
      refine W_stop ⟨(i + 1, t, ml), ⟨hlt, ?_, ?_, ?_, ?_, ?_, hbk, htg, ?_, ?_⟩, by show n - (i + 1) < n - i; omega⟩
      · simp only [go_sem, Nat.reduceEqDiff, Nat.reduceLT, Nat.reduceAdd, Nat.reduceLeDiff, Nat.reduceMul, Nat.reduceSub, Int.reduceLE, Int.reduceLT, Int.reduceToNat, Int.reducePow, Int.reduceEq, f3]
      · simp only [go_sem, Nat.reduceEqDiff, Nat.reduceLT, Nat.reduceAdd, Nat.reduceLeDiff, Nat.reduceMul, Nat.reduceSub, Int.reduceLE, Int.reduceLT, Int.reduceToNat, Int.reducePow, Int.reduceEq, f5]
      · simp only [go_sem, Nat.reduceEqDiff, Nat.reduceLT, Nat.reduceAdd, Nat.reduceLeDiff, Nat.reduceMul, Nat.reduceSub, Int.reduceLE, Int.reduceLT, Int.reduceToNat, Int.reducePow, Int.reduceEq, f34]
      · simp only [go_sem, Nat.reduceEqDiff, Nat.reduceLT, Nat.reduceAdd, Nat.reduceLeDiff, Nat.reduceMul, Nat.reduceSub, Int.reduceLE, Int.reduceLT, Int.reduceToNat, Int.reducePow, Int.reduceEq, f35]
      · simp only [go_sem, Nat.reduceEqDiff, Nat.reduceLT, Nat.reduceAdd, Nat.reduceLeDiff, Nat.reduceMul, Nat.reduceSub, Int.reduceLE, Int.reduceLT, Int.reduceToNat, Int.reducePow, Int.reduceEq]
      · intro k w hk
        show w ∈ ml k ↔ w < i + 1 ∧ _
        rw [hml k w hk, hrq]
        constructor
        · rintro (⟨h1, h2⟩ | ⟨rfl, h2⟩)
          · exact ⟨by omega, h2⟩
          · exact ⟨by omega, by rw [hadj]; exact h2⟩
        · rintro ⟨h1, h2⟩
          by_cases hwi : w = i
          · subst hwi; rw [hadj] at h2; exact .inr ⟨rfl, h2⟩
          · exact .inl ⟨by omega, h2⟩
      · intro k hk
        have := hln k hk
        show (ml k).length ≤ _
        rw [hsum]; omega
  · have hin : i = n := by omega
    subst hin
    have hlt' : ¬ (i : Int) < (i : Int) := by omega
    have hmlt : ∀ k w, k < i → w ∈ ml k → w < i := fun k w hk hw => ((hml k w hk).1 hw).1
    have hbok := backI_ok hmlt
    have hto2 : ToI M4 M4.length (.arr M3.length 0 i 1) (backI i ml) (cellsR i t ml) := by
      refine ⟨by rw [cellsR_len, backI_len], fun q l hq => ?_, .inr ⟨M3.length, lt_of_at hbk, by rw [backI_len], hbk⟩⟩
      have hqi : q < i := by have := (List.getElem?_eq_some_iff.1 hq).1; rwa [backI_len] at this
      rw [backI_at hqi] at hq
      injection hq with hq
      subst hq
      exact ⟨t q, by rw [cellsR_at t ml hqi, nats_ints]⟩
    (repeat (first | refine W_seq ?_ | refine W_block ?_ | refine W_blk ?_ | refine W_skip ?_))
    (refine W_region [] (by rfl) fun K hK => ?_; simp only [go_sem, Nat.reduceEqDiff, Nat.reduceLT, Nat.reduceAdd, Nat.reduceLeDiff, Nat.reduceMul, Nat.reduceSub, Int.reduceLE, Int.reduceLT, Int.reduceToNat, Int.reducePow, Int.reduceEq, f35, f36, hlt'])
    (refine WRun.done _ _ (hK _ _ ?_); clear hK)
    (repeat (first | refine W_seq ?_ | refine W_block ?_ | refine W_blk ?_ | refine W_skip ?_))
    refine W_cond_false (by simp only [go_sem, Nat.reduceEqDiff, Nat.reduceLT, Nat.reduceAdd, Nat.reduceLeDiff, Nat.reduceMul, Nat.reduceSub, Int.reduceLE, Int.reduceLT, Int.reduceToNat, Int.reducePow, Int.reduceEq]) ?_
    refine W_exit (Qof_code (Qof_stop (Qof_blk_same ?_)))
    (repeat (first | refine W_seq ?_ | refine W_block ?_ | refine W_blk ?_ | refine W_skip ?_))
    (refine W_region [] (by rfl) fun K hK => ?_; simp only [go_sem, Nat.reduceEqDiff, Nat.reduceLT, Nat.reduceAdd, Nat.reduceLeDiff, Nat.reduceMul, Nat.reduceSub, Int.reduceLE, Int.reduceLT, Int.reduceToNat, Int.reducePow, Int.reduceEq, f5])
    refine WRun.call _ _ _ _ _ _ _ (groups_ok hto2 (by rw [backI_len]; omega) (fun l hl => ?_)) ?_
    · obtain ⟨k, hk, rfl⟩ := List.mem_map.1 hl
      have h0 := hln k (List.mem_range.1 hk)
      have h1 : to.take i = to := List.take_of_length_le (by omega)
      rw [h1] at h0
      simp; omega
    rintro r2 M5 ⟨hs2, _, _⟩
    simp only [GroupsSaid, hbok, if_true] at hs2
    obtain ⟨tg2, rs2, l2, rfl, hr2, hq2⟩ := hs2
    have hadj2 : ∀ a k, k ∈ adj (toN (backI i ml)) a ↔ a ∈ adj (toN to) k := by
      intro a k
      by_cases ha : a < i
      · rw [backI_adj ha, hml a k ha]
        constructor
        · exact fun h => h.2
        · intro h
          refine ⟨?_, h⟩
          apply Classical.byContradiction
          intro hc
          have : to[k]? = none := List.getElem?_eq_none (by omega)
          rw [adj_toN, this] at h
          simp at h
      · constructor
        · intro h
          have : (backI i ml)[a]? = none := List.getElem?_eq_none (by rw [backI_len]; omega)
          rw [adj_toN, this] at h
          simp at h
        · intro h
          have := hgood k a h
          omega
    obtain ⟨hll, hsub⟩ := Seq.turned hgood (toN_good hbok) (by rw [toN_len, toN_len, backI_len]; omega) hadj2 hq1 hq2
    have hl40 : l1.length ≤ 40 := by have := hq1.len; have := left_le (to := toN to) (fun _ => false); omega
    have hgl : ∀ g ∈ l1, g.length ≤ 40 := fun g hg => by
      obtain ⟨i, _, _, rfl⟩ := hq1.mem g hg
      have := cls_len (to := toN to) i
      omega
    have L1 := hr1.1
    have L2 := hr2.1
    have hz : ((rs1.length : Int) = (rs2.length : Int)) = True := eq_true (by omega)
    simp only [go_sem, Nat.reduceEqDiff, Nat.reduceLT, Nat.reduceAdd, Nat.reduceLeDiff, Nat.reduceMul, Nat.reduceSub, Int.reduceLE, Int.reduceLT, Int.reduceToNat, Int.reducePow, Int.reduceEq]
    (refine WRun.done _ _ (hK _ _ ?_); clear hK)
    (repeat (first | refine W_seq ?_ | refine W_block ?_ | refine W_blk ?_ | refine W_skip ?_))
    (refine W_region [] (by rfl) fun K hK => ?_; simp only [go_sem, Nat.reduceEqDiff, Nat.reduceLT, Nat.reduceAdd, Nat.reduceLeDiff, Nat.reduceMul, Nat.reduceSub, Int.reduceLE, Int.reduceLT, Int.reduceToNat, Int.reducePow, Int.reduceEq, f3, hz])
    (refine WRun.done _ _ (hK _ _ ?_); clear hK)
    refine W_cond_false (by simp only [go_sem, Nat.reduceEqDiff, Nat.reduceLT, Nat.reduceAdd, Nat.reduceLeDiff, Nat.reduceMul, Nat.reduceSub, Int.reduceLE, Int.reduceLT, Int.reduceToNat, Int.reducePow, Int.reduceEq]) ?_
    (repeat (first | refine W_seq ?_ | refine W_block ?_ | refine W_blk ?_ | refine W_skip ?_))
    (refine W_region [] (by rfl) fun K hK => ?_; simp only [go_sem, Nat.reduceEqDiff, Nat.reduceLT, Nat.reduceAdd, Nat.reduceLeDiff, Nat.reduceMul, Nat.reduceSub, Int.reduceLE, Int.reduceLT, Int.reduceToNat, Int.reducePow, Int.reduceEq, f3])
    (refine WRun.done _ _ (hK _ _ ?_); clear hK)
    (repeat (first | refine W_seq ?_ | refine W_block ?_ | refine W_blk ?_ | refine W_skip ?_))
    refine W_loop (α := Nat) (fun q F' _ => q ≤ l1.length ∧ look F' 10 = .list tg2 rs2 ∧ look F' 73 = .list tg1 rs1 ∧ look F' 74 = V.int l1.length ∧ look F' 75 = V.int q) (fun q => l1.length - q) 0 ⟨Nat.zero_le _, ?_, ?_, ?_, ?_⟩ ?_
    · simp only [go_sem, Nat.reduceEqDiff, Nat.reduceLT, Nat.reduceAdd, Nat.reduceLeDiff, Nat.reduceMul, Nat.reduceSub, Int.reduceLE, Int.reduceLT, Int.reduceToNat, Int.reducePow, Int.reduceEq]
    · simp only [go_sem, Nat.reduceEqDiff, Nat.reduceLT, Nat.reduceAdd, Nat.reduceLeDiff, Nat.reduceMul, Nat.reduceSub, Int.reduceLE, Int.reduceLT, Int.reduceToNat, Int.reducePow, Int.reduceEq]
    · simp only [go_sem, Nat.reduceEqDiff, Nat.reduceLT, Nat.reduceAdd, Nat.reduceLeDiff, Nat.reduceMul, Nat.reduceSub, Int.reduceLE, Int.reduceLT, Int.reduceToNat, Int.reducePow, Int.reduceEq, L1]
    · simp only [go_sem, Nat.reduceEqDiff, Nat.reduceLT, Nat.reduceAdd, Nat.reduceLeDiff, Nat.reduceMul, Nat.reduceSub, Int.reduceLE, Int.reduceLT, Int.reduceToNat, Int.reducePow, Int.reduceEq]
    clear f3 f5 f34 f35 f36 F
    rintro q F M6 ⟨hq, f10, f73, f74, f75⟩
    by_cases hlq : q < l1.length
    · have hlq' : (q : Int) < (l1.length : Int) := by omega
      have hlq1 : (q : Int) < (rs1.length : Int) := by omega
      have hw1 : IntKind.i64.wrap ((q : Int) + 1) = ((q + 1 : Nat) : Int) := by rw [wrapI _ (by omega) (by omega)]; omega
      obtain ⟨g, hg⟩ : ∃ g, l1[q]? = some g := ⟨_, List.getElem?_eq_getElem hlq⟩
      have hgm := List.mem_of_getElem? hg
      have hg40 := hgl g hgm
      obtain ⟨u1, p1⟩ := hr1.2 q g hg
      have hcell : (M6 ++ [AObj.cells [V.list u1 (nats g)]])[M6.length]? = some (.cells [V.list u1 (nats g)]) := by simp
      (repeat (first | refine W_seq ?_ | refine W_block ?_ | refine W_blk ?_ | refine W_skip ?_))
      (refine W_region [] (by rfl) fun K hK => ?_; simp only [go_sem, Nat.reduceEqDiff, Nat.reduceLT, Nat.reduceAdd, Nat.reduceLeDiff, Nat.reduceMul, Nat.reduceSub, Int.reduceLE, Int.reduceLT, Int.reduceToNat, Int.reducePow, Int.reduceEq, f74, f75, hlq'])
      (refine WRun.done _ _ (hK _ _ ?_); clear hK)
      (repeat (first | refine W_seq ?_ | refine W_block ?_ | refine W_blk ?_ | refine W_skip ?_))
      refine W_cond_true (by simp only [go_sem, Nat.reduceEqDiff, Nat.reduceLT, Nat.reduceAdd, Nat.reduceLeDiff, Nat.reduceMul, Nat.reduceSub, Int.reduceLE, Int.reduceLT, Int.reduceToNat, Int.reducePow, Int.reduceEq]) ?_
      (repeat (first | refine W_seq ?_ | refine W_block ?_ | refine W_blk ?_ | refine W_skip ?_))
      (refine W_region [] (by rfl) fun K hK => ?_; simp only [go_sem, Nat.reduceEqDiff, Nat.reduceLT, Nat.reduceAdd, Nat.reduceLeDiff, Nat.reduceMul, Nat.reduceSub, Int.reduceLE, Int.reduceLT, Int.reduceToNat, Int.reducePow, Int.reduceEq, f73, f75, hlq1, p1, at_left, set_left, Int.natCast_nonneg, Int.toNat_natCast, List.head?_drop])
      (refine WRun.done _ _ (hK _ _ ?_); clear hK)
      (repeat (first | refine W_seq ?_ | refine W_block ?_ | refine W_blk ?_ | refine W_skip ?_))
      (refine W_region [] (by rfl) fun K hK => ?_; simp only [go_sem, Nat.reduceEqDiff, Nat.reduceLT, Nat.reduceAdd, Nat.reduceLeDiff, Nat.reduceMul, Nat.reduceSub, Int.reduceLE, Int.reduceLT, Int.reduceToNat, Int.reducePow, Int.reduceEq, f10])
      refine WRun.call _ _ _ _ _ _ _ (contains2_ok tg2 u1 rs2 l2 hr2 g (hsub g hgm) (by omega) (by omega) M6.length _ hcell) ?_
      rintro r M7 ⟨rfl, rfl⟩
      simp only [go_sem, Nat.reduceEqDiff, Nat.reduceLT, Nat.reduceAdd, Nat.reduceLeDiff, Nat.reduceMul, Nat.reduceSub, Int.reduceLE, Int.reduceLT, Int.reduceToNat, Int.reducePow, Int.reduceEq]
      (refine WRun.done _ _ (hK _ _ ?_); clear hK)
      (repeat (first | refine W_seq ?_ | refine W_block ?_ | refine W_blk ?_ | refine W_skip ?_))
      refine W_cond_false (by simp only [go_sem, Nat.reduceEqDiff, Nat.reduceLT, Nat.reduceAdd, Nat.reduceLeDiff, Nat.reduceMul, Nat.reduceSub, Int.reduceLE, Int.reduceLT, Int.reduceToNat, Int.reducePow, Int.reduceEq]) ?_
      (repeat (first | refine W_seq ?_ | refine W_block ?_ | refine W_blk ?_ | refine W_skip ?_))
      (refine W_region [] (by rfl) fun K hK => ?_; simp only [go_sem, Nat.reduceEqDiff, Nat.reduceLT, Nat.reduceAdd, Nat.reduceLeDiff, Nat.reduceMul, Nat.reduceSub, Int.reduceLE, Int.reduceLT, Int.reduceToNat, Int.reducePow, Int.reduceEq, f75, hw1])
      (refine WRun.done _ _ (hK _ _ ?_); clear hK)
      refine W_stop ⟨q + 1, ⟨hlq, ?_, ?_, ?_, ?_⟩, by omega⟩
      · simp only [go_sem, Nat.reduceEqDiff, Nat.reduceLT, Nat.reduceAdd, Nat.reduceLeDiff, Nat.reduceMul, Nat.reduceSub, Int.reduceLE, Int.reduceLT, Int.reduceToNat, Int.reducePow, Int.reduceEq, f10]
      · simp only [go_sem, Nat.reduceEqDiff, Nat.reduceLT, Nat.reduceAdd, Nat.reduceLeDiff, Nat.reduceMul, Nat.reduceSub, Int.reduceLE, Int.reduceLT, Int.reduceToNat, Int.reducePow, Int.reduceEq, f73]
      · simp only [go_sem, Nat.reduceEqDiff, Nat.reduceLT, Nat.reduceAdd, Nat.reduceLeDiff, Nat.reduceMul, Nat.reduceSub, Int.reduceLE, Int.reduceLT, Int.reduceToNat, Int.reducePow, Int.reduceEq, f74]
      · simp only [go_sem, Nat.reduceEqDiff, Nat.reduceLT, Nat.reduceAdd, Nat.reduceLeDiff, Nat.reduceMul, Nat.reduceSub, Int.reduceLE, Int.reduceLT, Int.reduceToNat, Int.reducePow, Int.reduceEq]
    · have hlq' : ¬ (q : Int) < (l1.length : Int) := by omega
      (repeat (first | refine W_seq ?_ | refine W_block ?_ | refine W_blk ?_ | refine W_skip ?_))
      (refine W_region [] (by rfl) fun K hK => ?_; simp only [go_sem, Nat.reduceEqDiff, Nat.reduceLT, Nat.reduceAdd, Nat.reduceLeDiff, Nat.reduceMul, Nat.reduceSub, Int.reduceLE, Int.reduceLT, Int.reduceToNat, Int.reducePow, Int.reduceEq, f74, f75, hlq'])
      (refine WRun.done _ _ (hK _ _ ?_); clear hK)
      (repeat (first | refine W_seq ?_ | refine W_block ?_ | refine W_blk ?_ | refine W_skip ?_))
      refine W_cond_false (by simp only [go_sem, Nat.reduceEqDiff, Nat.reduceLT, Nat.reduceAdd, Nat.reduceLeDiff, Nat.reduceMul, Nat.reduceSub, Int.reduceLE, Int.reduceLT, Int.reduceToNat, Int.reducePow, Int.reduceEq]) ?_
      refine W_exit (Qof_code (Qof_stop (Qof_blk_same ?_)))
      (repeat (first | refine W_seq ?_ | refine W_block ?_ | refine W_blk ?_ | refine W_skip ?_))
      (refine W_region [] (by rfl) fun K hK => ?_; simp only [go_sem, Nat.reduceEqDiff, Nat.reduceLT, Nat.reduceAdd, Nat.reduceLeDiff, Nat.reduceMul, Nat.reduceSub, Int.reduceLE, Int.reduceLT, Int.reduceToNat, Int.reducePow, Int.reduceEq])
      (refine WRun.done _ _ (hK _ _ ?_); clear hK)
      refine W_ret ?_
      simp only [go_sem, Nat.reduceEqDiff, Nat.reduceLT, Nat.reduceAdd, Nat.reduceLeDiff, Nat.reduceMul, Nat.reduceSub, Int.reduceLE, Int.reduceLT, Int.reduceToNat, Int.reducePow, Int.reduceEq]
end Go.Ax

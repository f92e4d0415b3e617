import Derived.Test.YthbojmoiimknhaaOrY
import Derived.Test.YthbojmoiimknhaaOrRg
import Derived.Test.YthbojmoiimknhaaOrP
set_option linter.unusedSimpArgs false
set_option linter.unusedVariables false
namespace Go.Ax
open Go.Proofs Go.Ord
noncomputable def body9 : Code := Try.f9.body.getD .skip

def ringI (k : Nat) : List (List Int) := (List.range k).map fun i => [(((i + 1) % k : Nat) : Int)]
def chainI (k : Nat) : List (List Int) := (List.range k).map fun i => if i + 1 = k then [] else [((i + 1 : Nat) : Int)]
theorem ringI_N (k : Nat) : toN (ringI k) = ring k := by
  simp only [toN, ringI, ring, List.map_map]
  apply List.map_congr_left
  intro i _
  show [Int.toNat (((i + 1) % k : Nat) : Int)] = _
  rw [Int.toNat_natCast]
theorem chainI_N (k : Nat) : toN (chainI k) = chain k := by
  simp only [toN, chainI, chain, List.map_map]
  apply List.map_congr_left
  intro i _
  show List.map Int.toNat (if i + 1 = k then [] else [((i + 1 : Nat) : Int)]) = _
  by_cases h : i + 1 = k
  · rw [if_pos h, if_pos h]; rfl
  · rw [if_neg h, if_neg h]; rfl
theorem ringI_len (k : Nat) : (ringI k).length = k := by simp [ringI]
theorem chainI_len (k : Nat) : (chainI k).length = k := by simp [chainI]
theorem ringI_ok (k : Nat) : okTo (ringI k) = true := by
  simp only [okTo, List.all_eq_true, ringI_len]
  intro l hl z hz
  obtain ⟨i, hi, rfl⟩ := List.mem_map.1 hl
  have hi := List.mem_range.1 hi
  have hz : z = (((i + 1) % k : Nat) : Int) := by simpa using hz
  have := Nat.mod_lt (i + 1) (show 0 < k by omega)
  rw [hz]
  simp only [okNum, Bool.and_eq_true, decide_eq_true_eq]
  exact ⟨Int.natCast_nonneg _, Int.ofNat_lt.2 this⟩
theorem chainI_ok (k : Nat) : okTo (chainI k) = true := by
  simp only [okTo, List.all_eq_true, chainI_len]
  intro l hl z hz
  obtain ⟨i, hi, rfl⟩ := List.mem_map.1 hl
  have hi := List.mem_range.1 hi
  split at hz
  · cases hz
  · have hz : z = ((i + 1 : Nat) : Int) := by simpa using hz
    simp [okNum, hz]; omega

/-- The rows so far. -/
def rowsK (k i : Nat) : List V := (List.range i).map fun q => V.list .full [V.int (((q + 1) % k : Nat) : Int)]
theorem rowsK_succ (k i : Nat) : rowsK k i ++ [V.list .full [V.int (((i + 1) % k : Nat) : Int)]] = rowsK k (i + 1) := by simp [rowsK, List.range_succ]
theorem rowsK_len (k i : Nat) : (rowsK k i).length = i := by simp [rowsK]
theorem rowsK_at {k i q : Nat} (h : q < i) : (rowsK k i)[q]? = some (V.list .full [V.int (((q + 1) % k : Nat) : Int)]) := by simp [rowsK, h]

theorem tail_grow {M M' : AMem} {B : Nat} {tg : Tag} (h : TailOk M B tg) (hk : ∀ j, j < M.length → M'[j]? = M[j]?) : TailOk M' B tg := by
  rcases h with h | ⟨j, h1, h2, h3⟩
  · exact .inl h
  · exact .inr ⟨j, h1, h2, by rw [hk j (lt_of_at h3)]; exact h3⟩

/-- One thing more is noted, at both ends. -/
theorem ring_r10 {Ret : Fr → AMem → Prop} {k0 : List It} {M : AMem} {k i a : Nat} {ta tb : Tag} {toV : V} (hi : i ≤ 40) (hta : TailOk M 0 ta) (ha : ∃ cs, M[a]? = some (.cells cs)) (F : Fr) (f3 : look F 3 = V.int k) (f4 : look F 4 = toV) (f5 : look F 5 = .list ta (nats (List.range i))) (f6 : look F 6 = .list tb (nats (List.range i).reverse)) (f7 : look F 7 = V.int i) (f20 : look F 20 = V.int k) (f21 : look F 21 = V.int i)
    (hk : ∀ F' M' ta' tb', look F' 3 = V.int k → look F' 4 = toV → look F' 5 = .list ta' (nats (List.range (i + 1))) → look F' 6 = .list tb' (nats (List.range (i + 1)).reverse) → look F' 20 = V.int k → look F' 21 = V.int i → TailOk M' 0 ta' → M'[a]? = M[a]? → W Try.prog 101 Ret k0 F' M') :
    W Try.prog 101 Ret (.code (part [1,1,1,1,1,0,1,1,1,1,1,0,1,1,1] body9) :: k0) F M := by
  have hra : nats (List.range i) ++ [V.int (i : Int)] = nats (List.range (i + 1)) := by rw [nats_snoc, List.range_succ]
  have hrb : V.int (i : Int) :: nats (List.range i).reverse = nats (List.range (i + 1)).reverse := by rw [List.range_succ, List.reverse_append]; rfl
  have hcx := nats_cells (List.range i)
  have hll : i + 1 ≤ 1073741824 := by omega
  have hlb : 1 + i ≤ 1073741824 := by omega
  have hlb2 : i + 1 ≤ 1073741824 := by omega
  have hnc : (∀ y ∈ nats (List.range i).reverse, y.cells.length = 1 ∧ y.okv = true) = True := eq_true (by
    intro y hy
    obtain ⟨k, _, rfl⟩ := List.mem_map.1 hy
    exact ⟨rfl, rfl⟩)
  have hto := hta.ok
  obtain ⟨cs, ha⟩ := ha
  (refine W_region [] (by rfl) fun K hK => ?_; simp only [go_sem, Nat.reduceEqDiff, Nat.reduceLT, Nat.reduceAdd, Nat.reduceLeDiff, Nat.reduceMul, Nat.reduceSub, Int.reduceLE, Int.reduceLT, Int.reduceToNat, Int.reducePow, Int.reduceEq, f5, f6, f7, hto, hcx, hll, hlb, hnc, hra, hrb, nats_len, List.length_range, List.length_reverse])
  (refine WRun.done _ _ (hK _ _ ?_); clear hK)
  refine hk _ _ (.own M.length) (.own (M.length + 1)) ?_ ?_ ?_ ?_ ?_ ?_ ?_ ?_
  · simp only [go_sem, Nat.reduceEqDiff, Nat.reduceLT, Nat.reduceAdd, Nat.reduceLeDiff, Nat.reduceMul, Nat.reduceSub, Int.reduceLE, Int.reduceLT, Int.reduceToNat, Int.reducePow, Int.reduceEq, f3]
  · simp only [go_sem, Nat.reduceEqDiff, Nat.reduceLT, Nat.reduceAdd, Nat.reduceLeDiff, Nat.reduceMul, Nat.reduceSub, Int.reduceLE, Int.reduceLT, Int.reduceToNat, Int.reducePow, Int.reduceEq, f4]
  · simp only [go_sem, Nat.reduceEqDiff, Nat.reduceLT, Nat.reduceAdd, Nat.reduceLeDiff, Nat.reduceMul, Nat.reduceSub, Int.reduceLE, Int.reduceLT, Int.reduceToNat, Int.reducePow, Int.reduceEq]
  · simp only [go_sem, Nat.reduceEqDiff, Nat.reduceLT, Nat.reduceAdd, Nat.reduceLeDiff, Nat.reduceMul, Nat.reduceSub, Int.reduceLE, Int.reduceLT, Int.reduceToNat, Int.reducePow, Int.reduceEq, dropTag_sz]
  · simp only [go_sem, Nat.reduceEqDiff, Nat.reduceLT, Nat.reduceAdd, Nat.reduceLeDiff, Nat.reduceMul, Nat.reduceSub, Int.reduceLE, Int.reduceLT, Int.reduceToNat, Int.reducePow, Int.reduceEq, f20]
  · simp only [go_sem, Nat.reduceEqDiff, Nat.reduceLT, Nat.reduceAdd, Nat.reduceLeDiff, Nat.reduceMul, Nat.reduceSub, Int.reduceLE, Int.reduceLT, Int.reduceToNat, Int.reducePow, Int.reduceEq, f21]
  · refine .inr ⟨M.length, rfl, Nat.zero_le _, ?_⟩
    rw [List.getElem?_append_left (by simp [dropTag_sz]), List.getElem?_append_right (by rw [dropTag_sz]; exact Nat.le_refl _)]
    simp [dropTag_sz]
  · have hal := lt_of_at ha
    rw [List.getElem?_append_left (by simp [dropTag_sz]; omega), List.getElem?_append_left (by rw [dropTag_sz]; exact hal), dropTag_ne _ _ (hta.ne_cells ha)]

theorem cast1 : ((1 : Nat) : Int) = 1 := rfl

theorem order_rings_law (M : AMem) (b : Nat) (hb : b < 256) : ACalls Try.prog 9 [.prim (.int .u8 (b : Int))] M (fun r _ => r = V.bool true) := by
  refine acalls_enter [.tmp 2] 101 Try.func9 rfl rfl rfl (by simp) ?_
  have hrm : ((b : Int).tmod 40) = ((b % 40 : Nat) : Int) := rfl
  have hb40 : b % 40 < 40 := Nat.mod_lt _ (by omega)
  obtain ⟨k, hkk⟩ : ∃ k, k = 1 + b % 40 := ⟨_, rfl⟩
  have hk1 : 1 ≤ k := by omega
  have hk40 : k ≤ 40 := by omega
  have hcv : IntKind.i64.wrap ((b % 40 : Nat) : Int) = ((b % 40 : Nat) : Int) := wrapI _ (by omega) (by omega)
  have had : IntKind.i64.wrap (1 + ((b % 40 : Nat) : Int)) = (k : Int) := by rw [wrapI _ (by omega) (by omega)]; omega
  (repeat (first | refine W_seq ?_ | refine W_block ?_ | refine W_blk ?_ | refine W_skip ?_))
  (refine W_region [] (by rfl) fun K hK => ?_; simp only [go_sem, Nat.reduceEqDiff, Nat.reduceLT, Nat.reduceAdd, Nat.reduceLeDiff, Nat.reduceMul, Nat.reduceSub, Int.reduceLE, Int.reduceLT, Int.reduceToNat, Int.reducePow, Int.reduceEq])
  (refine WRun.done _ _ (hK _ _ ?_); clear hK)
  (repeat (first | refine W_seq ?_ | refine W_block ?_ | refine W_blk ?_ | refine W_skip ?_))
  (refine W_region [] (by rfl) fun K hK => ?_; simp only [go_sem, Nat.reduceEqDiff, Nat.reduceLT, Nat.reduceAdd, Nat.reduceLeDiff, Nat.reduceMul, Nat.reduceSub, Int.reduceLE, Int.reduceLT, Int.reduceToNat, Int.reducePow, Int.reduceEq])
  refine WRun.call _ _ _ _ _ _ _ (order_lives M) ?_
  rintro r M1 ⟨rfl, hl1, _⟩
  simp only [go_sem, Nat.reduceEqDiff, Nat.reduceLT, Nat.reduceAdd, Nat.reduceLeDiff, Nat.reduceMul, Nat.reduceSub, Int.reduceLE, Int.reduceLT, Int.reduceToNat, Int.reducePow, Int.reduceEq]
  (refine WRun.done _ _ (hK _ _ ?_); clear hK)
  (repeat (first | refine W_seq ?_ | refine W_block ?_ | refine W_blk ?_ | refine W_skip ?_))
  refine W_cond_false (by simp only [go_sem, Nat.reduceEqDiff, Nat.reduceLT, Nat.reduceAdd, Nat.reduceLeDiff, Nat.reduceMul, Nat.reduceSub, Int.reduceLE, Int.reduceLT, Int.reduceToNat, Int.reducePow, Int.reduceEq]) ?_
  (repeat (first | refine W_seq ?_ | refine W_block ?_ | refine W_blk ?_ | refine W_skip ?_))
  (refine W_region [] (by rfl) fun K hK => ?_; simp only [go_sem, Nat.reduceEqDiff, Nat.reduceLT, Nat.reduceAdd, Nat.reduceLeDiff, Nat.reduceMul, Nat.reduceSub, Int.reduceLE, Int.reduceLT, Int.reduceToNat, Int.reducePow, Int.reduceEq, ne_eq, not_false_eq_true, hrm, hcv, had])
  (refine WRun.done _ _ (hK _ _ ?_); clear hK)
  (repeat (first | refine W_seq ?_ | refine W_block ?_ | refine W_blk ?_ | refine W_skip ?_))
  (refine W_region [] (by rfl) fun K hK => ?_; simp only [go_sem, Nat.reduceEqDiff, Nat.reduceLT, Nat.reduceAdd, Nat.reduceLeDiff, Nat.reduceMul, Nat.reduceSub, Int.reduceLE, Int.reduceLT, Int.reduceToNat, Int.reducePow, Int.reduceEq])
  (refine WRun.done _ _ (hK _ _ ?_); clear hK)
  (repeat (first | refine W_seq ?_ | refine W_block ?_ | refine W_blk ?_ | refine W_skip ?_))
  (refine W_region [] (by rfl) fun K hK => ?_; simp only [go_sem, Nat.reduceEqDiff, Nat.reduceLT, Nat.reduceAdd, Nat.reduceLeDiff, Nat.reduceMul, Nat.reduceSub, Int.reduceLE, Int.reduceLT, Int.reduceToNat, Int.reducePow, Int.reduceEq])
  (refine WRun.done _ _ (hK _ _ ?_); clear hK)
  (repeat (first | refine W_seq ?_ | refine W_block ?_ | refine W_blk ?_ | refine W_skip ?_))
  (refine W_region [] (by rfl) fun K hK => ?_; simp only [go_sem, Nat.reduceEqDiff, Nat.reduceLT, Nat.reduceAdd, Nat.reduceLeDiff, Nat.reduceMul, Nat.reduceSub, Int.reduceLE, Int.reduceLT, Int.reduceToNat, Int.reducePow, Int.reduceEq])
  (refine WRun.done _ _ (hK _ _ ?_); clear hK)
  (repeat (first | refine W_seq ?_ | refine W_block ?_ | refine W_blk ?_ | refine W_skip ?_))
  refine W_loop (α := Nat × Option Nat × Tag × Tag) (fun q F' M' => q.1 ≤ k ∧ look F' 3 = V.int k ∧ look F' 4 = wordsV q.2.1 q.1 ∧ look F' 5 = .list q.2.2.1 (nats (List.range q.1)) ∧ look F' 6 = .list q.2.2.2 (nats (List.range q.1).reverse) ∧ look F' 20 = V.int k ∧ look F' 21 = V.int q.1 ∧
      (q.2.1 = none → q.1 = 0) ∧ (∀ j, q.2.1 = some j → M'[j]? = some (.cells (rowsK k q.1))) ∧ TailOk M' 0 q.2.2.1)
    (fun q => k - q.1) (0, none, .full, .full) ⟨Nat.zero_le _, ?_, ?_, ?_, ?_, ?_, ?_, fun _ => rfl, fun j e => (by cases e), .inl rfl⟩ ?_
  · simp only [go_sem, Nat.reduceEqDiff, Nat.reduceLT, Nat.reduceAdd, Nat.reduceLeDiff, Nat.reduceMul, Nat.reduceSub, Int.reduceLE, Int.reduceLT, Int.reduceToNat, Int.reducePow, Int.reduceEq]
  · simp only [go_sem, Nat.reduceEqDiff, Nat.reduceLT, Nat.reduceAdd, Nat.reduceLeDiff, Nat.reduceMul, Nat.reduceSub, Int.reduceLE, Int.reduceLT, Int.reduceToNat, Int.reducePow, Int.reduceEq]
    rfl
  · simp only [go_sem, Nat.reduceEqDiff, Nat.reduceLT, Nat.reduceAdd, Nat.reduceLeDiff, Nat.reduceMul, Nat.reduceSub, Int.reduceLE, Int.reduceLT, Int.reduceToNat, Int.reducePow, Int.reduceEq]
    rfl
  · simp only [go_sem, Nat.reduceEqDiff, Nat.reduceLT, Nat.reduceAdd, Nat.reduceLeDiff, Nat.reduceMul, Nat.reduceSub, Int.reduceLE, Int.reduceLT, Int.reduceToNat, Int.reducePow, Int.reduceEq]
    rfl
  · simp only [go_sem, Nat.reduceEqDiff, Nat.reduceLT, Nat.reduceAdd, Nat.reduceLeDiff, Nat.reduceMul, Nat.reduceSub, Int.reduceLE, Int.reduceLT, Int.reduceToNat, Int.reducePow, Int.reduceEq]
  · simp only [go_sem, Nat.reduceEqDiff, Nat.reduceLT, Nat.reduceAdd, Nat.reduceLeDiff, Nat.reduceMul, Nat.reduceSub, Int.reduceLE, Int.reduceLT, Int.reduceToNat, Int.reducePow, Int.reduceEq]
  clear had hcv hrm
  rintro ⟨i, sk, ta, tb⟩ F M2 ⟨hi, f3, f4, f5, f6, f20, f21, hN, hS, hta⟩
  simp only at hi f4 f5 f6 f21 hN hS hta
  by_cases hlt : i < k
  · have hlt' : (i : Int) < (k : Int) := by omega
    have hk0 : ((k : Int) = 0) = False := eq_false (by omega)
    have hw1 : IntKind.i64.wrap ((i : Int) + 1) = ((i + 1 : Nat) : Int) := by rw [wrapI _ (by omega) (by omega)]; omega
    have hrm : (((i + 1 : Nat) : Int).tmod (k : Int)) = (((i + 1) % k : Nat) : Int) := rfl
    have hrs := rowsK_succ k i
    have hc1 : (∀ y ∈ ([V.list .full [V.int (((i + 1) % k : Nat) : Int)]] : List V), y.cells.length = 1 ∧ y.okv = true) = True := eq_true (by simp [V.cells, V.okv, V.one])
    have hl1 : i + 1 ≤ 1073741824 := by omega
    (repeat (first | refine W_seq ?_ | refine W_block ?_ | refine W_blk ?_ | refine W_skip ?_))
    (refine W_region [] (by rfl) fun K hK => ?_; simp only [go_sem, Nat.reduceEqDiff, Nat.reduceLT, Nat.reduceAdd, Nat.reduceLeDiff, Nat.reduceMul, Nat.reduceSub, Int.reduceLE, Int.reduceLT, Int.reduceToNat, Int.reducePow, Int.reduceEq, f20, f21, hlt'])
    (refine WRun.done _ _ (hK _ _ ?_); clear hK)
    (repeat (first | refine W_seq ?_ | refine W_block ?_ | refine W_blk ?_ | refine W_skip ?_))
    refine W_cond_true (by simp only [go_sem, Nat.reduceEqDiff, Nat.reduceLT, Nat.reduceAdd, Nat.reduceLeDiff, Nat.reduceMul, Nat.reduceSub, Int.reduceLE, Int.reduceLT, Int.reduceToNat, Int.reducePow, Int.reduceEq]) ?_
    (repeat (first | refine W_seq ?_ | refine W_block ?_ | refine W_blk ?_ | refine W_skip ?_))
    (refine W_region [] (by rfl) fun K hK => ?_; simp only [go_sem, Nat.reduceEqDiff, Nat.reduceLT, Nat.reduceAdd, Nat.reduceLeDiff, Nat.reduceMul, Nat.reduceSub, Int.reduceLE, Int.reduceLT, Int.reduceToNat, Int.reducePow, Int.reduceEq, f21])
    (refine WRun.done _ _ (hK _ _ ?_); clear hK)
    (repeat (first | refine W_seq ?_ | refine W_block ?_ | refine W_blk ?_ | refine W_skip ?_))
    cases sk with
    | none =>
      have hi0 := hN rfl
      subst hi0
      have hM3 : (M2 ++ [.cells (rowsK k (0 + 1))])[M2.length]? = some (.cells (rowsK k (0 + 1))) := by simp
      have hta3 : TailOk (M2 ++ [.cells (rowsK k (0 + 1))]) 0 ta := tail_grow hta fun j hj => List.getElem?_append_left hj
      have hc2 : cellsL [V.list .full [V.int (((0 + 1) % k : Nat) : Int)]] = rowsK k (0 + 1) := rfl
      (refine W_region [31] (by rfl) fun K hK => ?_; simp only [go_sem, Nat.reduceEqDiff, Nat.reduceLT, Nat.reduceAdd, Nat.reduceLeDiff, Nat.reduceMul, Nat.reduceSub, Int.reduceLE, Int.reduceLT, Int.reduceToNat, Int.reducePow, Int.reduceEq, f3, f4, wordsV, hw1, hk0, ne_eq, not_false_eq_true, hrm, hc2])
      (refine WRun.done _ _ (hK _ _ ?_); clear hK)
      refine ring_r10 (k := k) (i := 0) (ta := ta) (tb := tb) (a := M2.length) (toV := .arr M2.length 0 (0 + 1) 1) (by omega) ?_ ⟨_, hM3⟩ _ ?_ ?_ ?_ ?_ ?_ ?_ ?_ ?_
      · exact hta3
      · simp only [go_sem, Nat.reduceEqDiff, Nat.reduceLT, Nat.reduceAdd, Nat.reduceLeDiff, Nat.reduceMul, Nat.reduceSub, Int.reduceLE, Int.reduceLT, Int.reduceToNat, Int.reducePow, Int.reduceEq, f3]
      · simp only [go_sem, Nat.reduceEqDiff, Nat.reduceLT, Nat.reduceAdd, Nat.reduceLeDiff, Nat.reduceMul, Nat.reduceSub, Int.reduceLE, Int.reduceLT, Int.reduceToNat, Int.reducePow, Int.reduceEq, List.length_set]
      · simp only [go_sem, Nat.reduceEqDiff, Nat.reduceLT, Nat.reduceAdd, Nat.reduceLeDiff, Nat.reduceMul, Nat.reduceSub, Int.reduceLE, Int.reduceLT, Int.reduceToNat, Int.reducePow, Int.reduceEq, f5]
      · simp only [go_sem, Nat.reduceEqDiff, Nat.reduceLT, Nat.reduceAdd, Nat.reduceLeDiff, Nat.reduceMul, Nat.reduceSub, Int.reduceLE, Int.reduceLT, Int.reduceToNat, Int.reducePow, Int.reduceEq, f6]
      · simp only [go_sem, Nat.reduceEqDiff, Nat.reduceLT, Nat.reduceAdd, Nat.reduceLeDiff, Nat.reduceMul, Nat.reduceSub, Int.reduceLE, Int.reduceLT, Int.reduceToNat, Int.reducePow, Int.reduceEq]
      · simp only [go_sem, Nat.reduceEqDiff, Nat.reduceLT, Nat.reduceAdd, Nat.reduceLeDiff, Nat.reduceMul, Nat.reduceSub, Int.reduceLE, Int.reduceLT, Int.reduceToNat, Int.reducePow, Int.reduceEq, f20]
      · simp only [go_sem, Nat.reduceEqDiff, Nat.reduceLT, Nat.reduceAdd, Nat.reduceLeDiff, Nat.reduceMul, Nat.reduceSub, Int.reduceLE, Int.reduceLT, Int.reduceToNat, Int.reducePow, Int.reduceEq, f21]
      intro F' M' ta' tb' g3 g4 g5 g6 g20 g21 hta' ha'
      (repeat (first | refine W_seq ?_ | refine W_block ?_ | refine W_blk ?_ | refine W_skip ?_))
      (refine W_region [] (by rfl) fun K hK => ?_; simp only [go_sem, Nat.reduceEqDiff, Nat.reduceLT, Nat.reduceAdd, Nat.reduceLeDiff, Nat.reduceMul, Nat.reduceSub, Int.reduceLE, Int.reduceLT, Int.reduceToNat, Int.reducePow, Int.reduceEq, g21, hw1])
      (refine WRun.done _ _ (hK _ _ ?_); clear hK)
      refine W_stop ⟨(0 + 1, some M2.length, ta', tb'), ⟨hlt, ?_, ?_, ?_, ?_, ?_, ?_, fun e => (by cases e), fun j e => ?_, hta'⟩, by show k - (0 + 1) < k - 0; omega⟩
      · simp only [go_sem, Nat.reduceEqDiff, Nat.reduceLT, Nat.reduceAdd, Nat.reduceLeDiff, Nat.reduceMul, Nat.reduceSub, Int.reduceLE, Int.reduceLT, Int.reduceToNat, Int.reducePow, Int.reduceEq, g3]
      · simp only [go_sem, Nat.reduceEqDiff, Nat.reduceLT, Nat.reduceAdd, Nat.reduceLeDiff, Nat.reduceMul, Nat.reduceSub, Int.reduceLE, Int.reduceLT, Int.reduceToNat, Int.reducePow, Int.reduceEq, g4]
        rfl
      · simp only [go_sem, Nat.reduceEqDiff, Nat.reduceLT, Nat.reduceAdd, Nat.reduceLeDiff, Nat.reduceMul, Nat.reduceSub, Int.reduceLE, Int.reduceLT, Int.reduceToNat, Int.reducePow, Int.reduceEq, g5]
      · simp only [go_sem, Nat.reduceEqDiff, Nat.reduceLT, Nat.reduceAdd, Nat.reduceLeDiff, Nat.reduceMul, Nat.reduceSub, Int.reduceLE, Int.reduceLT, Int.reduceToNat, Int.reducePow, Int.reduceEq, g6]
      · simp only [go_sem, Nat.reduceEqDiff, Nat.reduceLT, Nat.reduceAdd, Nat.reduceLeDiff, Nat.reduceMul, Nat.reduceSub, Int.reduceLE, Int.reduceLT, Int.reduceToNat, Int.reducePow, Int.reduceEq, g20]
      · simp only [go_sem, Nat.reduceEqDiff, Nat.reduceLT, Nat.reduceAdd, Nat.reduceLeDiff, Nat.reduceMul, Nat.reduceSub, Int.reduceLE, Int.reduceLT, Int.reduceToNat, Int.reducePow, Int.reduceEq]
        rfl
      · obtain rfl : M2.length = j := by injection e
        rw [ha']; exact hM3
    | some j =>
      have hMj := hS j rfl
      have hjl := lt_of_at hMj
      have hlk := rowsK_len k i
      have hile : i ≤ (rowsK k i).length := by omega
      have htk : (rowsK k i).take i = rowsK k i := List.take_of_length_le (by omega)
      have hM3 : ((M2.set j .gone) ++ [.cells (rowsK k (i + 1))])[M2.length]? = some (.cells (rowsK k (i + 1))) := by
        rw [List.getElem?_append_right (by simp)]; simp
      have hta3 : TailOk ((M2.set j .gone) ++ [.cells (rowsK k (i + 1))]) 0 ta := by
        rcases hta with h | ⟨j', h1, h2, h3⟩
        · exact .inl h
        · have : j ≠ j' := by intro e; subst e; rw [h3] at hMj; cases hMj
          exact .inr ⟨j', h1, h2, by rw [List.getElem?_append_left (by simp; exact lt_of_at h3), List.getElem?_set_ne this]; exact h3⟩
      have hc2 : cellsL [V.list .full [V.int (((i + 1) % k : Nat) : Int)]] = [V.list .full [V.int (((i + 1) % k : Nat) : Int)]] := rfl
      (refine W_region [31] (by rfl) fun K hK => ?_; simp only [go_sem, Nat.reduceEqDiff, Nat.reduceLT, Nat.reduceAdd, Nat.reduceLeDiff, Nat.reduceMul, Nat.reduceSub, Int.reduceLE, Int.reduceLT, Int.reduceToNat, Int.reducePow, Int.reduceEq, f3, f4, wordsV, f21, hMj, hile, htk, hl1, hw1, hk0, ne_eq, not_false_eq_true, hrm, hc2, hrs])
      (refine WRun.done _ _ (hK _ _ ?_); clear hK)
      refine ring_r10 (k := k) (i := i) (ta := ta) (tb := tb) (a := M2.length) (toV := .arr M2.length 0 (i + 1) 1) (by omega) ?_ ⟨_, hM3⟩ _ ?_ ?_ ?_ ?_ ?_ ?_ ?_ ?_
      · exact hta3
      · simp only [go_sem, Nat.reduceEqDiff, Nat.reduceLT, Nat.reduceAdd, Nat.reduceLeDiff, Nat.reduceMul, Nat.reduceSub, Int.reduceLE, Int.reduceLT, Int.reduceToNat, Int.reducePow, Int.reduceEq, f3]
      · simp only [go_sem, Nat.reduceEqDiff, Nat.reduceLT, Nat.reduceAdd, Nat.reduceLeDiff, Nat.reduceMul, Nat.reduceSub, Int.reduceLE, Int.reduceLT, Int.reduceToNat, Int.reducePow, Int.reduceEq, List.length_set]
      · simp only [go_sem, Nat.reduceEqDiff, Nat.reduceLT, Nat.reduceAdd, Nat.reduceLeDiff, Nat.reduceMul, Nat.reduceSub, Int.reduceLE, Int.reduceLT, Int.reduceToNat, Int.reducePow, Int.reduceEq, f5]
      · simp only [go_sem, Nat.reduceEqDiff, Nat.reduceLT, Nat.reduceAdd, Nat.reduceLeDiff, Nat.reduceMul, Nat.reduceSub, Int.reduceLE, Int.reduceLT, Int.reduceToNat, Int.reducePow, Int.reduceEq, f6]
      · simp only [go_sem, Nat.reduceEqDiff, Nat.reduceLT, Nat.reduceAdd, Nat.reduceLeDiff, Nat.reduceMul, Nat.reduceSub, Int.reduceLE, Int.reduceLT, Int.reduceToNat, Int.reducePow, Int.reduceEq]
      · simp only [go_sem, Nat.reduceEqDiff, Nat.reduceLT, Nat.reduceAdd, Nat.reduceLeDiff, Nat.reduceMul, Nat.reduceSub, Int.reduceLE, Int.reduceLT, Int.reduceToNat, Int.reducePow, Int.reduceEq, f20]
      · simp only [go_sem, Nat.reduceEqDiff, Nat.reduceLT, Nat.reduceAdd, Nat.reduceLeDiff, Nat.reduceMul, Nat.reduceSub, Int.reduceLE, Int.reduceLT, Int.reduceToNat, Int.reducePow, Int.reduceEq, f21]
      intro F' M' ta' tb' g3 g4 g5 g6 g20 g21 hta' ha'
      (repeat (first | refine W_seq ?_ | refine W_block ?_ | refine W_blk ?_ | refine W_skip ?_))
      (refine W_region [] (by rfl) fun K hK => ?_; simp only [go_sem, Nat.reduceEqDiff, Nat.reduceLT, Nat.reduceAdd, Nat.reduceLeDiff, Nat.reduceMul, Nat.reduceSub, Int.reduceLE, Int.reduceLT, Int.reduceToNat, Int.reducePow, Int.reduceEq, g21, hw1])
      (refine WRun.done _ _ (hK _ _ ?_); clear hK)
      refine W_stop ⟨(i + 1, some M2.length, ta', tb'), ⟨hlt, ?_, ?_, ?_, ?_, ?_, ?_, fun e => (by cases e), fun j e => ?_, hta'⟩, by show k - (i + 1) < k - i; omega⟩
      · simp only [go_sem, Nat.reduceEqDiff, Nat.reduceLT, Nat.reduceAdd, Nat.reduceLeDiff, Nat.reduceMul, Nat.reduceSub, Int.reduceLE, Int.reduceLT, Int.reduceToNat, Int.reducePow, Int.reduceEq, g3]
      · simp only [go_sem, Nat.reduceEqDiff, Nat.reduceLT, Nat.reduceAdd, Nat.reduceLeDiff, Nat.reduceMul, Nat.reduceSub, Int.reduceLE, Int.reduceLT, Int.reduceToNat, Int.reducePow, Int.reduceEq, g4]
        rfl
      · simp only [go_sem, Nat.reduceEqDiff, Nat.reduceLT, Nat.reduceAdd, Nat.reduceLeDiff, Nat.reduceMul, Nat.reduceSub, Int.reduceLE, Int.reduceLT, Int.reduceToNat, Int.reducePow, Int.reduceEq, g5]
      · simp only [go_sem, Nat.reduceEqDiff, Nat.reduceLT, Nat.reduceAdd, Nat.reduceLeDiff, Nat.reduceMul, Nat.reduceSub, Int.reduceLE, Int.reduceLT, Int.reduceToNat, Int.reducePow, Int.reduceEq, g6]
      · simp only [go_sem, Nat.reduceEqDiff, Nat.reduceLT, Nat.reduceAdd, Nat.reduceLeDiff, Nat.reduceMul, Nat.reduceSub, Int.reduceLE, Int.reduceLT, Int.reduceToNat, Int.reducePow, Int.reduceEq, g20]
      · simp only [go_sem, Nat.reduceEqDiff, Nat.reduceLT, Nat.reduceAdd, Nat.reduceLeDiff, Nat.reduceMul, Nat.reduceSub, Int.reduceLE, Int.reduceLT, Int.reduceToNat, Int.reducePow, Int.reduceEq]
      · obtain rfl : M2.length = j := by injection e
        rw [ha']; exact hM3
  · have hik : i = k := by omega
    subst hik
    have hlt' : ¬ (i : Int) < (i : Int) := by omega
    cases sk with
    | none => have := hN rfl; omega
    | some j =>
    have hMj := hS j rfl
    simp only [wordsV] at f4
    (repeat (first | refine W_seq ?_ | refine W_block ?_ | refine W_blk ?_ | refine W_skip ?_))
    (refine W_region [] (by rfl) fun K hK => ?_; simp only [go_sem, Nat.reduceEqDiff, Nat.reduceLT, Nat.reduceAdd, Nat.reduceLeDiff, Nat.reduceMul, Nat.reduceSub, Int.reduceLE, Int.reduceLT, Int.reduceToNat, Int.reducePow, Int.reduceEq, f20, f21, hlt'])
    (refine WRun.done _ _ (hK _ _ ?_); clear hK)
    (repeat (first | refine W_seq ?_ | refine W_block ?_ | refine W_blk ?_ | refine W_skip ?_))
    refine W_cond_false (by simp only [go_sem, Nat.reduceEqDiff, Nat.reduceLT, Nat.reduceAdd, Nat.reduceLeDiff, Nat.reduceMul, Nat.reduceSub, Int.reduceLE, Int.reduceLT, Int.reduceToNat, Int.reducePow, Int.reduceEq]) ?_
    refine W_exit (Qof_code (Qof_stop (Qof_blk_same ?_)))
    have hto1 : ToI M2 M2.length (.arr j 0 i 1) (ringI i) (rowsK i i) := by
      refine ⟨by rw [rowsK_len, ringI_len], fun q l hq => ?_, .inr ⟨j, lt_of_at hMj, by rw [ringI_len], hMj⟩⟩
      have hqi : q < i := by have := (List.getElem?_eq_some_iff.1 hq).1; rwa [ringI_len] at this
      refine ⟨.full, ?_⟩
      rw [rowsK_at hqi]
      simp only [ringI, List.getElem?_map, List.getElem?_range hqi, Option.map_some] at hq
      injection hq with hq
      subst hq; rfl
    (repeat (first | refine W_seq ?_ | refine W_block ?_ | refine W_blk ?_ | refine W_skip ?_))
    (refine W_region [] (by rfl) fun K hK => ?_; simp only [go_sem, Nat.reduceEqDiff, Nat.reduceLT, Nat.reduceAdd, Nat.reduceLeDiff, Nat.reduceMul, Nat.reduceSub, Int.reduceLE, Int.reduceLT, Int.reduceToNat, Int.reducePow, Int.reduceEq, f4])
    refine WRun.call _ _ _ _ _ _ _ (groups_ok hto1 (by rw [ringI_len]; omega) (fun l hl => ?_)) ?_
    · obtain ⟨q, _, rfl⟩ := List.mem_map.1 hl; simp
    rintro r1 M3 ⟨hs1, hml3, hk3⟩
    simp only [GroupsSaid, ringI_ok, if_true, ringI_N] at hs1
    obtain ⟨tg1, rs1, l1, rfl, hr1, hq1⟩ := hs1
    obtain rfl := Seq.det (ring_good i) hq1 (ring_seq (by omega)) fun _ _ => rfl
    obtain ⟨u1, rs1', rfl, hr1'⟩ := hr1.uncons
    obtain rfl := hr1'.empty
    have hMj3 : M3[j]? = some (.cells (rowsK i i)) := (hk3 j (lt_of_at hMj)).trans hMj
    have hw3 : IntKind.i64.wrap ((i : Int) - 1) = ((i - 1 : Nat) : Int) := by rw [wrapI _ (by omega) (by omega)]; omega
    have hlt3 : ((i - 1 : Nat) : Int) < (i : Int) := by omega
    have hi11 : i - 1 + 1 ≤ i := by omega
    simp only [go_sem, Nat.reduceEqDiff, Nat.reduceLT, Nat.reduceAdd, Nat.reduceLeDiff, Nat.reduceMul, Nat.reduceSub, Int.reduceLE, Int.reduceLT, Int.reduceToNat, Int.reducePow, Int.reduceEq]
    (refine WRun.done _ _ (hK _ _ ?_); clear hK)
    (repeat (first | refine W_seq ?_ | refine W_block ?_ | refine W_blk ?_ | refine W_skip ?_))
    (refine W_region [] (by rfl) fun K hK => ?_; simp only [go_sem, Nat.reduceEqDiff, Nat.reduceLT, Nat.reduceAdd, Nat.reduceLeDiff, Nat.reduceMul, Nat.reduceSub, Int.reduceLE, Int.reduceLT, Int.reduceToNat, Int.reducePow, Int.reduceEq, f3, f4, hw3, hlt3, hMj3, rowsK_len, hi11, Nat.zero_add, Int.natCast_nonneg, Int.toNat_natCast])
    (refine WRun.done _ _ (hK _ _ ?_); clear hK)
    obtain ⟨rs2, hrs2⟩ : ∃ rs2, rs2 = (rowsK i i).take (i - 1) ++ V.list .full [] :: (rowsK i i).drop (i - 1 + 1) := ⟨_, rfl⟩
    rw [← hrs2]
    have hrs2l : rs2.length = i := by rw [hrs2]; simp [rowsK_len]; omega
    have hjl3 := lt_of_at hMj3
    have hto2 : ToI (M3.set j (.cells rs2)) (M3.set j (.cells rs2)).length (.arr j 0 i 1) (chainI i) rs2 := by
      refine ⟨by rw [hrs2l, chainI_len], fun q l hq => ?_, .inr ⟨j, by simp; exact hjl3, by rw [chainI_len], List.getElem?_set_self hjl3⟩⟩
      have hqi : q < i := by have := (List.getElem?_eq_some_iff.1 hq).1; rwa [chainI_len] at this
      refine ⟨.full, ?_⟩
      simp only [chainI, List.getElem?_map, List.getElem?_range hqi, Option.map_some] at hq
      injection hq with hq
      subst hq
      rw [hrs2, over_at _ _ _ (by rw [rowsK_len]; omega)]
      by_cases hql : q = i - 1
      · rw [if_pos hql, if_pos (by omega)]; rfl
      · rw [if_neg hql, if_neg (by omega), rowsK_at hqi, Nat.mod_eq_of_lt (by omega)]; rfl
    generalize M3.set j (.cells rs2) = M4 at hto2 ⊢
    (repeat (first | refine W_seq ?_ | refine W_block ?_ | refine W_blk ?_ | refine W_skip ?_))
    (refine W_region [] (by rfl) fun K hK => ?_; simp only [go_sem, Nat.reduceEqDiff, Nat.reduceLT, Nat.reduceAdd, Nat.reduceLeDiff, Nat.reduceMul, Nat.reduceSub, Int.reduceLE, Int.reduceLT, Int.reduceToNat, Int.reducePow, Int.reduceEq, f4])
    refine WRun.call _ _ _ _ _ _ _ (groups_ok hto2 (by rw [chainI_len]; omega) (fun l hl => ?_)) ?_
    · obtain ⟨q, _, rfl⟩ := List.mem_map.1 hl
      split <;> simp
    rintro r2 M5 ⟨hs2, hml5, hk5⟩
    simp only [GroupsSaid, chainI_ok, if_true, chainI_N] at hs2
    obtain ⟨tg2, rs3, l2, rfl, hr2, hq2⟩ := hs2
    obtain rfl := Seq.det (chain_good i) hq2 (chain_seq i) fun _ _ => rfl
    have hr2l : rs3.length = i := by rw [hr2.1]; simp
    simp only [go_sem, Nat.reduceEqDiff, Nat.reduceLT, Nat.reduceAdd, Nat.reduceLeDiff, Nat.reduceMul, Nat.reduceSub, Int.reduceLE, Int.reduceLT, Int.reduceToNat, Int.reducePow, Int.reduceEq]
    (refine WRun.done _ _ (hK _ _ ?_); clear hK)
    have hz : ((rs3.length : Int) = (i : Int)) = True := eq_true (by omega)
    (repeat (first | refine W_seq ?_ | refine W_block ?_ | refine W_blk ?_ | refine W_skip ?_))
    (refine W_region [] (by rfl) fun K hK => ?_; simp only [go_sem, Nat.reduceEqDiff, Nat.reduceLT, Nat.reduceAdd, Nat.reduceLeDiff, Nat.reduceMul, Nat.reduceSub, Int.reduceLE, Int.reduceLT, Int.reduceToNat, Int.reducePow, Int.reduceEq, f3, f5])
    refine WRun.call _ _ _ _ _ _ _ (equal_nats u1 ta (List.range i) (List.range i) (by simp; omega) M5) ?_
    rintro r M6 ⟨rfl, rfl⟩
    have hde : decide (List.range i = List.range i) = true := by simp
    simp only [go_sem, Nat.reduceEqDiff, Nat.reduceLT, Nat.reduceAdd, Nat.reduceLeDiff, Nat.reduceMul, Nat.reduceSub, Int.reduceLE, Int.reduceLT, Int.reduceToNat, Int.reducePow, Int.reduceEq, hde, f3, hz]
    (refine WRun.done _ _ (hK _ _ ?_); clear hK)
    (repeat (first | refine W_seq ?_ | refine W_block ?_ | refine W_blk ?_ | refine W_skip ?_))
    refine W_cond_false (by simp only [go_sem, Nat.reduceEqDiff, Nat.reduceLT, Nat.reduceAdd, Nat.reduceLeDiff, Nat.reduceMul, Nat.reduceSub, Int.reduceLE, Int.reduceLT, Int.reduceToNat, Int.reducePow, Int.reduceEq]) ?_
    (repeat (first | refine W_seq ?_ | refine W_block ?_ | refine W_blk ?_ | refine W_skip ?_))
    (refine W_region [] (by rfl) fun K hK => ?_; simp only [go_sem, Nat.reduceEqDiff, Nat.reduceLT, Nat.reduceAdd, Nat.reduceLeDiff, Nat.reduceMul, Nat.reduceSub, Int.reduceLE, Int.reduceLT, Int.reduceToNat, Int.reducePow, Int.reduceEq, hr2l])
    (refine WRun.done _ _ (hK _ _ ?_); clear hK)
    (repeat (first | refine W_seq ?_ | refine W_block ?_ | refine W_blk ?_ | refine W_skip ?_))
    refine W_loop (α := Nat) (fun q F' _ => q ≤ i ∧ look F' 6 = .list tb (nats (List.range i).reverse) ∧ look F' 80 = .list tg2 rs3 ∧ look F' 81 = V.int i ∧ look F' 82 = V.int q) (fun q => i - q) 0 ⟨Nat.zero_le _, ?_, ?_, ?_, ?_⟩ ?_
    · simp only [go_sem, Nat.reduceEqDiff, Nat.reduceLT, Nat.reduceAdd, Nat.reduceLeDiff, Nat.reduceMul, Nat.reduceSub, Int.reduceLE, Int.reduceLT, Int.reduceToNat, Int.reducePow, Int.reduceEq, f6]
    · simp only [go_sem, Nat.reduceEqDiff, Nat.reduceLT, Nat.reduceAdd, Nat.reduceLeDiff, Nat.reduceMul, Nat.reduceSub, Int.reduceLE, Int.reduceLT, Int.reduceToNat, Int.reducePow, Int.reduceEq]
    · simp only [go_sem, Nat.reduceEqDiff, Nat.reduceLT, Nat.reduceAdd, Nat.reduceLeDiff, Nat.reduceMul, Nat.reduceSub, Int.reduceLE, Int.reduceLT, Int.reduceToNat, Int.reducePow, Int.reduceEq]
    · simp only [go_sem, Nat.reduceEqDiff, Nat.reduceLT, Nat.reduceAdd, Nat.reduceLeDiff, Nat.reduceMul, Nat.reduceSub, Int.reduceLE, Int.reduceLT, Int.reduceToNat, Int.reducePow, Int.reduceEq]
    clear f3 f4 f5 f6 f20 f21 F
    rintro q F M7 ⟨hq, f6, f80, f81, f82⟩
    by_cases hlq : q < i
    · have hlq' : (q : Int) < (i : Int) := by omega
      have hlq2 : (q : Int) < (rs3.length : Int) := by omega
      have hw1 : IntKind.i64.wrap ((q : Int) + 1) = ((q + 1 : Nat) : Int) := by rw [wrapI _ (by omega) (by omega)]; omega
      have hrev : (List.range i).reverse[q]? = some (i - 1 - q) := by rw [List.getElem?_reverse (by simpa using hlq), List.length_range, List.getElem?_range (by omega)]
      have pb := nats_at hrev
      obtain ⟨u2, p2⟩ := hr2.2 q [i - 1 - q] (by rw [List.getElem?_map, hrev]; rfl)
      have pn : nats [i - 1 - q] = [V.int ((i - 1 - q : Nat) : Int)] := rfl
      rw [pn] at p2
      (repeat (first | refine W_seq ?_ | refine W_block ?_ | refine W_blk ?_ | refine W_skip ?_))
      (refine W_region [] (by rfl) fun K hK => ?_; simp only [go_sem, Nat.reduceEqDiff, Nat.reduceLT, Nat.reduceAdd, Nat.reduceLeDiff, Nat.reduceMul, Nat.reduceSub, Int.reduceLE, Int.reduceLT, Int.reduceToNat, Int.reducePow, Int.reduceEq, f81, f82, hlq'])
      (refine WRun.done _ _ (hK _ _ ?_); clear hK)
      (repeat (first | refine W_seq ?_ | refine W_block ?_ | refine W_blk ?_ | refine W_skip ?_))
      refine W_cond_true (by simp only [go_sem, Nat.reduceEqDiff, Nat.reduceLT, Nat.reduceAdd, Nat.reduceLeDiff, Nat.reduceMul, Nat.reduceSub, Int.reduceLE, Int.reduceLT, Int.reduceToNat, Int.reducePow, Int.reduceEq]) ?_
      (repeat (first | refine W_seq ?_ | refine W_block ?_ | refine W_blk ?_ | refine W_skip ?_))
      (refine W_region [] (by rfl) fun K hK => ?_; simp only [go_sem, Nat.reduceEqDiff, Nat.reduceLT, Nat.reduceAdd, Nat.reduceLeDiff, Nat.reduceMul, Nat.reduceSub, Int.reduceLE, Int.reduceLT, Int.reduceToNat, Int.reducePow, Int.reduceEq, f80, f82, hlq2, p2, Int.natCast_nonneg, Int.toNat_natCast, List.head?_drop])
      (refine WRun.done _ _ (hK _ _ ?_); clear hK)
      (repeat (first | refine W_seq ?_ | refine W_block ?_ | refine W_blk ?_ | refine W_skip ?_))
      (refine W_read [] mixed_ (by rfl) (by decide +kernel) (by decide +kernel) fun K2 hK2 => ?_; simp only [go_sem, List.size_toArray, List.range_succ, List.range_zero, QK, Nat.reduceEqDiff, Nat.reduceLT, Nat.reduceAdd, Nat.reduceLeDiff, Nat.reduceMul, Nat.reduceSub, Int.reduceLE, Int.reduceLT, Int.reduceToNat, Int.reducePow, Int.reduceEq, f6, pb, cast1, nats_len, List.length_reverse, List.length_range, hlq', Int.natCast_nonneg, Int.toNat_natCast, List.head?_drop]; refine hK2 _ ?_; clear hK2)
      refine W_cond_false (by simp only [go_sem, Nat.reduceEqDiff, Nat.reduceLT, Nat.reduceAdd, Nat.reduceLeDiff, Nat.reduceMul, Nat.reduceSub, Int.reduceLE, Int.reduceLT, Int.reduceToNat, Int.reducePow, Int.reduceEq]) ?_
      (repeat (first | refine W_seq ?_ | refine W_block ?_ | refine W_blk ?_ | refine W_skip ?_))
      (refine W_region [] (by rfl) fun K hK => ?_; simp only [go_sem, Nat.reduceEqDiff, Nat.reduceLT, Nat.reduceAdd, Nat.reduceLeDiff, Nat.reduceMul, Nat.reduceSub, Int.reduceLE, Int.reduceLT, Int.reduceToNat, Int.reducePow, Int.reduceEq, f82, hw1])
      (refine WRun.done _ _ (hK _ _ ?_); clear hK)
      refine W_stop ⟨q + 1, ⟨hlq, ?_, ?_, ?_, ?_⟩, by omega⟩
      · simp only [go_sem, Nat.reduceEqDiff, Nat.reduceLT, Nat.reduceAdd, Nat.reduceLeDiff, Nat.reduceMul, Nat.reduceSub, Int.reduceLE, Int.reduceLT, Int.reduceToNat, Int.reducePow, Int.reduceEq, f6]
      · simp only [go_sem, Nat.reduceEqDiff, Nat.reduceLT, Nat.reduceAdd, Nat.reduceLeDiff, Nat.reduceMul, Nat.reduceSub, Int.reduceLE, Int.reduceLT, Int.reduceToNat, Int.reducePow, Int.reduceEq, f80]
      · simp only [go_sem, Nat.reduceEqDiff, Nat.reduceLT, Nat.reduceAdd, Nat.reduceLeDiff, Nat.reduceMul, Nat.reduceSub, Int.reduceLE, Int.reduceLT, Int.reduceToNat, Int.reducePow, Int.reduceEq, f81]
      · simp only [go_sem, Nat.reduceEqDiff, Nat.reduceLT, Nat.reduceAdd, Nat.reduceLeDiff, Nat.reduceMul, Nat.reduceSub, Int.reduceLE, Int.reduceLT, Int.reduceToNat, Int.reducePow, Int.reduceEq]
    · have hlq' : ¬ (q : Int) < (i : Int) := by omega
      (repeat (first | refine W_seq ?_ | refine W_block ?_ | refine W_blk ?_ | refine W_skip ?_))
      (refine W_region [] (by rfl) fun K hK => ?_; simp only [go_sem, Nat.reduceEqDiff, Nat.reduceLT, Nat.reduceAdd, Nat.reduceLeDiff, Nat.reduceMul, Nat.reduceSub, Int.reduceLE, Int.reduceLT, Int.reduceToNat, Int.reducePow, Int.reduceEq, f81, f82, hlq'])
      (refine WRun.done _ _ (hK _ _ ?_); clear hK)
      (repeat (first | refine W_seq ?_ | refine W_block ?_ | refine W_blk ?_ | refine W_skip ?_))
      refine W_cond_false (by simp only [go_sem, Nat.reduceEqDiff, Nat.reduceLT, Nat.reduceAdd, Nat.reduceLeDiff, Nat.reduceMul, Nat.reduceSub, Int.reduceLE, Int.reduceLT, Int.reduceToNat, Int.reducePow, Int.reduceEq]) ?_
      refine W_exit (Qof_code (Qof_stop (Qof_blk_same ?_)))
      (repeat (first | refine W_seq ?_ | refine W_block ?_ | refine W_blk ?_ | refine W_skip ?_))
      (refine W_region [] (by rfl) fun K hK => ?_; simp only [go_sem, Nat.reduceEqDiff, Nat.reduceLT, Nat.reduceAdd, Nat.reduceLeDiff, Nat.reduceMul, Nat.reduceSub, Int.reduceLE, Int.reduceLT, Int.reduceToNat, Int.reducePow, Int.reduceEq])
      (refine WRun.done _ _ (hK _ _ ?_); clear hK)
      refine W_ret ?_
      simp only [go_sem, Nat.reduceEqDiff, Nat.reduceLT, Nat.reduceAdd, Nat.reduceLeDiff, Nat.reduceMul, Nat.reduceSub, Int.reduceLE, Int.reduceLT, Int.reduceToNat, Int.reducePow, Int.reduceEq]
end Go.Ax

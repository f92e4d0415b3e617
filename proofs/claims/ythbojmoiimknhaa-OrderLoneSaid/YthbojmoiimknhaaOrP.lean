import Derived.Test.YthbojmoiimknhaaOrL
set_option linter.unusedSimpArgs false
set_option linter.unusedVariables false
namespace Go.Ax
open Go.Proofs Go.Ord
noncomputable def body43 : Code := Try.f43.body.getD .skip

/-- The rows of a table of yes and no. -/
structure RB (M : AMem) (B : Nat) (ids : List Nat) (n : Nat) (R : Nat → Nat → Bool) : Prop where
  nd : ids.Nodup
  base : ∀ j ∈ ids, B ≤ j
  rows : ∀ (i id : Nat), ids[i]? = some id → M[id]? = some (.cells (cellsB n (R i)))

theorem cellsB_congr {n : Nat} {f g : Nat → Bool} (h : ∀ k, k < n → f k = g k) : cellsB n f = cellsB n g := by
  unfold cellsB
  apply List.map_congr_left
  intro k hk
  rw [h k (List.mem_range.1 hk)]

theorem RB.congr {M : AMem} {B : Nat} {ids : List Nat} {n : Nat} {R R' : Nat → Nat → Bool} (h : RB M B ids n R) (he : ∀ i k, i < ids.length → k < n → R i k = R' i k) : RB M B ids n R' :=
  ⟨h.nd, h.base, fun i id hi => by rw [h.rows i id hi, cellsB_congr fun k hk => he i k (List.getElem?_eq_some_iff.1 hi).1 hk]⟩

theorem RB.set {M : AMem} {B : Nat} {ids : List Nat} {n : Nat} {R : Nat → Nat → Bool} (h : RB M B ids n R) {i id : Nat} (hi : ids[i]? = some id) (f : Nat → Bool) {R' : Nat → Nat → Bool} (h1 : ∀ k, k < n → R' i k = f k) (h2 : ∀ j k, j ≠ i → k < n → R' j k = R j k) :
    RB (M.set id (.cells (cellsB n f))) B ids n R' := by
  refine ⟨h.nd, h.base, fun j jd hj => ?_⟩
  by_cases hij : j = i
  · subst hij
    rw [hi] at hj
    injection hj with hj
    subst hj
    rw [List.getElem?_set_self (lt_of_at (h.rows j id hi)), cellsB_congr h1]
  · have : id ≠ jd := by
      intro e
      subst e
      exact hij ((List.getElem?_inj (List.getElem?_eq_some_iff.1 hj).1 h.nd).1 (hj.trans hi.symm))
    rw [List.getElem?_set_ne this, h.rows j jd hj, cellsB_congr fun k hk => h2 j k hij hk]

theorem RB.at {M : AMem} {B : Nat} {ids : List Nat} {n : Nat} {R : Nat → Nat → Bool} (h : RB M B ids n R) {i : Nat} (hi : i < ids.length) : ∃ id, ids[i]? = some id ∧ (ids.map fun j => V.arr j 0 n 1)[i]? = some (V.arr id 0 n 1) ∧ M[id]? = some (.cells (cellsB n (R i))) := by
  refine ⟨ids[i], List.getElem?_eq_getElem hi, ?_, h.rows i _ (List.getElem?_eq_getElem hi)⟩
  rw [List.getElem?_map, List.getElem?_eq_getElem hi]; rfl

def inRow (row : List Int) (q k : Nat) : Bool := decide ((k : Int) ∈ row.take q)

theorem arrs_cells (ids : List Nat) (n : Nat) : (∀ y ∈ ids.map fun j => V.arr j 0 n 1, y.cells.length = 1) = True := eq_true (by
  intro y hy
  obtain ⟨j, _, rfl⟩ := List.mem_map.1 hy
  rfl)

/-- The rows as they come in. -/
def rowsV (to : List (List Int)) : List V := to.map fun l => V.list .dull (l.map V.int)
theorem rowsV_at {to : List (List Int)} {i : Nat} {l : List Int} (h : to[i]? = some l) : (rowsV to)[i]? = some (V.list .dull (l.map V.int)) := by rw [rowsV, List.getElem?_map, h]; rfl
theorem rowsV_len (to : List (List Int)) : (rowsV to).length = to.length := by simp [rowsV]
theorem ints_at {l : List Int} {i : Nat} {k : Int} (h : l[i]? = some k) : (l.map V.int)[i]? = some (V.int k) := by rw [List.getElem?_map, h]; rfl

def TailOk (M : AMem) (B : Nat) (tg : Tag) : Prop := tg = .full ∨ ∃ j, tg = .own j ∧ B ≤ j ∧ M[j]? = some .tail
theorem TailOk.ok {M : AMem} {B : Nat} {tg : Tag} (h : TailOk M B tg) : tagOk tg M = true := by
  rcases h with rfl | ⟨j, rfl, _, h⟩
  · rfl
  · simp [tagOk, h]
theorem TailOk.ne {M : AMem} {B : Nat} {tg : Tag} (h : TailOk M B tg) {j : Nat} (hj : j < B) : tg ≠ .own j := by
  rcases h with rfl | ⟨j', rfl, h1, _⟩
  · intro e; cases e
  · intro e; injection e with e; omega
theorem TailOk.ne_cells {M : AMem} {B : Nat} {tg : Tag} (h : TailOk M B tg) {j : Nat} {cs : List V} (hj : M[j]? = some (.cells cs)) : tg ≠ .own j := by
  rcases h with rfl | ⟨j', rfl, h1, h2⟩
  · intro e; cases e
  · intro e; injection e with e; subst e; rw [h2] at hj; cases hj

/-- The first part of Reach: what each hangs on. -/
theorem reach_edges {Ret : Fr → AMem → Prop} {k0 : List It} {M : AMem} {to : List (List Int)} (hok : okTo to = true) (hn : to.length ≤ 40) (hrl : ∀ l ∈ to, l.length ≤ 9223372036854775807) (F : Fr) (f0 : look F 0 = .list .dull (rowsV to))
    (hk : ∀ (F' : Fr) (M' : AMem) (ids : List Nat) (tg : Tag), look F' 3 = V.int to.length → look F' 4 = .list tg (ids.map fun j => V.arr j 0 to.length 1) → ids.length = to.length → RB M' M.length ids to.length (fun i k => decide (k ∈ adj (toN to) i)) → M.length ≤ M'.length → (∀ j, j < M.length → M'[j]? = M[j]?) →
      W Try.prog 79 Ret (.code (part [1,1,1,1] body43) :: k0) F' M') :
    W Try.prog 79 Ret (.code body43 :: k0) F M := by
  obtain ⟨n, hnn⟩ : ∃ n, n = to.length := ⟨_, rfl⟩
  rw [← hnn] at hk hn
  have hn30 : (n : Int) ≤ 1073741824 := by omega
  (repeat (first | refine W_seq ?_ | refine W_block ?_ | refine W_blk ?_ | refine W_skip ?_))
  (refine W_region [] (by rfl) fun K hK => ?_; simp only [go_sem, Nat.reduceEqDiff, Nat.reduceLT, Nat.reduceAdd, Nat.reduceLeDiff, Nat.reduceMul, Nat.reduceSub, Int.reduceLE, Int.reduceLT, Int.reduceToNat, Int.reducePow, Int.reduceEq])
  (refine WRun.done _ _ (hK _ _ ?_); clear hK)
  (repeat (first | refine W_seq ?_ | refine W_block ?_ | refine W_blk ?_ | refine W_skip ?_))
  (refine W_region [] (by rfl) fun K hK => ?_; simp only [go_sem, Nat.reduceEqDiff, Nat.reduceLT, Nat.reduceAdd, Nat.reduceLeDiff, Nat.reduceMul, Nat.reduceSub, Int.reduceLE, Int.reduceLT, Int.reduceToNat, Int.reducePow, Int.reduceEq, f0, rowsV_len])
  (refine WRun.done _ _ (hK _ _ ?_); clear hK)
  (repeat (first | refine W_seq ?_ | refine W_block ?_ | refine W_blk ?_ | refine W_skip ?_))
  (refine W_region [] (by rfl) fun K hK => ?_; simp only [go_sem, Nat.reduceEqDiff, Nat.reduceLT, Nat.reduceAdd, Nat.reduceLeDiff, Nat.reduceMul, Nat.reduceSub, Int.reduceLE, Int.reduceLT, Int.reduceToNat, Int.reducePow, Int.reduceEq])
  (refine WRun.done _ _ (hK _ _ ?_); clear hK)
  (repeat (first | refine W_seq ?_ | refine W_block ?_ | refine W_blk ?_ | refine W_skip ?_))
  (refine W_region [] (by rfl) fun K hK => ?_; simp only [go_sem, Nat.reduceEqDiff, Nat.reduceLT, Nat.reduceAdd, Nat.reduceLeDiff, Nat.reduceMul, Nat.reduceSub, Int.reduceLE, Int.reduceLT, Int.reduceToNat, Int.reducePow, Int.reduceEq])
  (refine WRun.done _ _ (hK _ _ ?_); clear hK)
  (repeat (first | refine W_seq ?_ | refine W_block ?_ | refine W_blk ?_ | refine W_skip ?_))
  refine W_loop (α := Nat × List Nat × Tag) (fun q F' M' => q.1 ≤ n ∧ look F' 0 = .list .dull (rowsV to) ∧ look F' 3 = V.int n ∧ look F' 4 = .list q.2.2 (q.2.1.map fun j => V.arr j 0 n 1) ∧ look F' 5 = V.int q.1 ∧ q.2.1.length = q.1 ∧
      RB M' M.length q.2.1 n (fun i k => decide (k ∈ adj (toN to) i)) ∧ TailOk M' M.length q.2.2 ∧ M.length ≤ M'.length ∧ (∀ j, j < M.length → M'[j]? = M[j]?))
    (fun q => n - q.1) (0, [], .full) ⟨Nat.zero_le _, ?_, ?_, ?_, ?_, rfl, ⟨List.nodup_nil, fun j hj => (by cases hj), fun i id hi => (by simp at hi)⟩, .inl rfl, Nat.le_refl _, fun _ _ => rfl⟩ ?_
  · simp only [go_sem, Nat.reduceEqDiff, Nat.reduceLT, Nat.reduceAdd, Nat.reduceLeDiff, Nat.reduceMul, Nat.reduceSub, Int.reduceLE, Int.reduceLT, Int.reduceToNat, Int.reducePow, Int.reduceEq, f0]
  · simp only [go_sem, Nat.reduceEqDiff, Nat.reduceLT, Nat.reduceAdd, Nat.reduceLeDiff, Nat.reduceMul, Nat.reduceSub, Int.reduceLE, Int.reduceLT, Int.reduceToNat, Int.reducePow, Int.reduceEq, hnn]
  · simp only [go_sem, Nat.reduceEqDiff, Nat.reduceLT, Nat.reduceAdd, Nat.reduceLeDiff, Nat.reduceMul, Nat.reduceSub, Int.reduceLE, Int.reduceLT, Int.reduceToNat, Int.reducePow, Int.reduceEq]
  · simp only [go_sem, Nat.reduceEqDiff, Nat.reduceLT, Nat.reduceAdd, Nat.reduceLeDiff, Nat.reduceMul, Nat.reduceSub, Int.reduceLE, Int.reduceLT, Int.reduceToNat, Int.reducePow, Int.reduceEq]
  clear f0 F
  rintro ⟨i, ids, tg⟩ F M1 ⟨hi, f0, f3, f4, f5, hil, hrb, htk, hml, hkeep⟩
  simp only at hi f4 f5 hil hrb htk
  by_cases hlt : i < n
  · have hlt' : (i : Int) < (n : Int) := by omega
    have hlt2 : (i : Int) < (to.length : Int) := by omega
    have hw1 : IntKind.i64.wrap ((i : Int) + 1) = ((i + 1 : Nat) : Int) := by rw [wrapI _ (by omega) (by omega)]; omega
    obtain ⟨row, hrow⟩ : ∃ row, to[i]? = some row := ⟨_, List.getElem?_eq_getElem (by omega)⟩
    have hmem := List.mem_of_getElem? hrow
    have hrl1 := hrl row hmem
    have hrv := rowsV_at hrow
    have hrok := List.all_eq_true.1 hok row hmem
    have hadj : adj (toN to) i = row.map Int.toNat := by rw [adj_toN, hrow]; rfl
    (repeat (first | refine W_seq ?_ | refine W_block ?_ | refine W_blk ?_ | refine W_skip ?_))
    (refine W_region [] (by rfl) fun K hK => ?_; simp only [go_sem, Nat.reduceEqDiff, Nat.reduceLT, Nat.reduceAdd, Nat.reduceLeDiff, Nat.reduceMul, Nat.reduceSub, Int.reduceLE, Int.reduceLT, Int.reduceToNat, Int.reducePow, Int.reduceEq, f3, f5, hlt'])
    (refine WRun.done _ _ (hK _ _ ?_); clear hK)
    (repeat (first | refine W_seq ?_ | refine W_block ?_ | refine W_blk ?_ | refine W_skip ?_))
    refine W_cond_true (by simp only [go_sem, Nat.reduceEqDiff, Nat.reduceLT, Nat.reduceAdd, Nat.reduceLeDiff, Nat.reduceMul, Nat.reduceSub, Int.reduceLE, Int.reduceLT, Int.reduceToNat, Int.reducePow, Int.reduceEq]) ?_
    (repeat (first | refine W_seq ?_ | refine W_block ?_ | refine W_blk ?_ | refine W_skip ?_))
    (refine W_region [] (by rfl) fun K hK => ?_; simp only [go_sem, Nat.reduceEqDiff, Nat.reduceLT, Nat.reduceAdd, Nat.reduceLeDiff, Nat.reduceMul, Nat.reduceSub, Int.reduceLE, Int.reduceLT, Int.reduceToNat, Int.reducePow, Int.reduceEq, f3, hn30, Int.natCast_nonneg, Int.toNat_natCast, Int.le_refl])
    (refine WRun.done _ _ (hK _ _ ?_); clear hK)
    (repeat (first | refine W_seq ?_ | refine W_block ?_ | refine W_blk ?_ | refine W_skip ?_))
    (refine W_region [] (by rfl) fun K hK => ?_; simp only [go_sem, Nat.reduceEqDiff, Nat.reduceLT, Nat.reduceAdd, Nat.reduceLeDiff, Nat.reduceMul, Nat.reduceSub, Int.reduceLE, Int.reduceLT, Int.reduceToNat, Int.reducePow, Int.reduceEq])
    (refine WRun.done _ _ (hK _ _ ?_); clear hK)
    (repeat (first | refine W_seq ?_ | refine W_block ?_ | refine W_blk ?_ | refine W_skip ?_))
    refine W_loop (α := Nat) (fun q F' M' => q ≤ row.length ∧ look F' 0 = .list .dull (rowsV to) ∧ look F' 3 = V.int n ∧ look F' 4 = .list tg (ids.map fun j => V.arr j 0 n 1) ∧ look F' 5 = V.int i ∧ look F' 6 = .arr M1.length 0 n 1 ∧ look F' 7 = V.int q ∧ M'.length = M1.length + 1 ∧
        (∀ j, j < M1.length → M'[j]? = M1[j]?) ∧ M'[M1.length]? = some (.cells (cellsB n (inRow row q))))
      (fun q => row.length - q) 0 ⟨Nat.zero_le _, ?_, ?_, ?_, ?_, ?_, ?_, by simp, fun j hj => List.getElem?_append_left hj, ?_⟩ ?_
    · simp only [go_sem, Nat.reduceEqDiff, Nat.reduceLT, Nat.reduceAdd, Nat.reduceLeDiff, Nat.reduceMul, Nat.reduceSub, Int.reduceLE, Int.reduceLT, Int.reduceToNat, Int.reducePow, Int.reduceEq, f0]
    · simp only [go_sem, Nat.reduceEqDiff, Nat.reduceLT, Nat.reduceAdd, Nat.reduceLeDiff, Nat.reduceMul, Nat.reduceSub, Int.reduceLE, Int.reduceLT, Int.reduceToNat, Int.reducePow, Int.reduceEq, f3]
    · simp only [go_sem, Nat.reduceEqDiff, Nat.reduceLT, Nat.reduceAdd, Nat.reduceLeDiff, Nat.reduceMul, Nat.reduceSub, Int.reduceLE, Int.reduceLT, Int.reduceToNat, Int.reducePow, Int.reduceEq, f4]
    · simp only [go_sem, Nat.reduceEqDiff, Nat.reduceLT, Nat.reduceAdd, Nat.reduceLeDiff, Nat.reduceMul, Nat.reduceSub, Int.reduceLE, Int.reduceLT, Int.reduceToNat, Int.reducePow, Int.reduceEq, f5]
    · simp only [go_sem, Nat.reduceEqDiff, Nat.reduceLT, Nat.reduceAdd, Nat.reduceLeDiff, Nat.reduceMul, Nat.reduceSub, Int.reduceLE, Int.reduceLT, Int.reduceToNat, Int.reducePow, Int.reduceEq]
    · simp only [go_sem, Nat.reduceEqDiff, Nat.reduceLT, Nat.reduceAdd, Nat.reduceLeDiff, Nat.reduceMul, Nat.reduceSub, Int.reduceLE, Int.reduceLT, Int.reduceToNat, Int.reducePow, Int.reduceEq]
    · rw [List.getElem?_append_right (Nat.le_refl _), Nat.sub_self]
      show some (AObj.cells (List.replicate n _)) = _
      rw [replicate_map]
      simp [cellsB, inRow]
    clear f0 f3 f4 f5 F
    rintro q F M2 ⟨hq, f0, f3, f4, f5, f6, f7, hl2, hk2, hrow2⟩
    by_cases hlq : q < row.length
    · have hlq' : (q : Int) < (row.length : Int) := by omega
      obtain ⟨k, hkr⟩ : ∃ k, row[q]? = some k := ⟨_, List.getElem?_eq_getElem hlq⟩
      have hpk := ints_at hkr
      have hkn := List.all_eq_true.1 hrok k (List.mem_of_getElem? hkr)
      simp [okNum] at hkn
      obtain ⟨kk, rfl⟩ : ∃ kk : Nat, k = kk := ⟨k.toNat, by omega⟩
      have hkk : kk < n := by omega
      have hkk' : (kk : Int) < (n : Int) := by omega
      have hk1 : kk + 1 ≤ n := hkk
      have hw2 : IntKind.i64.wrap ((q : Int) + 1) = ((q + 1 : Nat) : Int) := by rw [wrapI _ (by omega) (by omega)]; omega
      have o1 := overB (inRow row q) hkk true
      (repeat (first | refine W_seq ?_ | refine W_block ?_ | refine W_blk ?_ | refine W_skip ?_))
      (refine W_region [] (by rfl) fun K hK => ?_; simp only [go_sem, Nat.reduceEqDiff, Nat.reduceLT, Nat.reduceAdd, Nat.reduceLeDiff, Nat.reduceMul, Nat.reduceSub, Int.reduceLE, Int.reduceLT, Int.reduceToNat, Int.reducePow, Int.reduceEq, f0, f5, f7, hrv, hlt2, rowsV_len, hlq', List.length_map, Int.natCast_nonneg, Int.toNat_natCast, List.head?_drop])
      (refine WRun.done _ _ (hK _ _ ?_); clear hK)
      (repeat (first | refine W_seq ?_ | refine W_block ?_ | refine W_blk ?_ | refine W_skip ?_))
      refine W_cond_true (by simp only [go_sem, Nat.reduceEqDiff, Nat.reduceLT, Nat.reduceAdd, Nat.reduceLeDiff, Nat.reduceMul, Nat.reduceSub, Int.reduceLE, Int.reduceLT, Int.reduceToNat, Int.reducePow, Int.reduceEq]) ?_
      (repeat (first | refine W_seq ?_ | refine W_block ?_ | refine W_blk ?_ | refine W_skip ?_))
      (refine W_region [] (by rfl) fun K hK => ?_; simp only [go_sem, Nat.reduceEqDiff, Nat.reduceLT, Nat.reduceAdd, Nat.reduceLeDiff, Nat.reduceMul, Nat.reduceSub, Int.reduceLE, Int.reduceLT, Int.reduceToNat, Int.reducePow, Int.reduceEq, f0, f5, f6, f7, hrv, hlt2, hpk, hkk', hk1, rowsV_len, hlq', hrow2, cellsB_len, o1, List.length_map, Int.natCast_nonneg, Int.toNat_natCast, List.head?_drop, Nat.zero_add])
      (refine WRun.done _ _ (hK _ _ ?_); clear hK)
      (repeat (first | refine W_seq ?_ | refine W_block ?_ | refine W_blk ?_ | refine W_skip ?_))
      (refine W_region [] (by rfl) fun K hK => ?_; simp only [go_sem, Nat.reduceEqDiff, Nat.reduceLT, Nat.reduceAdd, Nat.reduceLeDiff, Nat.reduceMul, Nat.reduceSub, Int.reduceLE, Int.reduceLT, Int.reduceToNat, Int.reducePow, Int.reduceEq, f7, hw2])
      (refine WRun.done _ _ (hK _ _ ?_); clear hK)
      refine W_stop ⟨q + 1, ⟨hlq, ?_, ?_, ?_, ?_, ?_, ?_, by simp [hl2], fun j hj => ?_, ?_⟩, by omega⟩
      · simp only [go_sem, Nat.reduceEqDiff, Nat.reduceLT, Nat.reduceAdd, Nat.reduceLeDiff, Nat.reduceMul, Nat.reduceSub, Int.reduceLE, Int.reduceLT, Int.reduceToNat, Int.reducePow, Int.reduceEq, f0]
      · simp only [go_sem, Nat.reduceEqDiff, Nat.reduceLT, Nat.reduceAdd, Nat.reduceLeDiff, Nat.reduceMul, Nat.reduceSub, Int.reduceLE, Int.reduceLT, Int.reduceToNat, Int.reducePow, Int.reduceEq, f3]
      · simp only [go_sem, Nat.reduceEqDiff, Nat.reduceLT, Nat.reduceAdd, Nat.reduceLeDiff, Nat.reduceMul, Nat.reduceSub, Int.reduceLE, Int.reduceLT, Int.reduceToNat, Int.reducePow, Int.reduceEq, f4]
      · simp only [go_sem, Nat.reduceEqDiff, Nat.reduceLT, Nat.reduceAdd, Nat.reduceLeDiff, Nat.reduceMul, Nat.reduceSub, Int.reduceLE, Int.reduceLT, Int.reduceToNat, Int.reducePow, Int.reduceEq, f5]
      · simp only [go_sem, Nat.reduceEqDiff, Nat.reduceLT, Nat.reduceAdd, Nat.reduceLeDiff, Nat.reduceMul, Nat.reduceSub, Int.reduceLE, Int.reduceLT, Int.reduceToNat, Int.reducePow, Int.reduceEq, f6]
      · simp only [go_sem, Nat.reduceEqDiff, Nat.reduceLT, Nat.reduceAdd, Nat.reduceLeDiff, Nat.reduceMul, Nat.reduceSub, Int.reduceLE, Int.reduceLT, Int.reduceToNat, Int.reducePow, Int.reduceEq]
      · rw [List.getElem?_set_ne (by omega)]; exact hk2 j hj
      · rw [List.getElem?_set_self (by omega)]
        have : upd (inRow row q) kk true = inRow row (q + 1) := by
          funext k'
          simp only [inRow, List.take_add_one, hkr, Option.toList_some, List.mem_append, List.mem_singleton, upd]
          by_cases hkk : k' = kk
          · simp [hkk]
          · have : ¬ ((k' : Int) = (kk : Int)) := by omega
            simp [hkk, this]
        rw [this]
    · have hlq' : ¬ (q : Int) < (row.length : Int) := by omega
      have hqr : row.take q = row := List.take_of_length_le (by omega)
      have hok2 : TailOk M2 M.length tg := by
        rcases htk with h | ⟨j, h1, h2, h3⟩
        · exact .inl h
        · exact .inr ⟨j, h1, h2, by rw [hk2 j (lt_of_at h3)]; exact h3⟩
      have hto := hok2.ok
      have hac := arrs_cells ids n
      have hil30 : ids.length + 1 ≤ 1073741824 := by omega
      (repeat (first | refine W_seq ?_ | refine W_block ?_ | refine W_blk ?_ | refine W_skip ?_))
      (refine W_region [] (by rfl) fun K hK => ?_; simp only [go_sem, Nat.reduceEqDiff, Nat.reduceLT, Nat.reduceAdd, Nat.reduceLeDiff, Nat.reduceMul, Nat.reduceSub, Int.reduceLE, Int.reduceLT, Int.reduceToNat, Int.reducePow, Int.reduceEq, f0, f5, f7, hrv, hlt2, rowsV_len, hlq', List.length_map, Int.natCast_nonneg, Int.toNat_natCast, List.head?_drop])
      (refine WRun.done _ _ (hK _ _ ?_); clear hK)
      (repeat (first | refine W_seq ?_ | refine W_block ?_ | refine W_blk ?_ | refine W_skip ?_))
      refine W_cond_false (by simp only [go_sem, Nat.reduceEqDiff, Nat.reduceLT, Nat.reduceAdd, Nat.reduceLeDiff, Nat.reduceMul, Nat.reduceSub, Int.reduceLE, Int.reduceLT, Int.reduceToNat, Int.reducePow, Int.reduceEq]) ?_
      refine W_exit (Qof_code (Qof_stop (Qof_blk_same ?_)))
      (repeat (first | refine W_seq ?_ | refine W_block ?_ | refine W_blk ?_ | refine W_skip ?_))
      (refine W_region [] (by rfl) fun K hK => ?_; simp only [go_sem, Nat.reduceEqDiff, Nat.reduceLT, Nat.reduceAdd, Nat.reduceLeDiff, Nat.reduceMul, Nat.reduceSub, Int.reduceLE, Int.reduceLT, Int.reduceToNat, Int.reducePow, Int.reduceEq, f4, f6, hto, hac, hil30, List.length_map])
      (refine WRun.done _ _ (hK _ _ ?_); clear hK)
      (repeat (first | refine W_seq ?_ | refine W_block ?_ | refine W_blk ?_ | refine W_skip ?_))
      (refine W_region [] (by rfl) fun K hK => ?_; simp only [go_sem, Nat.reduceEqDiff, Nat.reduceLT, Nat.reduceAdd, Nat.reduceLeDiff, Nat.reduceMul, Nat.reduceSub, Int.reduceLE, Int.reduceLT, Int.reduceToNat, Int.reducePow, Int.reduceEq, f5, hw1])
      (refine WRun.done _ _ (hK _ _ ?_); clear hK)
      refine W_stop ⟨(i + 1, ids ++ [M1.length], .own M2.length), ⟨hlt, ?_, ?_, ?_, ?_, by simp [hil], ?_, ?_, by simp [dropTag_sz]; omega, fun j hj => ?_⟩, by show n - (i + 1) < n - i; omega⟩
      · simp only [go_sem, Nat.reduceEqDiff, Nat.reduceLT, Nat.reduceAdd, Nat.reduceLeDiff, Nat.reduceMul, Nat.reduceSub, Int.reduceLE, Int.reduceLT, Int.reduceToNat, Int.reducePow, Int.reduceEq, f0]
      · simp only [go_sem, Nat.reduceEqDiff, Nat.reduceLT, Nat.reduceAdd, Nat.reduceLeDiff, Nat.reduceMul, Nat.reduceSub, Int.reduceLE, Int.reduceLT, Int.reduceToNat, Int.reducePow, Int.reduceEq, f3]
      · simp only [go_sem, Nat.reduceEqDiff, Nat.reduceLT, Nat.reduceAdd, Nat.reduceLeDiff, Nat.reduceMul, Nat.reduceSub, Int.reduceLE, Int.reduceLT, Int.reduceToNat, Int.reducePow, Int.reduceEq, List.map_append]
      · simp only [go_sem, Nat.reduceEqDiff, Nat.reduceLT, Nat.reduceAdd, Nat.reduceLeDiff, Nat.reduceMul, Nat.reduceSub, Int.reduceLE, Int.reduceLT, Int.reduceToNat, Int.reducePow, Int.reduceEq]
      · refine ⟨?_, ?_, ?_⟩
        · rw [List.nodup_append]
          refine ⟨hrb.nd, by simp, ?_⟩
          intro a ha b hb e
          have hb : b = M1.length := by simpa using hb
          obtain ⟨p, hp⟩ := List.getElem?_of_mem ha
          have := lt_of_at (hrb.rows p a hp)
          omega
        · intro j hj
          rcases List.mem_append.1 hj with hj | hj
          · exact hrb.base j hj
          · have hj : j = M1.length := by simpa using hj
            omega
        · intro p id hp
          by_cases hpi : p < ids.length
          · rw [List.getElem?_append_left hpi] at hp
            have h1 := hrb.rows p id hp
            have h2 := lt_of_at h1
            have h3 : M2[id]? = some (.cells (cellsB n fun k => decide (k ∈ adj (toN to) p))) := by rw [hk2 id h2]; exact h1
            rw [List.getElem?_append_left (by rw [dropTag_sz]; omega), dropTag_ne _ _ (hok2.ne_cells h3)]
            exact h3
          · have hpe : p = ids.length := by
              have := (List.getElem?_eq_some_iff.1 hp).1
              simp at this; omega
            subst hpe
            simp at hp
            subst hp
            rw [List.getElem?_append_left (by rw [dropTag_sz]; omega), dropTag_ne _ _ (hok2.ne_cells hrow2), hrow2, hil]
            congr 2
            apply cellsB_congr
            intro k hk
            simp only [inRow, hqr]
            congr 1
            rw [hadj]
            apply propext
            constructor
            · intro h; exact List.mem_map.2 ⟨_, h, by simp⟩
            · intro h
              obtain ⟨z, hz, hzk⟩ := List.mem_map.1 h
              have := List.all_eq_true.1 hrok z hz
              simp [okNum] at this
              have : z = (k : Int) := by omega
              rwa [← this]
      · refine .inr ⟨M2.length, rfl, by omega, ?_⟩
        rw [List.getElem?_append_right (by rw [dropTag_sz]; exact Nat.le_refl _)]
        simp [dropTag_sz]
      · rw [List.getElem?_append_left (by rw [dropTag_sz]; omega), dropTag_ne _ _ (hok2.ne hj), hk2 j (by omega)]
        exact hkeep j hj
  · have hlt' : ¬ (i : Int) < (n : Int) := by omega
    (repeat (first | refine W_seq ?_ | refine W_block ?_ | refine W_blk ?_ | refine W_skip ?_))
    (refine W_region [] (by rfl) fun K hK => ?_; simp only [go_sem, Nat.reduceEqDiff, Nat.reduceLT, Nat.reduceAdd, Nat.reduceLeDiff, Nat.reduceMul, Nat.reduceSub, Int.reduceLE, Int.reduceLT, Int.reduceToNat, Int.reducePow, Int.reduceEq, f3, f5, hlt'])
    (refine WRun.done _ _ (hK _ _ ?_); clear hK)
    (repeat (first | refine W_seq ?_ | refine W_block ?_ | refine W_blk ?_ | refine W_skip ?_))
    refine W_cond_false (by simp only [go_sem, Nat.reduceEqDiff, Nat.reduceLT, Nat.reduceAdd, Nat.reduceLeDiff, Nat.reduceMul, Nat.reduceSub, Int.reduceLE, Int.reduceLT, Int.reduceToNat, Int.reducePow, Int.reduceEq]) ?_
    refine W_exit (Qof_code (Qof_stop (Qof_blk_same ?_)))
    refine hk _ _ ids tg ?_ ?_ (by omega) hrb hml hkeep
    · simp only [go_sem, Nat.reduceEqDiff, Nat.reduceLT, Nat.reduceAdd, Nat.reduceLeDiff, Nat.reduceMul, Nat.reduceSub, Int.reduceLE, Int.reduceLT, Int.reduceToNat, Int.reducePow, Int.reduceEq, f3]
    · simp only [go_sem, Nat.reduceEqDiff, Nat.reduceLT, Nat.reduceAdd, Nat.reduceLeDiff, Nat.reduceMul, Nat.reduceSub, Int.reduceLE, Int.reduceLT, Int.reduceToNat, Int.reducePow, Int.reduceEq, f4]
end Go.Ax

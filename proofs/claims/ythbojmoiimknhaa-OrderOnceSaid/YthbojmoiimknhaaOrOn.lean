import Derived.Test.YthbojmoiimknhaaOrO
set_option linter.unusedSimpArgs false
set_option linter.unusedVariables false
namespace Go.Ax
open Go.Proofs Go.Ord

def mrow (c : Int) (i : Nat) (l : List Int) : List Int := l ++ l ++ (if (i : Int) = c then [(i : Int)] else [])
def moreI (c : Int) (to : List (List Int)) : List (List Int) := (List.range to.length).map fun i => mrow c i ((to[i]?).getD [])
theorem moreI_len (c : Int) (to : List (List Int)) : (moreI c to).length = to.length := by simp [moreI]
theorem moreI_at {c : Int} {to : List (List Int)} {i : Nat} {row : List Int} (h : to[i]? = some row) : (moreI c to)[i]? = some (mrow c i row) := by
  have := (List.getElem?_eq_some_iff.1 h).1
  rw [moreI, List.getElem?_map, List.getElem?_range this, Option.map_some, h]; rfl

theorem moreI_ok (c : Int) (to : List (List Int)) : okTo (moreI c to) = okTo to := by
  have key : ∀ i row, to[i]? = some row → ((mrow c i row).all (okNum to.length) = row.all (okNum to.length)) := by
    intro i row h
    have hi := (List.getElem?_eq_some_iff.1 h).1
    simp only [mrow, List.all_append]
    split
    · have : okNum to.length (i : Int) = true := by simp [okNum]; omega
      simp [this]
    · simp
  rw [Bool.eq_iff_iff]
  simp only [okTo, List.all_eq_true, moreI_len]
  constructor
  · intro h l hl
    obtain ⟨i, hi⟩ := List.getElem?_of_mem hl
    have := h _ (List.mem_of_getElem? (moreI_at (c := c) hi))
    have k := key i l hi
    rw [List.all_eq_true.2 this] at k
    exact List.all_eq_true.1 k.symm
  · intro h l hl
    obtain ⟨i, hi⟩ := List.getElem?_of_mem hl
    have hil : i < to.length := by have := (List.getElem?_eq_some_iff.1 hi).1; rwa [moreI_len] at this
    obtain ⟨row, hrow⟩ : ∃ row, to[i]? = some row := ⟨_, List.getElem?_eq_getElem hil⟩
    rw [moreI_at hrow] at hi
    injection hi with hi
    subst hi
    have k := key i row hrow
    rw [List.all_eq_true.2 (h row (List.mem_of_getElem? hrow))] at k
    exact List.all_eq_true.1 k

theorem more_adj {c : Int} {to : List (List Int)} {i k : Nat} : (k ∈ adj (toN to) i → k ∈ adj (toN (moreI c to)) i) ∧ (k ∈ adj (toN (moreI c to)) i → k ∈ adj (toN to) i ∨ k = i) := by
  rw [adj_toN, adj_toN]
  cases h : to[i]? with
  | none =>
    have h2 : (moreI c to)[i]? = none := by
      rw [List.getElem?_eq_none_iff] at h ⊢
      rw [moreI_len]; exact h
    simp [h2]
  | some row =>
    rw [moreI_at h]
    simp only [Option.getD_some, mrow, List.map_append, List.mem_append]
    refine ⟨fun hk => .inl (.inl hk), fun hk => ?_⟩
    rcases hk with (hk | hk) | hk
    · exact .inl hk
    · exact .inl hk
    · split at hk
      · have : k = i := by simpa using hk
        exact .inr this
      · cases hk

theorem more_rch {c : Int} {to : List (List Int)} (i k : Nat) : Rch (toN to) i k ↔ Rch (toN (moreI c to)) i k := by
  constructor
  · intro h
    induction h with
    | refl => exact .refl _
    | step h1 _ ih => exact .step (more_adj.1 h1) ih
  · intro h
    induction h with
    | refl => exact .refl _
    | step h1 _ ih =>
      rcases more_adj.2 h1 with h2 | h2
      · exact .step h2 ih
      · rw [← h2]; exact ih

theorem once_same {c : Int} {to : List (List Int)} {r1 r2 : V} (h1 : GroupsSaid to r1) (h2 : GroupsSaid (moreI c to) r2) :
    ∃ (e : Int) (tg1 tg2 : Tag) (rs1 rs2 : List V) (l : List (List Nat)), r1 = .tup [.list tg1 rs1, V.int e] ∧ r2 = .tup [.list tg2 rs2, V.int e] ∧ RowsR rs1 l ∧ RowsR rs2 l ∧ l.length ≤ to.length ∧ ∀ g ∈ l, g.length ≤ to.length := by
  unfold GroupsSaid at h1 h2
  rw [moreI_ok] at h2
  split at h1
  · rename_i hok
    simp only [hok, if_true] at h2
    obtain ⟨tg1, rs1, l1, rfl, a1, b1⟩ := h1
    obtain ⟨tg2, rs2, l2, rfl, a2, b2⟩ := h2
    have b1' := b1.alike (to' := toN (moreI c to)) (by rw [toN_len, toN_len, moreI_len]) (fun i k => more_rch i k)
    obtain rfl := Seq.det (toN_good (by rw [moreI_ok]; exact hok)) b1' b2 fun _ _ => rfl
    refine ⟨0, tg1, tg2, rs1, rs2, l1, rfl, rfl, a1, a2, ?_, fun g hg => ?_⟩
    · have := b1.len; have := left_le (to := toN to) (fun _ => false); rw [toN_len] at this; omega
    · obtain ⟨i, _, _, rfl⟩ := b1.mem g hg
      have := cls_len (to := toN to) i
      rw [toN_len] at this; exact this
  · rename_i hok
    simp only [hok, if_false, Bool.false_eq_true] at h2
    exact ⟨1, .full, .full, [], [], [], h1, h2, RowsR.nil, RowsR.nil, Nat.zero_le _, fun g hg => by cases hg⟩

theorem order_once_law (M : AMem) (to : List (List Int)) (at_ : Int) (hlen : to.length ≤ 140737488351232) (hrl : ∀ l ∈ to, l.length ≤ 140737488351232) : ACalls Try.prog 11 [.list .dull (rowsV to), V.int at_] M (fun r _ => r = V.bool true) := by
  refine acalls_enter [.tmp 4] 74 Try.func11 rfl rfl rfl (by simp) ?_
  (repeat (first | refine W_seq ?_ | refine W_block ?_ | refine W_blk ?_ | refine W_skip ?_))
  (refine W_region [] (by rfl) fun K hK => ?_; simp only [go_sem, Nat.reduceEqDiff, Nat.reduceLT, Nat.reduceAdd, Nat.reduceLeDiff, Nat.reduceMul, Nat.reduceSub, Int.reduceLE, Int.reduceLT, Int.reduceToNat, Int.reducePow, Int.reduceEq])
  (refine WRun.done _ _ (hK _ _ ?_); clear hK)
  (repeat (first | refine W_seq ?_ | refine W_block ?_ | refine W_blk ?_ | refine W_skip ?_))
  (refine W_region [] (by rfl) fun K hK => ?_; simp only [go_sem, Nat.reduceEqDiff, Nat.reduceLT, Nat.reduceAdd, Nat.reduceLeDiff, Nat.reduceMul, Nat.reduceSub, Int.reduceLE, Int.reduceLT, Int.reduceToNat, Int.reducePow, Int.reduceEq])
  refine WRun.call _ _ _ _ _ _ _ (order_lives M) ?_
  rintro r M1 ⟨rfl, hl1, _⟩
  simp only [go_sem, Nat.reduceEqDiff, Nat.reduceLT, Nat.reduceAdd, Nat.reduceLeDiff, Nat.reduceMul, Nat.reduceSub, Int.reduceLE, Int.reduceLT, Int.reduceToNat, Int.reducePow, Int.reduceEq]
  refine WRun.call _ _ _ _ _ _ _ (order_small2 M1 to hlen hrl) ?_
  rintro r M2 ⟨rfl, b, rfl, hb⟩
  cases b with
  | false =>
    simp only [go_sem, Nat.reduceEqDiff, Nat.reduceLT, Nat.reduceAdd, Nat.reduceLeDiff, Nat.reduceMul, Nat.reduceSub, Int.reduceLE, Int.reduceLT, Int.reduceToNat, Int.reducePow, Int.reduceEq]
    (refine WRun.done _ _ (hK _ _ ?_); clear hK)
    (repeat (first | refine W_seq ?_ | refine W_block ?_ | refine W_blk ?_ | refine W_skip ?_))
    refine W_cond_true (by simp only [go_sem, Nat.reduceEqDiff, Nat.reduceLT, Nat.reduceAdd, Nat.reduceLeDiff, Nat.reduceMul, Nat.reduceSub, Int.reduceLE, Int.reduceLT, Int.reduceToNat, Int.reducePow, Int.reduceEq]) ?_
    (repeat (first | refine W_seq ?_ | refine W_block ?_ | refine W_blk ?_ | refine W_skip ?_))
    (refine W_region [] (by rfl) fun K hK => ?_; simp only [go_sem, Nat.reduceEqDiff, Nat.reduceLT, Nat.reduceAdd, Nat.reduceLeDiff, Nat.reduceMul, Nat.reduceSub, Int.reduceLE, Int.reduceLT, Int.reduceToNat, Int.reducePow, Int.reduceEq])
    refine WRun.call _ _ _ _ _ _ _ (order_lives _) ?_
    rintro r M3 ⟨rfl, _, _⟩
    simp only [go_sem, Nat.reduceEqDiff, Nat.reduceLT, Nat.reduceAdd, Nat.reduceLeDiff, Nat.reduceMul, Nat.reduceSub, Int.reduceLE, Int.reduceLT, Int.reduceToNat, Int.reducePow, Int.reduceEq]
    (refine WRun.done _ _ (hK _ _ ?_); clear hK)
    refine W_ret ?_
    simp only [go_sem, Nat.reduceEqDiff, Nat.reduceLT, Nat.reduceAdd, Nat.reduceLeDiff, Nat.reduceMul, Nat.reduceSub, Int.reduceLE, Int.reduceLT, Int.reduceToNat, Int.reducePow, Int.reduceEq]
  | true =>
  obtain ⟨h40, h400⟩ := hb rfl
  by_cases hz0 : to.length = 0
  · have hz : ((to.length : Int) = 0) = True := eq_true (by omega)
    simp only [go_sem, Nat.reduceEqDiff, Nat.reduceLT, Nat.reduceAdd, Nat.reduceLeDiff, Nat.reduceMul, Nat.reduceSub, Int.reduceLE, Int.reduceLT, Int.reduceToNat, Int.reducePow, Int.reduceEq, rowsV_len, hz]
    (refine WRun.done _ _ (hK _ _ ?_); clear hK)
    (repeat (first | refine W_seq ?_ | refine W_block ?_ | refine W_blk ?_ | refine W_skip ?_))
    refine W_cond_true (by simp only [go_sem, Nat.reduceEqDiff, Nat.reduceLT, Nat.reduceAdd, Nat.reduceLeDiff, Nat.reduceMul, Nat.reduceSub, Int.reduceLE, Int.reduceLT, Int.reduceToNat, Int.reducePow, Int.reduceEq]) ?_
    (repeat (first | refine W_seq ?_ | refine W_block ?_ | refine W_blk ?_ | refine W_skip ?_))
    (refine W_region [] (by rfl) fun K hK => ?_; simp only [go_sem, Nat.reduceEqDiff, Nat.reduceLT, Nat.reduceAdd, Nat.reduceLeDiff, Nat.reduceMul, Nat.reduceSub, Int.reduceLE, Int.reduceLT, Int.reduceToNat, Int.reducePow, Int.reduceEq])
    refine WRun.call _ _ _ _ _ _ _ (order_lives _) ?_
    rintro r M3 ⟨rfl, _, _⟩
    simp only [go_sem, Nat.reduceEqDiff, Nat.reduceLT, Nat.reduceAdd, Nat.reduceLeDiff, Nat.reduceMul, Nat.reduceSub, Int.reduceLE, Int.reduceLT, Int.reduceToNat, Int.reducePow, Int.reduceEq]
    (refine WRun.done _ _ (hK _ _ ?_); clear hK)
    refine W_ret ?_
    simp only [go_sem, Nat.reduceEqDiff, Nat.reduceLT, Nat.reduceAdd, Nat.reduceLeDiff, Nat.reduceMul, Nat.reduceSub, Int.reduceLE, Int.reduceLT, Int.reduceToNat, Int.reducePow, Int.reduceEq]
  · have hz : ((to.length : Int) = 0) = False := eq_false (by omega)
    have hrl400 : ∀ l ∈ to, l.length ≤ 400 := fun l hl => Nat.le_trans (sum_mem hl) h400
    simp only [go_sem, Nat.reduceEqDiff, Nat.reduceLT, Nat.reduceAdd, Nat.reduceLeDiff, Nat.reduceMul, Nat.reduceSub, Int.reduceLE, Int.reduceLT, Int.reduceToNat, Int.reducePow, Int.reduceEq, rowsV_len, hz]
    (refine WRun.done _ _ (hK _ _ ?_); clear hK)
    (repeat (first | refine W_seq ?_ | refine W_block ?_ | refine W_blk ?_ | refine W_skip ?_))
    refine W_cond_false (by simp only [go_sem, Nat.reduceEqDiff, Nat.reduceLT, Nat.reduceAdd, Nat.reduceLeDiff, Nat.reduceMul, Nat.reduceSub, Int.reduceLE, Int.reduceLT, Int.reduceToNat, Int.reducePow, Int.reduceEq]) ?_
    (repeat (first | refine W_seq ?_ | refine W_block ?_ | refine W_blk ?_ | refine W_skip ?_))
    (refine W_region [] (by rfl) fun K hK => ?_; simp only [go_sem, Nat.reduceEqDiff, Nat.reduceLT, Nat.reduceAdd, Nat.reduceLeDiff, Nat.reduceMul, Nat.reduceSub, Int.reduceLE, Int.reduceLT, Int.reduceToNat, Int.reducePow, Int.reduceEq])
    refine WRun.call _ _ _ _ _ _ _ (groups_ok (toI_rowsV _ _ to) (by omega) (fun l hl => by have := hrl400 l hl; omega)) ?_
    rintro r1 M3 ⟨hs1, _, _⟩
    obtain ⟨e1, tg1, rs1, rfl⟩ := said_form hs1
    simp only [go_sem, Nat.reduceEqDiff, Nat.reduceLT, Nat.reduceAdd, Nat.reduceLeDiff, Nat.reduceMul, Nat.reduceSub, Int.reduceLE, Int.reduceLT, Int.reduceToNat, Int.reducePow, Int.reduceEq]
    (refine WRun.done _ _ (hK _ _ ?_); clear hK)
    (repeat (first | refine W_seq ?_ | refine W_block ?_ | refine W_blk ?_ | refine W_skip ?_))
    (refine W_region [] (by rfl) fun K hK => ?_; simp only [go_sem, Nat.reduceEqDiff, Nat.reduceLT, Nat.reduceAdd, Nat.reduceLeDiff, Nat.reduceMul, Nat.reduceSub, Int.reduceLE, Int.reduceLT, Int.reduceToNat, Int.reducePow, Int.reduceEq])
    (refine WRun.done _ _ (hK _ _ ?_); clear hK)
    (repeat (first | refine W_seq ?_ | refine W_block ?_ | refine W_blk ?_ | refine W_skip ?_))
    (refine W_region [] (by rfl) fun K hK => ?_; simp only [go_sem, Nat.reduceEqDiff, Nat.reduceLT, Nat.reduceAdd, Nat.reduceLeDiff, Nat.reduceMul, Nat.reduceSub, Int.reduceLE, Int.reduceLT, Int.reduceToNat, Int.reducePow, Int.reduceEq, rowsV_len])
    (refine WRun.done _ _ (hK _ _ ?_); clear hK)
    (repeat (first | refine W_seq ?_ | refine W_block ?_ | refine W_blk ?_ | refine W_skip ?_))
    have hwl : IntKind.u64.wrap (to.length : Int) = (to.length : Int) := by
      show Int.emod (to.length : Int) _ = _
      exact Int.emod_eq_of_lt (by omega) (by show (to.length : Int) < 18446744073709551616; omega)
    obtain ⟨c, hc⟩ : ∃ c, c = IntKind.i64.wrap ((IntKind.u64.wrap at_).tmod (to.length : Int)) := ⟨_, rfl⟩
    refine W_loop (α := Nat × Tag × List V) (fun q F' M' => q.1 ≤ to.length ∧ look F' 0 = .list .dull (rowsV to) ∧ look F' 1 = V.int at_ ∧ look F' 5 = .list tg1 rs1 ∧ look F' 6 = V.int e1 ∧ look F' 7 = .list q.2.1 q.2.2 ∧ look F' 31 = .list .dull (rowsV to) ∧ look F' 32 = V.int to.length ∧ look F' 33 = V.int q.1 ∧
        TailOk M' 0 q.2.1 ∧ q.2.2.length = q.1 ∧ (∀ i l, i < q.1 → to[i]? = some l → ∃ tg : Tag, q.2.2[i]? = some (V.list tg ((mrow c i l).map V.int))))
      (fun q => to.length - q.1) (0, .full, []) ⟨Nat.zero_le _, ?_, ?_, ?_, ?_, ?_, ?_, ?_, ?_, .inl rfl, rfl, fun i l hi => absurd hi (Nat.not_lt_zero _)⟩ ?_
    · simp only [go_sem, Nat.reduceEqDiff, Nat.reduceLT, Nat.reduceAdd, Nat.reduceLeDiff, Nat.reduceMul, Nat.reduceSub, Int.reduceLE, Int.reduceLT, Int.reduceToNat, Int.reducePow, Int.reduceEq]
    · simp only [go_sem, Nat.reduceEqDiff, Nat.reduceLT, Nat.reduceAdd, Nat.reduceLeDiff, Nat.reduceMul, Nat.reduceSub, Int.reduceLE, Int.reduceLT, Int.reduceToNat, Int.reducePow, Int.reduceEq]
    · simp only [go_sem, Nat.reduceEqDiff, Nat.reduceLT, Nat.reduceAdd, Nat.reduceLeDiff, Nat.reduceMul, Nat.reduceSub, Int.reduceLE, Int.reduceLT, Int.reduceToNat, Int.reducePow, Int.reduceEq]
    · simp only [go_sem, Nat.reduceEqDiff, Nat.reduceLT, Nat.reduceAdd, Nat.reduceLeDiff, Nat.reduceMul, Nat.reduceSub, Int.reduceLE, Int.reduceLT, Int.reduceToNat, Int.reducePow, Int.reduceEq]
    · simp only [go_sem, Nat.reduceEqDiff, Nat.reduceLT, Nat.reduceAdd, Nat.reduceLeDiff, Nat.reduceMul, Nat.reduceSub, Int.reduceLE, Int.reduceLT, Int.reduceToNat, Int.reducePow, Int.reduceEq]
    · simp only [go_sem, Nat.reduceEqDiff, Nat.reduceLT, Nat.reduceAdd, Nat.reduceLeDiff, Nat.reduceMul, Nat.reduceSub, Int.reduceLE, Int.reduceLT, Int.reduceToNat, Int.reducePow, Int.reduceEq]
    · simp only [go_sem, Nat.reduceEqDiff, Nat.reduceLT, Nat.reduceAdd, Nat.reduceLeDiff, Nat.reduceMul, Nat.reduceSub, Int.reduceLE, Int.reduceLT, Int.reduceToNat, Int.reducePow, Int.reduceEq]
    · simp only [go_sem, Nat.reduceEqDiff, Nat.reduceLT, Nat.reduceAdd, Nat.reduceLeDiff, Nat.reduceMul, Nat.reduceSub, Int.reduceLE, Int.reduceLT, Int.reduceToNat, Int.reducePow, Int.reduceEq]
    rintro ⟨i, tm, rs⟩ F M4 ⟨hi, f0, f1, f5, f6, f7, f31, f32, f33, htm, hrsl, hrows⟩
    simp only at hi f7 f33 htm hrsl hrows
    by_cases hlt : i < to.length
    · have hlt' : (i : Int) < (to.length : Int) := by omega
      have hw1 : IntKind.i64.wrap ((i : Int) + 1) = ((i + 1 : Nat) : Int) := by rw [wrapI _ (by omega) (by omega)]; omega
      obtain ⟨row, hrow⟩ : ∃ row, to[i]? = some row := ⟨_, List.getElem?_eq_getElem hlt⟩
      have hrv := rowsV_at hrow
      have hr400 := hrl400 row (List.mem_of_getElem? hrow)
      have hl1 : row.length ≤ 1073741824 := by omega
      have hl2 : row.length + row.length ≤ 1073741824 := by omega
      have htm2 : ∀ Y, TailOk (M4 ++ Y) 0 tm := fun Y => htm.grow fun j hj => List.getElem?_append_left hj
      (repeat (first | refine W_seq ?_ | refine W_block ?_ | refine W_blk ?_ | refine W_skip ?_))
      (refine W_region [] (by rfl) fun K hK => ?_; simp only [go_sem, Nat.reduceEqDiff, Nat.reduceLT, Nat.reduceAdd, Nat.reduceLeDiff, Nat.reduceMul, Nat.reduceSub, Int.reduceLE, Int.reduceLT, Int.reduceToNat, Int.reducePow, Int.reduceEq, f32, f33, hlt'])
      (refine WRun.done _ _ (hK _ _ ?_); clear hK)
      (repeat (first | refine W_seq ?_ | refine W_block ?_ | refine W_blk ?_ | refine W_skip ?_))
      refine W_cond_true (by simp only [go_sem, Nat.reduceEqDiff, Nat.reduceLT, Nat.reduceAdd, Nat.reduceLeDiff, Nat.reduceMul, Nat.reduceSub, Int.reduceLE, Int.reduceLT, Int.reduceToNat, Int.reducePow, Int.reduceEq]) ?_
      (repeat (first | refine W_seq ?_ | refine W_block ?_ | refine W_blk ?_ | refine W_skip ?_))
      (refine W_region [] (by rfl) fun K hK => ?_; simp only [go_sem, Nat.reduceEqDiff, Nat.reduceLT, Nat.reduceAdd, Nat.reduceLeDiff, Nat.reduceMul, Nat.reduceSub, Int.reduceLE, Int.reduceLT, Int.reduceToNat, Int.reducePow, Int.reduceEq, f31, f33, hrv, hlt', rowsV_len, Int.natCast_nonneg, Int.toNat_natCast, List.head?_drop])
      (refine WRun.done _ _ (hK _ _ ?_); clear hK)
      (repeat (first | refine W_seq ?_ | refine W_block ?_ | refine W_blk ?_ | refine W_skip ?_))
      (refine W_region [] (by rfl) fun K hK => ?_; simp only [go_sem, Nat.reduceEqDiff, Nat.reduceLT, Nat.reduceAdd, Nat.reduceLeDiff, Nat.reduceMul, Nat.reduceSub, Int.reduceLE, Int.reduceLT, Int.reduceToNat, Int.reducePow, Int.reduceEq, List.length_map, List.length_append, hl1, hl2, Nat.zero_add, tagOk, List.length_nil])
      (refine WRun.done _ _ (hK _ _ ?_); clear hK)
      have hj5 : (M4 ++ [AObj.gone] ++ [AObj.tail])[M4.length + 1]? = some .tail := by
        rw [List.getElem?_append_right (by simp)]; simp
      have htm5 : TailOk (M4 ++ [AObj.gone] ++ [AObj.tail]) 0 tm := by rw [List.append_assoc]; exact htm2 _
      have hl5 : (M4 ++ [AObj.gone] ++ [AObj.tail]).length = M4.length + 2 := by simp
      have htj : ∀ j, M4.length ≤ j → tm ≠ .own j := by
        intro j hj e
        rcases htm with h | ⟨j', h1, _, h3⟩
        · rw [h] at e; cases e
        · rw [h1] at e; injection e with e
          have := lt_of_at h3; omega
      have hrc : (∀ y ∈ rs, y.cells.length = 1) = True := eq_true (by
        intro y hy
        obtain ⟨q, hq⟩ := List.getElem?_of_mem hy
        have hqi : q < i := by rw [← hrsl]; exact (List.getElem?_eq_some_iff.1 hq).1
        obtain ⟨tg, h3⟩ := hrows q _ hqi (List.getElem?_eq_getElem (by omega))
        rw [hq] at h3
        injection h3 with h3
        rw [h3]; rfl)
      have hcz : ((IntKind.u64.wrap at_).tmod (to.length : Int)) = ((IntKind.u64.wrap at_).tmod (to.length : Int)) := rfl
      generalize hM5 : M4 ++ [AObj.gone] ++ [AObj.tail] = M5 at hj5 htm5 hl5 ⊢
      by_cases hic : (i : Int) = c
      · have hic' : ((i : Int) = c) = True := eq_true hic
        have hmr : row.map V.int ++ row.map V.int ++ [V.int (i : Int)] = (mrow c i row).map V.int := by simp [mrow, hic]
        have hok5 : tagOk (.own (M4.length + 1)) M5 = true := by simp [tagOk, hj5]
        have hcx : (∀ y ∈ row.map V.int ++ row.map V.int, y.cells.length = 1) = True := eq_true (by
          intro y hy
          rcases List.mem_append.1 hy with hy | hy <;> (obtain ⟨z, _, rfl⟩ := List.mem_map.1 hy; rfl))
        have hl3 : row.length + row.length + 1 ≤ 1073741824 := by omega
        (repeat (first | refine W_seq ?_ | refine W_block ?_ | refine W_blk ?_ | refine W_skip ?_))
        (refine W_region [] (by rfl) fun K hK => ?_; simp only [go_sem, Nat.reduceEqDiff, Nat.reduceLT, Nat.reduceAdd, Nat.reduceLeDiff, Nat.reduceMul, Nat.reduceSub, Int.reduceLE, Int.reduceLT, Int.reduceToNat, Int.reducePow, Int.reduceEq, f0, f1, rowsV_len, hwl, hz, ne_eq, not_false_eq_true, ← hc, hic'])
        (refine WRun.done _ _ (hK _ _ ?_); clear hK)
        (repeat (first | refine W_seq ?_ | refine W_block ?_ | refine W_blk ?_ | refine W_skip ?_))
        refine W_cond_true (by simp only [go_sem, Nat.reduceEqDiff, Nat.reduceLT, Nat.reduceAdd, Nat.reduceLeDiff, Nat.reduceMul, Nat.reduceSub, Int.reduceLE, Int.reduceLT, Int.reduceToNat, Int.reducePow, Int.reduceEq]) ?_
        (repeat (first | refine W_seq ?_ | refine W_block ?_ | refine W_blk ?_ | refine W_skip ?_))
        refine W_region [] (by rfl) fun K hK => ?_
        have hok5' : tagOk (.own (M4.length + 1)) M5 = true := hok5
        simp only [go_sem, Nat.reduceEqDiff, Nat.reduceLT, Nat.reduceAdd, Nat.reduceLeDiff, Nat.reduceMul, Nat.reduceSub, Int.reduceLE, Int.reduceLT, Int.reduceToNat, Int.reducePow, Int.reduceEq, tagOk, hj5, hcx, hl3, List.length_append, List.length_map, hmr]
        (refine WRun.done _ _ (hK _ _ ?_); clear hK)
        have hl6 : (M5.set (M4.length + 1) .gone ++ [AObj.tail]).length = M4.length + 3 := by simp [hl5]
        have htm6 : TailOk (M5.set (M4.length + 1) .gone ++ [AObj.tail]) 0 tm := by
          rcases htm5 with h | ⟨j, h1, h2, h3⟩
          · exact .inl h
          · refine .inr ⟨j, h1, h2, ?_⟩
            have : M4.length + 1 ≠ j := by intro e; exact htj j (by omega) h1
            rw [List.getElem?_append_left (by simp; exact lt_of_at h3), List.getElem?_set_ne this]; exact h3
        generalize M5.set (M4.length + 1) .gone ++ [AObj.tail] = M6 at hl6 htm6 ⊢
        have hok7 := htm6.ok
        have hrl1 : rs.length + 1 ≤ 1073741824 := by omega
        (repeat (first | refine W_seq ?_ | refine W_block ?_ | refine W_blk ?_ | refine W_skip ?_))
        (refine W_region [] (by rfl) fun K hK => ?_; simp only [go_sem, Nat.reduceEqDiff, Nat.reduceLT, Nat.reduceAdd, Nat.reduceLeDiff, Nat.reduceMul, Nat.reduceSub, Int.reduceLE, Int.reduceLT, Int.reduceToNat, Int.reducePow, Int.reduceEq, f7, hok7, hrc, hrl1])
        (refine WRun.done _ _ (hK _ _ ?_); clear hK)
        (repeat (first | refine W_seq ?_ | refine W_block ?_ | refine W_blk ?_ | refine W_skip ?_))
        (refine W_region [] (by rfl) fun K hK => ?_; simp only [go_sem, Nat.reduceEqDiff, Nat.reduceLT, Nat.reduceAdd, Nat.reduceLeDiff, Nat.reduceMul, Nat.reduceSub, Int.reduceLE, Int.reduceLT, Int.reduceToNat, Int.reducePow, Int.reduceEq, f33, hw1])
        (refine WRun.done _ _ (hK _ _ ?_); clear hK)
        refine W_stop ⟨(i + 1, .own M6.length, rs ++ [V.list (.own M5.length) ((mrow c i row).map V.int)]), ⟨hlt, ?_, ?_, ?_, ?_, ?_, ?_, ?_, ?_, ?_, by simp [hrsl], ?_⟩, by show to.length - (i + 1) < to.length - i; omega⟩
        · simp only [go_sem, Nat.reduceEqDiff, Nat.reduceLT, Nat.reduceAdd, Nat.reduceLeDiff, Nat.reduceMul, Nat.reduceSub, Int.reduceLE, Int.reduceLT, Int.reduceToNat, Int.reducePow, Int.reduceEq, f0]
        · simp only [go_sem, Nat.reduceEqDiff, Nat.reduceLT, Nat.reduceAdd, Nat.reduceLeDiff, Nat.reduceMul, Nat.reduceSub, Int.reduceLE, Int.reduceLT, Int.reduceToNat, Int.reducePow, Int.reduceEq, f1]
        · simp only [go_sem, Nat.reduceEqDiff, Nat.reduceLT, Nat.reduceAdd, Nat.reduceLeDiff, Nat.reduceMul, Nat.reduceSub, Int.reduceLE, Int.reduceLT, Int.reduceToNat, Int.reducePow, Int.reduceEq, f5]
        · simp only [go_sem, Nat.reduceEqDiff, Nat.reduceLT, Nat.reduceAdd, Nat.reduceLeDiff, Nat.reduceMul, Nat.reduceSub, Int.reduceLE, Int.reduceLT, Int.reduceToNat, Int.reducePow, Int.reduceEq, f6]
        · simp only [go_sem, Nat.reduceEqDiff, Nat.reduceLT, Nat.reduceAdd, Nat.reduceLeDiff, Nat.reduceMul, Nat.reduceSub, Int.reduceLE, Int.reduceLT, Int.reduceToNat, Int.reducePow, Int.reduceEq, hmr]
        · simp only [go_sem, Nat.reduceEqDiff, Nat.reduceLT, Nat.reduceAdd, Nat.reduceLeDiff, Nat.reduceMul, Nat.reduceSub, Int.reduceLE, Int.reduceLT, Int.reduceToNat, Int.reducePow, Int.reduceEq, f31]
        · simp only [go_sem, Nat.reduceEqDiff, Nat.reduceLT, Nat.reduceAdd, Nat.reduceLeDiff, Nat.reduceMul, Nat.reduceSub, Int.reduceLE, Int.reduceLT, Int.reduceToNat, Int.reducePow, Int.reduceEq, f32]
        · simp only [go_sem, Nat.reduceEqDiff, Nat.reduceLT, Nat.reduceAdd, Nat.reduceLeDiff, Nat.reduceMul, Nat.reduceSub, Int.reduceLE, Int.reduceLT, Int.reduceToNat, Int.reducePow, Int.reduceEq]
        · refine .inr ⟨M6.length, rfl, Nat.zero_le _, ?_⟩
          rw [List.getElem?_append_right (by rw [dropTag_sz]; exact Nat.le_refl _)]
          simp [dropTag_sz]
        · intro q l hq hl
          by_cases hqi : q < i
          · obtain ⟨tg, h3⟩ := hrows q l hqi hl
            exact ⟨tg, by rw [List.getElem?_append_left (by omega)]; exact h3⟩
          · have hqe : q = i := by have : q < i + 1 := hq; omega
            subst hqe
            rw [hrow] at hl
            injection hl with hl
            subst hl
            exact ⟨.own M5.length, by rw [← hrsl]; simp⟩
      · have hic' : ((i : Int) = c) = False := eq_false hic
        have hmr : row.map V.int ++ row.map V.int = (mrow c i row).map V.int := by simp [mrow, hic]
        (repeat (first | refine W_seq ?_ | refine W_block ?_ | refine W_blk ?_ | refine W_skip ?_))
        (refine W_region [] (by rfl) fun K hK => ?_; simp only [go_sem, Nat.reduceEqDiff, Nat.reduceLT, Nat.reduceAdd, Nat.reduceLeDiff, Nat.reduceMul, Nat.reduceSub, Int.reduceLE, Int.reduceLT, Int.reduceToNat, Int.reducePow, Int.reduceEq, f0, f1, rowsV_len, hwl, hz, ne_eq, not_false_eq_true, ← hc, hic'])
        (refine WRun.done _ _ (hK _ _ ?_); clear hK)
        (repeat (first | refine W_seq ?_ | refine W_block ?_ | refine W_blk ?_ | refine W_skip ?_))
        refine W_cond_false (by simp only [go_sem, Nat.reduceEqDiff, Nat.reduceLT, Nat.reduceAdd, Nat.reduceLeDiff, Nat.reduceMul, Nat.reduceSub, Int.reduceLE, Int.reduceLT, Int.reduceToNat, Int.reducePow, Int.reduceEq]) ?_
        have htm6 := htm5
        obtain ⟨M6, hM6⟩ : ∃ M6, M6 = M5 := ⟨_, rfl⟩
        rw [← hM6] at htm6 ⊢
        have hok7 := htm6.ok
        have hrl1 : rs.length + 1 ≤ 1073741824 := by omega
        (repeat (first | refine W_seq ?_ | refine W_block ?_ | refine W_blk ?_ | refine W_skip ?_))
        (refine W_region [] (by rfl) fun K hK => ?_; simp only [go_sem, Nat.reduceEqDiff, Nat.reduceLT, Nat.reduceAdd, Nat.reduceLeDiff, Nat.reduceMul, Nat.reduceSub, Int.reduceLE, Int.reduceLT, Int.reduceToNat, Int.reducePow, Int.reduceEq, f7, hok7, hrc, hrl1])
        (refine WRun.done _ _ (hK _ _ ?_); clear hK)
        (repeat (first | refine W_seq ?_ | refine W_block ?_ | refine W_blk ?_ | refine W_skip ?_))
        (refine W_region [] (by rfl) fun K hK => ?_; simp only [go_sem, Nat.reduceEqDiff, Nat.reduceLT, Nat.reduceAdd, Nat.reduceLeDiff, Nat.reduceMul, Nat.reduceSub, Int.reduceLE, Int.reduceLT, Int.reduceToNat, Int.reducePow, Int.reduceEq, f33, hw1])
        (refine WRun.done _ _ (hK _ _ ?_); clear hK)
        refine W_stop ⟨(i + 1, .own M6.length, rs ++ [V.list (.own (M4.length + 1)) ((mrow c i row).map V.int)]), ⟨hlt, ?_, ?_, ?_, ?_, ?_, ?_, ?_, ?_, ?_, by simp [hrsl], ?_⟩, by show to.length - (i + 1) < to.length - i; omega⟩
        · simp only [go_sem, Nat.reduceEqDiff, Nat.reduceLT, Nat.reduceAdd, Nat.reduceLeDiff, Nat.reduceMul, Nat.reduceSub, Int.reduceLE, Int.reduceLT, Int.reduceToNat, Int.reducePow, Int.reduceEq, f0]
        · simp only [go_sem, Nat.reduceEqDiff, Nat.reduceLT, Nat.reduceAdd, Nat.reduceLeDiff, Nat.reduceMul, Nat.reduceSub, Int.reduceLE, Int.reduceLT, Int.reduceToNat, Int.reducePow, Int.reduceEq, f1]
        · simp only [go_sem, Nat.reduceEqDiff, Nat.reduceLT, Nat.reduceAdd, Nat.reduceLeDiff, Nat.reduceMul, Nat.reduceSub, Int.reduceLE, Int.reduceLT, Int.reduceToNat, Int.reducePow, Int.reduceEq, f5]
        · simp only [go_sem, Nat.reduceEqDiff, Nat.reduceLT, Nat.reduceAdd, Nat.reduceLeDiff, Nat.reduceMul, Nat.reduceSub, Int.reduceLE, Int.reduceLT, Int.reduceToNat, Int.reducePow, Int.reduceEq, f6]
        · simp only [go_sem, Nat.reduceEqDiff, Nat.reduceLT, Nat.reduceAdd, Nat.reduceLeDiff, Nat.reduceMul, Nat.reduceSub, Int.reduceLE, Int.reduceLT, Int.reduceToNat, Int.reducePow, Int.reduceEq, hmr]
        · simp only [go_sem, Nat.reduceEqDiff, Nat.reduceLT, Nat.reduceAdd, Nat.reduceLeDiff, Nat.reduceMul, Nat.reduceSub, Int.reduceLE, Int.reduceLT, Int.reduceToNat, Int.reducePow, Int.reduceEq, f31]
        · simp only [go_sem, Nat.reduceEqDiff, Nat.reduceLT, Nat.reduceAdd, Nat.reduceLeDiff, Nat.reduceMul, Nat.reduceSub, Int.reduceLE, Int.reduceLT, Int.reduceToNat, Int.reducePow, Int.reduceEq, f32]
        · simp only [go_sem, Nat.reduceEqDiff, Nat.reduceLT, Nat.reduceAdd, Nat.reduceLeDiff, Nat.reduceMul, Nat.reduceSub, Int.reduceLE, Int.reduceLT, Int.reduceToNat, Int.reducePow, Int.reduceEq]
        · refine .inr ⟨M6.length, rfl, Nat.zero_le _, ?_⟩
          rw [List.getElem?_append_right (by rw [dropTag_sz]; exact Nat.le_refl _)]
          simp [dropTag_sz]
        · intro q l hq hl
          by_cases hqi : q < i
          · obtain ⟨tg, h3⟩ := hrows q l hqi hl
            exact ⟨tg, by rw [List.getElem?_append_left (by omega)]; exact h3⟩
          · have hqe : q = i := by have : q < i + 1 := hq; omega
            subst hqe
            rw [hrow] at hl
            injection hl with hl
            subst hl
            exact ⟨.own (M4.length + 1), by rw [← hrsl]; simp⟩
    · have hlt' : ¬ (i : Int) < (to.length : Int) := by omega
      have hit : i = to.length := by omega
      have hto2 : ToI M4 M4.length (.list tm rs) (moreI c to) rs := by
        refine ⟨by rw [hrsl, moreI_len, hit], fun q l hq => ?_, .inl ⟨_, rfl⟩⟩
        have hqi : q < to.length := by have := (List.getElem?_eq_some_iff.1 hq).1; rwa [moreI_len] at this
        have hro : to[q]? = some to[q] := List.getElem?_eq_getElem hqi
        rw [moreI_at hro] at hq
        injection hq with hq
        subst hq
        exact hrows q _ (by omega) hro
      (repeat (first | refine W_seq ?_ | refine W_block ?_ | refine W_blk ?_ | refine W_skip ?_))
      (refine W_region [] (by rfl) fun K hK => ?_; simp only [go_sem, Nat.reduceEqDiff, Nat.reduceLT, Nat.reduceAdd, Nat.reduceLeDiff, Nat.reduceMul, Nat.reduceSub, Int.reduceLE, Int.reduceLT, Int.reduceToNat, Int.reducePow, Int.reduceEq, f32, f33, hlt'])
      (refine WRun.done _ _ (hK _ _ ?_); clear hK)
      (repeat (first | refine W_seq ?_ | refine W_block ?_ | refine W_blk ?_ | refine W_skip ?_))
      refine W_cond_false (by simp only [go_sem, Nat.reduceEqDiff, Nat.reduceLT, Nat.reduceAdd, Nat.reduceLeDiff, Nat.reduceMul, Nat.reduceSub, Int.reduceLE, Int.reduceLT, Int.reduceToNat, Int.reducePow, Int.reduceEq]) ?_
      refine W_exit (Qof_code (Qof_stop (Qof_blk_same ?_)))
      (repeat (first | refine W_seq ?_ | refine W_block ?_ | refine W_blk ?_ | refine W_skip ?_))
      (refine W_region [] (by rfl) fun K hK => ?_; simp only [go_sem, Nat.reduceEqDiff, Nat.reduceLT, Nat.reduceAdd, Nat.reduceLeDiff, Nat.reduceMul, Nat.reduceSub, Int.reduceLE, Int.reduceLT, Int.reduceToNat, Int.reducePow, Int.reduceEq, f7])
      refine WRun.call _ _ _ _ _ _ _ (groups_ok hto2 (by rw [moreI_len]; omega) (fun l hl => ?_)) ?_
      · obtain ⟨q, hq, rfl⟩ := List.mem_map.1 hl
        have hqi := List.mem_range.1 hq
        have := hrl400 to[q] (List.getElem_mem _)
        rw [List.getElem?_eq_getElem hqi]
        simp only [Option.getD_some, mrow, List.length_append]
        split <;> simp <;> omega
      rintro r2 M5 ⟨hs2, _, _⟩
      obtain ⟨e2, tg2, rs2, rfl⟩ := said_form hs2
      obtain ⟨e, t1, t2, q1, q2, l, E1, E2, hr1, hr2, hll, hgl⟩ := once_same hs1 hs2
      simp only [V.tup.injEq, List.cons.injEq, V.list.injEq, V.prim.injEq, Value.int.injEq, true_and, and_true] at E1 E2
      obtain ⟨⟨rfl, rfl⟩, rfl⟩ := E1
      obtain ⟨⟨rfl, rfl⟩, rfl⟩ := E2
      simp only [go_sem, Nat.reduceEqDiff, Nat.reduceLT, Nat.reduceAdd, Nat.reduceLeDiff, Nat.reduceMul, Nat.reduceSub, Int.reduceLE, Int.reduceLT, Int.reduceToNat, Int.reducePow, Int.reduceEq]
      (refine WRun.done _ _ (hK _ _ ?_); clear hK)
      (repeat (first | refine W_seq ?_ | refine W_block ?_ | refine W_blk ?_ | refine W_skip ?_))
      (refine W_region [] (by rfl) fun K hK => ?_; simp only [go_sem, Nat.reduceEqDiff, Nat.reduceLT, Nat.reduceAdd, Nat.reduceLeDiff, Nat.reduceMul, Nat.reduceSub, Int.reduceLE, Int.reduceLT, Int.reduceToNat, Int.reducePow, Int.reduceEq, f5, f6])
      refine WRun.call _ _ _ _ _ _ _ (equalFunc_ok tg1 tg2 rs1 rs2 l hr1 hr2 (by omega) (fun g hg => by have := hgl g hg; omega) M5) ?_
      rintro r M6 ⟨rfl, rfl⟩
      simp only [go_sem, Nat.reduceEqDiff, Nat.reduceLT, Nat.reduceAdd, Nat.reduceLeDiff, Nat.reduceMul, Nat.reduceSub, Int.reduceLE, Int.reduceLT, Int.reduceToNat, Int.reducePow, Int.reduceEq]
      (refine WRun.done _ _ (hK _ _ ?_); clear hK)
      refine W_ret ?_
      simp only [go_sem, Nat.reduceEqDiff, Nat.reduceLT, Nat.reduceAdd, Nat.reduceLeDiff, Nat.reduceMul, Nat.reduceSub, Int.reduceLE, Int.reduceLT, Int.reduceToNat, Int.reducePow, Int.reduceEq]
end Go.Ax

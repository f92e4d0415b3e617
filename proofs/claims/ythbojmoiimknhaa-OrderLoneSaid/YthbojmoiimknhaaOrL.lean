import Derived.Test.YthbojmoiimknhaaOrK
set_option linter.unusedSimpArgs false
set_option linter.unusedVariables false
namespace Go.Ax
open Go.Proofs Go.Ord

theorem RowsR.uncons {rs : List V} {g : List Nat} {l : List (List Nat)} (h : RowsR rs (g :: l)) : ∃ tg rs', rs = V.list tg (nats g) :: rs' ∧ RowsR rs' l := by
  obtain ⟨h1, h2⟩ := h
  cases rs with
  | nil => simp at h1
  | cons a rs =>
    obtain ⟨tg, h3⟩ := h2 0 g rfl
    simp at h3
    refine ⟨tg, rs, by rw [h3], by simpa using h1, fun i g' hi => ?_⟩
    obtain ⟨tg', h4⟩ := h2 (i + 1) g' (by simpa using hi)
    exact ⟨tg', by simpa using h4⟩
theorem RowsR.empty {rs : List V} (h : RowsR rs []) : rs = [] := List.length_eq_zero_iff.1 h.1

/-- The chapter's example. -/
def ex3 : List (List Nat) := [[1], [2], [1]]
theorem ex3_good : Good ex3 := by
  intro i k hk
  match i with
  | 0 => simp [adj, ex3] at hk; subst hk; decide
  | 1 => simp [adj, ex3] at hk; subst hk; decide
  | 2 => simp [adj, ex3] at hk; subst hk; decide
  | i + 3 => simp [adj, ex3] at hk
theorem ex3_r12 : Rch ex3 1 2 := .one (by simp [adj, ex3])
theorem ex3_r21 : Rch ex3 2 1 := .one (by simp [adj, ex3])
theorem ex3_r01 : Rch ex3 0 1 := .one (by simp [adj, ex3])
theorem ex3_no {k : Nat} (h : Rch ex3 1 k) : k = 1 ∨ k = 2 := by
  refine h.closed (p := fun k => k = 1 ∨ k = 2) ?_ (.inl rfl)
  rintro x (rfl | rfl) w hw
  · simp [adj, ex3] at hw; exact .inr hw
  · simp [adj, ex3] at hw; exact .inl hw
theorem ex3_m10 : ¬ Mut ex3 1 0 := fun h => by have := ex3_no h.1; omega
theorem ex3_m01 : ¬ Mut ex3 0 1 := fun h => ex3_m10 h.symm
theorem ex3_m12 : Mut ex3 1 2 := ⟨ex3_r12, ex3_r21⟩
theorem ex3_m02 : ¬ Mut ex3 0 2 := fun h => ex3_m01 (h.trans ex3_m12.symm)
theorem ex3_c1 : cls ex3 1 = [1, 2] := by
  have e : List.range ex3.length = [0, 1, 2] := by decide
  simp [cls, e, List.filter_cons, ex3_m10, Mut.refl, ex3_m12]
theorem ex3_c0 : cls ex3 0 = [0] := by
  have e : List.range ex3.length = [0, 1, 2] := by decide
  simp [cls, e, List.filter_cons, ex3_m01, Mut.refl, ex3_m02]
theorem ex3_seq : Seq ex3 (fun _ => false) [[1, 2], [0]] := by
  rw [← ex3_c1, ← ex3_c0]
  refine .cons _ 1 _ ⟨⟨by decide, rfl, ?_⟩, ?_⟩ (.cons _ 0 _ ⟨⟨by decide, ?_, ?_⟩, fun j _ => Nat.zero_le j⟩ (.nil _ ?_))
  · intro k hk hm
    rcases ex3_no hk with rfl | rfl
    · exact absurd (Mut.refl _) hm
    · exact absurd ex3_m12 hm
  · intro j hj
    apply Classical.byContradiction
    intro hc
    have : j = 0 := by omega
    subst this
    have := hj.2.2 1 ex3_r01 ex3_m01
    cases this
  · simp [Ord.mark, ex3_m10]
  · intro k hk hm
    have : k = 0 ∨ k = 1 ∨ k = 2 := by
      have := hk.lt ex3_good (by decide)
      have e : ex3.length = 3 := rfl
      omega
    rcases this with rfl | rfl | rfl
    · exact absurd (Mut.refl _) hm
    · simp [Ord.mark, Mut.refl]
    · simp [Ord.mark, ex3_m12]
  · intro k hk
    have : k = 0 ∨ k = 1 ∨ k = 2 := by have e : ex3.length = 3 := rfl; omega
    rcases this with rfl | rfl | rfl
    · simp [Ord.mark, Mut.refl]
    · simp [Ord.mark, Mut.refl]
    · simp [Ord.mark, ex3_m12]

set_option maxRecDepth 8000 in
theorem order_lives (M : AMem) : ACalls Try.prog 28 [] M (fun r M' => r = V.bool true ∧ M.length ≤ M'.length ∧ ∀ j, j < M.length → M'[j]? = M[j]?) := by
  refine acalls_enter [.tmp 0] 56 Try.func28 rfl rfl rfl (by simp) ?_
  have hto : ToI M M.length (.list .full [.list .full [V.int 1], .list .full [V.int 2], .list .full [V.int 1]]) [[1], [2], [1]] [.list .full [V.int 1], .list .full [V.int 2], .list .full [V.int 1]] := by
    refine ⟨rfl, fun i l hi => ?_, .inl ⟨_, rfl⟩⟩
    match i with
    | 0 => simp at hi; subst hi; exact ⟨.full, rfl⟩
    | 1 => simp at hi; subst hi; exact ⟨.full, rfl⟩
    | 2 => simp at hi; subst hi; exact ⟨.full, rfl⟩
    | i + 3 => simp at hi
  (repeat (first | refine W_seq ?_ | refine W_block ?_ | refine W_blk ?_ | refine W_skip ?_))
  (refine W_region [] (by rfl) fun K hK => ?_; simp only [go_sem, Nat.reduceEqDiff, Nat.reduceLT, Nat.reduceAdd, Nat.reduceLeDiff, Nat.reduceMul, Nat.reduceSub, Int.reduceLE, Int.reduceLT, Int.reduceToNat, Int.reducePow, Int.reduceEq])
  (refine WRun.done _ _ (hK _ _ ?_); clear hK)
  (repeat (first | refine W_seq ?_ | refine W_block ?_ | refine W_blk ?_ | refine W_skip ?_))
  (refine W_region [] (by rfl) fun K hK => ?_; simp only [go_sem, Nat.reduceEqDiff, Nat.reduceLT, Nat.reduceAdd, Nat.reduceLeDiff, Nat.reduceMul, Nat.reduceSub, Int.reduceLE, Int.reduceLT, Int.reduceToNat, Int.reducePow, Int.reduceEq])
  refine WRun.call _ _ _ _ _ _ _ (groups_ok hto (by decide) (fun l hl => by simp only [List.mem_cons, List.not_mem_nil, or_false] at hl; rcases hl with rfl | rfl | rfl <;> decide)) ?_
  rintro r M1 ⟨hr, hml, hk⟩
  have hok : okTo [[1], [2], [1]] = true := by decide
  simp only [GroupsSaid, hok, if_true] at hr
  obtain ⟨tg, rs, l, rfl, hrr, hseq⟩ := hr
  have e : toN [[1], [2], [1]] = ex3 := by decide
  rw [e] at hseq
  obtain rfl := Seq.det ex3_good hseq ex3_seq (fun _ _ => rfl)
  obtain ⟨t1, rs1, rfl, hq1⟩ := hrr.uncons
  obtain ⟨t2, rs2, rfl, hq2⟩ := hq1.uncons
  obtain rfl := hq2.empty
  simp only [go_sem, Nat.reduceEqDiff, Nat.reduceLT, Nat.reduceAdd, Nat.reduceLeDiff, Nat.reduceMul, Nat.reduceSub, Int.reduceLE, Int.reduceLT, Int.reduceToNat, Int.reducePow, Int.reduceEq]
  (refine WRun.done _ _ (hK _ _ ?_); clear hK)
  (repeat (first | refine W_seq ?_ | refine W_block ?_ | refine W_blk ?_ | refine W_skip ?_))
  refine W_region [] (by rfl) fun K hK => ?_
  refine WRun_cut 8 (fun F1 => look F1 1 = .list tg [V.list t1 [V.int 1, V.int 2], V.list t2 [V.int 0]] ∧ look F1 18 = V.bool true) ?_ ?_
  · simp only [go_sem, Nat.reduceEqDiff, Nat.reduceLT, Nat.reduceAdd, Nat.reduceLeDiff, Nat.reduceMul, Nat.reduceSub, Int.reduceLE, Int.reduceLT, Int.reduceToNat, Int.reducePow, Int.reduceEq, nats, Int.natCast_one, Int.natCast_zero]
    refine ⟨_, rfl, ?_, ?_⟩
    · simp only [go_sem, Nat.reduceEqDiff, Nat.reduceLT, Nat.reduceAdd, Nat.reduceLeDiff, Nat.reduceMul, Nat.reduceSub, Int.reduceLE, Int.reduceLT, Int.reduceToNat, Int.reducePow, Int.reduceEq]
      rfl
    · simp only [go_sem, Nat.reduceEqDiff, Nat.reduceLT, Nat.reduceAdd, Nat.reduceLeDiff, Nat.reduceMul, Nat.reduceSub, Int.reduceLE, Int.reduceLT, Int.reduceToNat, Int.reducePow, Int.reduceEq]
      rfl
  rintro F1 ⟨e1, e2⟩
  refine WRun_cut 7 (fun F1 => look F1 1 = .list tg [V.list t1 [V.int 1, V.int 2], V.list t2 [V.int 0]] ∧ look F1 25 = V.bool true) ?_ ?_
  · simp only [go_sem, Nat.reduceEqDiff, Nat.reduceLT, Nat.reduceAdd, Nat.reduceLeDiff, Nat.reduceMul, Nat.reduceSub, Int.reduceLE, Int.reduceLT, Int.reduceToNat, Int.reducePow, Int.reduceEq, e1, e2]
    refine ⟨_, rfl, ?_, ?_⟩
    · simp only [go_sem, Nat.reduceEqDiff, Nat.reduceLT, Nat.reduceAdd, Nat.reduceLeDiff, Nat.reduceMul, Nat.reduceSub, Int.reduceLE, Int.reduceLT, Int.reduceToNat, Int.reducePow, Int.reduceEq, e1]
    · simp only [go_sem, Nat.reduceEqDiff, Nat.reduceLT, Nat.reduceAdd, Nat.reduceLeDiff, Nat.reduceMul, Nat.reduceSub, Int.reduceLE, Int.reduceLT, Int.reduceToNat, Int.reducePow, Int.reduceEq]
      try rfl
  clear e1 e2 F1
  rintro F1 ⟨e1, e2⟩
  refine WRun_cut 8 (fun F1 => look F1 1 = .list tg [V.list t1 [V.int 1, V.int 2], V.list t2 [V.int 0]] ∧ look F1 33 = V.bool true) ?_ ?_
  · simp only [go_sem, Nat.reduceEqDiff, Nat.reduceLT, Nat.reduceAdd, Nat.reduceLeDiff, Nat.reduceMul, Nat.reduceSub, Int.reduceLE, Int.reduceLT, Int.reduceToNat, Int.reducePow, Int.reduceEq, e1, e2]
    refine ⟨_, rfl, ?_, ?_⟩
    · simp only [go_sem, Nat.reduceEqDiff, Nat.reduceLT, Nat.reduceAdd, Nat.reduceLeDiff, Nat.reduceMul, Nat.reduceSub, Int.reduceLE, Int.reduceLT, Int.reduceToNat, Int.reducePow, Int.reduceEq, e1]
    · simp only [go_sem, Nat.reduceEqDiff, Nat.reduceLT, Nat.reduceAdd, Nat.reduceLeDiff, Nat.reduceMul, Nat.reduceSub, Int.reduceLE, Int.reduceLT, Int.reduceToNat, Int.reducePow, Int.reduceEq]
      try rfl
  clear e1 e2 F1
  rintro F1 ⟨e1, e2⟩
  refine WRun_cut 8 (fun F1 => look F1 1 = .list tg [V.list t1 [V.int 1, V.int 2], V.list t2 [V.int 0]] ∧ look F1 41 = V.bool true) ?_ ?_
  · simp only [go_sem, Nat.reduceEqDiff, Nat.reduceLT, Nat.reduceAdd, Nat.reduceLeDiff, Nat.reduceMul, Nat.reduceSub, Int.reduceLE, Int.reduceLT, Int.reduceToNat, Int.reducePow, Int.reduceEq, e1, e2]
    refine ⟨_, rfl, ?_, ?_⟩
    · simp only [go_sem, Nat.reduceEqDiff, Nat.reduceLT, Nat.reduceAdd, Nat.reduceLeDiff, Nat.reduceMul, Nat.reduceSub, Int.reduceLE, Int.reduceLT, Int.reduceToNat, Int.reducePow, Int.reduceEq, e1]
    · simp only [go_sem, Nat.reduceEqDiff, Nat.reduceLT, Nat.reduceAdd, Nat.reduceLeDiff, Nat.reduceMul, Nat.reduceSub, Int.reduceLE, Int.reduceLT, Int.reduceToNat, Int.reducePow, Int.reduceEq]
      try rfl
  clear e1 e2 F1
  rintro F1 ⟨e1, e2⟩
  refine WRun_cut 7 (fun F1 => look F1 1 = .list tg [V.list t1 [V.int 1, V.int 2], V.list t2 [V.int 0]] ∧ look F1 48 = V.bool true) ?_ ?_
  · simp only [go_sem, Nat.reduceEqDiff, Nat.reduceLT, Nat.reduceAdd, Nat.reduceLeDiff, Nat.reduceMul, Nat.reduceSub, Int.reduceLE, Int.reduceLT, Int.reduceToNat, Int.reducePow, Int.reduceEq, e1, e2]
    refine ⟨_, rfl, ?_, ?_⟩
    · simp only [go_sem, Nat.reduceEqDiff, Nat.reduceLT, Nat.reduceAdd, Nat.reduceLeDiff, Nat.reduceMul, Nat.reduceSub, Int.reduceLE, Int.reduceLT, Int.reduceToNat, Int.reducePow, Int.reduceEq, e1]
    · simp only [go_sem, Nat.reduceEqDiff, Nat.reduceLT, Nat.reduceAdd, Nat.reduceLeDiff, Nat.reduceMul, Nat.reduceSub, Int.reduceLE, Int.reduceLT, Int.reduceToNat, Int.reducePow, Int.reduceEq]
      try rfl
  clear e1 e2 F1
  rintro F1 ⟨e1, e2⟩
  simp only [go_sem, Nat.reduceEqDiff, Nat.reduceLT, Nat.reduceAdd, Nat.reduceLeDiff, Nat.reduceMul, Nat.reduceSub, Int.reduceLE, Int.reduceLT, Int.reduceToNat, Int.reducePow, Int.reduceEq, e1, e2]
  (refine WRun.done _ _ (hK _ _ ?_); clear hK)
  refine W_ret ?_
  simp only [go_sem, Nat.reduceEqDiff, Nat.reduceLT, Nat.reduceAdd, Nat.reduceLeDiff, Nat.reduceMul, Nat.reduceSub, Int.reduceLE, Int.reduceLT, Int.reduceToNat, Int.reducePow, Int.reduceEq]
  exact ⟨hml, hk⟩

/-- small: of what is handed over as rows of numbers. -/
theorem order_small (M : AMem) (tg : Tag) (tgs : List Int → Tag) (to : List (List Int)) (hl : to.length ≤ 9223372036854775807) :
    ACalls Try.prog 29 [.list tg (to.map fun l => V.list (tgs l) (l.map V.int))] M (fun r M' => M' = M ∧ ∃ b, r = V.bool b ∧ (b = true → to.length ≤ 40)) := by
  refine acalls_enter [.tmp 2] 24 Try.func29 rfl rfl rfl (by simp) ?_
  (repeat (first | refine W_seq ?_ | refine W_block ?_ | refine W_blk ?_ | refine W_skip ?_))
  (refine W_region [] (by rfl) fun K hK => ?_; simp only [go_sem, Nat.reduceEqDiff, Nat.reduceLT, Nat.reduceAdd, Nat.reduceLeDiff, Nat.reduceMul, Nat.reduceSub, Int.reduceLE, Int.reduceLT, Int.reduceToNat, Int.reducePow, Int.reduceEq])
  (refine WRun.done _ _ (hK _ _ ?_); clear hK)
  (repeat (first | refine W_seq ?_ | refine W_block ?_ | refine W_blk ?_ | refine W_skip ?_))
  (refine W_region [] (by rfl) fun K hK => ?_; simp only [go_sem, Nat.reduceEqDiff, Nat.reduceLT, Nat.reduceAdd, Nat.reduceLeDiff, Nat.reduceMul, Nat.reduceSub, Int.reduceLE, Int.reduceLT, Int.reduceToNat, Int.reducePow, Int.reduceEq])
  (refine WRun.done _ _ (hK _ _ ?_); clear hK)
  (repeat (first | refine W_seq ?_ | refine W_block ?_ | refine W_blk ?_ | refine W_skip ?_))
  (refine W_region [] (by rfl) fun K hK => ?_; simp only [go_sem, Nat.reduceEqDiff, Nat.reduceLT, Nat.reduceAdd, Nat.reduceLeDiff, Nat.reduceMul, Nat.reduceSub, Int.reduceLE, Int.reduceLT, Int.reduceToNat, Int.reducePow, Int.reduceEq, List.length_map])
  (refine WRun.done _ _ (hK _ _ ?_); clear hK)
  (repeat (first | refine W_seq ?_ | refine W_block ?_ | refine W_blk ?_ | refine W_skip ?_))
  refine W_loop (α := Nat × Int) (fun q F' M' => q.1 ≤ to.length ∧ M' = M ∧ look F' 0 = .list tg (to.map fun l => V.list (tgs l) (l.map V.int)) ∧ look F' 6 = .list tg (to.map fun l => V.list (tgs l) (l.map V.int)) ∧ look F' 7 = V.int to.length ∧ look F' 8 = V.int q.1 ∧ look F' 3 = V.int q.2)
    (fun q => to.length - q.1) (0, 0) ⟨Nat.zero_le _, rfl, ?_, ?_, ?_, ?_, ?_⟩ ?_
  · simp only [go_sem, Nat.reduceEqDiff, Nat.reduceLT, Nat.reduceAdd, Nat.reduceLeDiff, Nat.reduceMul, Nat.reduceSub, Int.reduceLE, Int.reduceLT, Int.reduceToNat, Int.reducePow, Int.reduceEq]
  · simp only [go_sem, Nat.reduceEqDiff, Nat.reduceLT, Nat.reduceAdd, Nat.reduceLeDiff, Nat.reduceMul, Nat.reduceSub, Int.reduceLE, Int.reduceLT, Int.reduceToNat, Int.reducePow, Int.reduceEq]
  · simp only [go_sem, Nat.reduceEqDiff, Nat.reduceLT, Nat.reduceAdd, Nat.reduceLeDiff, Nat.reduceMul, Nat.reduceSub, Int.reduceLE, Int.reduceLT, Int.reduceToNat, Int.reducePow, Int.reduceEq]
  · simp only [go_sem, Nat.reduceEqDiff, Nat.reduceLT, Nat.reduceAdd, Nat.reduceLeDiff, Nat.reduceMul, Nat.reduceSub, Int.reduceLE, Int.reduceLT, Int.reduceToNat, Int.reducePow, Int.reduceEq]
  · simp only [go_sem, Nat.reduceEqDiff, Nat.reduceLT, Nat.reduceAdd, Nat.reduceLeDiff, Nat.reduceMul, Nat.reduceSub, Int.reduceLE, Int.reduceLT, Int.reduceToNat, Int.reducePow, Int.reduceEq]
  rintro ⟨j, z⟩ F M' ⟨hj, rfl, f0, f6, f7, f8, f3⟩
  simp only at hj f8 f3
  by_cases hlt : j < to.length
  · have hlt' : (j : Int) < (to.length : Int) := by omega
    have hw1 : IntKind.i64.wrap ((j : Int) + 1) = ((j + 1 : Nat) : Int) := by rw [wrapI _ (by omega) (by omega)]; omega
    obtain ⟨row, hrow⟩ : ∃ row, to[j]? = some row := ⟨_, List.getElem?_eq_getElem hlt⟩
    have hp : (to.map fun l => V.list (tgs l) (l.map V.int))[j]? = some (V.list (tgs row) (row.map V.int)) := by rw [List.getElem?_map, hrow]; rfl
    (repeat (first | refine W_seq ?_ | refine W_block ?_ | refine W_blk ?_ | refine W_skip ?_))
    (refine W_region [] (by rfl) fun K hK => ?_; simp only [go_sem, Nat.reduceEqDiff, Nat.reduceLT, Nat.reduceAdd, Nat.reduceLeDiff, Nat.reduceMul, Nat.reduceSub, Int.reduceLE, Int.reduceLT, Int.reduceToNat, Int.reducePow, Int.reduceEq, f7, f8, hlt'])
    (refine WRun.done _ _ (hK _ _ ?_); clear hK)
    (repeat (first | refine W_seq ?_ | refine W_block ?_ | refine W_blk ?_ | refine W_skip ?_))
    refine W_cond_true (by simp only [go_sem, Nat.reduceEqDiff, Nat.reduceLT, Nat.reduceAdd, Nat.reduceLeDiff, Nat.reduceMul, Nat.reduceSub, Int.reduceLE, Int.reduceLT, Int.reduceToNat, Int.reducePow, Int.reduceEq]) ?_
    (repeat (first | refine W_seq ?_ | refine W_block ?_ | refine W_blk ?_ | refine W_skip ?_))
    (refine W_region [] (by rfl) fun K hK => ?_; simp only [go_sem, Nat.reduceEqDiff, Nat.reduceLT, Nat.reduceAdd, Nat.reduceLeDiff, Nat.reduceMul, Nat.reduceSub, Int.reduceLE, Int.reduceLT, Int.reduceToNat, Int.reducePow, Int.reduceEq, f6, f8, hp, hlt', List.length_map, Int.natCast_nonneg, Int.toNat_natCast, List.head?_drop])
    (refine WRun.done _ _ (hK _ _ ?_); clear hK)
    (repeat (first | refine W_seq ?_ | refine W_block ?_ | refine W_blk ?_ | refine W_skip ?_))
    (refine W_region [] (by rfl) fun K hK => ?_; simp only [go_sem, Nat.reduceEqDiff, Nat.reduceLT, Nat.reduceAdd, Nat.reduceLeDiff, Nat.reduceMul, Nat.reduceSub, Int.reduceLE, Int.reduceLT, Int.reduceToNat, Int.reducePow, Int.reduceEq, f3])
    (refine WRun.done _ _ (hK _ _ ?_); clear hK)
    (repeat (first | refine W_seq ?_ | refine W_block ?_ | refine W_blk ?_ | refine W_skip ?_))
    (refine W_region [] (by rfl) fun K hK => ?_; simp only [go_sem, Nat.reduceEqDiff, Nat.reduceLT, Nat.reduceAdd, Nat.reduceLeDiff, Nat.reduceMul, Nat.reduceSub, Int.reduceLE, Int.reduceLT, Int.reduceToNat, Int.reducePow, Int.reduceEq, f8, hw1])
    (refine WRun.done _ _ (hK _ _ ?_); clear hK)
    refine W_stop ⟨(j + 1, IntKind.i64.wrap (z + (row.length : Int))), ⟨hlt, rfl, ?_, ?_, ?_, ?_, ?_⟩, by show to.length - (j + 1) < to.length - j; omega⟩
    · simp only [go_sem, Nat.reduceEqDiff, Nat.reduceLT, Nat.reduceAdd, Nat.reduceLeDiff, Nat.reduceMul, Nat.reduceSub, Int.reduceLE, Int.reduceLT, Int.reduceToNat, Int.reducePow, Int.reduceEq, f0]
    · simp only [go_sem, Nat.reduceEqDiff, Nat.reduceLT, Nat.reduceAdd, Nat.reduceLeDiff, Nat.reduceMul, Nat.reduceSub, Int.reduceLE, Int.reduceLT, Int.reduceToNat, Int.reducePow, Int.reduceEq, f6]
    · simp only [go_sem, Nat.reduceEqDiff, Nat.reduceLT, Nat.reduceAdd, Nat.reduceLeDiff, Nat.reduceMul, Nat.reduceSub, Int.reduceLE, Int.reduceLT, Int.reduceToNat, Int.reducePow, Int.reduceEq, f7]
    · simp only [go_sem, Nat.reduceEqDiff, Nat.reduceLT, Nat.reduceAdd, Nat.reduceLeDiff, Nat.reduceMul, Nat.reduceSub, Int.reduceLE, Int.reduceLT, Int.reduceToNat, Int.reducePow, Int.reduceEq]
    · simp only [go_sem, Nat.reduceEqDiff, Nat.reduceLT, Nat.reduceAdd, Nat.reduceLeDiff, Nat.reduceMul, Nat.reduceSub, Int.reduceLE, Int.reduceLT, Int.reduceToNat, Int.reducePow, Int.reduceEq]
  · have hlt' : ¬ (j : Int) < (to.length : Int) := by omega
    (repeat (first | refine W_seq ?_ | refine W_block ?_ | refine W_blk ?_ | refine W_skip ?_))
    (refine W_region [] (by rfl) fun K hK => ?_; simp only [go_sem, Nat.reduceEqDiff, Nat.reduceLT, Nat.reduceAdd, Nat.reduceLeDiff, Nat.reduceMul, Nat.reduceSub, Int.reduceLE, Int.reduceLT, Int.reduceToNat, Int.reducePow, Int.reduceEq, f7, f8, hlt'])
    (refine WRun.done _ _ (hK _ _ ?_); clear hK)
    (repeat (first | refine W_seq ?_ | refine W_block ?_ | refine W_blk ?_ | refine W_skip ?_))
    refine W_cond_false (by simp only [go_sem, Nat.reduceEqDiff, Nat.reduceLT, Nat.reduceAdd, Nat.reduceLeDiff, Nat.reduceMul, Nat.reduceSub, Int.reduceLE, Int.reduceLT, Int.reduceToNat, Int.reducePow, Int.reduceEq]) ?_
    refine W_exit (Qof_code (Qof_stop (Qof_blk_same ?_)))
    (repeat (first | refine W_seq ?_ | refine W_block ?_ | refine W_blk ?_ | refine W_skip ?_))
    by_cases h40 : to.length ≤ 40
    · have h40' : ((to.length : Int) ≤ 40) = True := eq_true (by omega)
      (refine W_region [] (by rfl) fun K hK => ?_; simp only [go_sem, Nat.reduceEqDiff, Nat.reduceLT, Nat.reduceAdd, Nat.reduceLeDiff, Nat.reduceMul, Nat.reduceSub, Int.reduceLE, Int.reduceLT, Int.reduceToNat, Int.reducePow, Int.reduceEq, f0, f3, h40', List.length_map])
      (refine WRun.done _ _ (hK _ _ ?_); clear hK)
      refine W_ret ?_
      simp only [go_sem, Nat.reduceEqDiff, Nat.reduceLT, Nat.reduceAdd, Nat.reduceLeDiff, Nat.reduceMul, Nat.reduceSub, Int.reduceLE, Int.reduceLT, Int.reduceToNat, Int.reducePow, Int.reduceEq]
      exact ⟨_, rfl, fun _ => h40⟩
    · have h40' : ((to.length : Int) ≤ 40) = False := eq_false (by omega)
      (refine W_region [] (by rfl) fun K hK => ?_; simp only [go_sem, Nat.reduceEqDiff, Nat.reduceLT, Nat.reduceAdd, Nat.reduceLeDiff, Nat.reduceMul, Nat.reduceSub, Int.reduceLE, Int.reduceLT, Int.reduceToNat, Int.reducePow, Int.reduceEq, f0, f3, h40', List.length_map])
      (refine WRun.done _ _ (hK _ _ ?_); clear hK)
      refine W_ret ?_
      simp only [go_sem, Nat.reduceEqDiff, Nat.reduceLT, Nat.reduceAdd, Nat.reduceLeDiff, Nat.reduceMul, Nat.reduceSub, Int.reduceLE, Int.reduceLT, Int.reduceToNat, Int.reducePow, Int.reduceEq]
      exact ⟨false, rfl, fun h => by cases h⟩
end Go.Ax

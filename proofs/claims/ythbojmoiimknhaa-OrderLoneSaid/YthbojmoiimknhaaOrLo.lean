import Derived.Test.YthbojmoiimknhaaOrY
import Derived.Test.YthbojmoiimknhaaOrO
import Derived.Test.YthbojmoiimknhaaAx13
set_option linter.unusedSimpArgs false
set_option linter.unusedVariables false
namespace Go.Ord
variable {to : List (List Nat)} {row : List Nat}

theorem lone_adj {i : Nat} (hi : i < to.length) : adj (to ++ [row]) i = adj to i := by
  simp [adj, List.getElem?_append_left hi]
theorem lone_adj_n : adj (to ++ [row]) to.length = row := by simp [adj]
theorem lone_good (hg : Good to) (hr : ∀ k ∈ row, k < to.length) : Good (to ++ [row]) := by
  intro i k hk
  rw [List.length_append, List.length_singleton]
  rcases Nat.lt_trichotomy i to.length with h | h | h
  · rw [lone_adj h] at hk
    have := hg i k hk; omega
  · subst h
    rw [lone_adj_n] at hk
    have := hr k hk; omega
  · have : (to ++ [row])[i]? = none := List.getElem?_eq_none (by simp; omega)
    simp [adj, this] at hk
theorem lone_rch (hg : Good to) {i k : Nat} (hi : i < to.length) : Rch (to ++ [row]) i k ↔ Rch to i k := by
  constructor
  · intro h
    induction h with
    | refl => exact .refl _
    | step h1 _ ih =>
      rw [lone_adj hi] at h1
      exact .step h1 (ih (hg _ _ h1))
  · intro h
    induction h with
    | refl => exact .refl _
    | step h1 _ ih => exact .step (by rw [lone_adj hi]; exact h1) (ih (hg _ _ h1))
theorem lone_mut (hg : Good to) {i k : Nat} (hi : i < to.length) : Mut (to ++ [row]) i k ↔ Mut to i k := by
  constructor
  · intro h
    have h1 := (lone_rch hg hi).1 h.1
    exact ⟨h1, (lone_rch hg (h1.lt hg hi)).1 h.2⟩
  · intro h
    exact ⟨(lone_rch hg hi).2 h.1, (lone_rch hg (h.1.lt hg hi)).2 h.2⟩
theorem lone_mut_n (hg : Good to) (hr : ∀ k ∈ row, k < to.length) {k : Nat} : Mut (to ++ [row]) to.length k ↔ k = to.length := by
  constructor
  · intro h
    have hk := h.1.lt (lone_good hg hr) (by simp)
    simp at hk
    apply Classical.byContradiction
    intro hc
    have h2 := (lone_rch hg (show k < to.length by omega)).1 h.2
    have := h2.lt hg (by omega)
    omega
  · rintro rfl; exact .refl _
theorem lone_cls (hg : Good to) {i : Nat} (hi : i < to.length) : cls (to ++ [row]) i = cls to i := by
  unfold cls
  rw [List.length_append, List.length_singleton, List.range_succ, List.filter_append]
  have h1 : ¬ Mut (to ++ [row]) i to.length := by
    rw [lone_mut hg hi]
    intro h
    have := h.1.lt hg hi; omega
  rw [List.filter_cons, List.filter_nil, if_neg (by simpa using h1), List.append_nil]
  apply List.filter_congr
  intro k _
  have := lone_mut (row := row) hg hi (k := k)
  by_cases h : Mut to i k
  · simp [h, this.2 h]
  · have h2 : ¬ Mut (to ++ [row]) i k := fun hc => h (this.1 hc)
    simp [h, h2]
theorem lone_cls_n (hg : Good to) (hr : ∀ k ∈ row, k < to.length) : cls (to ++ [row]) to.length = [to.length] := by
  unfold cls
  rw [List.length_append, List.length_singleton, List.range_succ, List.filter_append]
  have h1 : ((List.range to.length).filter fun k => @decide (Mut (to ++ [row]) to.length k) (Classical.propDecidable _)) = [] := by
    apply List.filter_eq_nil_iff.2
    intro k hk
    have := List.mem_range.1 hk
    simp only [decide_eq_true_eq, lone_mut_n hg hr]
    omega
  rw [h1, List.nil_append, List.filter_cons, List.filter_nil, if_pos (by simpa using Mut.refl _)]

/-- A thing more, on which none hangs: it comes last. -/
theorem Seq.lone (hg : Good to) (hr : ∀ k ∈ row, k < to.length) {d : Nat → Bool} {l : List (List Nat)} (h : Seq to d l) : ∀ d' : Nat → Bool, (∀ k, k < to.length → d' k = d k) → d' to.length = false → Seq (to ++ [row]) d' (l ++ [[to.length]]) := by
  have hl : (to ++ [row]).length = to.length + 1 := by simp
  induction h with
  | nil d h =>
    intro d' he hn
    rw [List.nil_append, ← lone_cls_n hg hr]
    refine .cons d' _ _ ⟨⟨by omega, hn, fun k hk hm => ?_⟩, fun j hj => ?_⟩ (.nil _ fun i hi => ?_)
    · have h1 := hk.lt (lone_good hg hr) (by omega)
      have h2 : k ≠ to.length := fun e => hm ((lone_mut_n hg hr).2 e)
      rw [he k (by omega)]; exact h k (by omega)
    · apply Classical.byContradiction
      intro hc
      have := hj.2.1
      rw [he j (by omega), h j (by omega)] at this
      cases this
    · by_cases hi2 : i = to.length
      · subst hi2; simp [mark, Mut.refl]
      · simp [mark, he i (by omega), h i (by omega)]
  | cons d i l hnx _ ih =>
    intro d' he hn
    have hi := hnx.1.1
    rw [List.cons_append, ← lone_cls (row := row) hg hi]
    refine .cons d' i _ ⟨⟨by omega, by rw [he i hi]; exact hnx.1.2.1, fun k hk hm => ?_⟩, fun j hj => ?_⟩ (ih _ (fun k hk => ?_) ?_)
    · have h1 := (lone_rch hg hi).1 hk
      rw [he k (h1.lt hg hi)]
      exact hnx.1.2.2 k h1 (fun h => hm ((lone_mut hg hi).2 h))
    · by_cases hjn : j < to.length
      · refine hnx.2 j ⟨hjn, by rw [← he j hjn]; exact hj.2.1, fun k hk hm => ?_⟩
        rw [← he k (hk.lt hg hjn)]
        exact hj.2.2 k ((lone_rch hg hjn).2 hk) (fun h => hm ((lone_mut hg hjn).1 h))
      · omega
    · simp only [mark, he k hk]
      have := lone_mut (row := row) hg hi (k := k)
      by_cases h : Mut to i k
      · simp [h, this.2 h]
      · have h2 : ¬ Mut (to ++ [row]) i k := fun hc => h (this.1 hc)
        simp [h, h2]
    · have : ¬ Mut (to ++ [row]) i to.length := by
        rw [lone_mut hg hi]
        intro h
        have := h.1.lt hg hi; omega
      simp [mark, hn, this]
end Go.Ord
namespace Go.Ax
open Go.Proofs Go.Ord

theorem clone_ok (to : List (List Int)) (hlen : to.length ≤ 40) (M : AMem) :
    ACalls Try.prog 35 [.list .dull (rowsV to)] M (fun r M' => ∃ tg, r = .list tg (rowsV to) ∧ TailOk M' 0 tg ∧ M.length ≤ M'.length ∧ ∀ j, j < M.length → M'[j]? = M[j]?) := by
  refine acalls_enter [.tmp 2] 8 Try.func35 rfl rfl rfl (by simp) ?_
  have hok : (∀ y ∈ rowsV to, y.cells.length = 1 ∧ y.okv = true) = True := eq_true (by
    intro y hy
    obtain ⟨l, _, rfl⟩ := List.mem_map.1 hy
    exact ⟨rfl, rfl⟩)
  have hl : 0 + (rowsV to).length ≤ 1073741824 := by rw [rowsV_len]; omega
  have hl2 : (rowsV to).length ≤ 1073741824 := by rw [rowsV_len]; omega
  (repeat (first | refine W_seq ?_ | refine W_block ?_ | refine W_blk ?_ | refine W_skip ?_))
  (refine W_region [] (by rfl) fun K hK => ?_; simp only [go_sem, Nat.reduceEqDiff, Nat.reduceLT, Nat.reduceAdd, Nat.reduceLeDiff, Nat.reduceMul, Nat.reduceSub, Int.reduceLE, Int.reduceLT, Int.reduceToNat, Int.reducePow, Int.reduceEq])
  (refine WRun.done _ _ (hK _ _ ?_); clear hK)
  (repeat (first | refine W_seq ?_ | refine W_block ?_ | refine W_blk ?_ | refine W_skip ?_))
  refine W_nilcmp (tg := .dull) (xs := rowsV to) (v1 := .list .dull (rowsV to)) (te := 29) rfl rfl rfl (by decide) (by decide) (by simp only [go_sem, Nat.reduceEqDiff, Nat.reduceLT, Nat.reduceAdd, Nat.reduceLeDiff, Nat.reduceMul, Nat.reduceSub, Int.reduceLE, Int.reduceLT, Int.reduceToNat, Int.reducePow, Int.reduceEq]) (by simp only [go_sem, Nat.reduceEqDiff, Nat.reduceLT, Nat.reduceAdd, Nat.reduceLeDiff, Nat.reduceMul, Nat.reduceSub, Int.reduceLE, Int.reduceLT, Int.reduceToNat, Int.reducePow, Int.reduceEq]) (by simp only [go_sem, Nat.reduceEqDiff, Nat.reduceLT, Nat.reduceAdd, Nat.reduceLeDiff, Nat.reduceMul, Nat.reduceSub, Int.reduceLE, Int.reduceLT, Int.reduceToNat, Int.reducePow, Int.reduceEq]) ?_
  intro b hb
  cases b with
  | true =>
    have h0 : rowsV to = [] := Classical.byContradiction fun h => by have := hb h; cases this
    (repeat (first | refine W_seq ?_ | refine W_block ?_ | refine W_blk ?_ | refine W_skip ?_))
    refine W_cond_true (by simp only [go_sem, Nat.reduceEqDiff, Nat.reduceLT, Nat.reduceAdd, Nat.reduceLeDiff, Nat.reduceMul, Nat.reduceSub, Int.reduceLE, Int.reduceLT, Int.reduceToNat, Int.reducePow, Int.reduceEq]) ?_
    (repeat (first | refine W_seq ?_ | refine W_block ?_ | refine W_blk ?_ | refine W_skip ?_))
    (refine W_region [] (by rfl) fun K hK => ?_; simp only [go_sem, Nat.reduceEqDiff, Nat.reduceLT, Nat.reduceAdd, Nat.reduceLeDiff, Nat.reduceMul, Nat.reduceSub, Int.reduceLE, Int.reduceLT, Int.reduceToNat, Int.reducePow, Int.reduceEq])
    (refine WRun.done _ _ (hK _ _ ?_); clear hK)
    refine W_ret ?_
    simp only [go_sem, Nat.reduceEqDiff, Nat.reduceLT, Nat.reduceAdd, Nat.reduceLeDiff, Nat.reduceMul, Nat.reduceSub, Int.reduceLE, Int.reduceLT, Int.reduceToNat, Int.reducePow, Int.reduceEq]
    exact ⟨.full, by rw [h0], .inl rfl, Nat.le_refl _⟩
  | false =>
    (repeat (first | refine W_seq ?_ | refine W_block ?_ | refine W_blk ?_ | refine W_skip ?_))
    refine W_cond_false (by simp only [go_sem, Nat.reduceEqDiff, Nat.reduceLT, Nat.reduceAdd, Nat.reduceLeDiff, Nat.reduceMul, Nat.reduceSub, Int.reduceLE, Int.reduceLT, Int.reduceToNat, Int.reducePow, Int.reduceEq]) ?_
    (repeat (first | refine W_seq ?_ | refine W_block ?_ | refine W_blk ?_ | refine W_skip ?_))
    (refine W_region [] (by rfl) fun K hK => ?_; simp only [go_sem, Nat.reduceEqDiff, Nat.reduceLT, Nat.reduceAdd, Nat.reduceLeDiff, Nat.reduceMul, Nat.reduceSub, Int.reduceLE, Int.reduceLT, Int.reduceToNat, Int.reducePow, Int.reduceEq, hok, hl, hl2, List.length_nil, Nat.zero_add])
    (refine WRun.done _ _ (hK _ _ ?_); clear hK)
    refine W_ret ?_
    simp only [go_sem, Nat.reduceEqDiff, Nat.reduceLT, Nat.reduceAdd, Nat.reduceLeDiff, Nat.reduceMul, Nat.reduceSub, Int.reduceLE, Int.reduceLT, Int.reduceToNat, Int.reducePow, Int.reduceEq]
    refine ⟨_, rfl, .inr ⟨M.length, rfl, Nat.zero_le _, by simp⟩, by simp, fun j hj => List.getElem?_append_left hj⟩
end Go.Ax

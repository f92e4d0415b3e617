import Derived.Test.YthbojmoiimknhaaOrF
set_option linter.unusedSimpArgs false
set_option linter.unusedVariables false
namespace Go.Ax
open Go.Proofs Go.Ord

def RowsR (rs : List V) (l : List (List Nat)) : Prop := rs.length = l.length ∧ ∀ (i : Nat) (g : List Nat), l[i]? = some g → ∃ tg : Tag, rs[i]? = some (V.list tg (nats g))
theorem RowsR.nil : RowsR [] [] := ⟨rfl, fun i g h => by simp at h⟩
theorem RowsR.snoc {rs : List V} {l : List (List Nat)} (h : RowsR rs l) (tg : Tag) (g : List Nat) : RowsR (rs ++ [V.list tg (nats g)]) (l ++ [g]) := by
  refine ⟨by simp [h.1], fun i g' hi => ?_⟩
  by_cases hil : i < l.length
  · rw [List.getElem?_append_left hil] at hi
    obtain ⟨tg', h2⟩ := h.2 i g' hi
    exact ⟨tg', by rw [List.getElem?_append_left (by rw [h.1]; exact hil)]; exact h2⟩
  · have : i = l.length := by
      have := (List.getElem?_eq_some_iff.1 hi).1
      simp at this; omega
    subst this
    simp at hi
    subst hi
    exact ⟨tg, by rw [← h.1]; simp⟩
theorem RowsR.cells {rs : List V} {l : List (List Nat)} (h : RowsR rs l) : (∀ y ∈ rs, y.cells.length = 1) = True := eq_true (by
  intro y hy
  obtain ⟨i, hi⟩ := List.getElem?_of_mem hy
  have hil : i < l.length := by rw [← h.1]; exact (List.getElem?_eq_some_iff.1 hi).1
  obtain ⟨tg, h2⟩ := h.2 i _ (List.getElem?_eq_getElem hil)
  rw [hi] at h2
  injection h2 with h2
  rw [h2]; rfl)

theorem memb_cls {n : Nat} {grp : Nat → Nat} {to : List (List Nat)} (hn : n = to.length) (heq : ∀ k w, k < n → w < n → (grp k = grp w ↔ Mut to k w)) {i : Nat} (hi : i < n) : memb n grp n (grp i) = cls to i := by
  unfold memb cls
  rw [← hn]
  apply List.filter_congr
  intro k hk
  have hk := List.mem_range.1 hk
  have := heq i k hi hk
  by_cases h : grp k = grp i
  · simp [h, this.1 h.symm]
  · have : ¬ Mut to i k := fun hm => h (this.2 hm).symm
    simp [h, this]

theorem sorted_ok {M0 M : AMem} {B n : Nat} {x : V} {d : Ids} {s : TS} {sk : Option Nat} {to : List (List Nat)} {rs0 : List V} (h : VisAt M0 B n x d s sk M) (hto : ToAt M0 B x to rs0) (hn : n = to.length) (hn1 : n ≤ 1000000) (hgood : Good to) (hrl : ∀ i, (adj to i).length ≤ 9223372036854775807) (hgr1 : s.groups ≤ 1000000) (hB : B ≤ M.length)
    (hG : ∀ k, k < n → s.grp k < s.groups) (heq : ∀ k w, k < n → w < n → (s.grp k = s.grp w ↔ Mut to k w)) (hex : ∀ g, g < s.groups → ∃ k, k < n ∧ s.grp k = g) :
    ACalls Try.prog 42 [.ptr d.v 0] M (fun r M' => ∃ tg rs l, r = .list tg rs ∧ RowsR rs l ∧ Seq to (fun _ => false) l ∧ M.length ≤ M'.length ∧ ∀ j, j < M.length → M'[j]? = M[j]?) := by
  refine acalls_enter [.tmp 2] 94 Try.func42 rfl rfl rfl (by simp) ?_
  refine sorted_members h hn1 hgr1 hG hB _ (by simp only [go_sem, Nat.reduceEqDiff, Nat.reduceLT, Nat.reduceAdd, Nat.reduceLeDiff, Nat.reduceMul, Nat.reduceSub, Int.reduceLE, Int.reduceLT, Int.reduceToNat, Int.reducePow, Int.reduceEq]) ?_
  intro F M1 t f0 f3 hk1 hlen1 hmm
  have h1 := h.grow hB hk1
  have hv := h1.v
  have hG30 : (s.groups : Int) ≤ 1073741824 := by omega
  (repeat (first | refine W_seq ?_ | refine W_block ?_ | refine W_blk ?_ | refine W_skip ?_))
  (refine W_region [] (by rfl) fun K hK => ?_; simp only [go_sem, Nat.reduceEqDiff, Nat.reduceLT, Nat.reduceAdd, Nat.reduceLeDiff, Nat.reduceMul, Nat.reduceSub, Int.reduceLE, Int.reduceLT, Int.reduceToNat, Int.reducePow, Int.reduceEq])
  (refine WRun.done _ _ (hK _ _ ?_); clear hK)
  (repeat (first | refine W_seq ?_ | refine W_block ?_ | refine W_blk ?_ | refine W_skip ?_))
  (refine W_region [] (by rfl) fun K hK => ?_; simp only [go_sem, Nat.reduceEqDiff, Nat.reduceLT, Nat.reduceAdd, Nat.reduceLeDiff, Nat.reduceMul, Nat.reduceSub, Int.reduceLE, Int.reduceLT, Int.reduceToNat, Int.reducePow, Int.reduceEq, f0, hv, hG30, Nat.zero_add, Int.natCast_nonneg, Int.toNat_natCast, Int.le_refl])
  (refine WRun.done _ _ (hK _ _ ?_); clear hK)
  (repeat (first | refine W_seq ?_ | refine W_block ?_ | refine W_blk ?_ | refine W_skip ?_))
  refine W_loop (α := (Nat → Bool) × Tag × List V × List (List Nat) × (Nat → Bool)) (fun q F' M' => look F' 0 = .ptr d.v 0 ∧ look F' 3 = .arr M.length 0 s.groups 1 ∧ look F' 6 = .list q.2.1 q.2.2.1 ∧ look F' 7 = .arr M1.length 0 s.groups 1 ∧
      RowsR q.2.2.1 q.2.2.2.1 ∧ (∀ j, j < M1.length → M'[j]? = M1[j]?) ∧ M1.length < M'.length ∧ M'[M1.length]? = some (.cells (cellsB s.groups q.1)) ∧ (q.2.1 = .full ∨ ∃ j, q.2.1 = .own j ∧ M1.length < j ∧ M'[j]? = some .tail) ∧
      Cl to q.2.2.2.2 ∧ Pre to q.2.2.2.2 q.2.2.2.1 ∧ q.2.2.2.1.length = (List.range s.groups).countP q.1 ∧ ∀ k, k < n → q.1 (s.grp k) = q.2.2.2.2 k)
    (fun q => s.groups - q.2.2.2.1.length) (fun _ => false, .full, [], [], fun _ => false) ⟨?_, ?_, ?_, ?_, RowsR.nil, fun j hj => List.getElem?_append_left hj, by simp, ?_, .inl rfl, ?_, ?_, ?_, ?_⟩ ?_
  · simp only [go_sem, Nat.reduceEqDiff, Nat.reduceLT, Nat.reduceAdd, Nat.reduceLeDiff, Nat.reduceMul, Nat.reduceSub, Int.reduceLE, Int.reduceLT, Int.reduceToNat, Int.reducePow, Int.reduceEq, f0]
  · simp only [go_sem, Nat.reduceEqDiff, Nat.reduceLT, Nat.reduceAdd, Nat.reduceLeDiff, Nat.reduceMul, Nat.reduceSub, Int.reduceLE, Int.reduceLT, Int.reduceToNat, Int.reducePow, Int.reduceEq, f3]
  · simp only [go_sem, Nat.reduceEqDiff, Nat.reduceLT, Nat.reduceAdd, Nat.reduceLeDiff, Nat.reduceMul, Nat.reduceSub, Int.reduceLE, Int.reduceLT, Int.reduceToNat, Int.reducePow, Int.reduceEq]
  · simp only [go_sem, Nat.reduceEqDiff, Nat.reduceLT, Nat.reduceAdd, Nat.reduceLeDiff, Nat.reduceMul, Nat.reduceSub, Int.reduceLE, Int.reduceLT, Int.reduceToNat, Int.reducePow, Int.reduceEq]
  · rw [List.getElem?_append_right (Nat.le_refl _), Nat.sub_self]
    show some (AObj.cells (List.replicate s.groups _)) = _
    rw [replicate_map]
    rfl
  · intro x hx; cases hx
  · exact Pre.start
  · simp
  · intro _ _; rfl
  clear f0 f3 F
  rintro ⟨df, tgo, rs, l, dd⟩ F M2 ⟨f0, f3, f6, f7, hrr, hk2, hlen2, hdn, htgo, hcl, hpre, hcnt, hdf⟩
  simp only at f6 hrr hdn htgo hcl hpre hcnt hdf
  have h2 : VisAt M0 B n x d s sk M2 := h.grow hB fun j hj => (hk2 j (by omega)).trans (hk1 j hj)
  have hv2 := h2.v
  have hgr2 := h2.gr
  have hmm2 : M2[M.length]? = some (.cells (cellsR s.groups t (memb n s.grp n))) := (hk2 _ hlen1).trans hmm
  have hcle : (List.range s.groups).countP df ≤ s.groups := by
    have := List.countP_le_length (p := df) (l := List.range s.groups)
    simpa using this
  by_cases hlt : l.length < s.groups
  · have hlt' : (rs.length : Int) < (s.groups : Int) := by rw [hrr.1]; omega
    (repeat (first | refine W_seq ?_ | refine W_block ?_ | refine W_blk ?_ | refine W_skip ?_))
    (refine W_region [] (by rfl) fun K hK => ?_; simp only [go_sem, Nat.reduceEqDiff, Nat.reduceLT, Nat.reduceAdd, Nat.reduceLeDiff, Nat.reduceMul, Nat.reduceSub, Int.reduceLE, Int.reduceLT, Int.reduceToNat, Int.reducePow, Int.reduceEq, f0, f6, hv2, hlt', Nat.zero_add])
    (refine WRun.done _ _ (hK _ _ ?_); clear hK)
    (repeat (first | refine W_seq ?_ | refine W_block ?_ | refine W_blk ?_ | refine W_skip ?_))
    refine W_cond_true (by simp only [go_sem, Nat.reduceEqDiff, Nat.reduceLT, Nat.reduceAdd, Nat.reduceLeDiff, Nat.reduceMul, Nat.reduceSub, Int.reduceLE, Int.reduceLT, Int.reduceToNat, Int.reducePow, Int.reduceEq]) ?_
    (repeat (first | refine W_seq ?_ | refine W_block ?_ | refine W_blk ?_ | refine W_skip ?_))
    (refine W_region [] (by rfl) fun K hK => ?_; simp only [go_sem, Nat.reduceEqDiff, Nat.reduceLT, Nat.reduceAdd, Nat.reduceLeDiff, Nat.reduceMul, Nat.reduceSub, Int.reduceLE, Int.reduceLT, Int.reduceToNat, Int.reducePow, Int.reduceEq, f0, hv2, Nat.zero_add])
    (refine WRun.done _ _ (hK _ _ ?_); clear hK)
    (repeat (first | refine W_seq ?_ | refine W_block ?_ | refine W_blk ?_ | refine W_skip ?_))
    refine W_loop (α := Nat) (fun i F' M' => i ≤ n ∧ M' = M2 ∧ look F' 0 = .ptr d.v 0 ∧ look F' 3 = .arr M.length 0 s.groups 1 ∧ look F' 6 = .list tgo rs ∧ look F' 7 = .arr M1.length 0 s.groups 1 ∧ look F' 51 = .arr d.gr 0 n 1 ∧ look F' 52 = V.int n ∧ look F' 53 = V.int i ∧ ∀ j, j < i → ¬ Tst to dd j)
      (fun i => n - i) 0 ⟨Nat.zero_le _, rfl, ?_, ?_, ?_, ?_, ?_, ?_, ?_, fun j hj => absurd hj (Nat.not_lt_zero _)⟩ ?_
    · simp only [go_sem, Nat.reduceEqDiff, Nat.reduceLT, Nat.reduceAdd, Nat.reduceLeDiff, Nat.reduceMul, Nat.reduceSub, Int.reduceLE, Int.reduceLT, Int.reduceToNat, Int.reducePow, Int.reduceEq, f0]
    · simp only [go_sem, Nat.reduceEqDiff, Nat.reduceLT, Nat.reduceAdd, Nat.reduceLeDiff, Nat.reduceMul, Nat.reduceSub, Int.reduceLE, Int.reduceLT, Int.reduceToNat, Int.reducePow, Int.reduceEq, f3]
    · simp only [go_sem, Nat.reduceEqDiff, Nat.reduceLT, Nat.reduceAdd, Nat.reduceLeDiff, Nat.reduceMul, Nat.reduceSub, Int.reduceLE, Int.reduceLT, Int.reduceToNat, Int.reducePow, Int.reduceEq, f6]
    · simp only [go_sem, Nat.reduceEqDiff, Nat.reduceLT, Nat.reduceAdd, Nat.reduceLeDiff, Nat.reduceMul, Nat.reduceSub, Int.reduceLE, Int.reduceLT, Int.reduceToNat, Int.reducePow, Int.reduceEq, f7]
    · simp only [go_sem, Nat.reduceEqDiff, Nat.reduceLT, Nat.reduceAdd, Nat.reduceLeDiff, Nat.reduceMul, Nat.reduceSub, Int.reduceLE, Int.reduceLT, Int.reduceToNat, Int.reducePow, Int.reduceEq]
    · simp only [go_sem, Nat.reduceEqDiff, Nat.reduceLT, Nat.reduceAdd, Nat.reduceLeDiff, Nat.reduceMul, Nat.reduceSub, Int.reduceLE, Int.reduceLT, Int.reduceToNat, Int.reducePow, Int.reduceEq]
    · simp only [go_sem, Nat.reduceEqDiff, Nat.reduceLT, Nat.reduceAdd, Nat.reduceLeDiff, Nat.reduceMul, Nat.reduceSub, Int.reduceLE, Int.reduceLT, Int.reduceToNat, Int.reducePow, Int.reduceEq]
    clear f0 f3 f6 f7 F
    rintro i F M' ⟨hi, rfl, f0, f3, f6, f7, f51, f52, f53, hnot⟩
    by_cases hin : i < n
    · have hin' : (i : Int) < (n : Int) := by omega
      have hw1 : IntKind.i64.wrap ((i : Int) + 1) = ((i + 1 : Nat) : Int) := by rw [wrapI _ (by omega) (by omega)]; omega
      have hgi := cellsN_at s.grp hin
      have hmc := memb_cls hn heq hin
      obtain ⟨g, hg⟩ : ∃ g, g = s.grp i := ⟨_, rfl⟩
      rw [← hg] at hgi hmc
      have hgG : g < s.groups := by rw [hg]; exact hG i hin
      have hgG' : (g : Int) < (s.groups : Int) := by omega
      have hdg := cellsB_at df hgG
      have hcg := cellsR_at t (memb n s.grp n) hgG
      rw [hmc] at hcg
      have hddi : df g = dd i := by rw [hg]; exact hdf i hin
      (repeat (first | refine W_seq ?_ | refine W_block ?_ | refine W_blk ?_ | refine W_skip ?_))
      (refine W_region [] (by rfl) fun K hK => ?_; simp only [go_sem, Nat.reduceEqDiff, Nat.reduceLT, Nat.reduceAdd, Nat.reduceLeDiff, Nat.reduceMul, Nat.reduceSub, Int.reduceLE, Int.reduceLT, Int.reduceToNat, Int.reducePow, Int.reduceEq, f52, f53, hin'])
      (refine WRun.done _ _ (hK _ _ ?_); clear hK)
      (repeat (first | refine W_seq ?_ | refine W_block ?_ | refine W_blk ?_ | refine W_skip ?_))
      refine W_cond_true (by simp only [go_sem, Nat.reduceEqDiff, Nat.reduceLT, Nat.reduceAdd, Nat.reduceLeDiff, Nat.reduceMul, Nat.reduceSub, Int.reduceLE, Int.reduceLT, Int.reduceToNat, Int.reducePow, Int.reduceEq]) ?_
      (repeat (first | refine W_seq ?_ | refine W_block ?_ | refine W_blk ?_ | refine W_skip ?_))
      (refine W_region [] (by rfl) fun K hK => ?_; simp only [go_sem, Nat.reduceEqDiff, Nat.reduceLT, Nat.reduceAdd, Nat.reduceLeDiff, Nat.reduceMul, Nat.reduceSub, Int.reduceLE, Int.reduceLT, Int.reduceToNat, Int.reducePow, Int.reduceEq, f51, f53, hgr2, hgi, hin', Int.natCast_nonneg, Int.toNat_natCast, List.head?_drop, Nat.zero_add])
      (refine WRun.done _ _ (hK _ _ ?_); clear hK)
      (repeat (first | refine W_seq ?_ | refine W_block ?_ | refine W_blk ?_ | refine W_skip ?_))
      cases hb : df g with
      | true =>
        rw [hb] at hdg
        have hT : ¬ Tst to dd i := fun hc => by have := hc.1; rw [← hddi, hb] at this; cases this
        (refine W_region [] (by rfl) fun K hK => ?_; simp only [go_sem, Nat.reduceEqDiff, Nat.reduceLT, Nat.reduceAdd, Nat.reduceLeDiff, Nat.reduceMul, Nat.reduceSub, Int.reduceLE, Int.reduceLT, Int.reduceToNat, Int.reducePow, Int.reduceEq, f7, hdn, hdg, hgG', Int.natCast_nonneg, Int.toNat_natCast, List.head?_drop, Nat.zero_add])
        (refine WRun.done _ _ (hK _ _ ?_); clear hK)
        (repeat (first | refine W_seq ?_ | refine W_block ?_ | refine W_blk ?_ | refine W_skip ?_))
        refine W_cond_false (by simp only [go_sem, Nat.reduceEqDiff, Nat.reduceLT, Nat.reduceAdd, Nat.reduceLeDiff, Nat.reduceMul, Nat.reduceSub, Int.reduceLE, Int.reduceLT, Int.reduceToNat, Int.reducePow, Int.reduceEq]) ?_
        (repeat (first | refine W_seq ?_ | refine W_block ?_ | refine W_blk ?_ | refine W_skip ?_))
        (refine W_region [] (by rfl) fun K hK => ?_; simp only [go_sem, Nat.reduceEqDiff, Nat.reduceLT, Nat.reduceAdd, Nat.reduceLeDiff, Nat.reduceMul, Nat.reduceSub, Int.reduceLE, Int.reduceLT, Int.reduceToNat, Int.reducePow, Int.reduceEq, f53, hw1])
        (refine WRun.done _ _ (hK _ _ ?_); clear hK)
        refine W_stop ⟨i + 1, ⟨hin, rfl, ?_, ?_, ?_, ?_, ?_, ?_, ?_, ?_⟩, by omega⟩
        · simp only [go_sem, Nat.reduceEqDiff, Nat.reduceLT, Nat.reduceAdd, Nat.reduceLeDiff, Nat.reduceMul, Nat.reduceSub, Int.reduceLE, Int.reduceLT, Int.reduceToNat, Int.reducePow, Int.reduceEq, f0]
        · simp only [go_sem, Nat.reduceEqDiff, Nat.reduceLT, Nat.reduceAdd, Nat.reduceLeDiff, Nat.reduceMul, Nat.reduceSub, Int.reduceLE, Int.reduceLT, Int.reduceToNat, Int.reducePow, Int.reduceEq, f3]
        · simp only [go_sem, Nat.reduceEqDiff, Nat.reduceLT, Nat.reduceAdd, Nat.reduceLeDiff, Nat.reduceMul, Nat.reduceSub, Int.reduceLE, Int.reduceLT, Int.reduceToNat, Int.reducePow, Int.reduceEq, f6]
        · simp only [go_sem, Nat.reduceEqDiff, Nat.reduceLT, Nat.reduceAdd, Nat.reduceLeDiff, Nat.reduceMul, Nat.reduceSub, Int.reduceLE, Int.reduceLT, Int.reduceToNat, Int.reducePow, Int.reduceEq, f7]
        · simp only [go_sem, Nat.reduceEqDiff, Nat.reduceLT, Nat.reduceAdd, Nat.reduceLeDiff, Nat.reduceMul, Nat.reduceSub, Int.reduceLE, Int.reduceLT, Int.reduceToNat, Int.reducePow, Int.reduceEq, f51]
        · simp only [go_sem, Nat.reduceEqDiff, Nat.reduceLT, Nat.reduceAdd, Nat.reduceLeDiff, Nat.reduceMul, Nat.reduceSub, Int.reduceLE, Int.reduceLT, Int.reduceToNat, Int.reducePow, Int.reduceEq, f52]
        · simp only [go_sem, Nat.reduceEqDiff, Nat.reduceLT, Nat.reduceAdd, Nat.reduceLeDiff, Nat.reduceMul, Nat.reduceSub, Int.reduceLE, Int.reduceLT, Int.reduceToNat, Int.reducePow, Int.reduceEq]
        · intro j hj hc
          by_cases hji : j = i
          · subst hji; exact hT hc
          · exact hnot j (by omega) hc
      | false =>
        rw [hb] at hdg
        obtain ⟨a, r, hcl1, hai, hma, han, hleast⟩ := least_cls (to := to) (i := i) (by omega)
        have hcl0 : (0 : Int) < ((cls to i).length : Int) := by rw [hcl1]; simp
        have hca : (nats (cls to i))[0]? = some (V.int (a : Int)) := nats_at (by rw [hcl1]; rfl)
        have hcn : (cls to i).length ≤ 1000000 := by have := cls_len (to := to) i; omega
        by_cases hae : a = i
        · have hae' : ((a : Int) = (i : Int)) = True := eq_true (by omega)
          (refine W_region [] (by rfl) fun K hK => ?_; simp only [go_sem, Nat.reduceEqDiff, Nat.reduceLT, Nat.reduceAdd, Nat.reduceLeDiff, Nat.reduceMul, Nat.reduceSub, Int.reduceLE, Int.reduceLT, Int.reduceToNat, Int.reducePow, Int.reduceEq, f0, f3, f7, hdn, hdg, hgG', hmm2, hcg, hcl0, nats_len, hca, hae', Int.natCast_nonneg, Int.toNat_natCast, Int.toNat_zero, List.head?_drop, List.drop_zero, Nat.zero_add, Int.le_refl])
          refine WRun.call _ _ _ _ _ _ _ (ready_ok h2 hto hn (fun i k hk => by rw [hn]; exact hgood i k hk) hrl s.groups hG (t g) (cls to i) (fun a ha => by rw [hn]; exact (mem_cls.1 ha).1) hcn M1.length df hdn) ?_
          rintro v M3 ⟨rfl, b, rfl, hbi⟩
          simp only [go_sem, Nat.reduceEqDiff, Nat.reduceLT, Nat.reduceAdd, Nat.reduceLeDiff, Nat.reduceMul, Nat.reduceSub, Int.reduceLE, Int.reduceLT, Int.reduceToNat, Int.reducePow, Int.reduceEq]
          (refine WRun.done _ _ (hK _ _ ?_); clear hK)
          have hready : b = true ↔ ∀ a ∈ cls to i, ∀ k ∈ adj to a, Mut to k a ∨ dd k = true := by
            rw [hbi]
            constructor
            · intro hh a ha k hk
              have han := (mem_cls.1 ha).1
              have hkn := hgood a k hk
              rcases hh a ha k hk with h3 | h3
              · exact .inl ((heq k a (by omega) (by omega)).1 h3)
              · exact .inr (by rw [← hdf k (by omega)]; exact h3)
            · intro hh a ha k hk
              have han := (mem_cls.1 ha).1
              have hkn := hgood a k hk
              rcases hh a ha k hk with h3 | h3
              · exact .inl ((heq k a (by omega) (by omega)).2 h3)
              · exact .inr (by rw [hdf k (by omega)]; exact h3)
          cases b with
          | false =>
            have hT : ¬ Tst to dd i := fun hc => by have := hready.2 hc.2.2; cases this
            (repeat (first | refine W_seq ?_ | refine W_block ?_ | refine W_blk ?_ | refine W_skip ?_))
            refine W_cond_false (by simp only [go_sem, Nat.reduceEqDiff, Nat.reduceLT, Nat.reduceAdd, Nat.reduceLeDiff, Nat.reduceMul, Nat.reduceSub, Int.reduceLE, Int.reduceLT, Int.reduceToNat, Int.reducePow, Int.reduceEq]) ?_
            (repeat (first | refine W_seq ?_ | refine W_block ?_ | refine W_blk ?_ | refine W_skip ?_))
            (refine W_region [] (by rfl) fun K hK => ?_; simp only [go_sem, Nat.reduceEqDiff, Nat.reduceLT, Nat.reduceAdd, Nat.reduceLeDiff, Nat.reduceMul, Nat.reduceSub, Int.reduceLE, Int.reduceLT, Int.reduceToNat, Int.reducePow, Int.reduceEq, f53, hw1])
            (refine WRun.done _ _ (hK _ _ ?_); clear hK)
            refine W_stop ⟨i + 1, ⟨hin, rfl, ?_, ?_, ?_, ?_, ?_, ?_, ?_, ?_⟩, by omega⟩
            · simp only [go_sem, Nat.reduceEqDiff, Nat.reduceLT, Nat.reduceAdd, Nat.reduceLeDiff, Nat.reduceMul, Nat.reduceSub, Int.reduceLE, Int.reduceLT, Int.reduceToNat, Int.reducePow, Int.reduceEq, f0]
            · simp only [go_sem, Nat.reduceEqDiff, Nat.reduceLT, Nat.reduceAdd, Nat.reduceLeDiff, Nat.reduceMul, Nat.reduceSub, Int.reduceLE, Int.reduceLT, Int.reduceToNat, Int.reducePow, Int.reduceEq, f3]
            · simp only [go_sem, Nat.reduceEqDiff, Nat.reduceLT, Nat.reduceAdd, Nat.reduceLeDiff, Nat.reduceMul, Nat.reduceSub, Int.reduceLE, Int.reduceLT, Int.reduceToNat, Int.reducePow, Int.reduceEq, f6]
            · simp only [go_sem, Nat.reduceEqDiff, Nat.reduceLT, Nat.reduceAdd, Nat.reduceLeDiff, Nat.reduceMul, Nat.reduceSub, Int.reduceLE, Int.reduceLT, Int.reduceToNat, Int.reducePow, Int.reduceEq, f7]
            · simp only [go_sem, Nat.reduceEqDiff, Nat.reduceLT, Nat.reduceAdd, Nat.reduceLeDiff, Nat.reduceMul, Nat.reduceSub, Int.reduceLE, Int.reduceLT, Int.reduceToNat, Int.reducePow, Int.reduceEq, f51]
            · simp only [go_sem, Nat.reduceEqDiff, Nat.reduceLT, Nat.reduceAdd, Nat.reduceLeDiff, Nat.reduceMul, Nat.reduceSub, Int.reduceLE, Int.reduceLT, Int.reduceToNat, Int.reducePow, Int.reduceEq, f52]
            · simp only [go_sem, Nat.reduceEqDiff, Nat.reduceLT, Nat.reduceAdd, Nat.reduceLeDiff, Nat.reduceMul, Nat.reduceSub, Int.reduceLE, Int.reduceLT, Int.reduceToNat, Int.reducePow, Int.reduceEq]
            · intro j hj hc
              by_cases hji : j = i
              · subst hji; exact hT hc
              · exact hnot j (by omega) hc
          | true =>
            have hT : Tst to dd i := ⟨by rw [← hddi]; exact hb, by rw [hcl1, hae]; rfl, hready.1 rfl⟩
            have hnx := nxt_of_tst hgood hcl (by omega) hT hnot
            have o1 := overB df hgG true
            have hg1 : g + 1 ≤ s.groups := hgG
            have hlo : tagOk tgo (M3.set M1.length (.cells (cellsB s.groups (upd df g true)))) = true := by
              rcases htgo with e | ⟨j, e, h3, h4⟩
              · rw [e]; rfl
              · rw [e]; simp only [tagOk]; rw [List.getElem?_set_ne (by omega), h4]
            have hmmS : (M3.set M1.length (.cells (cellsB s.groups (upd df g true))))[M.length]? = some (.cells (cellsR s.groups t (memb n s.grp n))) := by rw [List.getElem?_set_ne (by omega)]; exact hmm2
            have hrc := hrr.cells
            have hrl2 : rs.length + 1 ≤ 1073741824 := by rw [hrr.1]; omega
            (repeat (first | refine W_seq ?_ | refine W_block ?_ | refine W_blk ?_ | refine W_skip ?_))
            refine W_cond_true (by simp only [go_sem, Nat.reduceEqDiff, Nat.reduceLT, Nat.reduceAdd, Nat.reduceLeDiff, Nat.reduceMul, Nat.reduceSub, Int.reduceLE, Int.reduceLT, Int.reduceToNat, Int.reducePow, Int.reduceEq]) ?_
            (repeat (first | refine W_seq ?_ | refine W_block ?_ | refine W_blk ?_ | refine W_skip ?_))
            (refine W_region [] (by rfl) fun K hK => ?_; simp only [go_sem, Nat.reduceEqDiff, Nat.reduceLT, Nat.reduceAdd, Nat.reduceLeDiff, Nat.reduceMul, Nat.reduceSub, Int.reduceLE, Int.reduceLT, Int.reduceToNat, Int.reducePow, Int.reduceEq, f7, hgG', hdn, cellsB_len, hg1, o1, Int.natCast_nonneg, Int.toNat_natCast, Nat.zero_add])
            (refine WRun.done _ _ (hK _ _ ?_); clear hK)
            (repeat (first | refine W_seq ?_ | refine W_block ?_ | refine W_blk ?_ | refine W_skip ?_))
            (refine W_region [] (by rfl) fun K hK => ?_; simp only [go_sem, Nat.reduceEqDiff, Nat.reduceLT, Nat.reduceAdd, Nat.reduceLeDiff, Nat.reduceMul, Nat.reduceSub, Int.reduceLE, Int.reduceLT, Int.reduceToNat, Int.reducePow, Int.reduceEq, f3, f6, hmmS, hcg, hgG', hlo, hrc, hrl2, Int.natCast_nonneg, Int.toNat_natCast, List.head?_drop, Nat.zero_add])
            (refine WRun.done _ _ (hK _ _ ?_); clear hK)
            refine W_exit (Qof_blk_other (by decide) (Qof_code (Qof_stop (Qof_blk_same ?_))))
            (repeat (first | refine W_seq ?_ | refine W_block ?_ | refine W_blk ?_ | refine W_skip ?_))
            have hnm : ∀ j, j ≤ M1.length → tgo ≠ .own j := by
              intro j hj e
              rcases htgo with h3 | ⟨j', h3, h4, _⟩
              · rw [h3] at e; cases e
              · rw [h3] at e; injection e with e; omega
            have hcnt2 : (List.range s.groups).countP df + 1 = (List.range s.groups).countP (upd df g true) :=
              count_upd (i := g) List.nodup_range (List.mem_range.2 hgG) (upd_same _ _ _) hb (fun k hk => (upd_ne _ _ hk).symm)
            refine W_stop ⟨(upd df g true, .own M3.length, rs ++ [V.list (t g) (nats (cls to i))], l ++ [cls to i], Ord.mark to dd i), ⟨?_, ?_, ?_, ?_, hrr.snoc _ _, ?_, ?_, ?_, ?_, hcl.mark hnx.1, hpre.next hnx, ?_, ?_⟩, ?_⟩
            · simp only [go_sem, Nat.reduceEqDiff, Nat.reduceLT, Nat.reduceAdd, Nat.reduceLeDiff, Nat.reduceMul, Nat.reduceSub, Int.reduceLE, Int.reduceLT, Int.reduceToNat, Int.reducePow, Int.reduceEq, f0]
            · simp only [go_sem, Nat.reduceEqDiff, Nat.reduceLT, Nat.reduceAdd, Nat.reduceLeDiff, Nat.reduceMul, Nat.reduceSub, Int.reduceLE, Int.reduceLT, Int.reduceToNat, Int.reducePow, Int.reduceEq, f3]
            · simp only [go_sem, Nat.reduceEqDiff, Nat.reduceLT, Nat.reduceAdd, Nat.reduceLeDiff, Nat.reduceMul, Nat.reduceSub, Int.reduceLE, Int.reduceLT, Int.reduceToNat, Int.reducePow, Int.reduceEq, List.length_set]
            · simp only [go_sem, Nat.reduceEqDiff, Nat.reduceLT, Nat.reduceAdd, Nat.reduceLeDiff, Nat.reduceMul, Nat.reduceSub, Int.reduceLE, Int.reduceLT, Int.reduceToNat, Int.reducePow, Int.reduceEq, f7]
            · intro j hj
              rw [List.getElem?_append_left (by simp [dropTag_sz]; omega), dropTag_ne _ _ (hnm j (by omega)), List.getElem?_set_ne (by omega)]
              exact hk2 j hj
            · simp [dropTag_sz]; omega
            · rw [List.getElem?_append_left (by simp [dropTag_sz]; omega), dropTag_ne _ _ (hnm _ (Nat.le_refl _)), List.getElem?_set_self hlen2]
            · refine .inr ⟨M3.length, rfl, hlen2, ?_⟩
              rw [List.getElem?_append_right (by simp [dropTag_sz])]
              simp [dropTag_sz]
            · show (l ++ [cls to i]).length = _
              rw [← hcnt2, ← hcnt]; simp
            · intro k hk
              show upd df g true (s.grp k) = Ord.mark to dd i k
              simp only [Ord.mark, upd, hg]
              have h5 := heq k i hk hin
              by_cases h6 : s.grp k = s.grp i
              · have : Mut to i k := (h5.1 h6).symm
                simp [h6, this]
              · have : ¬ Mut to i k := fun hm => h6 (h5.2 hm.symm)
                simp [h6, this, hdf k hk]
            · show s.groups - (l ++ [cls to i]).length < s.groups - l.length
              simp; omega
        · have hae' : ((a : Int) = (i : Int)) = False := eq_false (by omega)
          have hT : ¬ Tst to dd i := fun hc => by
            have := hc.2.1
            rw [hcl1] at this
            simp at this
            exact hae this
          (refine W_region [] (by rfl) fun K hK => ?_; simp only [go_sem, Nat.reduceEqDiff, Nat.reduceLT, Nat.reduceAdd, Nat.reduceLeDiff, Nat.reduceMul, Nat.reduceSub, Int.reduceLE, Int.reduceLT, Int.reduceToNat, Int.reducePow, Int.reduceEq, f3, f7, hdn, hdg, hgG', hmm2, hcg, hcl0, nats_len, hca, hae', Int.natCast_nonneg, Int.toNat_natCast, Int.toNat_zero, List.head?_drop, List.drop_zero, Nat.zero_add, Int.le_refl])
          (refine WRun.done _ _ (hK _ _ ?_); clear hK)
          (repeat (first | refine W_seq ?_ | refine W_block ?_ | refine W_blk ?_ | refine W_skip ?_))
          refine W_cond_false (by simp only [go_sem, Nat.reduceEqDiff, Nat.reduceLT, Nat.reduceAdd, Nat.reduceLeDiff, Nat.reduceMul, Nat.reduceSub, Int.reduceLE, Int.reduceLT, Int.reduceToNat, Int.reducePow, Int.reduceEq]) ?_
          (repeat (first | refine W_seq ?_ | refine W_block ?_ | refine W_blk ?_ | refine W_skip ?_))
          (refine W_region [] (by rfl) fun K hK => ?_; simp only [go_sem, Nat.reduceEqDiff, Nat.reduceLT, Nat.reduceAdd, Nat.reduceLeDiff, Nat.reduceMul, Nat.reduceSub, Int.reduceLE, Int.reduceLT, Int.reduceToNat, Int.reducePow, Int.reduceEq, f53, hw1])
          (refine WRun.done _ _ (hK _ _ ?_); clear hK)
          refine W_stop ⟨i + 1, ⟨hin, rfl, ?_, ?_, ?_, ?_, ?_, ?_, ?_, ?_⟩, by omega⟩
          · simp only [go_sem, Nat.reduceEqDiff, Nat.reduceLT, Nat.reduceAdd, Nat.reduceLeDiff, Nat.reduceMul, Nat.reduceSub, Int.reduceLE, Int.reduceLT, Int.reduceToNat, Int.reducePow, Int.reduceEq, f0]
          · simp only [go_sem, Nat.reduceEqDiff, Nat.reduceLT, Nat.reduceAdd, Nat.reduceLeDiff, Nat.reduceMul, Nat.reduceSub, Int.reduceLE, Int.reduceLT, Int.reduceToNat, Int.reducePow, Int.reduceEq, f3]
          · simp only [go_sem, Nat.reduceEqDiff, Nat.reduceLT, Nat.reduceAdd, Nat.reduceLeDiff, Nat.reduceMul, Nat.reduceSub, Int.reduceLE, Int.reduceLT, Int.reduceToNat, Int.reducePow, Int.reduceEq, f6]
          · simp only [go_sem, Nat.reduceEqDiff, Nat.reduceLT, Nat.reduceAdd, Nat.reduceLeDiff, Nat.reduceMul, Nat.reduceSub, Int.reduceLE, Int.reduceLT, Int.reduceToNat, Int.reducePow, Int.reduceEq, f7]
          · simp only [go_sem, Nat.reduceEqDiff, Nat.reduceLT, Nat.reduceAdd, Nat.reduceLeDiff, Nat.reduceMul, Nat.reduceSub, Int.reduceLE, Int.reduceLT, Int.reduceToNat, Int.reducePow, Int.reduceEq, f51]
          · simp only [go_sem, Nat.reduceEqDiff, Nat.reduceLT, Nat.reduceAdd, Nat.reduceLeDiff, Nat.reduceMul, Nat.reduceSub, Int.reduceLE, Int.reduceLT, Int.reduceToNat, Int.reducePow, Int.reduceEq, f52]
          · simp only [go_sem, Nat.reduceEqDiff, Nat.reduceLT, Nat.reduceAdd, Nat.reduceLeDiff, Nat.reduceMul, Nat.reduceSub, Int.reduceLE, Int.reduceLT, Int.reduceToNat, Int.reducePow, Int.reduceEq]
          · intro j hj hc
            by_cases hji : j = i
            · subst hji; exact hT hc
            · exact hnot j (by omega) hc
    · have hin' : ¬ (i : Int) < (n : Int) := by omega
      exfalso
      have hne : ∃ g, g < s.groups ∧ df g = false := by
        apply Classical.byContradiction
        intro hc
        have : (List.range s.groups).countP df = s.groups := by
          have h3 : (List.range s.groups).countP df = (List.range s.groups).length := List.countP_eq_length.2 fun g hg => by
            cases hd : df g with
            | true => rfl
            | false => exact absurd ⟨g, List.mem_range.1 hg, hd⟩ hc
          simpa using h3
        omega
      obtain ⟨g, hg, hd⟩ := hne
      obtain ⟨k, hk, hkg⟩ := hex g hg
      have hdk : dd k = false := by rw [← hdf k hk, hkg]; exact hd
      obtain ⟨j, hj⟩ := exists_rdy hgood _ k (Nat.le_refl _) (by omega) hdk
      obtain ⟨a, _, h3, h4⟩ := tst_of_rdy hcl hj
      exact hnot a (by omega) h4
  · have hlt' : ¬ (rs.length : Int) < (s.groups : Int) := by rw [hrr.1]; omega
    (repeat (first | refine W_seq ?_ | refine W_block ?_ | refine W_blk ?_ | refine W_skip ?_))
    (refine W_region [] (by rfl) fun K hK => ?_; simp only [go_sem, Nat.reduceEqDiff, Nat.reduceLT, Nat.reduceAdd, Nat.reduceLeDiff, Nat.reduceMul, Nat.reduceSub, Int.reduceLE, Int.reduceLT, Int.reduceToNat, Int.reducePow, Int.reduceEq, f0, f6, hv2, hlt', Nat.zero_add])
    (refine WRun.done _ _ (hK _ _ ?_); clear hK)
    (repeat (first | refine W_seq ?_ | refine W_block ?_ | refine W_blk ?_ | refine W_skip ?_))
    refine W_cond_false (by simp only [go_sem, Nat.reduceEqDiff, Nat.reduceLT, Nat.reduceAdd, Nat.reduceLeDiff, Nat.reduceMul, Nat.reduceSub, Int.reduceLE, Int.reduceLT, Int.reduceToNat, Int.reducePow, Int.reduceEq]) ?_
    refine W_exit (Qof_code (Qof_stop (Qof_blk_same ?_)))
    (repeat (first | refine W_seq ?_ | refine W_block ?_ | refine W_blk ?_ | refine W_skip ?_))
    (refine W_region [] (by rfl) fun K hK => ?_; simp only [go_sem, Nat.reduceEqDiff, Nat.reduceLT, Nat.reduceAdd, Nat.reduceLeDiff, Nat.reduceMul, Nat.reduceSub, Int.reduceLE, Int.reduceLT, Int.reduceToNat, Int.reducePow, Int.reduceEq, f6])
    (refine WRun.done _ _ (hK _ _ ?_); clear hK)
    refine W_ret ?_
    simp only [go_sem, Nat.reduceEqDiff, Nat.reduceLT, Nat.reduceAdd, Nat.reduceLeDiff, Nat.reduceMul, Nat.reduceSub, Int.reduceLE, Int.reduceLT, Int.reduceToNat, Int.reducePow, Int.reduceEq]
    refine ⟨tgo, rs, l, rfl, hrr, hpre.done fun k hk => ?_, by omega, fun j hj => (hk2 j (by omega)).trans (hk1 j hj)⟩
    have h3 : (List.range s.groups).countP df = (List.range s.groups).length := by simp; omega
    rw [← hdf k (by omega)]
    exact List.countP_eq_length.1 h3 _ (List.mem_range.2 (hG k (by omega)))
end Go.Ax

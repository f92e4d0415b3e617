import Derived.Test.YthbojmoiimknhaaOrO
import Derived.Test.YthbojmoiimknhaaOrW
set_option linter.unusedSimpArgs false
set_option linter.unusedVariables false
namespace Go.Ord

theorem Seq.nodup {to : List (List Nat)} {d : Nat → Bool} {l : List (List Nat)} (h : Seq to d l) : l.Nodup := by
  induction h with
  | nil => exact List.nodup_nil
  | cons d i l hn ht ih =>
    rw [List.nodup_cons]
    refine ⟨fun hm => ?_, ih⟩
    obtain ⟨j, h1, h2, h3⟩ := ht.mem _ hm
    have hi : i ∈ cls to i := mem_cls.2 ⟨hn.1.1, .refl i⟩
    rw [h3] at hi
    have := (mem_cls.1 hi).2.symm
    simp [mark, this] at h2
theorem Seq.mem_iff {to : List (List Nat)} (hg : Good to) {l : List (List Nat)} (h : Seq to (fun _ => false) l) (g : List Nat) : g ∈ l ↔ ∃ i, i < to.length ∧ g = cls to i := by
  constructor
  · intro hm
    obtain ⟨i, h1, _, h3⟩ := h.mem g hm
    exact ⟨i, h1, h3⟩
  · rintro ⟨i, hi, rfl⟩
    obtain ⟨e1, e2, e3, e4⟩ := h.each hg Cl.none
    obtain ⟨g, hgm, hig⟩ := List.mem_flatten.1 (e3 i hi rfl)
    obtain ⟨j, _, _, rfl⟩ := h.mem g hgm
    rw [← cls_mut (mem_cls.1 hig).2]; exact hgm

/-- All turned round: the groups are the same. -/
theorem Seq.turned {to to' : List (List Nat)} (hg : Good to) (hg' : Good to') (hl : to.length = to'.length) (hr : ∀ i k, k ∈ adj to' i ↔ i ∈ adj to k) {l l' : List (List Nat)} (h : Seq to (fun _ => false) l) (h' : Seq to' (fun _ => false) l') :
    l.length = l'.length ∧ ∀ g ∈ l, g ∈ l' := by
  have h1 : ∀ {i k}, Rch to i k → Rch to' k i := by
    intro i k h
    induction h with
    | refl => exact .refl _
    | step h1 _ ih => exact ih.trans (.one ((hr _ _).2 h1))
  have h2 : ∀ {i k}, Rch to' i k → Rch to k i := by
    intro i k h
    induction h with
    | refl => exact .refl _
    | step h1 _ ih => exact ih.trans (.one ((hr _ _).1 h1))
  have hm : ∀ i k, Mut to i k ↔ Mut to' i k := fun i k => ⟨fun h => ⟨h1 h.2, h1 h.1⟩, fun h => ⟨h2 h.2, h2 h.1⟩⟩
  have hc : ∀ i, cls to i = cls to' i := by
    intro i
    unfold cls
    rw [hl]
    apply List.filter_congr
    intro k _
    have := hm i k
    by_cases h : Mut to i k
    · simp [h, this.1 h]
    · have h2 : ¬ Mut to' i k := fun hc => h (this.2 hc)
      simp [h, h2]
  have hmem : ∀ g, g ∈ l ↔ g ∈ l' := by
    intro g
    rw [h.mem_iff hg, h'.mem_iff hg', hl]
    simp only [hc]
  refine ⟨?_, fun g hg => (hmem g).1 hg⟩
  exact ((List.perm_ext_iff_of_nodup h.nodup h'.nodup).2 hmem).length_eq
end Go.Ord
namespace Go.Ax
open Go.Proofs Go.Ord

/-- One row more is appended to. -/
theorem cellsR_step {M1 : AMem} {mm G : Nat} {t : Nat → Tag} {ml : Nat → List Nat} (hmm : M1[mm]? = some (.cells (cellsR G t ml))) (h : TagsOk M1 mm G t) {g : Nat} (hgG : g < G) (l1 : List Nat) :
    tagOk (t g) M1 = true ∧ (dropTag (t g) M1)[mm]? = some (.cells (cellsR G t ml)) ∧ mm < (dropTag (t g) M1).length ∧
    (((dropTag (t g) M1).set mm (.cells (cellsR G (upd t g (.own M1.length)) (upd ml g l1)))) ++ [.tail])[mm]? = some (.cells (cellsR G (upd t g (.own M1.length)) (upd ml g l1))) ∧
    TagsOk (((dropTag (t g) M1).set mm (.cells (cellsR G (upd t g (.own M1.length)) (upd ml g l1)))) ++ [.tail]) mm G (upd t g (.own M1.length)) := by
  obtain ⟨htok, htin⟩ := h
  have hlen := lt_of_at hmm
  have hok : tagOk (t g) M1 = true := by
    rcases htok g hgG with h1 | ⟨i, h1, _, h2⟩
    · rw [h1]; rfl
    · rw [h1]; simp [tagOk, h2]
  have hnm : ∀ i, i ≤ mm → t g ≠ .own i := by
    intro i hi e
    rcases htok g hgG with h1 | ⟨i', h1, h2, _⟩
    · rw [h1] at e; cases e
    · rw [h1] at e; injection e with e; omega
  have hdl : mm < (dropTag (t g) M1).length := by rw [dropTag_sz]; exact hlen
  refine ⟨hok, by rw [dropTag_ne _ _ (hnm _ (Nat.le_refl _))]; exact hmm, hdl, ?_, ?_, ?_⟩
  · rw [List.getElem?_append_left (by simp [dropTag_sz]; omega), List.getElem?_set_self hdl]
  · intro g' hg'
    by_cases hgg : g' = g
    · subst hgg
      refine .inr ⟨M1.length, upd_same _ _ _, hlen, ?_⟩
      rw [List.getElem?_append_right (by simp [dropTag_sz])]
      simp [dropTag_sz]
    · rw [upd_ne _ _ hgg]
      rcases htok g' hg' with h1 | ⟨i, h1, h2, h3⟩
      · exact .inl h1
      · refine .inr ⟨i, h1, h2, ?_⟩
        have hil := lt_of_at h3
        rw [List.getElem?_append_left (by simp [dropTag_sz]; omega), List.getElem?_set_ne (by omega), dropTag_ne _ _ (fun e => hgg (htin g' g i hg' hgG h1 e))]
        exact h3
  · intro g1 g2 i h1 h2 e1 e2
    have old : ∀ q, q < G → t q ≠ .own M1.length := by
      intro q hq e
      rcases htok q hq with h | ⟨i', h, _, h3⟩
      · rw [h] at e; cases e
      · rw [h] at e; injection e with e
        have := lt_of_at h3; omega
    by_cases q1 : g1 = g
    · by_cases q2 : g2 = g
      · rw [q1, q2]
      · rw [q1, upd_same] at e1
        rw [upd_ne _ _ q2] at e2
        rw [← e1] at e2
        exact absurd e2 (old g2 h2)
    · rw [upd_ne _ _ q1] at e1
      by_cases q2 : g2 = g
      · rw [q2, upd_same] at e2
        rw [← e2] at e1
        exact absurd e1 (old g1 h1)
      · rw [upd_ne _ _ q2] at e2
        exact htin g1 g2 i h1 h2 e1 e2

theorem clo33_ok (u1 u2 : Tag) (g h : List Nat) (c : Nat) (M : AMem) (hc : M[c]? = some (.cells [.list u1 (nats g)])) (hg : g.length ≤ 1000000) :
    ACalls Try.prog 33 [.list u2 (nats h), .ptr c 0] M (fun r M' => r = V.bool (decide (g = h)) ∧ M' = M) := by
  refine acalls_enter [.tmp 3] 7 Try.func33 rfl rfl rfl (by simp) ?_
  (repeat (first | refine W_seq ?_ | refine W_block ?_ | refine W_blk ?_ | refine W_skip ?_))
  (refine W_region [] (by rfl) fun K hK => ?_; simp only [go_sem, Nat.reduceEqDiff, Nat.reduceLT, Nat.reduceAdd, Nat.reduceLeDiff, Nat.reduceMul, Nat.reduceSub, Int.reduceLE, Int.reduceLT, Int.reduceToNat, Int.reducePow, Int.reduceEq])
  (refine WRun.done _ _ (hK _ _ ?_); clear hK)
  (repeat (first | refine W_seq ?_ | refine W_block ?_ | refine W_blk ?_ | refine W_skip ?_))
  (refine W_region [] (by rfl) fun K hK => ?_; simp only [go_sem, Nat.reduceEqDiff, Nat.reduceLT, Nat.reduceAdd, Nat.reduceLeDiff, Nat.reduceMul, Nat.reduceSub, Int.reduceLE, Int.reduceLT, Int.reduceToNat, Int.reducePow, Int.reduceEq, hc])
  refine WRun.call _ _ _ _ _ _ _ (equal_nats u1 u2 g h (by omega) M) ?_
  rintro r M2 ⟨rfl, rfl⟩
  simp only [go_sem, Nat.reduceEqDiff, Nat.reduceLT, Nat.reduceAdd, Nat.reduceLeDiff, Nat.reduceMul, Nat.reduceSub, Int.reduceLE, Int.reduceLT, Int.reduceToNat, Int.reducePow, Int.reduceEq]
  (refine WRun.done _ _ (hK _ _ ?_); clear hK)
  refine W_ret ?_
  simp only [go_sem, Nat.reduceEqDiff, Nat.reduceLT, Nat.reduceAdd, Nat.reduceLeDiff, Nat.reduceMul, Nat.reduceSub, Int.reduceLE, Int.reduceLT, Int.reduceToNat, Int.reducePow, Int.reduceEq]

/-- slices.ContainsFunc over groups, of the function that asks for one. -/
theorem contains2_ok (t u1 : Tag) (rs : List V) (l : List (List Nat)) (hr : RowsR rs l) (g : List Nat) (hg : g ∈ l) (hg1 : g.length ≤ 1000000) (hl1 : l.length ≤ 1000000) (c : Nat) (M : AMem) (hc : M[c]? = some (.cells [.list u1 (nats g)])) :
    ACalls Try.prog 32 [.list t rs, .fn 33 [.ptr c 0]] M (fun r M' => r = V.bool true ∧ M' = M) := by
  have index : ACalls Try.prog 44 [.list t rs, .fn 33 [.ptr c 0]] M (fun r M' => (∃ n : Int, r = V.int n ∧ 0 ≤ n) ∧ M' = M) := by
    refine acalls_enter [.tmp 4] 19 Try.func44 rfl rfl rfl (by simp) ?_
    have L := hr.1
    (repeat (first | refine W_seq ?_ | refine W_block ?_ | refine W_blk ?_ | refine W_skip ?_))
    (refine W_region [] (by rfl) fun K hK => ?_; simp only [go_sem, Nat.reduceEqDiff, Nat.reduceLT, Nat.reduceAdd, Nat.reduceLeDiff, Nat.reduceMul, Nat.reduceSub, Int.reduceLE, Int.reduceLT, Int.reduceToNat, Int.reducePow, Int.reduceEq])
    (refine WRun.done _ _ (hK _ _ ?_); clear hK)
    (repeat (first | refine W_seq ?_ | refine W_block ?_ | refine W_blk ?_ | refine W_skip ?_))
    (refine W_region [] (by rfl) fun K hK => ?_; simp only [go_sem, Nat.reduceEqDiff, Nat.reduceLT, Nat.reduceAdd, Nat.reduceLeDiff, Nat.reduceMul, Nat.reduceSub, Int.reduceLE, Int.reduceLT, Int.reduceToNat, Int.reducePow, Int.reduceEq])
    (refine WRun.done _ _ (hK _ _ ?_); clear hK)
    (repeat (first | refine W_seq ?_ | refine W_block ?_ | refine W_blk ?_ | refine W_skip ?_))
    refine W_loop (α := Nat) (fun k F' M' => k ≤ l.length ∧ M' = M ∧ look F' 0 = .list t rs ∧ look F' 1 = .fn 33 [.ptr c 0] ∧ look F' 7 = V.int l.length ∧ look F' 8 = V.int k ∧ ∀ h ∈ l.take k, g ≠ h) (fun k => l.length - k) 0 ⟨Nat.zero_le _, rfl, ?_, ?_, ?_, ?_, by simp⟩ ?_
    · simp only [go_sem, Nat.reduceEqDiff, Nat.reduceLT, Nat.reduceAdd, Nat.reduceLeDiff, Nat.reduceMul, Nat.reduceSub, Int.reduceLE, Int.reduceLT, Int.reduceToNat, Int.reducePow, Int.reduceEq]
    · simp only [go_sem, Nat.reduceEqDiff, Nat.reduceLT, Nat.reduceAdd, Nat.reduceLeDiff, Nat.reduceMul, Nat.reduceSub, Int.reduceLE, Int.reduceLT, Int.reduceToNat, Int.reducePow, Int.reduceEq]
    · simp only [go_sem, Nat.reduceEqDiff, Nat.reduceLT, Nat.reduceAdd, Nat.reduceLeDiff, Nat.reduceMul, Nat.reduceSub, Int.reduceLE, Int.reduceLT, Int.reduceToNat, Int.reducePow, Int.reduceEq, L]
    · simp only [go_sem, Nat.reduceEqDiff, Nat.reduceLT, Nat.reduceAdd, Nat.reduceLeDiff, Nat.reduceMul, Nat.reduceSub, Int.reduceLE, Int.reduceLT, Int.reduceToNat, Int.reducePow, Int.reduceEq]
    rintro k F M' ⟨hk, rfl, f0, f1, f7, f8, hnot⟩
    by_cases hlt : k < l.length
    · have hlt' : (k : Int) < (l.length : Int) := by omega
      have hlt1 : (k : Int) < (rs.length : Int) := by omega
      have hw1 : IntKind.i64.wrap ((k : Int) + 1) = ((k + 1 : Nat) : Int) := by rw [wrapI _ (by omega) (by omega)]; omega
      obtain ⟨h, hh⟩ : ∃ h, l[k]? = some h := ⟨_, List.getElem?_eq_getElem hlt⟩
      obtain ⟨u2, p2⟩ := hr.2 k h hh
      (repeat (first | refine W_seq ?_ | refine W_block ?_ | refine W_blk ?_ | refine W_skip ?_))
      (refine W_region [] (by rfl) fun K hK => ?_; simp only [go_sem, Nat.reduceEqDiff, Nat.reduceLT, Nat.reduceAdd, Nat.reduceLeDiff, Nat.reduceMul, Nat.reduceSub, Int.reduceLE, Int.reduceLT, Int.reduceToNat, Int.reducePow, Int.reduceEq, f7, f8, hlt'])
      (refine WRun.done _ _ (hK _ _ ?_); clear hK)
      (repeat (first | refine W_seq ?_ | refine W_block ?_ | refine W_blk ?_ | refine W_skip ?_))
      refine W_cond_true (by simp only [go_sem, Nat.reduceEqDiff, Nat.reduceLT, Nat.reduceAdd, Nat.reduceLeDiff, Nat.reduceMul, Nat.reduceSub, Int.reduceLE, Int.reduceLT, Int.reduceToNat, Int.reducePow, Int.reduceEq]) ?_
      (repeat (first | refine W_seq ?_ | refine W_block ?_ | refine W_blk ?_ | refine W_skip ?_))
      (refine W_region [] (by rfl) fun K hK => ?_; simp only [go_sem, Nat.reduceEqDiff, Nat.reduceLT, Nat.reduceAdd, Nat.reduceLeDiff, Nat.reduceMul, Nat.reduceSub, Int.reduceLE, Int.reduceLT, Int.reduceToNat, Int.reducePow, Int.reduceEq, f8])
      (refine WRun.done _ _ (hK _ _ ?_); clear hK)
      (repeat (first | refine W_seq ?_ | refine W_block ?_ | refine W_blk ?_ | refine W_skip ?_))
      (refine W_region [] (by rfl) fun K hK => ?_; simp only [go_sem, Nat.reduceEqDiff, Nat.reduceLT, Nat.reduceAdd, Nat.reduceLeDiff, Nat.reduceMul, Nat.reduceSub, Int.reduceLE, Int.reduceLT, Int.reduceToNat, Int.reducePow, Int.reduceEq, f0, f1, hlt1, p2, Int.natCast_nonneg, Int.toNat_natCast, List.head?_drop])
      refine WRun.call _ _ _ _ _ _ _ (clo33_ok u1 u2 g h c M' hc hg1) ?_
      rintro r M2 ⟨rfl, rfl⟩
      simp only [go_sem, Nat.reduceEqDiff, Nat.reduceLT, Nat.reduceAdd, Nat.reduceLeDiff, Nat.reduceMul, Nat.reduceSub, Int.reduceLE, Int.reduceLT, Int.reduceToNat, Int.reducePow, Int.reduceEq]
      (refine WRun.done _ _ (hK _ _ ?_); clear hK)
      (repeat (first | refine W_seq ?_ | refine W_block ?_ | refine W_blk ?_ | refine W_skip ?_))
      by_cases hgh : g = h
      · have hde : decide (g = h) = true := by simp [hgh]
        refine W_cond_true (by simp only [go_sem, Nat.reduceEqDiff, Nat.reduceLT, Nat.reduceAdd, Nat.reduceLeDiff, Nat.reduceMul, Nat.reduceSub, Int.reduceLE, Int.reduceLT, Int.reduceToNat, Int.reducePow, Int.reduceEq, hde]) ?_
        (repeat (first | refine W_seq ?_ | refine W_block ?_ | refine W_blk ?_ | refine W_skip ?_))
        (refine W_region [] (by rfl) fun K hK => ?_; simp only [go_sem, Nat.reduceEqDiff, Nat.reduceLT, Nat.reduceAdd, Nat.reduceLeDiff, Nat.reduceMul, Nat.reduceSub, Int.reduceLE, Int.reduceLT, Int.reduceToNat, Int.reducePow, Int.reduceEq])
        (refine WRun.done _ _ (hK _ _ ?_); clear hK)
        refine W_ret ?_
        simp only [go_sem, Nat.reduceEqDiff, Nat.reduceLT, Nat.reduceAdd, Nat.reduceLeDiff, Nat.reduceMul, Nat.reduceSub, Int.reduceLE, Int.reduceLT, Int.reduceToNat, Int.reducePow, Int.reduceEq]
        exact ⟨(k : Int), rfl, Int.natCast_nonneg _⟩
      · have hde : decide (g = h) = false := by simp [hgh]
        refine W_cond_false (by simp only [go_sem, Nat.reduceEqDiff, Nat.reduceLT, Nat.reduceAdd, Nat.reduceLeDiff, Nat.reduceMul, Nat.reduceSub, Int.reduceLE, Int.reduceLT, Int.reduceToNat, Int.reducePow, Int.reduceEq, hde]) ?_
        (repeat (first | refine W_seq ?_ | refine W_block ?_ | refine W_blk ?_ | refine W_skip ?_))
        (refine W_region [] (by rfl) fun K hK => ?_; simp only [go_sem, Nat.reduceEqDiff, Nat.reduceLT, Nat.reduceAdd, Nat.reduceLeDiff, Nat.reduceMul, Nat.reduceSub, Int.reduceLE, Int.reduceLT, Int.reduceToNat, Int.reducePow, Int.reduceEq, f8, hw1])
        (refine WRun.done _ _ (hK _ _ ?_); clear hK)
        refine W_stop ⟨k + 1, ⟨hlt, rfl, ?_, ?_, ?_, ?_, ?_⟩, by omega⟩
        · simp only [go_sem, Nat.reduceEqDiff, Nat.reduceLT, Nat.reduceAdd, Nat.reduceLeDiff, Nat.reduceMul, Nat.reduceSub, Int.reduceLE, Int.reduceLT, Int.reduceToNat, Int.reducePow, Int.reduceEq, f0]
        · simp only [go_sem, Nat.reduceEqDiff, Nat.reduceLT, Nat.reduceAdd, Nat.reduceLeDiff, Nat.reduceMul, Nat.reduceSub, Int.reduceLE, Int.reduceLT, Int.reduceToNat, Int.reducePow, Int.reduceEq, f1]
        · simp only [go_sem, Nat.reduceEqDiff, Nat.reduceLT, Nat.reduceAdd, Nat.reduceLeDiff, Nat.reduceMul, Nat.reduceSub, Int.reduceLE, Int.reduceLT, Int.reduceToNat, Int.reducePow, Int.reduceEq, f7]
        · simp only [go_sem, Nat.reduceEqDiff, Nat.reduceLT, Nat.reduceAdd, Nat.reduceLeDiff, Nat.reduceMul, Nat.reduceSub, Int.reduceLE, Int.reduceLT, Int.reduceToNat, Int.reducePow, Int.reduceEq]
        · intro h' hh'
          rw [List.take_add_one, hh] at hh'
          rcases List.mem_append.1 hh' with hh' | hh'
          · exact hnot h' hh'
          · have : h' = h := by simpa using hh'
            subst this; exact hgh
    · rw [List.take_of_length_le (by omega)] at hnot
      exact absurd rfl (hnot g hg)
  refine acalls_enter [.tmp 4] 9 Try.func32 rfl rfl rfl (by simp) ?_
  (repeat (first | refine W_seq ?_ | refine W_block ?_ | refine W_blk ?_ | refine W_skip ?_))
  (refine W_region [] (by rfl) fun K hK => ?_; simp only [go_sem, Nat.reduceEqDiff, Nat.reduceLT, Nat.reduceAdd, Nat.reduceLeDiff, Nat.reduceMul, Nat.reduceSub, Int.reduceLE, Int.reduceLT, Int.reduceToNat, Int.reducePow, Int.reduceEq])
  (refine WRun.done _ _ (hK _ _ ?_); clear hK)
  (repeat (first | refine W_seq ?_ | refine W_block ?_ | refine W_blk ?_ | refine W_skip ?_))
  (refine W_region [] (by rfl) fun K hK => ?_; simp only [go_sem, Nat.reduceEqDiff, Nat.reduceLT, Nat.reduceAdd, Nat.reduceLeDiff, Nat.reduceMul, Nat.reduceSub, Int.reduceLE, Int.reduceLT, Int.reduceToNat, Int.reducePow, Int.reduceEq])
  refine WRun.call _ _ _ _ _ _ _ index ?_
  rintro r M1 ⟨⟨n, rfl, hn⟩, rfl⟩
  have hn' : (0 ≤ n) = True := eq_true hn
  simp only [go_sem, Nat.reduceEqDiff, Nat.reduceLT, Nat.reduceAdd, Nat.reduceLeDiff, Nat.reduceMul, Nat.reduceSub, Int.reduceLE, Int.reduceLT, Int.reduceToNat, Int.reducePow, Int.reduceEq, hn']
  (refine WRun.done _ _ (hK _ _ ?_); clear hK)
  refine W_ret ?_
  simp only [go_sem, Nat.reduceEqDiff, Nat.reduceLT, Nat.reduceAdd, Nat.reduceLeDiff, Nat.reduceMul, Nat.reduceSub, Int.reduceLE, Int.reduceLT, Int.reduceToNat, Int.reducePow, Int.reduceEq]
end Go.Ax

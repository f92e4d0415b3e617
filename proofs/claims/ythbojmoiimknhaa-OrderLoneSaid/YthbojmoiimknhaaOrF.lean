import Derived.Test.YthbojmoiimknhaaOrE
set_option linter.unusedSimpArgs false
set_option linter.unusedVariables false
namespace Go.Ax
open Go.Proofs Go.Ord
noncomputable def body42 : Code := Try.f42.body.getD .skip

theorem VisAt.grow {M0 M M' : AMem} {B n : Nat} {x : V} {d : Ids} {s : TS} {sk : Option Nat} (h : VisAt M0 B n x d s sk M) (hB : B ≤ M.length) (hk : ∀ j, j < M.length → M'[j]? = M[j]?) : VisAt M0 B n x d s sk M' := by
  refine ⟨?_, ?_, ?_, ?_, ?_, h.sN, fun k e => ⟨(h.sS k e).1, ?_⟩, h.ids, fun j hj => ?_⟩
  · rw [hk _ (lt_of_at h.v)]; exact h.v
  · rw [hk _ (lt_of_at h.lo)]; exact h.lo
  · rw [hk _ (lt_of_at h.nu)]; exact h.nu
  · rw [hk _ (lt_of_at h.on)]; exact h.on
  · rw [hk _ (lt_of_at h.gr)]; exact h.gr
  · obtain ⟨_, cs, h1, h2⟩ := h.sS k e
    exact ⟨cs, by rw [hk _ (lt_of_at h1)]; exact h1, h2⟩
  · rw [hk j (by omega)]; exact h.keep j hj

/-- Rows of a slice of slices of numbers. -/
def cellsR (G : Nat) (t : Nat → Tag) (ml : Nat → List Nat) : List V := (List.range G).map fun g => V.list (t g) (nats (ml g))
theorem cellsR_at {G : Nat} (t : Nat → Tag) (ml : Nat → List Nat) {g : Nat} (h : g < G) : (cellsR G t ml)[g]? = some (V.list (t g) (nats (ml g))) := by simp [cellsR, h]
theorem cellsR_len (G : Nat) (t : Nat → Tag) (ml : Nat → List Nat) : (cellsR G t ml).length = G := by simp [cellsR]
theorem overR {G : Nat} (t : Nat → Tag) (ml : Nat → List Nat) {g : Nat} (h : g < G) (t1 : Tag) (l1 : List Nat) : (cellsR G t ml).take g ++ V.list t1 (nats l1) :: (cellsR G t ml).drop (g + 1) = cellsR G (upd t g t1) (upd ml g l1) := by
  apply List.ext_getElem?
  intro j
  rw [over_at _ _ _ (by rw [cellsR_len]; exact h)]
  by_cases hj : j = g
  · subst hj; rw [if_pos rfl, cellsR_at _ _ h, upd_same, upd_same]
  · rw [if_neg hj]
    simp only [cellsR, List.getElem?_map, upd, hj]
    by_cases hn : j < G
    · simp [hn, hj]
    · simp [hn]
theorem replicate_map {α : Type} (v : α) : ∀ G : Nat, List.replicate G v = (List.range G).map fun _ => v := by
  intro G
  apply List.ext_getElem?
  intro j
  by_cases h : j < G <;> simp [h]

/-- Who may append to the rows: each its own. -/
structure TagsOk (M : AMem) (lo G : Nat) (t : Nat → Tag) : Prop where
  ok : ∀ g, g < G → t g = .full ∨ ∃ j, t g = .own j ∧ lo < j ∧ M[j]? = some .tail
  inj : ∀ g g' j, g < G → g' < G → t g = .own j → t g' = .own j → g = g'

def memb (n : Nat) (grp : Nat → Nat) (j g : Nat) : List Nat := (List.range j).filter fun k => grp k = g
theorem memb_succ (n : Nat) (grp : Nat → Nat) (j : Nat) : upd (memb n grp j) (grp j) (memb n grp j (grp j) ++ [j]) = memb n grp (j + 1) := by
  funext g
  by_cases hg : g = grp j
  · subst hg; rw [upd_same]; simp [memb, List.range_succ, List.filter_append]
  · rw [upd_ne _ _ hg]
    have : ¬ grp j = g := fun h => hg h.symm
    simp [memb, List.range_succ, List.filter_append, this]
theorem nats_snoc (l : List Nat) (j : Nat) : nats l ++ [V.int (j : Int)] = nats (l ++ [j]) := by simp [nats]
theorem nats_cells (l : List Nat) : (∀ y ∈ nats l, y.cells.length = 1) = True := eq_true (by
  intro y hy
  obtain ⟨k, _, rfl⟩ := List.mem_map.1 hy
  rfl)
theorem dropTag_ne (tg : Tag) (M : AMem) {j : Nat} (h : tg ≠ .own j) : (dropTag tg M)[j]? = M[j]? := by
  cases tg with
  | own i => exact List.getElem?_set_ne (fun e => h (by rw [e]))
  | _ => rfl
theorem dropTag_sz (tg : Tag) (M : AMem) : (dropTag tg M).length = M.length := by
  cases tg <;> simp [dropTag]
theorem memb_len (n : Nat) (grp : Nat → Nat) (j g : Nat) : (memb n grp j g).length ≤ j := by
  have := List.length_filter_le (fun k => decide (grp k = g)) (List.range j)
  simpa [memb] using this

/-- The first part: the members of all groups. -/
theorem sorted_members {Ret : Fr → AMem → Prop} {k0 : List It} {M0 M : AMem} {B n : Nat} {x : V} {d : Ids} {s : TS} {sk : Option Nat} (h : VisAt M0 B n x d s sk M) (hn1 : n ≤ 1000000) (hgr1 : s.groups ≤ 1000000) (hG : ∀ k, k < n → s.grp k < s.groups) (hB : B ≤ M.length)
    (F : Fr) (f0 : look F 0 = .ptr d.v 0)
    (hk : ∀ F' M' t, look F' 0 = .ptr d.v 0 → look F' 3 = .arr M.length 0 s.groups 1 → (∀ j, j < M.length → M'[j]? = M[j]?) → M.length < M'.length → M'[M.length]? = some (.cells (cellsR s.groups t (memb n s.grp n))) → W Try.prog 94 Ret (.code (part [1,1,1] body42) :: k0) F' M') :
    W Try.prog 94 Ret (.code body42 :: k0) F M := by
  have hv := h.v
  have hgr := h.gr
  have hG30 : (s.groups : Int) ≤ 1073741824 := by omega
  (repeat (first | refine W_seq ?_ | refine W_block ?_ | refine W_blk ?_ | refine W_skip ?_))
  (refine W_region [] (by rfl) fun K hK => ?_; simp only [go_sem, Nat.reduceEqDiff, Nat.reduceLT, Nat.reduceAdd, Nat.reduceLeDiff, Nat.reduceMul, Nat.reduceSub, Int.reduceLE, Int.reduceLT, Int.reduceToNat, Int.reducePow, Int.reduceEq])
  (refine WRun.done _ _ (hK _ _ ?_); clear hK)
  (repeat (first | refine W_seq ?_ | refine W_block ?_ | refine W_blk ?_ | refine W_skip ?_))
  (refine W_region [] (by rfl) fun K hK => ?_; simp only [go_sem, Nat.reduceEqDiff, Nat.reduceLT, Nat.reduceAdd, Nat.reduceLeDiff, Nat.reduceMul, Nat.reduceSub, Int.reduceLE, Int.reduceLT, Int.reduceToNat, Int.reducePow, Int.reduceEq, f0, hv, hG30, Nat.zero_add, Int.natCast_nonneg, Int.toNat_natCast, Int.le_refl])
  (refine WRun.done _ _ (hK _ _ ?_); clear hK)
  (repeat (first | refine W_seq ?_ | refine W_block ?_ | refine W_blk ?_ | refine W_skip ?_))
  have hvA : ∀ X, (M ++ X)[d.v]? = M[d.v]? := fun X => List.getElem?_append_left (lt_of_at hv)
  (refine W_region [] (by rfl) fun K hK => ?_; simp only [go_sem, Nat.reduceEqDiff, Nat.reduceLT, Nat.reduceAdd, Nat.reduceLeDiff, Nat.reduceMul, Nat.reduceSub, Int.reduceLE, Int.reduceLT, Int.reduceToNat, Int.reducePow, Int.reduceEq, f0, hvA, hv, Nat.zero_add])
  (refine WRun.done _ _ (hK _ _ ?_); clear hK)
  (repeat (first | refine W_seq ?_ | refine W_block ?_ | refine W_blk ?_ | refine W_skip ?_))
  refine W_loop (α := Nat × (Nat → Tag)) (fun q F' M' => q.1 ≤ n ∧ look F' 0 = .ptr d.v 0 ∧ look F' 3 = .arr M.length 0 s.groups 1 ∧ look F' 18 = .arr d.gr 0 n 1 ∧ look F' 19 = V.int n ∧ look F' 20 = V.int q.1 ∧ (∀ j, j < M.length → M'[j]? = M[j]?) ∧ M.length < M'.length ∧
      M'[M.length]? = some (.cells (cellsR s.groups q.2 (memb n s.grp q.1))) ∧ TagsOk M' M.length s.groups q.2) (fun q => n - q.1) (0, fun _ => .full) ⟨Nat.zero_le _, ?_, ?_, ?_, ?_, ?_, fun j hj => List.getElem?_append_left hj, by simp, ?_, fun _ _ => .inl rfl, fun _ _ _ _ _ e => by cases e⟩ ?_
  · simp only [go_sem, Nat.reduceEqDiff, Nat.reduceLT, Nat.reduceAdd, Nat.reduceLeDiff, Nat.reduceMul, Nat.reduceSub, Int.reduceLE, Int.reduceLT, Int.reduceToNat, Int.reducePow, Int.reduceEq, f0]
  · simp only [go_sem, Nat.reduceEqDiff, Nat.reduceLT, Nat.reduceAdd, Nat.reduceLeDiff, Nat.reduceMul, Nat.reduceSub, Int.reduceLE, Int.reduceLT, Int.reduceToNat, Int.reducePow, Int.reduceEq]
  · simp only [go_sem, Nat.reduceEqDiff, Nat.reduceLT, Nat.reduceAdd, Nat.reduceLeDiff, Nat.reduceMul, Nat.reduceSub, Int.reduceLE, Int.reduceLT, Int.reduceToNat, Int.reducePow, Int.reduceEq]
  · simp only [go_sem, Nat.reduceEqDiff, Nat.reduceLT, Nat.reduceAdd, Nat.reduceLeDiff, Nat.reduceMul, Nat.reduceSub, Int.reduceLE, Int.reduceLT, Int.reduceToNat, Int.reducePow, Int.reduceEq]
  · simp only [go_sem, Nat.reduceEqDiff, Nat.reduceLT, Nat.reduceAdd, Nat.reduceLeDiff, Nat.reduceMul, Nat.reduceSub, Int.reduceLE, Int.reduceLT, Int.reduceToNat, Int.reducePow, Int.reduceEq]
  · rw [List.getElem?_append_right (Nat.le_refl _), Nat.sub_self]
    show some (AObj.cells (List.replicate s.groups _)) = _
    rw [replicate_map]
    rfl
  clear f0 F
  rintro ⟨j, t⟩ F M1 ⟨hj, f0, f3, f18, f19, f20, hkeep, hlen, hmm, htok, htin⟩
  simp only at hj f20 hmm htok htin
  by_cases hlt : j < n
  · have hlt' : (j : Int) < (n : Int) := by omega
    have hw1 : IntKind.i64.wrap ((j : Int) + 1) = ((j + 1 : Nat) : Int) := by rw [wrapI _ (by omega) (by omega)]; omega
    have hgr1' : M1[d.gr]? = some (.cells (cellsN n s.grp)) := by rw [hkeep _ (lt_of_at hgr)]; exact hgr
    have hgj := cellsN_at s.grp hlt
    obtain ⟨g, hg⟩ : ∃ g, g = s.grp j := ⟨_, rfl⟩
    rw [← hg] at hgj
    have hgG : g < s.groups := by rw [hg]; exact hG j hlt
    have hgG' : (g : Int) < (s.groups : Int) := by omega
    have hcg := cellsR_at t (memb n s.grp j) hgG
    have hok : tagOk (t g) M1 = true := by
      rcases htok g hgG with h1 | ⟨i, h1, _, h2⟩
      · rw [h1]; rfl
      · rw [h1]; simp [tagOk, h2]
    have hll : (memb n s.grp j g).length + 1 ≤ 1073741824 := by have := memb_len n s.grp j g; omega
    have hnm : ∀ i, i ≤ M.length → t g ≠ .own i := by
      intro i hi e
      rcases htok g hgG with h1 | ⟨i', h1, h2, _⟩
      · rw [h1] at e; cases e
      · rw [h1] at e; injection e with e; omega
    have hd : (dropTag (t g) M1)[M.length]? = some (.cells (cellsR s.groups t (memb n s.grp j))) := by rw [dropTag_ne _ _ (hnm _ (Nat.le_refl _))]; exact hmm
    have hdl : M.length < (dropTag (t g) M1).length := by rw [dropTag_sz]; exact hlen
    have hcx := nats_cells (memb n s.grp j g)
    have ov := overR t (memb n s.grp j) hgG (.own M1.length) (memb n s.grp j g ++ [j])
    have hg1 : g + 1 ≤ s.groups := hgG
    (repeat (first | refine W_seq ?_ | refine W_block ?_ | refine W_blk ?_ | refine W_skip ?_))
    (refine W_region [] (by rfl) fun K hK => ?_; simp only [go_sem, Nat.reduceEqDiff, Nat.reduceLT, Nat.reduceAdd, Nat.reduceLeDiff, Nat.reduceMul, Nat.reduceSub, Int.reduceLE, Int.reduceLT, Int.reduceToNat, Int.reducePow, Int.reduceEq, f19, f20, hlt'])
    (refine WRun.done _ _ (hK _ _ ?_); clear hK)
    (repeat (first | refine W_seq ?_ | refine W_block ?_ | refine W_blk ?_ | refine W_skip ?_))
    refine W_cond_true (by simp only [go_sem, Nat.reduceEqDiff, Nat.reduceLT, Nat.reduceAdd, Nat.reduceLeDiff, Nat.reduceMul, Nat.reduceSub, Int.reduceLE, Int.reduceLT, Int.reduceToNat, Int.reducePow, Int.reduceEq]) ?_
    (repeat (first | refine W_seq ?_ | refine W_block ?_ | refine W_blk ?_ | refine W_skip ?_))
    (refine W_region [] (by rfl) fun K hK => ?_; simp only [go_sem, Nat.reduceEqDiff, Nat.reduceLT, Nat.reduceAdd, Nat.reduceLeDiff, Nat.reduceMul, Nat.reduceSub, Int.reduceLE, Int.reduceLT, Int.reduceToNat, Int.reducePow, Int.reduceEq, f18, f20, hgr1', hgj, hlt', Int.natCast_nonneg, Int.toNat_natCast, List.head?_drop, Nat.zero_add])
    (refine WRun.done _ _ (hK _ _ ?_); clear hK)
    (repeat (first | refine W_seq ?_ | refine W_block ?_ | refine W_blk ?_ | refine W_skip ?_))
    (refine W_region [] (by rfl) fun K hK => ?_; simp only [go_sem, Nat.reduceEqDiff, Nat.reduceLT, Nat.reduceAdd, Nat.reduceLeDiff, Nat.reduceMul, Nat.reduceSub, Int.reduceLE, Int.reduceLT, Int.reduceToNat, Int.reducePow, Int.reduceEq, f3, hmm, hcg, hgG', hok, hcx, hll, nats_len, nats_snoc, at_left, set_left, hd, hdl, cellsR_len, hg1, ov, Int.natCast_nonneg, Int.toNat_natCast, List.head?_drop, Nat.zero_add])
    (refine WRun.done _ _ (hK _ _ ?_); clear hK)
    (repeat (first | refine W_seq ?_ | refine W_block ?_ | refine W_blk ?_ | refine W_skip ?_))
    (refine W_region [] (by rfl) fun K hK => ?_; simp only [go_sem, Nat.reduceEqDiff, Nat.reduceLT, Nat.reduceAdd, Nat.reduceLeDiff, Nat.reduceMul, Nat.reduceSub, Int.reduceLE, Int.reduceLT, Int.reduceToNat, Int.reducePow, Int.reduceEq, f20, hw1])
    (refine WRun.done _ _ (hK _ _ ?_); clear hK)
    refine W_stop ⟨(j + 1, upd t g (.own M1.length)), ⟨hlt, ?_, ?_, ?_, ?_, ?_, ?_, ?_, ?_, ?_, ?_⟩, by show n - (j + 1) < n - j; omega⟩
    · simp only [go_sem, Nat.reduceEqDiff, Nat.reduceLT, Nat.reduceAdd, Nat.reduceLeDiff, Nat.reduceMul, Nat.reduceSub, Int.reduceLE, Int.reduceLT, Int.reduceToNat, Int.reducePow, Int.reduceEq, f0]
    · simp only [go_sem, Nat.reduceEqDiff, Nat.reduceLT, Nat.reduceAdd, Nat.reduceLeDiff, Nat.reduceMul, Nat.reduceSub, Int.reduceLE, Int.reduceLT, Int.reduceToNat, Int.reducePow, Int.reduceEq, f3]
    · simp only [go_sem, Nat.reduceEqDiff, Nat.reduceLT, Nat.reduceAdd, Nat.reduceLeDiff, Nat.reduceMul, Nat.reduceSub, Int.reduceLE, Int.reduceLT, Int.reduceToNat, Int.reducePow, Int.reduceEq, f18]
    · simp only [go_sem, Nat.reduceEqDiff, Nat.reduceLT, Nat.reduceAdd, Nat.reduceLeDiff, Nat.reduceMul, Nat.reduceSub, Int.reduceLE, Int.reduceLT, Int.reduceToNat, Int.reducePow, Int.reduceEq, f19]
    · simp only [go_sem, Nat.reduceEqDiff, Nat.reduceLT, Nat.reduceAdd, Nat.reduceLeDiff, Nat.reduceMul, Nat.reduceSub, Int.reduceLE, Int.reduceLT, Int.reduceToNat, Int.reducePow, Int.reduceEq]
    · intro i hi
      rw [List.getElem?_append_left (by simp [dropTag_sz]; omega), List.getElem?_set_ne (by omega), dropTag_ne _ _ (hnm i (by omega))]
      exact hkeep i hi
    · simp [dropTag_sz]; omega
    · rw [List.getElem?_append_left (by simp [dropTag_sz]; omega), List.getElem?_set_self hdl, hg, memb_succ]
    · intro g' hg'
      by_cases hgg : g' = g
      · subst hgg
        refine .inr ⟨M1.length, upd_same _ _ _, hlen, ?_⟩
        rw [List.getElem?_append_right (by simp [dropTag_sz])]
        simp [dropTag_sz]
      · show upd t g _ g' = _ ∨ _
        rw [upd_ne _ _ hgg]
        rcases htok g' hg' with h1 | ⟨i, h1, h2, h3⟩
        · exact .inl h1
        · refine .inr ⟨i, by show upd t g _ g' = _; rw [upd_ne _ _ hgg]; exact h1, h2, ?_⟩
          have hil := lt_of_at h3
          rw [List.getElem?_append_left (by simp [dropTag_sz]; omega), List.getElem?_set_ne (by omega), dropTag_ne _ _ (fun e => hgg (htin g' g i hg' hgG h1 e))]
          exact h3
    · intro g1 g2 i h1 h2 e1 e2
      have e1 : upd t g (.own M1.length) g1 = .own i := e1
      have e2 : upd t g (.own M1.length) g2 = .own i := e2
      have old : ∀ q, q < s.groups → t q ≠ .own M1.length := by
        intro q hq e
        rcases htok q hq with h | ⟨i', h, _, h3⟩
        · rw [h] at e; cases e
        · rw [h] at e; injection e with e
          have := lt_of_at h3; omega
      by_cases q1 : g1 = g
      · by_cases q2 : g2 = g
        · rw [q1, q2]
        · rw [q1, upd_same] at e1
          rw [upd_ne _ _ q2] at e2
          rw [← e1] at e2
          exact absurd e2 (old g2 h2)
      · rw [upd_ne _ _ q1] at e1
        by_cases q2 : g2 = g
        · rw [q2, upd_same] at e2
          rw [← e2] at e1
          exact absurd e1 (old g1 h1)
        · rw [upd_ne _ _ q2] at e2
          exact htin g1 g2 i h1 h2 e1 e2
  · have hlt' : ¬ (j : Int) < (n : Int) := by omega
    have hjn : j = n := by omega
    subst hjn
    (repeat (first | refine W_seq ?_ | refine W_block ?_ | refine W_blk ?_ | refine W_skip ?_))
    (refine W_region [] (by rfl) fun K hK => ?_; simp only [go_sem, Nat.reduceEqDiff, Nat.reduceLT, Nat.reduceAdd, Nat.reduceLeDiff, Nat.reduceMul, Nat.reduceSub, Int.reduceLE, Int.reduceLT, Int.reduceToNat, Int.reducePow, Int.reduceEq, f19, f20, hlt'])
    (refine WRun.done _ _ (hK _ _ ?_); clear hK)
    (repeat (first | refine W_seq ?_ | refine W_block ?_ | refine W_blk ?_ | refine W_skip ?_))
    refine W_cond_false (by simp only [go_sem, Nat.reduceEqDiff, Nat.reduceLT, Nat.reduceAdd, Nat.reduceLeDiff, Nat.reduceMul, Nat.reduceSub, Int.reduceLE, Int.reduceLT, Int.reduceToNat, Int.reducePow, Int.reduceEq]) ?_
    refine W_exit (Qof_code (Qof_stop (Qof_blk_same ?_)))
    refine hk _ _ t ?_ ?_ hkeep hlen hmm
    · simp only [go_sem, Nat.reduceEqDiff, Nat.reduceLT, Nat.reduceAdd, Nat.reduceLeDiff, Nat.reduceMul, Nat.reduceSub, Int.reduceLE, Int.reduceLT, Int.reduceToNat, Int.reducePow, Int.reduceEq, f0]
    · simp only [go_sem, Nat.reduceEqDiff, Nat.reduceLT, Nat.reduceAdd, Nat.reduceLeDiff, Nat.reduceMul, Nat.reduceSub, Int.reduceLE, Int.reduceLT, Int.reduceToNat, Int.reducePow, Int.reduceEq, f3]
end Go.Ax

/- UnifySame: the law. Conditions: none. -/
import Derived.Test.YtfpmohmhiecjfaaDoorUnZg
set_option linter.unusedSimpArgs false
set_option linter.unusedVariables false
namespace Go.Ax
open Go.Proofs Go.Uni

def wS (l : List Nat) : Nat → Ty := fun j => .var (l[j]?.getD 0 + 100)

theorem same_plain {t : Ty} (zt : t.size ≤ 61) (rt : Ar t) (nt : SN t) (lt : ∀ x ∈ t.vars, x < 6) :
    (∀ i, Ar (t.sub (putN (varsF [] t) (wS (varsF [] t)) i))) ∧ (∀ j, ∀ x ∈ (wS (varsF [] t) j).vars, x ∉ varsF [] t) ∧
      ∀ u, u = t.sub (putN (varsF [] t) (wS (varsF [] t)) (varsF [] t).length) → Ar u ∧ ∃ m c, Un Ty.var t u (some m) c ∧ c ≤ 1099511627776 ∧ t.sub m = u.sub m ∧ canon (t.sub m) = canon t ∧ SN (t.sub m) ∧ VB (t.sub m) ∧ (t.sub m).size ≤ 61 := by
  have hlt : ∀ x ∈ varsF [] t, x < 6 := fun x hx => by
    rcases varsF_mem.1 hx with h | h
    · cases h
    · exact lt x h
  have hint : ∀ x ∈ t.vars, x ∈ varsF [] t := fun x hx => varsF_mem.2 (.inr hx)
  have hw : ∀ j, ∀ x ∈ (wS (varsF [] t) j).vars, 100 ≤ x ∧ x < 106 := fun j x hx => by
    simp [wS, Ty.vars] at hx
    subst hx
    cases h : (varsF [] t)[j]? with
    | none => simp
    | some y =>
      have := hlt y (List.mem_of_getElem? h)
      simp; omega
  have hw' : ∀ j, ∀ x ∈ (wS (varsF [] t) j).vars, x ∉ varsF [] t := fun j x hx hc => by
    have := hw j x hx
    have := hlt x hc
    omega
  refine ⟨fun i => Ar_sub (fun w => by unfold putN; split <;> trivial) rt, hw', ?_⟩
  intro u hu
  have ru : Ar u := by rw [hu]; exact Ar_sub (fun w => by unfold putN; split <;> trivial) rt
  have nu : SN u := by rw [hu]; exact SN_sub (fun w => by unfold putN; split <;> trivial) nt
  have zu : u.size ≤ 61 := by
    have := putN_size (l := varsF [] t) (w := wS (varsF [] t)) (C := 1) (by omega) (fun j => by simp [wS, Ty.size]) (varsF [] t).length t
    rw [← hu] at this; omega
  have luv : ∀ x ∈ u.vars, 100 ≤ x ∧ x < 106 := fun x hx => by
    rw [hu] at hx
    obtain ⟨j, _, h⟩ := putN_vars hint x hx
    exact hw j x h
  have hself : u.sub (putN (varsF [] t) (wS (varsF [] t)) (varsF [] t).length) = u := by
    have := putN_self hw' hint
    rw [← hu] at this; exact this
  obtain ⟨m, c, h1, h2, h3, h4, h5, h6⟩ := match_law (List.range 200) t u (putN (varsF [] t) (wS (varsF [] t)) (varsF [] t).length) (fun x hx => by simp; have := lt x hx; omega) (fun x hx => by simp; have := luv x hx; omega) (by rw [← hu, hself]) nt nu
  rw [← hu] at h2
  refine ⟨ru, m, c, h1, by omega, h3, ?_, SN_sub h6 nt, fun x hx => ?_, ?_⟩
  · refine canon_alike (a := t) (b := t.sub m) (m1 := fun v => (putN (varsF [] t) (wS (varsF [] t)) (varsF [] t).length v).sub fun w => .var (w - 100)) (m2 := m) rfl ?_
    rw [← Ty.sub_sub, h4.sub t, Ty.sub_sub]
    refine sub_self fun v hv => ?_
    have h7 := List.idxOf_lt_length_of_mem (hint v hv)
    have h8 := List.getElem_idxOf h7
    unfold putN
    rw [if_pos h7, wS, Ty.sub, List.getElem?_eq_getElem h7, h8]
    simp
  · have := h5 t (fun y hy => by simp; have := lt y hy; omega) x hx
    simp at this
    omega
  · have h7 := size_mono (putN (varsF [] t) (wS (varsF [] t)) (varsF [] t).length) (t.sub m)
    rw [h4.sub t, ← hu] at h7
    omega
theorem seen_take {l : List Nat} {q n : Nat} (h : l[q]? = some n) : (fun w => if w = n then true else seenB (l.take q) w) = seenB (l.take (q + 1)) := by
  funext w
  unfold seenB
  rw [List.take_add_one, h]
  by_cases e : w = n
  · subst e; simp
  · simp [e]
theorem u64_of (n : Int) : ∃ k : Nat, k < 6 ∧ (IntKind.u64.wrap n).tmod 6 = (k : Int) ∧ IntKind.i64.wrap (k : Int) = (k : Int) := by
  have h0 : 0 ≤ IntKind.u64.wrap n := by rw [show IntKind.u64.wrap n = n % 18446744073709551616 by simp [IntKind.wrap, IntKind.bits, IntKind.signed]]; omega
  obtain ⟨N, hN⟩ : ∃ N : Nat, IntKind.u64.wrap n = N := ⟨(IntKind.u64.wrap n).toNat, by omega⟩
  refine ⟨N % 6, by omega, by rw [hN]; rfl, wrapI _ (by omega) (by omega)⟩

set_option maxHeartbeats 16000000 in
theorem same_ok (la : List Nd) (n : Int) (oka : ∀ x ∈ la, x.ok) (ba : la.length ≤ 140737488355328) (M : AMem) (hT : Tab M) : ACalls Tryd.prog 4 [encNL la, V.int n] M (fun v M' => v = V.bool true) := by
  simp only [encNL]
  refine acalls_enter [.tmp 4] 97 Tryd.func4 rfl rfl rfl (by simp) ?_
  (repeat (first | refine W_seq ?_ | refine W_block ?_ | refine W_blk ?_ | refine W_skip ?_ | (refine W_region [] (by rfl) fun K hK => ?_; simp only [go_sem, Nat.reduceEqDiff, Nat.reduceLT, Nat.reduceAdd, Nat.reduceLeDiff, Nat.reduceMul, Nat.reduceSub, Int.reduceLE, Int.reduceLT, Int.reduceToNat, Int.reducePow, Int.reduceEq]; refine WRun.done _ _ (hK _ _ ?_); clear hK)))
  (repeat (first | refine W_seq ?_ | refine W_block ?_ | refine W_blk ?_ | refine W_skip ?_))
  (refine W_region [] (by rfl) fun K hK => ?_; simp only [go_sem, Nat.reduceEqDiff, Nat.reduceLT, Nat.reduceAdd, Nat.reduceLeDiff, Nat.reduceMul, Nat.reduceSub, Int.reduceLE, Int.reduceLT, Int.reduceToNat, Int.reducePow, Int.reduceEq])
  refine PCalls.use lives_ok (by simp only [go_sem, Nat.reduceEqDiff, Nat.reduceLT, Nat.reduceAdd, Nat.reduceLeDiff, Nat.reduceMul, Nat.reduceSub, Int.reduceLE, Int.reduceLT, Int.reduceToNat, Int.reducePow, Int.reduceEq]) ?_
  by_cases h30 : la.length ≤ 30
  · have n1 : ¬ (30 : Int) < (la.length : Int) := by omega
    simp only [go_sem, Nat.reduceEqDiff, Nat.reduceLT, Nat.reduceAdd, Nat.reduceLeDiff, Nat.reduceMul, Nat.reduceSub, Int.reduceLE, Int.reduceLT, Int.reduceToNat, Int.reducePow, Int.reduceEq, n1]
    (refine WRun.done _ _ (hK _ _ ?_); clear hK)
    refine W_cond_false (by simp only [go_sem, Nat.reduceEqDiff, Nat.reduceLT, Nat.reduceAdd, Nat.reduceLeDiff, Nat.reduceMul, Nat.reduceSub, Int.reduceLE, Int.reduceLT, Int.reduceToNat, Int.reducePow, Int.reduceEq, n1]) ?_
    have Ta := typF_ok 13 la
    have hta := typ_ok 13 (Nat.le_refl _) la oka (by omega)
    have la1 := Ta.le
    have za := Ta.size
    have ra := Ta.ar
    have vba : VB (typF 13 la).1 := fun v hv => by have := Ta.lt v hv; omega
    have lta := Ta.lt
    have nta := Ta.sn
    obtain ⟨q1, q2, q3⟩ := same_plain (t := (typF 13 la).1) (by omega) ra nta lta
    clear Ta
    generalize typF 13 la = A at *
    (repeat (first | refine W_seq ?_ | refine W_block ?_ | refine W_blk ?_ | refine W_skip ?_))
    (refine W_region [] (by rfl) fun K hK => ?_; simp only [go_sem, Nat.reduceEqDiff, Nat.reduceLT, Nat.reduceAdd, Nat.reduceLeDiff, Nat.reduceMul, Nat.reduceSub, Int.reduceLE, Int.reduceLT, Int.reduceToNat, Int.reducePow, Int.reduceEq])
    refine PCalls.use hta (by simp only [go_sem, Nat.reduceEqDiff, Nat.reduceLT, Nat.reduceAdd, Nat.reduceLeDiff, Nat.reduceMul, Nat.reduceSub, Int.reduceLE, Int.reduceLT, Int.reduceToNat, Int.reducePow, Int.reduceEq]) ?_
    simp only [go_sem, Nat.reduceEqDiff, Nat.reduceLT, Nat.reduceAdd, Nat.reduceLeDiff, Nat.reduceMul, Nat.reduceSub, Int.reduceLE, Int.reduceLT, Int.reduceToNat, Int.reducePow, Int.reduceEq]
    (refine WRun.done _ _ (hK _ _ ?_); clear hK)
    (repeat (first | refine W_seq ?_ | refine W_block ?_ | refine W_blk ?_ | refine W_skip ?_ | (refine W_region [] (by rfl) fun K hK => ?_; simp only [go_sem, Nat.reduceEqDiff, Nat.reduceLT, Nat.reduceAdd, Nat.reduceLeDiff, Nat.reduceMul, Nat.reduceSub, Int.reduceLE, Int.reduceLT, Int.reduceToNat, Int.reducePow, Int.reduceEq]; refine WRun.done _ _ (hK _ _ ?_); clear hK)))
    have hx1 : Ext M (M ++ [AObj.cells (tcells A.1)] ++ [AObj.map []]) := ((Ext.refl M).app _).app _
    have h5 : (M ++ [AObj.cells (tcells A.1)] ++ [AObj.map []])[M.length]? = some (.cells (tcells A.1)) := at_app (at_snoc rfl)
    have h7 : (M ++ [AObj.cells (tcells A.1)] ++ [AObj.map []])[M.length + 1]? = some (.map []) := at_snoc (by simp)
    have hl1 : (M ++ [AObj.cells (tcells A.1)] ++ [AObj.map []]).length = M.length + 2 := by simp
    generalize M ++ [AObj.cells (tcells A.1)] ++ [AObj.map []] = M1 at hx1 h5 h7 hl1 ⊢
    (repeat (first | refine W_seq ?_ | refine W_block ?_ | refine W_blk ?_ | refine W_skip ?_))
    (refine W_region [] (by rfl) fun K hK => ?_; simp only [go_sem, Nat.reduceEqDiff, Nat.reduceLT, Nat.reduceAdd, Nat.reduceLeDiff, Nat.reduceMul, Nat.reduceSub, Int.reduceLE, Int.reduceLT, Int.reduceToNat, Int.reducePow, Int.reduceEq, h5, hl1])
    (refine WRun.done _ _ (hK _ _ ?_); clear hK)
    have hx2 := hx1.app [AObj.cells (tcells A.1)]
    have h52 := at_app (Y := [AObj.cells (tcells A.1)]) h5
    have h72 := at_app (Y := [AObj.cells (tcells A.1)]) h7
    have h82 : (M1 ++ [AObj.cells (tcells A.1)])[M.length + 2]? = some (.cells (tcells A.1)) := at_snoc hl1.symm
    generalize M1 ++ [AObj.cells (tcells A.1)] = M2 at hx2 h52 h72 h82 ⊢
    clear hx1 h5 h7
    (repeat (first | refine W_seq ?_ | refine W_block ?_ | refine W_blk ?_ | refine W_skip ?_))
    (refine W_region [] (by rfl) fun K hK => ?_; simp only [go_sem, Nat.reduceEqDiff, Nat.reduceLT, Nat.reduceAdd, Nat.reduceLeDiff, Nat.reduceMul, Nat.reduceSub, Int.reduceLE, Int.reduceLT, Int.reduceToNat, Int.reducePow, Int.reduceEq, h52])
    refine PCalls.use (rvars_nil A.1 ra vba) (by simp only [go_sem, Nat.reduceEqDiff, Nat.reduceLT, Nat.reduceAdd, Nat.reduceLeDiff, Nat.reduceMul, Nat.reduceSub, Int.reduceLE, Int.reduceLT, Int.reduceToNat, Int.reducePow, Int.reduceEq, enc_eq]) ?_
    simp only [go_sem, Nat.reduceEqDiff, Nat.reduceLT, Nat.reduceAdd, Nat.reduceLeDiff, Nat.reduceMul, Nat.reduceSub, Int.reduceLE, Int.reduceLT, Int.reduceToNat, Int.reducePow, Int.reduceEq]
    (refine WRun.done _ _ (hK _ _ ?_); clear hK)
    obtain ⟨l, hl⟩ : ∃ l, l = varsF [] A.1 := ⟨_, rfl⟩
    have hnd : l.Nodup := by rw [hl]; exact varsF_nd (by simp) _
    have hin : ∀ v ∈ A.1.vars, v ∈ l := fun v hv => by rw [hl]; exact varsF_mem.2 (.inr hv)
    have hin2 : ∀ v ∈ l, v ∈ A.1.vars := fun v hv => by
      rw [hl] at hv
      rcases varsF_mem.1 hv with h | h
      · cases h
      · exact h
    have hll := vars_len vba
    rw [← hl] at q1 q2 q3 hll ⊢
    (repeat (first | refine W_seq ?_ | refine W_block ?_ | refine W_blk ?_ | refine W_skip ?_))
    refine W_loop (α := Nat) (fun q F' M' => q ≤ l.length ∧ Ext M M' ∧ look F' 1 = V.int n ∧ look F' 5 = .ptr M.length 0 ∧ look F' 7 = .map (M.length + 1) ∧ look F' 8 = .ptr (M.length + 2) 0 ∧ look F' 29 = .list .dull (encV l) ∧ look F' 30 = V.int l.length ∧ look F' 31 = V.int q ∧
      M'[M.length]? = some (.cells (tcells A.1)) ∧ M'[M.length + 2]? = some (.cells (tcells (A.1.sub (putN l (wS l) q)))) ∧ ∃ es, M'[M.length + 1]? = some (.map es) ∧ Seen es (seenB (l.take q)))
      (fun q => l.length - q) 0 ⟨Nat.zero_le _, hx2, ?_, ?_, ?_, ?_, ?_, ?_, ?_, h52, by rw [putN_zero]; exact h82, [], h72, Seen.start⟩ ?_
    · simp only [go_sem, Nat.reduceEqDiff, Nat.reduceLT, Nat.reduceAdd, Nat.reduceLeDiff, Nat.reduceMul, Nat.reduceSub, Int.reduceLE, Int.reduceLT, Int.reduceToNat, Int.reducePow, Int.reduceEq]
    · simp only [go_sem, Nat.reduceEqDiff, Nat.reduceLT, Nat.reduceAdd, Nat.reduceLeDiff, Nat.reduceMul, Nat.reduceSub, Int.reduceLE, Int.reduceLT, Int.reduceToNat, Int.reducePow, Int.reduceEq]
    · simp only [go_sem, Nat.reduceEqDiff, Nat.reduceLT, Nat.reduceAdd, Nat.reduceLeDiff, Nat.reduceMul, Nat.reduceSub, Int.reduceLE, Int.reduceLT, Int.reduceToNat, Int.reducePow, Int.reduceEq]
    · simp only [go_sem, Nat.reduceEqDiff, Nat.reduceLT, Nat.reduceAdd, Nat.reduceLeDiff, Nat.reduceMul, Nat.reduceSub, Int.reduceLE, Int.reduceLT, Int.reduceToNat, Int.reducePow, Int.reduceEq]
    · simp only [go_sem, Nat.reduceEqDiff, Nat.reduceLT, Nat.reduceAdd, Nat.reduceLeDiff, Nat.reduceMul, Nat.reduceSub, Int.reduceLE, Int.reduceLT, Int.reduceToNat, Int.reducePow, Int.reduceEq]
    · simp only [go_sem, Nat.reduceEqDiff, Nat.reduceLT, Nat.reduceAdd, Nat.reduceLeDiff, Nat.reduceMul, Nat.reduceSub, Int.reduceLE, Int.reduceLT, Int.reduceToNat, Int.reducePow, Int.reduceEq]
    · simp only [go_sem, Nat.reduceEqDiff, Nat.reduceLT, Nat.reduceAdd, Nat.reduceLeDiff, Nat.reduceMul, Nat.reduceSub, Int.reduceLE, Int.reduceLT, Int.reduceToNat, Int.reducePow, Int.reduceEq]
    clear h52 h72 h82 hx2
    rintro q F' M' ⟨hq, hx, f1, f5, f7, f8, f29, f30, f31, h5, h8, es, h7, hS⟩
    by_cases hlt : q < l.length
    · have hlt' : (q : Int) < (l.length : Int) := by omega
      have hw : IntKind.i64.wrap ((q : Int) + 1) = ((q + 1 : Nat) : Int) := by rw [wrapI _ (by omega) (by omega)]; omega
      obtain ⟨k, hnl⟩ : ∃ x, l[q]? = some x := ⟨l[q], by simp [hlt]⟩
      have hat := encV_at hnl
      have hk6 := lta k (hin2 k (List.mem_of_getElem? hnl))
      have hw2 : IntKind.i64.wrap ((k : Int) + 100) = ((k + 100 : Nat) : Int) := by rw [wrapI _ (by omega) (by omega)]; omega
      have hstep := putN_step hnd (wS l) q2 hnl hin
      have hwq : wS l q = .var (k + 100) := by simp [wS, hnl]
      rw [hwq] at hstep
      obtain ⟨es3, a1, a2⟩ := hS.put k
      rw [seen_take hnl] at a2
      (repeat (first | refine W_seq ?_ | refine W_block ?_ | refine W_blk ?_ | refine W_skip ?_ | (refine W_region [] (by rfl) fun K hK => ?_; simp only [go_sem, Nat.reduceEqDiff, Nat.reduceLT, Nat.reduceAdd, Nat.reduceLeDiff, Nat.reduceMul, Nat.reduceSub, Int.reduceLE, Int.reduceLT, Int.reduceToNat, Int.reducePow, Int.reduceEq, f30, f31, hlt']; refine WRun.done _ _ (hK _ _ ?_); clear hK)))
      refine W_cond_true (by simp only [go_sem, Nat.reduceEqDiff, Nat.reduceLT, Nat.reduceAdd, Nat.reduceLeDiff, Nat.reduceMul, Nat.reduceSub, Int.reduceLE, Int.reduceLT, Int.reduceToNat, Int.reducePow, Int.reduceEq]) ?_
      (repeat (first | refine W_seq ?_ | refine W_block ?_ | refine W_blk ?_ | refine W_skip ?_ | (refine W_region [] (by rfl) fun K hK => ?_; simp only [go_sem, Nat.reduceEqDiff, Nat.reduceLT, Nat.reduceAdd, Nat.reduceLeDiff, Nat.reduceMul, Nat.reduceSub, Int.reduceLE, Int.reduceLT, Int.reduceToNat, Int.reducePow, Int.reduceEq, f29, f31, hat, Int.natCast_nonneg, Int.toNat_natCast]; refine WRun.done _ _ (hK _ _ ?_); clear hK)))
      (repeat (first | refine W_seq ?_ | refine W_block ?_ | refine W_blk ?_ | refine W_skip ?_))
      (refine W_region [] (by rfl) fun K hK => ?_; simp only [go_sem, Nat.reduceEqDiff, Nat.reduceLT, Nat.reduceAdd, Nat.reduceLeDiff, Nat.reduceMul, Nat.reduceSub, Int.reduceLE, Int.reduceLT, Int.reduceToNat, Int.reducePow, Int.reduceEq, f8, h8, hw2])
      refine PCalls.use (put_ok (.var (k + 100)) k _ (A.1.sub (putN l (wS l) q)) (Nat.le_refl _) (q1 q)) (by simp only [go_sem, Nat.reduceEqDiff, Nat.reduceLT, Nat.reduceAdd, Nat.reduceLeDiff, Nat.reduceMul, Nat.reduceSub, Int.reduceLE, Int.reduceLT, Int.reduceToNat, Int.reducePow, Int.reduceEq, enc_eq, eStr]) ?_
      rw [hstep]
      simp only [go_sem, Nat.reduceEqDiff, Nat.reduceLT, Nat.reduceAdd, Nat.reduceLeDiff, Nat.reduceMul, Nat.reduceSub, Int.reduceLE, Int.reduceLT, Int.reduceToNat, Int.reducePow, Int.reduceEq, f8, h8]
      (refine WRun.done _ _ (hK _ _ ?_); clear hK)
      have h53 : (M'.set (M.length + 2) (.cells (tcells (A.1.sub (putN l (wS l) (q + 1))))))[M.length]? = some (.cells (tcells A.1)) := by rw [List.getElem?_set_ne (by omega)]; exact h5
      have h73 : (M'.set (M.length + 2) (.cells (tcells (A.1.sub (putN l (wS l) (q + 1))))))[M.length + 1]? = some (.map es) := by rw [List.getElem?_set_ne (by omega)]; exact h7
      have h83 : (M'.set (M.length + 2) (.cells (tcells (A.1.sub (putN l (wS l) (q + 1))))))[M.length + 2]? = some (.cells (tcells (A.1.sub (putN l (wS l) (q + 1))))) := List.getElem?_set_self (List.getElem?_eq_some_iff.1 h8).1
      have hx3 := hx.set (k := M.length + 2) (by omega) (.cells (tcells (A.1.sub (putN l (wS l) (q + 1)))))
      generalize M'.set (M.length + 2) (.cells (tcells (A.1.sub (putN l (wS l) (q + 1))))) = M3 at h53 h73 h83 hx3 ⊢
      (repeat (first | refine W_seq ?_ | refine W_block ?_ | refine W_blk ?_ | refine W_skip ?_ | (refine W_region [] (by rfl) fun K hK => ?_; simp only [go_sem, Nat.reduceEqDiff, Nat.reduceLT, Nat.reduceAdd, Nat.reduceLeDiff, Nat.reduceMul, Nat.reduceSub, Int.reduceLE, Int.reduceLT, Int.reduceToNat, Int.reducePow, Int.reduceEq, f7, f31, h73, a1, hw]; refine WRun.done _ _ (hK _ _ ?_); clear hK)))
      refine W_stop ⟨q + 1, ⟨hlt, hx3.set (k := M.length + 1) (by omega) _, ?_, ?_, ?_, ?_, ?_, ?_, ?_, ?_, ?_, es3, ?_, a2⟩, by omega⟩
      · simp only [go_sem, Nat.reduceEqDiff, Nat.reduceLT, Nat.reduceAdd, Nat.reduceLeDiff, Nat.reduceMul, Nat.reduceSub, Int.reduceLE, Int.reduceLT, Int.reduceToNat, Int.reducePow, Int.reduceEq, f1]
      · simp only [go_sem, Nat.reduceEqDiff, Nat.reduceLT, Nat.reduceAdd, Nat.reduceLeDiff, Nat.reduceMul, Nat.reduceSub, Int.reduceLE, Int.reduceLT, Int.reduceToNat, Int.reducePow, Int.reduceEq, f5]
      · simp only [go_sem, Nat.reduceEqDiff, Nat.reduceLT, Nat.reduceAdd, Nat.reduceLeDiff, Nat.reduceMul, Nat.reduceSub, Int.reduceLE, Int.reduceLT, Int.reduceToNat, Int.reducePow, Int.reduceEq, f7]
      · simp only [go_sem, Nat.reduceEqDiff, Nat.reduceLT, Nat.reduceAdd, Nat.reduceLeDiff, Nat.reduceMul, Nat.reduceSub, Int.reduceLE, Int.reduceLT, Int.reduceToNat, Int.reducePow, Int.reduceEq, f8]
      · simp only [go_sem, Nat.reduceEqDiff, Nat.reduceLT, Nat.reduceAdd, Nat.reduceLeDiff, Nat.reduceMul, Nat.reduceSub, Int.reduceLE, Int.reduceLT, Int.reduceToNat, Int.reducePow, Int.reduceEq, f29]
      · simp only [go_sem, Nat.reduceEqDiff, Nat.reduceLT, Nat.reduceAdd, Nat.reduceLeDiff, Nat.reduceMul, Nat.reduceSub, Int.reduceLE, Int.reduceLT, Int.reduceToNat, Int.reducePow, Int.reduceEq, f30]
      · simp only [go_sem, Nat.reduceEqDiff, Nat.reduceLT, Nat.reduceAdd, Nat.reduceLeDiff, Nat.reduceMul, Nat.reduceSub, Int.reduceLE, Int.reduceLT, Int.reduceToNat, Int.reducePow, Int.reduceEq]
      · rw [List.getElem?_set_ne (by omega)]; exact h53
      · rw [List.getElem?_set_ne (by omega)]; exact h83
      · exact List.getElem?_set_self (List.getElem?_eq_some_iff.1 h73).1
    · have hii : q = l.length := by omega
      subst hii
      rw [List.take_length] at hS
      (repeat (first | refine W_seq ?_ | refine W_block ?_ | refine W_blk ?_ | refine W_skip ?_ | (refine W_region [] (by rfl) fun K hK => ?_; simp only [go_sem, Nat.reduceEqDiff, Nat.reduceLT, Nat.reduceAdd, Nat.reduceLeDiff, Nat.reduceMul, Nat.reduceSub, Int.reduceLE, Int.reduceLT, Int.reduceToNat, Int.reducePow, Int.reduceEq, f30, f31, Int.lt_irrefl]; refine WRun.done _ _ (hK _ _ ?_); clear hK)))
      refine W_cond_false (by simp only [go_sem, Nat.reduceEqDiff, Nat.reduceLT, Nat.reduceAdd, Nat.reduceLeDiff, Nat.reduceMul, Nat.reduceSub, Int.reduceLE, Int.reduceLT, Int.reduceToNat, Int.reducePow, Int.reduceEq]) ?_
      refine W_exit (Qof_code (Qof_stop (Qof_blk_same ?_)))
      obtain ⟨u, hu⟩ : ∃ u, u = A.1.sub (putN l (wS l) l.length) := ⟨_, rfl⟩
      obtain ⟨ru, m, c, hUn, hc, heq, hcan, nA, vA, zA⟩ := q3 u hu
      rw [← hu] at h8
      clear q1 q2 q3
      (repeat (first | refine W_seq ?_ | refine W_block ?_ | refine W_blk ?_ | refine W_skip ?_ | (refine W_region [] (by rfl) fun K hK => ?_; simp only [go_sem, Nat.reduceEqDiff, Nat.reduceLT, Nat.reduceAdd, Nat.reduceLeDiff, Nat.reduceMul, Nat.reduceSub, Int.reduceLE, Int.reduceLT, Int.reduceToNat, Int.reducePow, Int.reduceEq]; refine WRun.done _ _ (hK _ _ ?_); clear hK)))
      have h51 := at_app (Y := [AObj.map []]) h5
      have h71 := at_app (Y := [AObj.map []]) h7
      have h81 := at_app (Y := [AObj.map []]) h8
      have hsm : (M' ++ [AObj.map []])[M'.length]? = some (.map []) := at_snoc rfl
      have hx1 := hx.app [AObj.map []]
      have h8l := (List.getElem?_eq_some_iff.1 h8).1
      obtain ⟨i, hi⟩ : ∃ i, i = M'.length := ⟨_, rfl⟩
      rw [← hi] at hsm h8l ⊢
      generalize M' ++ [AObj.map []] = M3 at h51 h71 h81 hsm hx1 ⊢
      (refine W_draw [] (fun X => X[M.length]? = some (.cells (tcells A.1)) ∧ X[M.length + 2]? = some (.cells (tcells u))) mixed_ (by rfl) ?_ fun K hK => ?_)
      · exact ⟨h51, h81⟩
      (refine DR_quiet [0, 1, 2] (by decide +kernel) (fun M_ hS_ => ?_) (fun K2 hK2 => ?_); (focus (simp only [go_sem, Nat.reduceEqDiff, Nat.reduceLT, Nat.reduceAdd, Nat.reduceLeDiff, Nat.reduceMul, Nat.reduceSub, Int.reduceLE, Int.reduceLT, Int.reduceToNat, Int.reducePow, Int.reduceEq, hS_, f5, f8, h51, h81])); simp only [go_sem, Nat.reduceEqDiff, Nat.reduceLT, Nat.reduceAdd, Nat.reduceLeDiff, Nat.reduceMul, Nat.reduceSub, Int.reduceLE, Int.reduceLT, Int.reduceToNat, Int.reducePow, Int.reduceEq, f5, f8, h51, h81]; refine hK2 _ ?_; clear hK2)
      (refine DR_sole' 3 (by decide +kernel) (by simp only [go_sem, Nat.reduceEqDiff, Nat.reduceLT, Nat.reduceAdd, Nat.reduceLeDiff, Nat.reduceMul, Nat.reduceSub, Int.reduceLE, Int.reduceLT, Int.reduceToNat, Int.reducePow, Int.reduceEq]) ?_; simp only [go_sem, Nat.reduceEqDiff, Nat.reduceLT, Nat.reduceAdd, Nat.reduceLeDiff, Nat.reduceMul, Nat.reduceSub, Int.reduceLE, Int.reduceLT, Int.reduceToNat, Int.reducePow, Int.reduceEq])
      refine ACalls.at (unify_some i hUn hc SMap.start Sbs.start ra ru M3 hsm) (by simp only [go_sem, Nat.reduceEqDiff, Nat.reduceLT, Nat.reduceAdd, Nat.reduceLeDiff, Nat.reduceMul, Nat.reduceSub, Int.reduceLE, Int.reduceLT, Int.reduceToNat, Int.reducePow, Int.reduceEq, enc_eq]) ?_
      rintro w Mv ⟨rfl, es2, s2, r2, rfl, k1, k2⟩
      have h54 : (M3.set i (.map es2))[M.length]? = some (.cells (tcells A.1)) := by rw [List.getElem?_set_ne (by omega)]; exact h51
      have h74 : (M3.set i (.map es2))[M.length + 1]? = some (.map es) := by rw [List.getElem?_set_ne (by omega)]; exact h71
      have h84 : (M3.set i (.map es2))[M.length + 2]? = some (.cells (tcells u)) := by rw [List.getElem?_set_ne (by omega)]; exact h81
      have hs4 : (M3.set i (.map es2))[i]? = some (.map es2) := List.getElem?_set_self (List.getElem?_eq_some_iff.1 hsm).1
      have hx4 := hx1.set (k := i) (by omega) (.map es2)
      generalize M3.set i (.map es2) = M4 at h54 h74 h84 hs4 hx4 ⊢
      refine ⟨⟨h54, h84⟩, ?_⟩
      have hT4 : Tab M4 := hT.ext hx4
      have arm := ar_of_map k1 k2
      have FA : FinG (A.1.sub m) := ⟨Ar_sub arm ra, Sm_of nA vA, by omega, vA⟩
      have FA0 : FinG A.1 := ⟨ra, Sm_of nta vba, by omega, vba⟩
      have FC := finG_canon FA0 nta
      (refine DR_quiet [4, 5, 6, 7, 10] (by decide +kernel) (fun M_ hS_ => ?_) (fun K2 hK2 => ?_); (focus (simp only [go_sem, Nat.reduceEqDiff, Nat.reduceLT, Nat.reduceAdd, Nat.reduceLeDiff, Nat.reduceMul, Nat.reduceSub, Int.reduceLE, Int.reduceLT, Int.reduceToNat, Int.reducePow, Int.reduceEq, hS_, f5, f8, h54, h84])); simp only [go_sem, Nat.reduceEqDiff, Nat.reduceLT, Nat.reduceAdd, Nat.reduceLeDiff, Nat.reduceMul, Nat.reduceSub, Int.reduceLE, Int.reduceLT, Int.reduceToNat, Int.reducePow, Int.reduceEq, f5, f8, h54, h84]; refine hK2 _ ?_; clear hK2)
      (refine DR_sole' 8 (by decide +kernel) (by simp only [go_sem, Nat.reduceEqDiff, Nat.reduceLT, Nat.reduceAdd, Nat.reduceLeDiff, Nat.reduceMul, Nat.reduceSub, Int.reduceLE, Int.reduceLT, Int.reduceToNat, Int.reducePow, Int.reduceEq]) ?_; simp only [go_sem, Nat.reduceEqDiff, Nat.reduceLT, Nat.reduceAdd, Nat.reduceLeDiff, Nat.reduceMul, Nat.reduceSub, Int.reduceLE, Int.reduceLT, Int.reduceToNat, Int.reducePow, Int.reduceEq])
      refine ACalls.at (apply_ok k1 k2 i _ A.1 (Nat.le_refl _) ra M4 hs4) (by simp only [go_sem, Nat.reduceEqDiff, Nat.reduceLT, Nat.reduceAdd, Nat.reduceLeDiff, Nat.reduceMul, Nat.reduceSub, Int.reduceLE, Int.reduceLT, Int.reduceToNat, Int.reducePow, Int.reduceEq, enc_eq]) ?_
      rintro w Mv ⟨rfl, hMv⟩
      subst Mv
      refine ⟨⟨h54, h84⟩, ?_⟩
      (refine DR_sole' 9 (by decide +kernel) (by simp only [go_sem, Nat.reduceEqDiff, Nat.reduceLT, Nat.reduceAdd, Nat.reduceLeDiff, Nat.reduceMul, Nat.reduceSub, Int.reduceLE, Int.reduceLT, Int.reduceToNat, Int.reducePow, Int.reduceEq]) ?_; simp only [go_sem, Nat.reduceEqDiff, Nat.reduceLT, Nat.reduceAdd, Nat.reduceLeDiff, Nat.reduceMul, Nat.reduceSub, Int.reduceLE, Int.reduceLT, Int.reduceToNat, Int.reducePow, Int.reduceEq])
      refine PCalls.at (rcanon_ok (A.1.sub m) FA.ar FA.vb) (by simp only [go_sem, Nat.reduceEqDiff, Nat.reduceLT, Nat.reduceAdd, Nat.reduceLeDiff, Nat.reduceMul, Nat.reduceSub, Int.reduceLE, Int.reduceLT, Int.reduceToNat, Int.reducePow, Int.reduceEq]) ⟨⟨h54, h84⟩, ?_⟩
      rw [hcan]
      (refine DR_sole' 11 (by decide +kernel) (by simp only [go_sem, Nat.reduceEqDiff, Nat.reduceLT, Nat.reduceAdd, Nat.reduceLeDiff, Nat.reduceMul, Nat.reduceSub, Int.reduceLE, Int.reduceLT, Int.reduceToNat, Int.reducePow, Int.reduceEq]) ?_; simp only [go_sem, Nat.reduceEqDiff, Nat.reduceLT, Nat.reduceAdd, Nat.reduceLeDiff, Nat.reduceMul, Nat.reduceSub, Int.reduceLE, Int.reduceLT, Int.reduceToNat, Int.reducePow, Int.reduceEq])
      refine PCalls.at (rcanon_ok A.1 ra vba) (by simp only [go_sem, Nat.reduceEqDiff, Nat.reduceLT, Nat.reduceAdd, Nat.reduceLeDiff, Nat.reduceMul, Nat.reduceSub, Int.reduceLE, Int.reduceLT, Int.reduceToNat, Int.reducePow, Int.reduceEq, enc_eq]) ⟨⟨h54, h84⟩, ?_⟩
      (refine DR_sole' 12 (by decide +kernel) (by simp only [go_sem, Nat.reduceEqDiff, Nat.reduceLT, Nat.reduceAdd, Nat.reduceLeDiff, Nat.reduceMul, Nat.reduceSub, Int.reduceLE, Int.reduceLT, Int.reduceToNat, Int.reducePow, Int.reduceEq]) ?_; simp only [go_sem, Nat.reduceEqDiff, Nat.reduceLT, Nat.reduceAdd, Nat.reduceLeDiff, Nat.reduceMul, Nat.reduceSub, Int.reduceLE, Int.reduceLT, Int.reduceToNat, Int.reducePow, Int.reduceEq])
      refine ACalls.at (like_selfG FC M4 (.inr hT4)) (by simp only [go_sem, Nat.reduceEqDiff, Nat.reduceLT, Nat.reduceAdd, Nat.reduceLeDiff, Nat.reduceMul, Nat.reduceSub, Int.reduceLE, Int.reduceLT, Int.reduceToNat, Int.reducePow, Int.reduceEq]) ?_
      rintro w Mv ⟨rfl, hMv⟩
      subst Mv
      refine ⟨⟨h54, h84⟩, ?_⟩
      (refine DR_quiet [13, 14, 15, 16, 17, 19, 20] (by decide +kernel) (fun M_ hS_ => ?_) (fun K2 hK2 => ?_); (focus (simp only [go_sem, Nat.reduceEqDiff, Nat.reduceLT, Nat.reduceAdd, Nat.reduceLeDiff, Nat.reduceMul, Nat.reduceSub, Int.reduceLE, Int.reduceLT, Int.reduceToNat, Int.reducePow, Int.reduceEq, hS_, f5, f8, h54, h84])); simp only [go_sem, Nat.reduceEqDiff, Nat.reduceLT, Nat.reduceAdd, Nat.reduceLeDiff, Nat.reduceMul, Nat.reduceSub, Int.reduceLE, Int.reduceLT, Int.reduceToNat, Int.reducePow, Int.reduceEq, f5, f8, h54, h84]; refine hK2 _ ?_; clear hK2)
      (refine DR_sole' 18 (by decide +kernel) (by simp only [go_sem, Nat.reduceEqDiff, Nat.reduceLT, Nat.reduceAdd, Nat.reduceLeDiff, Nat.reduceMul, Nat.reduceSub, Int.reduceLE, Int.reduceLT, Int.reduceToNat, Int.reducePow, Int.reduceEq]) ?_; simp only [go_sem, Nat.reduceEqDiff, Nat.reduceLT, Nat.reduceAdd, Nat.reduceLeDiff, Nat.reduceMul, Nat.reduceSub, Int.reduceLE, Int.reduceLT, Int.reduceToNat, Int.reducePow, Int.reduceEq])
      refine ACalls.at (apply_ok k1 k2 i _ A.1 (Nat.le_refl _) ra M4 hs4) (by simp only [go_sem, Nat.reduceEqDiff, Nat.reduceLT, Nat.reduceAdd, Nat.reduceLeDiff, Nat.reduceMul, Nat.reduceSub, Int.reduceLE, Int.reduceLT, Int.reduceToNat, Int.reducePow, Int.reduceEq, enc_eq]) ?_
      rintro w Mv ⟨rfl, hMv⟩
      subst Mv
      refine ⟨⟨h54, h84⟩, ?_⟩
      (refine DR_sole' 21 (by decide +kernel) (by simp only [go_sem, Nat.reduceEqDiff, Nat.reduceLT, Nat.reduceAdd, Nat.reduceLeDiff, Nat.reduceMul, Nat.reduceSub, Int.reduceLE, Int.reduceLT, Int.reduceToNat, Int.reducePow, Int.reduceEq]) ?_; simp only [go_sem, Nat.reduceEqDiff, Nat.reduceLT, Nat.reduceAdd, Nat.reduceLeDiff, Nat.reduceMul, Nat.reduceSub, Int.reduceLE, Int.reduceLT, Int.reduceToNat, Int.reducePow, Int.reduceEq])
      refine ACalls.at (apply_ok k1 k2 i _ u (Nat.le_refl _) ru M4 hs4) (by simp only [go_sem, Nat.reduceEqDiff, Nat.reduceLT, Nat.reduceAdd, Nat.reduceLeDiff, Nat.reduceMul, Nat.reduceSub, Int.reduceLE, Int.reduceLT, Int.reduceToNat, Int.reducePow, Int.reduceEq, enc_eq]) ?_
      rintro w Mv ⟨rfl, hMv⟩
      subst Mv
      refine ⟨⟨h54, h84⟩, ?_⟩
      rw [← heq]
      (refine DR_sole' 22 (by decide +kernel) (by simp only [go_sem, Nat.reduceEqDiff, Nat.reduceLT, Nat.reduceAdd, Nat.reduceLeDiff, Nat.reduceMul, Nat.reduceSub, Int.reduceLE, Int.reduceLT, Int.reduceToNat, Int.reducePow, Int.reduceEq]) ?_; simp only [go_sem, Nat.reduceEqDiff, Nat.reduceLT, Nat.reduceAdd, Nat.reduceLeDiff, Nat.reduceMul, Nat.reduceSub, Int.reduceLE, Int.reduceLT, Int.reduceToNat, Int.reducePow, Int.reduceEq])
      refine ACalls.at (like_selfG FA M4 (.inr hT4)) (by simp only [go_sem, Nat.reduceEqDiff, Nat.reduceLT, Nat.reduceAdd, Nat.reduceLeDiff, Nat.reduceMul, Nat.reduceSub, Int.reduceLE, Int.reduceLT, Int.reduceToNat, Int.reducePow, Int.reduceEq]) ?_
      rintro w Mv ⟨rfl, hMv⟩
      subst Mv
      refine ⟨⟨h54, h84⟩, ?_⟩
      (refine DR_quiet [23, 24] (by decide +kernel) (fun M_ hS_ => ?_) (fun K2 hK2 => ?_); (focus (simp only [go_sem, Nat.reduceEqDiff, Nat.reduceLT, Nat.reduceAdd, Nat.reduceLeDiff, Nat.reduceMul, Nat.reduceSub, Int.reduceLE, Int.reduceLT, Int.reduceToNat, Int.reducePow, Int.reduceEq, hS_])); simp only [go_sem, Nat.reduceEqDiff, Nat.reduceLT, Nat.reduceAdd, Nat.reduceLeDiff, Nat.reduceMul, Nat.reduceSub, Int.reduceLE, Int.reduceLT, Int.reduceToNat, Int.reducePow, Int.reduceEq]; refine hK2 _ ?_; clear hK2)
      (refine DR_end (by decide +kernel) (hK _ _ ?_); clear hK)
      refine W_cond_false (by simp only [go_sem, Nat.reduceEqDiff, Nat.reduceLT, Nat.reduceAdd, Nat.reduceLeDiff, Nat.reduceMul, Nat.reduceSub, Int.reduceLE, Int.reduceLT, Int.reduceToNat, Int.reducePow, Int.reduceEq]) ?_
      obtain ⟨k, hk6, hk1, hk2⟩ := u64_of n
      (repeat (first | refine W_seq ?_ | refine W_block ?_ | refine W_blk ?_ | refine W_skip ?_ | (refine W_region [] (by rfl) fun K hK => ?_; simp only [go_sem, Nat.reduceEqDiff, Nat.reduceLT, Nat.reduceAdd, Nat.reduceLeDiff, Nat.reduceMul, Nat.reduceSub, Int.reduceLE, Int.reduceLT, Int.reduceToNat, Int.reducePow, Int.reduceEq, f1, hk1, hk2, ne_eq, not_false_eq_true]; refine WRun.done _ _ (hK _ _ ?_); clear hK)))
      have hgs := hS.get k
      by_cases hkl : k ∈ l
      · have hsn : seenB l k = true := by simp [seenB, hkl]
        rw [hsn] at hgs
        cases hAt : A.1 with
        | var w =>
          rw [hAt] at h54
          have h0 : (0 : Int) ≤ (w : Int) := Int.natCast_nonneg w
          (repeat (first | refine W_seq ?_ | refine W_block ?_ | refine W_blk ?_ | refine W_skip ?_ | (refine W_region [] (by rfl) fun K hK => ?_; simp only [go_sem, Nat.reduceEqDiff, Nat.reduceLT, Nat.reduceAdd, Nat.reduceLeDiff, Nat.reduceMul, Nat.reduceSub, Int.reduceLE, Int.reduceLT, Int.reduceToNat, Int.reducePow, Int.reduceEq, f5, f7, h54, h74, hgs, h0]; refine WRun.done _ _ (hK _ _ ?_); clear hK)))
          refine W_cond_true (by simp only [go_sem, Nat.reduceEqDiff, Nat.reduceLT, Nat.reduceAdd, Nat.reduceLeDiff, Nat.reduceMul, Nat.reduceSub, Int.reduceLE, Int.reduceLT, Int.reduceToNat, Int.reducePow, Int.reduceEq]) ?_
          (repeat (first | refine W_seq ?_ | refine W_block ?_ | refine W_blk ?_ | refine W_skip ?_ | (refine W_region [] (by rfl) fun K hK => ?_; simp only [go_sem, Nat.reduceEqDiff, Nat.reduceLT, Nat.reduceAdd, Nat.reduceLeDiff, Nat.reduceMul, Nat.reduceSub, Int.reduceLE, Int.reduceLT, Int.reduceToNat, Int.reducePow, Int.reduceEq]; refine WRun.done _ _ (hK _ _ ?_); clear hK)))
          refine W_ret ?_
          simp only [go_sem, Nat.reduceEqDiff, Nat.reduceLT, Nat.reduceAdd, Nat.reduceLeDiff, Nat.reduceMul, Nat.reduceSub, Int.reduceLE, Int.reduceLT, Int.reduceToNat, Int.reducePow, Int.reduceEq]
        | app g ll =>
          have hkv : k ∈ A.1.vars := hin2 k hkl
          rw [hAt] at h54 hkv ra
          (repeat (first | refine W_seq ?_ | refine W_block ?_ | refine W_blk ?_ | refine W_skip ?_ | (refine W_region [] (by rfl) fun K hK => ?_; simp only [go_sem, Nat.reduceEqDiff, Nat.reduceLT, Nat.reduceAdd, Nat.reduceLeDiff, Nat.reduceMul, Nat.reduceSub, Int.reduceLE, Int.reduceLT, Int.reduceToNat, Int.reducePow, Int.reduceEq, f5, f7, h54, h74, hgs]; refine WRun.done _ _ (hK _ _ ?_); clear hK)))
          refine W_cond_false (by simp only [go_sem, Nat.reduceEqDiff, Nat.reduceLT, Nat.reduceAdd, Nat.reduceLeDiff, Nat.reduceMul, Nat.reduceSub, Int.reduceLE, Int.reduceLT, Int.reduceToNat, Int.reducePow, Int.reduceEq]) ?_
          have u1 : Un Ty.var (.var k) (.app g ll) none 1 := .occL Ty.var _ _ k rfl (by rw [Ty.sub_var]; intro e; cases e) (by rw [Ty.sub_var]; exact hkv)
          have u2 : Un Ty.var (.app g ll) (.var k) none 1 := .occR Ty.var _ _ g ll k (Ty.sub_var _) rfl (by rw [Ty.sub_var]; exact hkv)
          have h55 := at_app (Y := [AObj.map []]) h54
          have hs5 : (M4 ++ [AObj.map []])[M4.length]? = some (.map []) := at_snoc rfl
          have h5l := (List.getElem?_eq_some_iff.1 h54).1
          (repeat (first | refine W_seq ?_ | refine W_block ?_ | refine W_blk ?_ | refine W_skip ?_))
          (refine W_region [] (by rfl) fun K hK => ?_; simp only [go_sem, Nat.reduceEqDiff, Nat.reduceLT, Nat.reduceAdd, Nat.reduceLeDiff, Nat.reduceMul, Nat.reduceSub, Int.reduceLE, Int.reduceLT, Int.reduceToNat, Int.reducePow, Int.reduceEq, f5, h55])
          refine ACalls.use (unify_none M4.length u1 SMap.start Sbs.start trivial ra _ hs5) (by simp only [go_sem, Nat.reduceEqDiff, Nat.reduceLT, Nat.reduceAdd, Nat.reduceLeDiff, Nat.reduceMul, Nat.reduceSub, Int.reduceLE, Int.reduceLT, Int.reduceToNat, Int.reducePow, Int.reduceEq, enc_eq, eStr]) ?_
          rintro r' M5 ⟨rfl, es5, s5, rfl, _⟩
          have h56 : (M4 ++ [AObj.map es5])[M.length]? = some (.cells (tcells (.app g ll))) := at_app h54
          have h57 := at_app (Y := [AObj.map []]) h56
          have hs7 : (M4 ++ [AObj.map es5] ++ [AObj.map []])[M4.length + 1]? = some (.map []) := at_snoc (by simp)
          simp only [go_sem, Nat.reduceEqDiff, Nat.reduceLT, Nat.reduceAdd, Nat.reduceLeDiff, Nat.reduceMul, Nat.reduceSub, Int.reduceLE, Int.reduceLT, Int.reduceToNat, Int.reducePow, Int.reduceEq, f5, h57]
          refine ACalls.use (unify_none (M4.length + 1) u2 SMap.start Sbs.start ra trivial _ hs7) (by simp only [go_sem, Nat.reduceEqDiff, Nat.reduceLT, Nat.reduceAdd, Nat.reduceLeDiff, Nat.reduceMul, Nat.reduceSub, Int.reduceLE, Int.reduceLT, Int.reduceToNat, Int.reducePow, Int.reduceEq, enc_eq, eStr]) ?_
          rintro r' M6 ⟨rfl, es6, s6, rfl, _⟩
          simp only [go_sem, Nat.reduceEqDiff, Nat.reduceLT, Nat.reduceAdd, Nat.reduceLeDiff, Nat.reduceMul, Nat.reduceSub, Int.reduceLE, Int.reduceLT, Int.reduceToNat, Int.reducePow, Int.reduceEq]
          (refine WRun.done _ _ (hK _ _ ?_); clear hK)
          refine W_ret ?_
          simp only [go_sem, Nat.reduceEqDiff, Nat.reduceLT, Nat.reduceAdd, Nat.reduceLeDiff, Nat.reduceMul, Nat.reduceSub, Int.reduceLE, Int.reduceLT, Int.reduceToNat, Int.reducePow, Int.reduceEq]
      · have hsn : seenB l k = false := by simp [seenB, hkl]
        rw [hsn] at hgs
        (repeat (first | refine W_seq ?_ | refine W_block ?_ | refine W_blk ?_ | refine W_skip ?_ | (refine W_region [] (by rfl) fun K hK => ?_; simp only [go_sem, Nat.reduceEqDiff, Nat.reduceLT, Nat.reduceAdd, Nat.reduceLeDiff, Nat.reduceMul, Nat.reduceSub, Int.reduceLE, Int.reduceLT, Int.reduceToNat, Int.reducePow, Int.reduceEq, f5, f7, h54, h74, hgs]; refine WRun.done _ _ (hK _ _ ?_); clear hK)))
        refine W_cond_true (by simp only [go_sem, Nat.reduceEqDiff, Nat.reduceLT, Nat.reduceAdd, Nat.reduceLeDiff, Nat.reduceMul, Nat.reduceSub, Int.reduceLE, Int.reduceLT, Int.reduceToNat, Int.reducePow, Int.reduceEq]) ?_
        (repeat (first | refine W_seq ?_ | refine W_block ?_ | refine W_blk ?_ | refine W_skip ?_ | (refine W_region [] (by rfl) fun K hK => ?_; simp only [go_sem, Nat.reduceEqDiff, Nat.reduceLT, Nat.reduceAdd, Nat.reduceLeDiff, Nat.reduceMul, Nat.reduceSub, Int.reduceLE, Int.reduceLT, Int.reduceToNat, Int.reducePow, Int.reduceEq]; refine WRun.done _ _ (hK _ _ ?_); clear hK)))
        refine W_ret ?_
        simp only [go_sem, Nat.reduceEqDiff, Nat.reduceLT, Nat.reduceAdd, Nat.reduceLeDiff, Nat.reduceMul, Nat.reduceSub, Int.reduceLE, Int.reduceLT, Int.reduceToNat, Int.reducePow, Int.reduceEq]
  · have n1 : (30 : Int) < (la.length : Int) := by omega
    simp only [go_sem, Nat.reduceEqDiff, Nat.reduceLT, Nat.reduceAdd, Nat.reduceLeDiff, Nat.reduceMul, Nat.reduceSub, Int.reduceLE, Int.reduceLT, Int.reduceToNat, Int.reducePow, Int.reduceEq, n1]
    (refine WRun.done _ _ (hK _ _ ?_); clear hK)
    refine W_cond_true (by simp only [go_sem, Nat.reduceEqDiff, Nat.reduceLT, Nat.reduceAdd, Nat.reduceLeDiff, Nat.reduceMul, Nat.reduceSub, Int.reduceLE, Int.reduceLT, Int.reduceToNat, Int.reducePow, Int.reduceEq, n1]) ?_
    (repeat (first | refine W_seq ?_ | refine W_block ?_ | refine W_blk ?_ | refine W_skip ?_))
    (refine W_region [] (by rfl) fun K hK => ?_; simp only [go_sem, Nat.reduceEqDiff, Nat.reduceLT, Nat.reduceAdd, Nat.reduceLeDiff, Nat.reduceMul, Nat.reduceSub, Int.reduceLE, Int.reduceLT, Int.reduceToNat, Int.reducePow, Int.reduceEq])
    refine PCalls.use lives_ok (by simp only [go_sem, Nat.reduceEqDiff, Nat.reduceLT, Nat.reduceAdd, Nat.reduceLeDiff, Nat.reduceMul, Nat.reduceSub, Int.reduceLE, Int.reduceLT, Int.reduceToNat, Int.reducePow, Int.reduceEq]) ?_
    simp only [go_sem, Nat.reduceEqDiff, Nat.reduceLT, Nat.reduceAdd, Nat.reduceLeDiff, Nat.reduceMul, Nat.reduceSub, Int.reduceLE, Int.reduceLT, Int.reduceToNat, Int.reducePow, Int.reduceEq]
    (refine WRun.done _ _ (hK _ _ ?_); clear hK)
    refine W_ret ?_
    simp only [go_sem, Nat.reduceEqDiff, Nat.reduceLT, Nat.reduceAdd, Nat.reduceLeDiff, Nat.reduceMul, Nat.reduceSub, Int.reduceLE, Int.reduceLT, Int.reduceToNat, Int.reducePow, Int.reduceEq]
end Go.Ax

import Derived.Test.YthbojmoiimknhaaOrB
set_option linter.unusedSimpArgs false
set_option linter.unusedVariables false
namespace Go.Ax
open Go.Proofs Go.Ord

theorem popS_next {s : TS} {L j q : Nat} (hj : j < L) (hL : L = s.stk.length) (hq : s.stk[L - j - 1]? = some q) :
    s.stk.drop (L - (j + 1)) = q :: s.stk.drop (L - j) ∧ s.stk.take (L - j) = s.stk.take (L - (j + 1)) ++ [q] := by
  have e : L - j = L - (j + 1) + 1 := by omega
  have e2 : L - j - 1 = L - (j + 1) := by omega
  rw [e2] at hq
  refine ⟨?_, ?_⟩
  · rw [e]; exact (List.drop_eq_getElem_cons (List.getElem?_eq_some_iff.1 hq).1).trans (by rw [(List.getElem?_eq_some_iff.1 hq).2])
  · rw [e, List.take_add_one, hq]; rfl

theorem popS_pop (s : TS) (S S' p : List Nat) (q : Nat) : ({ { { popS s S p with stk := S' } with on := upd (popS s S p).on q false } with grp := upd (popS s S p).grp q s.groups } : TS) = popS s S' (q :: p) := by
  show TS.mk _ _ _ _ _ _ _ = TS.mk _ _ _ _ _ _ _
  congr 1
  · funext k
    by_cases hk : k = q
    · subst hk; simp [upd]
    · simp [upd, hk, popS]
  · funext k
    by_cases hk : k = q
    · subst hk; simp [upd]
    · simp [upd, hk, popS]

theorem walk_pop {Ret : Fr → AMem → Prop} {k0 : List It} {M0 M : AMem} {B n : Nat} {x : V} {d : Ids} {s : TS} {sk : Nat} (h : VisAt M0 B n x d s (some sk) M) (S0 e : List Nat) (i : Nat) (he : s.stk = S0 ++ i :: e) (hnd : s.stk.Nodup) (hlt : ∀ k ∈ s.stk, k < n) (hn : s.stk.length ≤ 1000000) (hB : B ≤ M.length)
    (F : Fr) (f0 : look F 0 = .ptr d.v 0) (f1 : look F 1 = V.int i)
    (hk : ∀ F' M', look F' 0 = .ptr d.v 0 → VisAt M0 B n x d (popS s S0 (i :: e)) (some sk) M' → M'.length = M.length → W Try.prog 190 Ret (.code (part [1,1,1,1,1,1] body41) :: k0) F' M') :
    W Try.prog 190 Ret (.code (part [1,1,1,1,1] body41) :: k0) F M := by
  obtain ⟨L, hL⟩ : ∃ L, L = s.stk.length := ⟨_, rfl⟩
  have hLe : L = S0.length + (e.length + 1) := by rw [hL, he]; simp
  (repeat (first | refine W_seq ?_ | refine W_block ?_ | refine W_blk ?_ | refine W_skip ?_))
  refine W_loop (α := Nat) (fun j F' M' => j ≤ e.length ∧ look F' 0 = .ptr d.v 0 ∧ look F' 1 = V.int i ∧ M'.length = M.length ∧ VisAt M0 B n x d (popS s (s.stk.take (L - j)) (s.stk.drop (L - j))) (some sk) M')
    (fun j => e.length - j) 0 ⟨Nat.zero_le _, f0, f1, rfl, ?_⟩ ?_
  · have : popS s (s.stk.take (L - 0)) (s.stk.drop (L - 0)) = s := by
      rw [Nat.sub_zero, hL, List.take_length, List.drop_length]
      show TS.mk _ _ _ _ _ _ _ = _
      simp
    rw [this]; exact h
  clear h f0 f1 F
  rintro j F M1 ⟨hj, f0, f1, hml, h⟩
  have hq0 : L - j - 1 < s.stk.length := by omega
  obtain ⟨q, hq⟩ : ∃ q, s.stk[L - j - 1]? = some q := ⟨_, List.getElem?_eq_getElem hq0⟩
  obtain ⟨hd1, ht1⟩ := popS_next (j := j) (by omega) hL hq
  have hqn : q < n := hlt q (List.mem_of_getElem? hq)
  have hq1 : q + 1 ≤ n := hqn
  have hqn' : (q : Int) < (n : Int) := by omega
  have hv := h.v
  have hon := h.on
  have hgr := h.gr
  have hvl := lt_of_at hv
  have hgl := lt_of_at hgr
  have hol := lt_of_at hon
  obtain ⟨hkk, cs, hcs, hct⟩ := h.sS sk rfl
  have hslen : (popS s (s.stk.take (L - j)) (s.stk.drop (L - j))).stk.length = L - j := by
    show (s.stk.take (L - j)).length = _
    rw [List.length_take]; omega
  rw [hslen] at hv hct
  have hct : cs.take (L - j) = (s.stk.take (L - j)).map fun j : Nat => V.int (j : Int) := hct
  have hcq : cs[L - j - 1]? = some (V.int (q : Int)) := by
    have := congrArg (fun l : List V => l[L - j - 1]?) hct
    simp only [List.getElem?_map, List.getElem?_take, show L - j - 1 < L - j by omega, if_true, hq, Option.map_some] at this
    exact this
  have hcl : L - j ≤ cs.length := by
    have := congrArg List.length hct
    simp at this; omega
  have hw : IntKind.i64.wrap (((L - j : Nat) : Int) - 1) = ((L - j - 1 : Nat) : Int) := by rw [wrapI _ (by omega) (by omega)]; omega
  have hlt1 : ((L - j - 1 : Nat) : Int) < ((L - j : Nat) : Int) := by omega
  have hle1 : ((L - j - 1 : Nat) : Int) ≤ ((L - j : Nat) : Int) := by omega
  simp only [wordsV] at hv
  have hid := h.ids
  (repeat (first | refine W_seq ?_ | refine W_block ?_ | refine W_blk ?_ | refine W_skip ?_))
  (refine W_read [] mixed_ (by rfl) (by decide +kernel) (by decide +kernel) fun K2 hK2 => ?_; simp only [go_sem, List.size_toArray, List.range_succ, List.range_zero, QK, Nat.reduceEqDiff, Nat.reduceLT, Nat.reduceAdd, Nat.reduceLeDiff, Nat.reduceMul, Nat.reduceSub, Int.reduceLE, Int.reduceLT, Int.reduceToNat, Int.reducePow, Int.reduceEq, f0, hv, hw, hlt1, Int.natCast_nonneg, Int.toNat_natCast, hcs, hcq, List.head?_drop, Nat.zero_add]; refine hK2 _ ?_; clear hK2)
  (repeat (first | refine W_seq ?_ | refine W_block ?_ | refine W_blk ?_ | refine W_skip ?_))
  have hvS : M1[d.v]? = some (.cells [x, .arr d.lo 0 n 1, .arr d.nu 0 n 1, .arr d.on 0 n 1, .arr sk 0 (L - j) 1, V.int s.next, .arr d.gr 0 n 1, V.int s.groups]) := hv
  (refine W_draw [] (fun X => X[d.v]? = some (.cells [x, .arr d.lo 0 n 1, .arr d.nu 0 n 1, .arr d.on 0 n 1, .arr sk 0 (L - j) 1, V.int s.next, .arr d.gr 0 n 1, V.int s.groups])) mixed_ (by rfl) ?_ fun K hK => ?_)
  · exact hvS
  (refine DR_quiet [0, 1, 2, 3, 4, 5, 6, 7, 8, 9, 10, 11, 12, 13, 14, 15, 16, 17, 18] (by decide +kernel) (fun M_ hS_ => ?_) (fun K2 hK2 => ?_); (focus (simp only [go_sem, Nat.reduceEqDiff, Nat.reduceLT, Nat.reduceAdd, Nat.reduceLeDiff, Nat.reduceMul, Nat.reduceSub, Int.reduceLE, Int.reduceLT, Int.reduceToNat, Int.reducePow, Int.reduceEq, hS_, f0, hvS, hw, hlt1, hle1, or_true, Nat.zero_mul, Int.le_refl, Int.natCast_nonneg, Int.toNat_natCast, Nat.zero_add, Nat.sub_zero])); simp only [go_sem, Nat.reduceEqDiff, Nat.reduceLT, Nat.reduceAdd, Nat.reduceLeDiff, Nat.reduceMul, Nat.reduceSub, Int.reduceLE, Int.reduceLT, Int.reduceToNat, Int.reducePow, Int.reduceEq, f0, hvS, hw, hlt1, hle1, or_true, Nat.zero_mul, Int.le_refl, Int.natCast_nonneg, Int.toNat_natCast, Nat.zero_add, Nat.sub_zero]; refine hK2 _ ?_; clear hK2)
  (refine DR_break 19 (by decide +kernel) (by decide +kernel) (by simp only [go_sem, Nat.reduceEqDiff, Nat.reduceLT, Nat.reduceAdd, Nat.reduceLeDiff, Nat.reduceMul, Nat.reduceSub, Int.reduceLE, Int.reduceLT, Int.reduceToNat, Int.reducePow, Int.reduceEq, hvS]) ?_; simp only [go_sem, Nat.reduceEqDiff, Nat.reduceLT, Nat.reduceAdd, Nat.reduceLeDiff, Nat.reduceMul, Nat.reduceSub, Int.reduceLE, Int.reduceLT, Int.reduceToNat, Int.reducePow, Int.reduceEq, hvS])
  (refine DRN_still 20 (by decide +kernel) (by decide +kernel) (by simp only [go_sem, Nat.reduceEqDiff, Nat.reduceLT, Nat.reduceAdd, Nat.reduceLeDiff, Nat.reduceMul, Nat.reduceSub, Int.reduceLE, Int.reduceLT, Int.reduceToNat, Int.reducePow, Int.reduceEq, hqn', Nat.zero_add, Int.natCast_nonneg, Int.toNat_natCast]) ?_; simp only [go_sem, Nat.reduceEqDiff, Nat.reduceLT, Nat.reduceAdd, Nat.reduceLeDiff, Nat.reduceMul, Nat.reduceSub, Int.reduceLE, Int.reduceLT, Int.reduceToNat, Int.reducePow, Int.reduceEq, hqn', Nat.zero_add, Int.natCast_nonneg, Int.toNat_natCast])
  have hqo : ∀ c, (M1.set d.v c)[d.on]? = M1[d.on]? := fun c => List.getElem?_set_ne hid.a3
  have o3 := overB (popS s (s.stk.take (L - j)) (s.stk.drop (L - j))).on hqn false
  (refine DRN_sole 21 (by decide +kernel) (by decide +kernel) (by simp only [go_sem, Nat.reduceEqDiff, Nat.reduceLT, Nat.reduceAdd, Nat.reduceLeDiff, Nat.reduceMul, Nat.reduceSub, Int.reduceLE, Int.reduceLT, Int.reduceToNat, Int.reducePow, Int.reduceEq, hqo, hon, cellsB_len, hq1, o3]) ?_; simp only [go_sem, Nat.reduceEqDiff, Nat.reduceLT, Nat.reduceAdd, Nat.reduceLeDiff, Nat.reduceMul, Nat.reduceSub, Int.reduceLE, Int.reduceLT, Int.reduceToNat, Int.reducePow, Int.reduceEq, hqo, hon, cellsB_len, hq1, o3])
  (refine DRN_end (by decide +kernel) (hK _ _ ?_); clear hK)
  have h2 := (h.setStk (M1.set d.v (.cells [x, .arr d.lo 0 n 1, .arr d.nu 0 n 1, .arr d.on 0 n 1, .arr sk 0 (L - j - 1) 1, V.int s.next, .arr d.gr 0 n 1, V.int s.groups])) (some sk) (s.stk.take (L - (j + 1))) (by
      rw [List.getElem?_set_self hvl]
      have : (s.stk.take (L - (j + 1))).length = L - j - 1 := by rw [List.length_take]; omega
      rw [this]; rfl) (fun jj a1 _ _ => List.getElem?_set_ne (Ne.symm a1)) (by omega) (fun e => by cases e) (fun k e => by
      obtain rfl : sk = k := by injection e
      refine ⟨hkk, cs, by rw [List.getElem?_set_ne (Ne.symm hkk.1)]; exact hcs, ?_⟩
      have a1 : (s.stk.take (L - (j + 1))).length = L - (j + 1) := by rw [List.length_take]; omega
      have := congrArg (fun l : List V => l.take (L - (j + 1))) hct
      simp only [List.take_take, ← List.map_take] at this
      rw [Nat.min_eq_left (by omega)] at this
      rw [a1]; exact this)).setOn (upd (popS s (s.stk.take (L - j)) (s.stk.drop (L - j))).on q false)
  generalize hM2 : (M1.set d.v (.cells [x, .arr d.lo 0 n 1, .arr d.nu 0 n 1, .arr d.on 0 n 1, .arr sk 0 (L - j - 1) 1, V.int s.next, .arr d.gr 0 n 1, V.int s.groups])).set d.on (.cells (cellsB n (upd (popS s (s.stk.take (L - j)) (s.stk.drop (L - j))).on q false))) = M2 at h2 ⊢
  have hml2 : M2.length = M.length := by rw [← hM2]; simp [hml]
  have hv2 : M2[d.v]? = some (.cells [x, .arr d.lo 0 n 1, .arr d.nu 0 n 1, .arr d.on 0 n 1, wordsV (some sk) (s.stk.take (L - (j + 1))).length, V.int s.next, .arr d.gr 0 n 1, V.int s.groups]) := h2.v
  have hgr2 : M2[d.gr]? = some (.cells (cellsN n (popS s (s.stk.take (L - j)) (s.stk.drop (L - j))).grp)) := h2.gr
  have o4 := overN (popS s (s.stk.take (L - j)) (s.stk.drop (L - j))).grp hqn s.groups
  (repeat (first | refine W_seq ?_ | refine W_block ?_ | refine W_blk ?_ | refine W_skip ?_))
  (refine W_draw [] (fun X => X[d.v]? = some (.cells [x, .arr d.lo 0 n 1, .arr d.nu 0 n 1, .arr d.on 0 n 1, wordsV (some sk) (s.stk.take (L - (j + 1))).length, V.int s.next, .arr d.gr 0 n 1, V.int s.groups])) mixed_ (by rfl) ?_ fun K hK => ?_)
  · exact hv2
  (refine DR_quiet [0, 1, 2, 3, 4, 5, 6, 7, 8, 9] (by decide +kernel) (fun M_ hS_ => ?_) (fun K2 hK2 => ?_); (focus (simp only [go_sem, Nat.reduceEqDiff, Nat.reduceLT, Nat.reduceAdd, Nat.reduceLeDiff, Nat.reduceMul, Nat.reduceSub, Int.reduceLE, Int.reduceLT, Int.reduceToNat, Int.reducePow, Int.reduceEq, hS_, f0, hv2, hqn', Nat.zero_add, Int.natCast_nonneg, Int.toNat_natCast])); simp only [go_sem, Nat.reduceEqDiff, Nat.reduceLT, Nat.reduceAdd, Nat.reduceLeDiff, Nat.reduceMul, Nat.reduceSub, Int.reduceLE, Int.reduceLT, Int.reduceToNat, Int.reducePow, Int.reduceEq, f0, hv2, hqn', Nat.zero_add, Int.natCast_nonneg, Int.toNat_natCast]; refine hK2 _ ?_; clear hK2)
  (refine DR_last' 10 (by decide +kernel) (by decide +kernel) (by decide +kernel) (by simp only [go_sem, Nat.reduceEqDiff, Nat.reduceLT, Nat.reduceAdd, Nat.reduceLeDiff, Nat.reduceMul, Nat.reduceSub, Int.reduceLE, Int.reduceLT, Int.reduceToNat, Int.reducePow, Int.reduceEq, hgr2, cellsN_len, hq1, o4]) ?_; simp only [go_sem, Nat.reduceEqDiff, Nat.reduceLT, Nat.reduceAdd, Nat.reduceLeDiff, Nat.reduceMul, Nat.reduceSub, Int.reduceLE, Int.reduceLT, Int.reduceToNat, Int.reducePow, Int.reduceEq, hgr2, cellsN_len, hq1, o4]; refine hK _ _ ?_; clear hK)
  have h3 := h2.setGr (upd (popS s (s.stk.take (L - j)) (s.stk.drop (L - j))).grp q s.groups)
  rw [popS_pop, ← hd1] at h3
  have hml3 : (M2.set d.gr (.cells (cellsN n (upd (popS s (s.stk.take (L - j)) (s.stk.drop (L - j))).grp q s.groups)))).length = M.length := by simp [hml2]
  generalize hM3 : M2.set d.gr (.cells (cellsN n (upd (popS s (s.stk.take (L - j)) (s.stk.drop (L - j))).grp q s.groups))) = M3 at h3 hml3 ⊢
  by_cases hqi : q = i
  · have hz : ((q : Int) = (i : Int)) = True := eq_true (by omega)
    (repeat (first | refine W_seq ?_ | refine W_block ?_ | refine W_blk ?_ | refine W_skip ?_))
    (refine W_region [] (by rfl) fun K hK => ?_; simp only [go_sem, Nat.reduceEqDiff, Nat.reduceLT, Nat.reduceAdd, Nat.reduceLeDiff, Nat.reduceMul, Nat.reduceSub, Int.reduceLE, Int.reduceLT, Int.reduceToNat, Int.reducePow, Int.reduceEq, f0, f1, hz])
    (refine WRun.done _ _ (hK _ _ ?_); clear hK)
    refine W_cond_true (by simp only [go_sem, Nat.reduceEqDiff, Nat.reduceLT, Nat.reduceAdd, Nat.reduceLeDiff, Nat.reduceMul, Nat.reduceSub, Int.reduceLE, Int.reduceLT, Int.reduceToNat, Int.reducePow, Int.reduceEq]) ?_
    refine W_exit (Qof_blk_other (by decide) (Qof_stop (Qof_blk_same ?_)))
    have hje : L - (j + 1) = S0.length := by
      have h1 : s.stk[S0.length]? = some i := by rw [he]; simp
      have h2 : s.stk[S0.length]? = s.stk[L - (j + 1)]? := by rw [h1, ← hqi]; exact hq.symm
      exact ((List.getElem?_inj (by omega) hnd).1 h2).symm
    refine hk _ _ (by simp only [go_sem, Nat.reduceEqDiff, Nat.reduceLT, Nat.reduceAdd, Nat.reduceLeDiff, Nat.reduceMul, Nat.reduceSub, Int.reduceLE, Int.reduceLT, Int.reduceToNat, Int.reducePow, Int.reduceEq, f0]) ?_ hml3
    rw [hje] at h3
    have e1 : s.stk.take S0.length = S0 := by rw [he]; simp
    have e2 : s.stk.drop S0.length = i :: e := by rw [he]; simp
    rw [e1, e2] at h3
    exact h3
  · have hz : ((q : Int) = (i : Int)) = False := eq_false (by omega)
    (repeat (first | refine W_seq ?_ | refine W_block ?_ | refine W_blk ?_ | refine W_skip ?_))
    (refine W_region [] (by rfl) fun K hK => ?_; simp only [go_sem, Nat.reduceEqDiff, Nat.reduceLT, Nat.reduceAdd, Nat.reduceLeDiff, Nat.reduceMul, Nat.reduceSub, Int.reduceLE, Int.reduceLT, Int.reduceToNat, Int.reducePow, Int.reduceEq, f0, f1, hz])
    (refine WRun.done _ _ (hK _ _ ?_); clear hK)
    refine W_cond_false (by simp only [go_sem, Nat.reduceEqDiff, Nat.reduceLT, Nat.reduceAdd, Nat.reduceLeDiff, Nat.reduceMul, Nat.reduceSub, Int.reduceLE, Int.reduceLT, Int.reduceToNat, Int.reducePow, Int.reduceEq]) ?_
    have hje : j < e.length := by
      apply Classical.byContradiction
      intro hc
      have : L - j - 1 = S0.length := by omega
      rw [this, he] at hq
      simp at hq
      exact hqi hq.symm
    (repeat (first | refine W_seq ?_ | refine W_block ?_ | refine W_blk ?_ | refine W_skip ?_))
    refine W_stop ⟨j + 1, ⟨by omega, ?_, ?_, hml3, h3⟩, by omega⟩
    · simp only [go_sem, Nat.reduceEqDiff, Nat.reduceLT, Nat.reduceAdd, Nat.reduceLeDiff, Nat.reduceMul, Nat.reduceSub, Int.reduceLE, Int.reduceLT, Int.reduceToNat, Int.reducePow, Int.reduceEq, f0]
    · simp only [go_sem, Nat.reduceEqDiff, Nat.reduceLT, Nat.reduceAdd, Nat.reduceLeDiff, Nat.reduceMul, Nat.reduceSub, Int.reduceLE, Int.reduceLT, Int.reduceToNat, Int.reducePow, Int.reduceEq, f1]
end Go.Ax

import Derived.Test.YthbojmoiimknhaaOrS
set_option linter.unusedSimpArgs false
set_option linter.unusedVariables false
namespace Go.Ax
open Go.Proofs Go.Ord

theorem cls_nodup (to : List (List Nat)) (i : Nat) : (cls to i).Nodup := List.Pairwise.filter _ List.nodup_range

/-- What is marked so far. -/
def mkd (dd : Nat → Bool) (l : List Nat) (q : Nat) : Nat → Bool := fun k => dd k || decide (k ∈ l.take q)
theorem mkd_succ {dd : Nat → Bool} {l : List Nat} {q a : Nat} (h : l[q]? = some a) : upd (mkd dd l q) a true = mkd dd l (q + 1) := by
  funext k
  simp only [mkd, List.take_add_one, h, Option.toList_some, List.mem_append, List.mem_singleton, upd]
  by_cases hk : k = a <;> simp [hk]
theorem mkd_count {dd : Nat → Bool} {l : List Nat} {n q a : Nat} (h : l[q]? = some a) (hnd : l.Nodup) (hd : dd a = false) (ha : a < n) : (List.range n).countP (mkd dd l (q + 1)) = (List.range n).countP (mkd dd l q) + 1 := by
  have hnot : a ∉ l.take q := by
    intro hm
    obtain ⟨p, hp⟩ := List.getElem?_of_mem hm
    have hpq : p < q := by
      have := (List.getElem?_eq_some_iff.1 hp).1
      simp at this; omega
    rw [List.getElem?_take_of_lt hpq] at hp
    have := (List.getElem?_inj (List.getElem?_eq_some_iff.1 hp).1 hnd).1 (hp.trans h.symm)
    omega
  rw [← mkd_succ h]
  refine (count_upd (i := a) List.nodup_range (List.mem_range.2 ha) (upd_same _ _ _) ?_ fun k hk => (upd_ne _ _ hk).symm).symm
  simp [mkd, hd, hnot]
theorem mkd_all {to : List (List Nat)} {dd : Nat → Bool} {i k : Nat} (hk : k < to.length) : mkd dd (cls to i) (cls to i).length k = Ord.mark to dd i k := by
  simp only [mkd, List.take_length, Ord.mark]
  by_cases h : Mut to i k <;> simp [h, hk, mem_cls]

theorem ref_mark {Ret : Fr → AMem → Prop} {k0 : List It} {M : AMem} {B n : Nat} {to : List (List Nat)} {ids : List Nat} {R : Nat → Nat → Bool} {dn : Nat} {dd : Nat → Bool} {tgo tg tl : Tag} (h : RefSt M B ids n R dn dd tgo) (hn : n = to.length) (hn40 : n ≤ 40) {i : Nat} (hcl : Cl to dd) (hrd : Rdy to dd i)
    (c : Nat) (hc : c = (List.range n).countP dd) (rs : List V) (F : Fr) (hr : RefR n ids tg dn tgo rs c i F) (f13 : look F 13 = .list tl (nats (cls to i)))
    (hk : ∀ F' M' c', RefR n ids tg dn tgo rs c' i F' → look F' 13 = .list tl (nats (cls to i)) → RefSt M' B ids n R dn (Ord.mark to dd i) tgo → c' = (List.range n).countP (Ord.mark to dd i) → c < c' → M'.length = M.length → (∀ j, j < B → M'[j]? = M[j]?) → W Try.prog 139 Ret k0 F' M') :
    W Try.prog 139 Ret (.code (part [1,1,1,1,1,1,0,1,1,1,1,1,1,1,1,1,0,1,1,1,1,1,0] body31) :: k0) F M := by
  have hnd := cls_nodup to i
  have hl40 : (cls to i).length ≤ 40 := by have := cls_len (to := to) i; omega
  have hc40 : c ≤ 40 := by
    have := List.countP_le_length (p := dd) (l := List.range n)
    simp at this; omega
  have ⟨f4, f7, f8, f9, f10, f11⟩ := hr
  (repeat (first | refine W_seq ?_ | refine W_block ?_ | refine W_blk ?_ | refine W_skip ?_))
  (refine W_region [] (by rfl) fun K hK => ?_; simp only [go_sem, Nat.reduceEqDiff, Nat.reduceLT, Nat.reduceAdd, Nat.reduceLeDiff, Nat.reduceMul, Nat.reduceSub, Int.reduceLE, Int.reduceLT, Int.reduceToNat, Int.reducePow, Int.reduceEq])
  (refine WRun.done _ _ (hK _ _ ?_); clear hK)
  (repeat (first | refine W_seq ?_ | refine W_block ?_ | refine W_blk ?_ | refine W_skip ?_))
  refine W_loop (α := Nat) (fun q F' M' => q ≤ (cls to i).length ∧ RefR n ids tg dn tgo rs (c + q) i F' ∧ look F' 13 = .list tl (nats (cls to i)) ∧ look F' 16 = V.int q ∧ RefSt M' B ids n R dn (mkd dd (cls to i) q) tgo ∧ c + q = (List.range n).countP (mkd dd (cls to i) q) ∧ M'.length = M.length ∧ (∀ j, j < B → M'[j]? = M[j]?))
    (fun q => (cls to i).length - q) 0 ⟨Nat.zero_le _, ⟨?_, ?_, ?_, ?_, ?_, ?_⟩, ?_, ?_, ?_, ?_, rfl, fun _ _ => rfl⟩ ?_
  · simp only [go_sem, Nat.reduceEqDiff, Nat.reduceLT, Nat.reduceAdd, Nat.reduceLeDiff, Nat.reduceMul, Nat.reduceSub, Int.reduceLE, Int.reduceLT, Int.reduceToNat, Int.reducePow, Int.reduceEq, f4]
  · simp only [go_sem, Nat.reduceEqDiff, Nat.reduceLT, Nat.reduceAdd, Nat.reduceLeDiff, Nat.reduceMul, Nat.reduceSub, Int.reduceLE, Int.reduceLT, Int.reduceToNat, Int.reducePow, Int.reduceEq, f7]
  · simp only [go_sem, Nat.reduceEqDiff, Nat.reduceLT, Nat.reduceAdd, Nat.reduceLeDiff, Nat.reduceMul, Nat.reduceSub, Int.reduceLE, Int.reduceLT, Int.reduceToNat, Int.reducePow, Int.reduceEq, f8]
  · simp only [go_sem, Nat.reduceEqDiff, Nat.reduceLT, Nat.reduceAdd, Nat.reduceLeDiff, Nat.reduceMul, Nat.reduceSub, Int.reduceLE, Int.reduceLT, Int.reduceToNat, Int.reducePow, Int.reduceEq, f9]
  · simp only [go_sem, Nat.reduceEqDiff, Nat.reduceLT, Nat.reduceAdd, Nat.reduceLeDiff, Nat.reduceMul, Nat.reduceSub, Int.reduceLE, Int.reduceLT, Int.reduceToNat, Int.reducePow, Int.reduceEq, f10, Nat.add_zero]
  · simp only [go_sem, Nat.reduceEqDiff, Nat.reduceLT, Nat.reduceAdd, Nat.reduceLeDiff, Nat.reduceMul, Nat.reduceSub, Int.reduceLE, Int.reduceLT, Int.reduceToNat, Int.reducePow, Int.reduceEq, f11]
  · simp only [go_sem, Nat.reduceEqDiff, Nat.reduceLT, Nat.reduceAdd, Nat.reduceLeDiff, Nat.reduceMul, Nat.reduceSub, Int.reduceLE, Int.reduceLT, Int.reduceToNat, Int.reducePow, Int.reduceEq, f13]
  · simp only [go_sem, Nat.reduceEqDiff, Nat.reduceLT, Nat.reduceAdd, Nat.reduceLeDiff, Nat.reduceMul, Nat.reduceSub, Int.reduceLE, Int.reduceLT, Int.reduceToNat, Int.reducePow, Int.reduceEq]
  · have : mkd dd (cls to i) 0 = dd := by funext k; simp [mkd]
    rw [this]; exact h
  · have : mkd dd (cls to i) 0 = dd := by funext k; simp [mkd]
    rw [this]; exact hc
  clear f4 f7 f8 f9 f10 f11 f13 hr F
  rintro q F M1 ⟨hq, hr, f13, f16, h1, hcq, hml, hkeep⟩
  have ⟨f4, f7, f8, f9, f10, f11⟩ := hr
  by_cases hlq : q < (cls to i).length
  · have hlq' : (q : Int) < ((cls to i).length : Int) := by omega
    have hwq : IntKind.i64.wrap ((q : Int) + 1) = ((q + 1 : Nat) : Int) := by rw [wrapI _ (by omega) (by omega)]; omega
    have hwc : IntKind.i64.wrap (((c + q : Nat) : Int) + 1) = ((c + (q + 1) : Nat) : Int) := by rw [wrapI _ (by omega) (by omega)]; omega
    obtain ⟨a, ha⟩ : ∃ a, (cls to i)[q]? = some a := ⟨_, List.getElem?_eq_getElem hlq⟩
    have ham := mem_cls.1 (List.mem_of_getElem? ha)
    have han : a < n := by omega
    have han' : (a : Int) < (n : Int) := by omega
    have ha1 : a + 1 ≤ n := han
    have hpa := nats_at ha
    have hda : dd a = false := by rw [← hcl.mut ham.2]; exact hrd.2.1
    have hdn := h1.dnc
    have o1 := overB (mkd dd (cls to i) q) han true
    (repeat (first | refine W_seq ?_ | refine W_block ?_ | refine W_blk ?_ | refine W_skip ?_))
    (refine W_region [] (by rfl) fun K hK => ?_; simp only [go_sem, Nat.reduceEqDiff, Nat.reduceLT, Nat.reduceAdd, Nat.reduceLeDiff, Nat.reduceMul, Nat.reduceSub, Int.reduceLE, Int.reduceLT, Int.reduceToNat, Int.reducePow, Int.reduceEq, f13, f16, nats_len, hlq'])
    (refine WRun.done _ _ (hK _ _ ?_); clear hK)
    (repeat (first | refine W_seq ?_ | refine W_block ?_ | refine W_blk ?_ | refine W_skip ?_))
    refine W_cond_true (by simp only [go_sem, Nat.reduceEqDiff, Nat.reduceLT, Nat.reduceAdd, Nat.reduceLeDiff, Nat.reduceMul, Nat.reduceSub, Int.reduceLE, Int.reduceLT, Int.reduceToNat, Int.reducePow, Int.reduceEq]) ?_
    (repeat (first | refine W_seq ?_ | refine W_block ?_ | refine W_blk ?_ | refine W_skip ?_))
    (refine W_region [] (by rfl) fun K hK => ?_; simp only [go_sem, Nat.reduceEqDiff, Nat.reduceLT, Nat.reduceAdd, Nat.reduceLeDiff, Nat.reduceMul, Nat.reduceSub, Int.reduceLE, Int.reduceLT, Int.reduceToNat, Int.reducePow, Int.reduceEq, f8, f13, f16, hpa, nats_len, hlq', han', ha1, hdn, o1, cellsB_len, Int.natCast_nonneg, Int.toNat_natCast, List.head?_drop, Nat.zero_add])
    (refine WRun.done _ _ (hK _ _ ?_); clear hK)
    (repeat (first | refine W_seq ?_ | refine W_block ?_ | refine W_blk ?_ | refine W_skip ?_))
    (refine W_region [] (by rfl) fun K hK => ?_; simp only [go_sem, Nat.reduceEqDiff, Nat.reduceLT, Nat.reduceAdd, Nat.reduceLeDiff, Nat.reduceMul, Nat.reduceSub, Int.reduceLE, Int.reduceLT, Int.reduceToNat, Int.reducePow, Int.reduceEq, f10, hwc])
    (refine WRun.done _ _ (hK _ _ ?_); clear hK)
    (repeat (first | refine W_seq ?_ | refine W_block ?_ | refine W_blk ?_ | refine W_skip ?_))
    (refine W_region [] (by rfl) fun K hK => ?_; simp only [go_sem, Nat.reduceEqDiff, Nat.reduceLT, Nat.reduceAdd, Nat.reduceLeDiff, Nat.reduceMul, Nat.reduceSub, Int.reduceLE, Int.reduceLT, Int.reduceToNat, Int.reducePow, Int.reduceEq, f16, hwq])
    (refine WRun.done _ _ (hK _ _ ?_); clear hK)
    refine W_stop ⟨q + 1, ⟨hlq, ⟨?_, ?_, ?_, ?_, ?_, ?_⟩, ?_, ?_, ?_, ?_, by simp [hml], fun j hj => ?_⟩, by omega⟩
    · simp only [go_sem, Nat.reduceEqDiff, Nat.reduceLT, Nat.reduceAdd, Nat.reduceLeDiff, Nat.reduceMul, Nat.reduceSub, Int.reduceLE, Int.reduceLT, Int.reduceToNat, Int.reducePow, Int.reduceEq, f4]
    · simp only [go_sem, Nat.reduceEqDiff, Nat.reduceLT, Nat.reduceAdd, Nat.reduceLeDiff, Nat.reduceMul, Nat.reduceSub, Int.reduceLE, Int.reduceLT, Int.reduceToNat, Int.reducePow, Int.reduceEq, f7]
    · simp only [go_sem, Nat.reduceEqDiff, Nat.reduceLT, Nat.reduceAdd, Nat.reduceLeDiff, Nat.reduceMul, Nat.reduceSub, Int.reduceLE, Int.reduceLT, Int.reduceToNat, Int.reducePow, Int.reduceEq, f8]
    · simp only [go_sem, Nat.reduceEqDiff, Nat.reduceLT, Nat.reduceAdd, Nat.reduceLeDiff, Nat.reduceMul, Nat.reduceSub, Int.reduceLE, Int.reduceLT, Int.reduceToNat, Int.reducePow, Int.reduceEq, f9]
    · simp only [go_sem, Nat.reduceEqDiff, Nat.reduceLT, Nat.reduceAdd, Nat.reduceLeDiff, Nat.reduceMul, Nat.reduceSub, Int.reduceLE, Int.reduceLT, Int.reduceToNat, Int.reducePow, Int.reduceEq]
    · simp only [go_sem, Nat.reduceEqDiff, Nat.reduceLT, Nat.reduceAdd, Nat.reduceLeDiff, Nat.reduceMul, Nat.reduceSub, Int.reduceLE, Int.reduceLT, Int.reduceToNat, Int.reducePow, Int.reduceEq, f11]
    · simp only [go_sem, Nat.reduceEqDiff, Nat.reduceLT, Nat.reduceAdd, Nat.reduceLeDiff, Nat.reduceMul, Nat.reduceSub, Int.reduceLE, Int.reduceLT, Int.reduceToNat, Int.reducePow, Int.reduceEq, f13]
    · simp only [go_sem, Nat.reduceEqDiff, Nat.reduceLT, Nat.reduceAdd, Nat.reduceLeDiff, Nat.reduceMul, Nat.reduceSub, Int.reduceLE, Int.reduceLT, Int.reduceToNat, Int.reducePow, Int.reduceEq]
    · rw [mkd_succ ha]; exact h1.setD _
    · rw [mkd_count ha hnd hda han]; omega
    · have := h1.dB
      rw [List.getElem?_set_ne (by omega)]; exact hkeep j hj
  · have hlq' : ¬ (q : Int) < ((cls to i).length : Int) := by omega
    have hql : q = (cls to i).length := by omega
    have heq : ∀ k, k < n → mkd dd (cls to i) q k = Ord.mark to dd i k := fun k hk => by rw [hql]; exact mkd_all (by omega)
    (repeat (first | refine W_seq ?_ | refine W_block ?_ | refine W_blk ?_ | refine W_skip ?_))
    (refine W_region [] (by rfl) fun K hK => ?_; simp only [go_sem, Nat.reduceEqDiff, Nat.reduceLT, Nat.reduceAdd, Nat.reduceLeDiff, Nat.reduceMul, Nat.reduceSub, Int.reduceLE, Int.reduceLT, Int.reduceToNat, Int.reducePow, Int.reduceEq, f13, f16, nats_len, hlq'])
    (refine WRun.done _ _ (hK _ _ ?_); clear hK)
    (repeat (first | refine W_seq ?_ | refine W_block ?_ | refine W_blk ?_ | refine W_skip ?_))
    refine W_cond_false (by simp only [go_sem, Nat.reduceEqDiff, Nat.reduceLT, Nat.reduceAdd, Nat.reduceLeDiff, Nat.reduceMul, Nat.reduceSub, Int.reduceLE, Int.reduceLT, Int.reduceToNat, Int.reducePow, Int.reduceEq]) ?_
    refine W_exit (Qof_code (Qof_stop (Qof_blk_same ?_)))
    have hcc : (List.range n).countP (mkd dd (cls to i) q) = (List.range n).countP (Ord.mark to dd i) := List.countP_congr fun k hk => by rw [heq k (List.mem_range.1 hk)]
    have hpos : 0 < (cls to i).length := by
      obtain ⟨a, r, h5, _⟩ := least_cls hrd.1
      rw [h5]; simp
    refine hk _ M1 (c + q) ⟨?_, ?_, ?_, ?_, ?_, ?_⟩ ?_ ⟨h1.rb, h1.il, by rw [← cellsB_congr heq]; exact h1.dnc, h1.dB, h1.nd, h1.tail⟩ (by omega) (by omega) hml hkeep
    · simp only [go_sem, Nat.reduceEqDiff, Nat.reduceLT, Nat.reduceAdd, Nat.reduceLeDiff, Nat.reduceMul, Nat.reduceSub, Int.reduceLE, Int.reduceLT, Int.reduceToNat, Int.reducePow, Int.reduceEq, f4]
    · simp only [go_sem, Nat.reduceEqDiff, Nat.reduceLT, Nat.reduceAdd, Nat.reduceLeDiff, Nat.reduceMul, Nat.reduceSub, Int.reduceLE, Int.reduceLT, Int.reduceToNat, Int.reducePow, Int.reduceEq, f7]
    · simp only [go_sem, Nat.reduceEqDiff, Nat.reduceLT, Nat.reduceAdd, Nat.reduceLeDiff, Nat.reduceMul, Nat.reduceSub, Int.reduceLE, Int.reduceLT, Int.reduceToNat, Int.reducePow, Int.reduceEq, f8]
    · simp only [go_sem, Nat.reduceEqDiff, Nat.reduceLT, Nat.reduceAdd, Nat.reduceLeDiff, Nat.reduceMul, Nat.reduceSub, Int.reduceLE, Int.reduceLT, Int.reduceToNat, Int.reducePow, Int.reduceEq, f9]
    · simp only [go_sem, Nat.reduceEqDiff, Nat.reduceLT, Nat.reduceAdd, Nat.reduceLeDiff, Nat.reduceMul, Nat.reduceSub, Int.reduceLE, Int.reduceLT, Int.reduceToNat, Int.reducePow, Int.reduceEq, f10]
    · simp only [go_sem, Nat.reduceEqDiff, Nat.reduceLT, Nat.reduceAdd, Nat.reduceLeDiff, Nat.reduceMul, Nat.reduceSub, Int.reduceLE, Int.reduceLT, Int.reduceToNat, Int.reducePow, Int.reduceEq, f11]
    · simp only [go_sem, Nat.reduceEqDiff, Nat.reduceLT, Nat.reduceAdd, Nat.reduceLeDiff, Nat.reduceMul, Nat.reduceSub, Int.reduceLE, Int.reduceLT, Int.reduceToNat, Int.reducePow, Int.reduceEq, f13]

/-- The reference's groups. -/
theorem ref_groups_ok {M : AMem} {to : List (List Int)} (hn40 : to.length ≤ 40) (hrl : ∀ l ∈ to, l.length ≤ 9223372036854775807) :
    ACalls Try.prog 31 [.list .dull (rowsV to)] M (fun r M' => GroupsSaid to r ∧ M.length ≤ M'.length ∧ ∀ j, j < M.length → M'[j]? = M[j]?) := by
  refine acalls_enter [.tmp 2, .tmp 3] 139 Try.func31 rfl rfl rfl (by simp) ?_
  refine ref_check (by omega) hrl _ (by simp only [go_sem, Nat.reduceEqDiff, Nat.reduceLT, Nat.reduceAdd, Nat.reduceLeDiff, Nat.reduceMul, Nat.reduceSub, Int.reduceLE, Int.reduceLT, Int.reduceToNat, Int.reducePow, Int.reduceEq]) ?_ ?_
  · intro F' e2 e3 hno
    simp only [go_sem, Nat.reduceEqDiff, Nat.reduceLT, Nat.reduceAdd, Nat.reduceLeDiff, Nat.reduceMul, Nat.reduceSub, Int.reduceLE, Int.reduceLT, Int.reduceToNat, Int.reducePow, Int.reduceEq, e2, e3]
    exact ⟨by simp [GroupsSaid, hno], Nat.le_refl _⟩
  intro F f0 f4 hok
  obtain ⟨n, hnn⟩ : ∃ n, n = to.length := ⟨_, rfl⟩
  have hgood := toN_good hok
  have hnt : n = (toN to).length := by rw [toN_len]; exact hnn
  have hn30 : (n : Int) ≤ 1073741824 := by omega
  (repeat (first | refine W_seq ?_ | refine W_block ?_ | refine W_blk ?_ | refine W_skip ?_))
  (refine W_region [] (by rfl) fun K hK => ?_; simp only [go_sem, Nat.reduceEqDiff, Nat.reduceLT, Nat.reduceAdd, Nat.reduceLeDiff, Nat.reduceMul, Nat.reduceSub, Int.reduceLE, Int.reduceLT, Int.reduceToNat, Int.reducePow, Int.reduceEq, f0])
  refine WRun.call _ _ _ _ _ _ _ (reach_ok hok hn40 hrl) ?_
  rintro r M1 ⟨ids, tg, R, rfl, hil, hrb, hR, hml, hkeep⟩
  simp only [go_sem, Nat.reduceEqDiff, Nat.reduceLT, Nat.reduceAdd, Nat.reduceLeDiff, Nat.reduceMul, Nat.reduceSub, Int.reduceLE, Int.reduceLT, Int.reduceToNat, Int.reducePow, Int.reduceEq]
  (refine WRun.done _ _ (hK _ _ ?_); clear hK)
  rw [← hnn] at f4 hil hrb hR hn40 ⊢
  (repeat (first | refine W_seq ?_ | refine W_block ?_ | refine W_blk ?_ | refine W_skip ?_))
  (refine W_region [] (by rfl) fun K hK => ?_; simp only [go_sem, Nat.reduceEqDiff, Nat.reduceLT, Nat.reduceAdd, Nat.reduceLeDiff, Nat.reduceMul, Nat.reduceSub, Int.reduceLE, Int.reduceLT, Int.reduceToNat, Int.reducePow, Int.reduceEq, f4, hn30, Int.natCast_nonneg, Int.toNat_natCast, Int.le_refl])
  (refine WRun.done _ _ (hK _ _ ?_); clear hK)
  (repeat (first | refine W_seq ?_ | refine W_block ?_ | refine W_blk ?_ | refine W_skip ?_))
  (refine W_region [] (by rfl) fun K hK => ?_; simp only [go_sem, Nat.reduceEqDiff, Nat.reduceLT, Nat.reduceAdd, Nat.reduceLeDiff, Nat.reduceMul, Nat.reduceSub, Int.reduceLE, Int.reduceLT, Int.reduceToNat, Int.reducePow, Int.reduceEq])
  (refine WRun.done _ _ (hK _ _ ?_); clear hK)
  (repeat (first | refine W_seq ?_ | refine W_block ?_ | refine W_blk ?_ | refine W_skip ?_))
  (refine W_region [] (by rfl) fun K hK => ?_; simp only [go_sem, Nat.reduceEqDiff, Nat.reduceLT, Nat.reduceAdd, Nat.reduceLeDiff, Nat.reduceMul, Nat.reduceSub, Int.reduceLE, Int.reduceLT, Int.reduceToNat, Int.reducePow, Int.reduceEq])
  (refine WRun.done _ _ (hK _ _ ?_); clear hK)
  (repeat (first | refine W_seq ?_ | refine W_block ?_ | refine W_blk ?_ | refine W_skip ?_))
  have hst0 : RefSt (M1 ++ [.cells (List.replicate n (V.bool false))]) M.length ids n R M1.length (fun _ => false) .full := by
    have hrb2 : RB (M1 ++ [.cells (List.replicate n (V.bool false))]) M.length ids n R := hrb.grow fun j hj => List.getElem?_append_left hj
    refine ⟨hrb2, hil, ?_, hml, fun hm => ?_, .inl rfl⟩
    · rw [List.getElem?_append_right (Nat.le_refl _), Nat.sub_self, replicate_map]; rfl
    · obtain ⟨p, hp⟩ := List.getElem?_of_mem hm
      have := lt_of_at (hrb.rows p _ hp); omega
  refine W_loop (α := (Nat → Bool) × Tag × List V × List (List Nat)) (fun q F' M' => look F' 4 = V.int n ∧ look F' 7 = .list tg (ids.map fun j => V.arr j 0 n 1) ∧ look F' 8 = .arr M1.length 0 n 1 ∧ look F' 9 = .list q.2.1 q.2.2.1 ∧ look F' 10 = V.int ((List.range n).countP q.1 : Nat) ∧
      RefSt M' M.length ids n R M1.length q.1 q.2.1 ∧ RowsR q.2.2.1 q.2.2.2 ∧ Cl (toN to) q.1 ∧ Pre (toN to) q.1 q.2.2.2 ∧ q.2.2.2.length ≤ (List.range n).countP q.1 ∧ M.length ≤ M'.length ∧ (∀ j, j < M.length → M'[j]? = M[j]?))
    (fun q => n - (List.range n).countP q.1) (fun _ => false, .full, [], []) ⟨?_, ?_, ?_, ?_, ?_, hst0, RowsR.nil, ?_, Pre.start, Nat.zero_le _, by simp; omega, fun j hj => ?_⟩ ?_
  · simp only [go_sem, Nat.reduceEqDiff, Nat.reduceLT, Nat.reduceAdd, Nat.reduceLeDiff, Nat.reduceMul, Nat.reduceSub, Int.reduceLE, Int.reduceLT, Int.reduceToNat, Int.reducePow, Int.reduceEq, f4]
  · simp only [go_sem, Nat.reduceEqDiff, Nat.reduceLT, Nat.reduceAdd, Nat.reduceLeDiff, Nat.reduceMul, Nat.reduceSub, Int.reduceLE, Int.reduceLT, Int.reduceToNat, Int.reducePow, Int.reduceEq]
  · simp only [go_sem, Nat.reduceEqDiff, Nat.reduceLT, Nat.reduceAdd, Nat.reduceLeDiff, Nat.reduceMul, Nat.reduceSub, Int.reduceLE, Int.reduceLT, Int.reduceToNat, Int.reducePow, Int.reduceEq]
  · simp only [go_sem, Nat.reduceEqDiff, Nat.reduceLT, Nat.reduceAdd, Nat.reduceLeDiff, Nat.reduceMul, Nat.reduceSub, Int.reduceLE, Int.reduceLT, Int.reduceToNat, Int.reducePow, Int.reduceEq]
  · simp only [go_sem, Nat.reduceEqDiff, Nat.reduceLT, Nat.reduceAdd, Nat.reduceLeDiff, Nat.reduceMul, Nat.reduceSub, Int.reduceLE, Int.reduceLT, Int.reduceToNat, Int.reducePow, Int.reduceEq]
    simp
  · intro x hx; cases hx
  · rw [List.getElem?_append_left (by omega)]; exact hkeep j hj
  clear f0 f4 F hst0 hrb hml hkeep
  rintro ⟨dd, tgo, rs, l⟩ F M2 ⟨f4, f7, f8, f9, f10, hst, hrr, hcl, hpre, hlc, hml, hkeep⟩
  simp only at f9 f10 hst hrr hcl hpre hlc
  obtain ⟨c, hc⟩ : ∃ c, c = (List.range n).countP dd := ⟨_, rfl⟩
  rw [← hc] at f10 hlc
  have hcn : c ≤ n := by
    have := List.countP_le_length (p := dd) (l := List.range n)
    simp at this; omega
  by_cases hlt : c < n
  · have hlt' : (c : Int) < (n : Int) := by omega
    (repeat (first | refine W_seq ?_ | refine W_block ?_ | refine W_blk ?_ | refine W_skip ?_))
    (refine W_region [] (by rfl) fun K hK => ?_; simp only [go_sem, Nat.reduceEqDiff, Nat.reduceLT, Nat.reduceAdd, Nat.reduceLeDiff, Nat.reduceMul, Nat.reduceSub, Int.reduceLE, Int.reduceLT, Int.reduceToNat, Int.reducePow, Int.reduceEq, f4, f10, hlt'])
    (refine WRun.done _ _ (hK _ _ ?_); clear hK)
    (repeat (first | refine W_seq ?_ | refine W_block ?_ | refine W_blk ?_ | refine W_skip ?_))
    refine W_cond_true (by simp only [go_sem, Nat.reduceEqDiff, Nat.reduceLT, Nat.reduceAdd, Nat.reduceLeDiff, Nat.reduceMul, Nat.reduceSub, Int.reduceLE, Int.reduceLT, Int.reduceToNat, Int.reducePow, Int.reduceEq]) ?_
    (repeat (first | refine W_seq ?_ | refine W_block ?_ | refine W_blk ?_ | refine W_skip ?_))
    (refine W_region [] (by rfl) fun K hK => ?_; simp only [go_sem, Nat.reduceEqDiff, Nat.reduceLT, Nat.reduceAdd, Nat.reduceLeDiff, Nat.reduceMul, Nat.reduceSub, Int.reduceLE, Int.reduceLT, Int.reduceToNat, Int.reducePow, Int.reduceEq])
    (refine WRun.done _ _ (hK _ _ ?_); clear hK)
    (repeat (first | refine W_seq ?_ | refine W_block ?_ | refine W_blk ?_ | refine W_skip ?_))
    refine W_loop (α := Nat) (fun i F' M' => i ≤ n ∧ RefR n ids tg M1.length tgo rs c i F' ∧ RefSt M' M.length ids n R M1.length dd tgo ∧ (∀ j, j < i → ¬ Rdy (toN to) dd j) ∧ M.length ≤ M'.length ∧ (∀ j, j < M.length → M'[j]? = M[j]?))
      (fun i => n - i) 0 ⟨Nat.zero_le _, ⟨?_, ?_, ?_, ?_, ?_, ?_⟩, hst, fun j hj => absurd hj (Nat.not_lt_zero _), hml, hkeep⟩ ?_
    · simp only [go_sem, Nat.reduceEqDiff, Nat.reduceLT, Nat.reduceAdd, Nat.reduceLeDiff, Nat.reduceMul, Nat.reduceSub, Int.reduceLE, Int.reduceLT, Int.reduceToNat, Int.reducePow, Int.reduceEq, f4]
    · simp only [go_sem, Nat.reduceEqDiff, Nat.reduceLT, Nat.reduceAdd, Nat.reduceLeDiff, Nat.reduceMul, Nat.reduceSub, Int.reduceLE, Int.reduceLT, Int.reduceToNat, Int.reducePow, Int.reduceEq, f7]
    · simp only [go_sem, Nat.reduceEqDiff, Nat.reduceLT, Nat.reduceAdd, Nat.reduceLeDiff, Nat.reduceMul, Nat.reduceSub, Int.reduceLE, Int.reduceLT, Int.reduceToNat, Int.reducePow, Int.reduceEq, f8]
    · simp only [go_sem, Nat.reduceEqDiff, Nat.reduceLT, Nat.reduceAdd, Nat.reduceLeDiff, Nat.reduceMul, Nat.reduceSub, Int.reduceLE, Int.reduceLT, Int.reduceToNat, Int.reducePow, Int.reduceEq, f9]
    · simp only [go_sem, Nat.reduceEqDiff, Nat.reduceLT, Nat.reduceAdd, Nat.reduceLeDiff, Nat.reduceMul, Nat.reduceSub, Int.reduceLE, Int.reduceLT, Int.reduceToNat, Int.reducePow, Int.reduceEq, f10]
    · simp only [go_sem, Nat.reduceEqDiff, Nat.reduceLT, Nat.reduceAdd, Nat.reduceLeDiff, Nat.reduceMul, Nat.reduceSub, Int.reduceLE, Int.reduceLT, Int.reduceToNat, Int.reducePow, Int.reduceEq]
    clear f4 f7 f8 f9 f10 F hst hml hkeep
    rintro i F M3 ⟨hi, hr, hst, hnot, hml, hkeep⟩
    have ⟨f4, f7, f8, f9, f10, f11⟩ := hr
    by_cases hin : i < n
    · have hin' : (i : Int) < (n : Int) := by omega
      have hw1 : IntKind.i64.wrap ((i : Int) + 1) = ((i + 1 : Nat) : Int) := by rw [wrapI _ (by omega) (by omega)]; omega
      (repeat (first | refine W_seq ?_ | refine W_block ?_ | refine W_blk ?_ | refine W_skip ?_))
      (refine W_region [] (by rfl) fun K hK => ?_; simp only [go_sem, Nat.reduceEqDiff, Nat.reduceLT, Nat.reduceAdd, Nat.reduceLeDiff, Nat.reduceMul, Nat.reduceSub, Int.reduceLE, Int.reduceLT, Int.reduceToNat, Int.reducePow, Int.reduceEq, f4, f11, hin'])
      (refine WRun.done _ _ (hK _ _ ?_); clear hK)
      refine W_cond_true (by simp only [go_sem, Nat.reduceEqDiff, Nat.reduceLT, Nat.reduceAdd, Nat.reduceLeDiff, Nat.reduceMul, Nat.reduceSub, Int.reduceLE, Int.reduceLT, Int.reduceToNat, Int.reducePow, Int.reduceEq]) ?_
      refine W_skip ?_
      refine W_seq ?_
      refine W_block ?_
      refine ref_look hst hnt hn40 hgood hR hin c rs _ (hr.mk' ?_ ?_ ?_ ?_ ?_ ?_) ?_
      · simp only [go_sem, Nat.reduceEqDiff, Nat.reduceLT, Nat.reduceAdd, Nat.reduceLeDiff, Nat.reduceMul, Nat.reduceSub, Int.reduceLE, Int.reduceLT, Int.reduceToNat, Int.reducePow, Int.reduceEq]
      · simp only [go_sem, Nat.reduceEqDiff, Nat.reduceLT, Nat.reduceAdd, Nat.reduceLeDiff, Nat.reduceMul, Nat.reduceSub, Int.reduceLE, Int.reduceLT, Int.reduceToNat, Int.reducePow, Int.reduceEq]
      · simp only [go_sem, Nat.reduceEqDiff, Nat.reduceLT, Nat.reduceAdd, Nat.reduceLeDiff, Nat.reduceMul, Nat.reduceSub, Int.reduceLE, Int.reduceLT, Int.reduceToNat, Int.reducePow, Int.reduceEq]
      · simp only [go_sem, Nat.reduceEqDiff, Nat.reduceLT, Nat.reduceAdd, Nat.reduceLeDiff, Nat.reduceMul, Nat.reduceSub, Int.reduceLE, Int.reduceLT, Int.reduceToNat, Int.reducePow, Int.reduceEq]
      · simp only [go_sem, Nat.reduceEqDiff, Nat.reduceLT, Nat.reduceAdd, Nat.reduceLeDiff, Nat.reduceMul, Nat.reduceSub, Int.reduceLE, Int.reduceLT, Int.reduceToNat, Int.reducePow, Int.reduceEq]
      · simp only [go_sem, Nat.reduceEqDiff, Nat.reduceLT, Nat.reduceAdd, Nat.reduceLeDiff, Nat.reduceMul, Nat.reduceSub, Int.reduceLE, Int.reduceLT, Int.reduceToNat, Int.reducePow, Int.reduceEq]
      clear hr f4 f7 f8 f9 f10 f11 F
      intro F M4 tl b hr f12 f13 hb hml4 hk4
      have hst4 := hst.grow hk4
      refine W_seq ?_
      refine W_seq ?_
      (refine W_region [] (by rfl) fun K hK => ?_; simp only [go_sem, Nat.reduceEqDiff, Nat.reduceLT, Nat.reduceAdd, Nat.reduceLeDiff, Nat.reduceMul, Nat.reduceSub, Int.reduceLE, Int.reduceLT, Int.reduceToNat, Int.reducePow, Int.reduceEq, f12])
      (refine WRun.done _ _ (hK _ _ ?_); clear hK)
      cases b with
      | false =>
        have hnr : ¬ Rdy (toN to) dd i := fun h => by have := hb.2 h; cases this
        refine W_cond_true (by simp only [go_sem, Nat.reduceEqDiff, Nat.reduceLT, Nat.reduceAdd, Nat.reduceLeDiff, Nat.reduceMul, Nat.reduceSub, Int.reduceLE, Int.reduceLT, Int.reduceToNat, Int.reducePow, Int.reduceEq]) ?_
        refine W_exit (Qof_code (Qof_blk_same ?_))
        have ⟨f4, f7, f8, f9, f10, f11⟩ := hr
        (repeat (first | refine W_seq ?_ | refine W_block ?_ | refine W_blk ?_ | refine W_skip ?_))
        (refine W_region [] (by rfl) fun K hK => ?_; simp only [go_sem, Nat.reduceEqDiff, Nat.reduceLT, Nat.reduceAdd, Nat.reduceLeDiff, Nat.reduceMul, Nat.reduceSub, Int.reduceLE, Int.reduceLT, Int.reduceToNat, Int.reducePow, Int.reduceEq, f11, hw1])
        (refine WRun.done _ _ (hK _ _ ?_); clear hK)
        refine W_stop ⟨i + 1, ⟨hin, ⟨?_, ?_, ?_, ?_, ?_, ?_⟩, hst4, fun j hj => ?_, by omega, fun j hj => (hk4 j (by omega)).trans (hkeep j hj)⟩, by omega⟩
        · simp only [go_sem, Nat.reduceEqDiff, Nat.reduceLT, Nat.reduceAdd, Nat.reduceLeDiff, Nat.reduceMul, Nat.reduceSub, Int.reduceLE, Int.reduceLT, Int.reduceToNat, Int.reducePow, Int.reduceEq, f4]
        · simp only [go_sem, Nat.reduceEqDiff, Nat.reduceLT, Nat.reduceAdd, Nat.reduceLeDiff, Nat.reduceMul, Nat.reduceSub, Int.reduceLE, Int.reduceLT, Int.reduceToNat, Int.reducePow, Int.reduceEq, f7]
        · simp only [go_sem, Nat.reduceEqDiff, Nat.reduceLT, Nat.reduceAdd, Nat.reduceLeDiff, Nat.reduceMul, Nat.reduceSub, Int.reduceLE, Int.reduceLT, Int.reduceToNat, Int.reducePow, Int.reduceEq, f8]
        · simp only [go_sem, Nat.reduceEqDiff, Nat.reduceLT, Nat.reduceAdd, Nat.reduceLeDiff, Nat.reduceMul, Nat.reduceSub, Int.reduceLE, Int.reduceLT, Int.reduceToNat, Int.reducePow, Int.reduceEq, f9]
        · simp only [go_sem, Nat.reduceEqDiff, Nat.reduceLT, Nat.reduceAdd, Nat.reduceLeDiff, Nat.reduceMul, Nat.reduceSub, Int.reduceLE, Int.reduceLT, Int.reduceToNat, Int.reducePow, Int.reduceEq, f10]
        · simp only [go_sem, Nat.reduceEqDiff, Nat.reduceLT, Nat.reduceAdd, Nat.reduceLeDiff, Nat.reduceMul, Nat.reduceSub, Int.reduceLE, Int.reduceLT, Int.reduceToNat, Int.reducePow, Int.reduceEq]
        · by_cases hji : j = i
          · subst hji; exact hnr
          · exact hnot j (by omega)
      | true =>
        have hrd : Rdy (toN to) dd i := hb.1 rfl
        have hnx : Nxt (toN to) dd i := ⟨hrd, fun j hj => by
          apply Classical.byContradiction
          intro hc2
          exact hnot j (by omega) hj⟩
        refine W_cond_false (by simp only [go_sem, Nat.reduceEqDiff, Nat.reduceLT, Nat.reduceAdd, Nat.reduceLeDiff, Nat.reduceMul, Nat.reduceSub, Int.reduceLE, Int.reduceLT, Int.reduceToNat, Int.reducePow, Int.reduceEq]) ?_
        refine W_skip ?_
        refine W_seq ?_
        refine ref_mark (tl := tl) hst4 hnt hn40 hcl hrd c hc rs _ (hr.mk' ?_ ?_ ?_ ?_ ?_ ?_) ?_ ?_
        · simp only [go_sem, Nat.reduceEqDiff, Nat.reduceLT, Nat.reduceAdd, Nat.reduceLeDiff, Nat.reduceMul, Nat.reduceSub, Int.reduceLE, Int.reduceLT, Int.reduceToNat, Int.reducePow, Int.reduceEq]
        · simp only [go_sem, Nat.reduceEqDiff, Nat.reduceLT, Nat.reduceAdd, Nat.reduceLeDiff, Nat.reduceMul, Nat.reduceSub, Int.reduceLE, Int.reduceLT, Int.reduceToNat, Int.reducePow, Int.reduceEq]
        · simp only [go_sem, Nat.reduceEqDiff, Nat.reduceLT, Nat.reduceAdd, Nat.reduceLeDiff, Nat.reduceMul, Nat.reduceSub, Int.reduceLE, Int.reduceLT, Int.reduceToNat, Int.reducePow, Int.reduceEq]
        · simp only [go_sem, Nat.reduceEqDiff, Nat.reduceLT, Nat.reduceAdd, Nat.reduceLeDiff, Nat.reduceMul, Nat.reduceSub, Int.reduceLE, Int.reduceLT, Int.reduceToNat, Int.reducePow, Int.reduceEq]
        · simp only [go_sem, Nat.reduceEqDiff, Nat.reduceLT, Nat.reduceAdd, Nat.reduceLeDiff, Nat.reduceMul, Nat.reduceSub, Int.reduceLE, Int.reduceLT, Int.reduceToNat, Int.reducePow, Int.reduceEq]
        · simp only [go_sem, Nat.reduceEqDiff, Nat.reduceLT, Nat.reduceAdd, Nat.reduceLeDiff, Nat.reduceMul, Nat.reduceSub, Int.reduceLE, Int.reduceLT, Int.reduceToNat, Int.reducePow, Int.reduceEq]
        · simp only [go_sem, Nat.reduceEqDiff, Nat.reduceLT, Nat.reduceAdd, Nat.reduceLeDiff, Nat.reduceMul, Nat.reduceSub, Int.reduceLE, Int.reduceLT, Int.reduceToNat, Int.reducePow, Int.reduceEq, f13]
        clear hr f12 f13 F
        intro F M5 c' hr f13 hst5 hc' hcc hml5 hk5
        have ⟨f4, f7, f8, f9, f10, f11⟩ := hr
        have hto := hst5.tail.ok
        have hrc := hrr.cells
        have hrl2 : rs.length + 1 ≤ 1073741824 := by rw [hrr.1]; omega
        have hle' : c' ≤ n := by
          have := List.countP_le_length (p := Ord.mark (toN to) dd i) (l := List.range n)
          simp at this; omega
        (repeat (first | refine W_seq ?_ | refine W_block ?_ | refine W_blk ?_ | refine W_skip ?_))
        (refine W_region [] (by rfl) fun K hK => ?_; simp only [go_sem, Nat.reduceEqDiff, Nat.reduceLT, Nat.reduceAdd, Nat.reduceLeDiff, Nat.reduceMul, Nat.reduceSub, Int.reduceLE, Int.reduceLT, Int.reduceToNat, Int.reducePow, Int.reduceEq, f9, f13, hto, hrc, hrl2])
        (refine WRun.done _ _ (hK _ _ ?_); clear hK)
        refine W_exit (Qof_blk_other (by decide) (Qof_code (Qof_stop (Qof_blk_same ?_))))
        (repeat (first | refine W_seq ?_ | refine W_block ?_ | refine W_blk ?_ | refine W_skip ?_))
        refine W_stop ⟨(Ord.mark (toN to) dd i, .own M5.length, rs ++ [V.list tl (nats (cls (toN to) i))], l ++ [cls (toN to) i]), ⟨?_, ?_, ?_, ?_, ?_, hst5.app (by omega), hrr.snoc _ _, hcl.mark hrd, hpre.next hnx, ?_, ?_, fun j hj => ?_⟩, ?_⟩
        · simp only [go_sem, Nat.reduceEqDiff, Nat.reduceLT, Nat.reduceAdd, Nat.reduceLeDiff, Nat.reduceMul, Nat.reduceSub, Int.reduceLE, Int.reduceLT, Int.reduceToNat, Int.reducePow, Int.reduceEq, f4]
        · simp only [go_sem, Nat.reduceEqDiff, Nat.reduceLT, Nat.reduceAdd, Nat.reduceLeDiff, Nat.reduceMul, Nat.reduceSub, Int.reduceLE, Int.reduceLT, Int.reduceToNat, Int.reducePow, Int.reduceEq, f7]
        · simp only [go_sem, Nat.reduceEqDiff, Nat.reduceLT, Nat.reduceAdd, Nat.reduceLeDiff, Nat.reduceMul, Nat.reduceSub, Int.reduceLE, Int.reduceLT, Int.reduceToNat, Int.reducePow, Int.reduceEq, f8]
        · simp only [go_sem, Nat.reduceEqDiff, Nat.reduceLT, Nat.reduceAdd, Nat.reduceLeDiff, Nat.reduceMul, Nat.reduceSub, Int.reduceLE, Int.reduceLT, Int.reduceToNat, Int.reducePow, Int.reduceEq]
        · simp only [go_sem, Nat.reduceEqDiff, Nat.reduceLT, Nat.reduceAdd, Nat.reduceLeDiff, Nat.reduceMul, Nat.reduceSub, Int.reduceLE, Int.reduceLT, Int.reduceToNat, Int.reducePow, Int.reduceEq, f10, hc']
        · show (l ++ [cls (toN to) i]).length ≤ _
          rw [← hc']; simp; omega
        · simp [dropTag_sz]; omega
        · rw [List.getElem?_append_left (by rw [dropTag_sz]; omega), dropTag_ne _ _ (hst5.tail.ne hj), hk5 j hj, hk4 j (by omega)]
          exact hkeep j hj
        · show n - (List.range n).countP (Ord.mark (toN to) dd i) < n - (List.range n).countP dd
          omega
    · exfalso
      have hne : ∃ k, k < n ∧ dd k = false := by
        apply Classical.byContradiction
        intro hcon
        have h3 : (List.range n).countP dd = (List.range n).length := List.countP_eq_length.2 fun k hk => by
          cases hd : dd k with
          | true => rfl
          | false => exact absurd ⟨k, List.mem_range.1 hk, hd⟩ hcon
        simp at h3; omega
      obtain ⟨k, hk, hd⟩ := hne
      obtain ⟨j, hj⟩ := exists_rdy hgood _ k (Nat.le_refl _) (by omega) hd
      exact hnot j (by have := hj.1; omega) hj
  · have hlt' : ¬ (c : Int) < (n : Int) := by omega
    (repeat (first | refine W_seq ?_ | refine W_block ?_ | refine W_blk ?_ | refine W_skip ?_))
    (refine W_region [] (by rfl) fun K hK => ?_; simp only [go_sem, Nat.reduceEqDiff, Nat.reduceLT, Nat.reduceAdd, Nat.reduceLeDiff, Nat.reduceMul, Nat.reduceSub, Int.reduceLE, Int.reduceLT, Int.reduceToNat, Int.reducePow, Int.reduceEq, f4, f10, hlt'])
    (refine WRun.done _ _ (hK _ _ ?_); clear hK)
    (repeat (first | refine W_seq ?_ | refine W_block ?_ | refine W_blk ?_ | refine W_skip ?_))
    refine W_cond_false (by simp only [go_sem, Nat.reduceEqDiff, Nat.reduceLT, Nat.reduceAdd, Nat.reduceLeDiff, Nat.reduceMul, Nat.reduceSub, Int.reduceLE, Int.reduceLT, Int.reduceToNat, Int.reducePow, Int.reduceEq]) ?_
    refine W_exit (Qof_code (Qof_stop (Qof_blk_same ?_)))
    (repeat (first | refine W_seq ?_ | refine W_block ?_ | refine W_blk ?_ | refine W_skip ?_))
    (refine W_region [] (by rfl) fun K hK => ?_; simp only [go_sem, Nat.reduceEqDiff, Nat.reduceLT, Nat.reduceAdd, Nat.reduceLeDiff, Nat.reduceMul, Nat.reduceSub, Int.reduceLE, Int.reduceLT, Int.reduceToNat, Int.reducePow, Int.reduceEq, f9])
    (refine WRun.done _ _ (hK _ _ ?_); clear hK)
    refine W_ret ?_
    simp only [go_sem, Nat.reduceEqDiff, Nat.reduceLT, Nat.reduceAdd, Nat.reduceLeDiff, Nat.reduceMul, Nat.reduceSub, Int.reduceLE, Int.reduceLT, Int.reduceToNat, Int.reducePow, Int.reduceEq]
    refine ⟨?_, hml, hkeep⟩
    simp only [GroupsSaid, hok, if_true]
    refine ⟨tgo, rs, l, rfl, hrr, hpre.done fun k hk => ?_⟩
    have h3 : (List.range n).countP dd = (List.range n).length := by simp; omega
    exact List.countP_eq_length.1 h3 _ (List.mem_range.2 (by omega))
end Go.Ax

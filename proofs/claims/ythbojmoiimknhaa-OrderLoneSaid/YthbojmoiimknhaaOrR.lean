import Derived.Test.YthbojmoiimknhaaOrQ
set_option linter.unusedSimpArgs false
set_option linter.unusedVariables false
namespace Go.Ax
open Go.Proofs Go.Ord
noncomputable def body31 : Code := Try.f31.body.getD .skip

/-- What the reference keeps in memory. -/
structure RefSt (M : AMem) (B : Nat) (ids : List Nat) (n : Nat) (R : Nat → Nat → Bool) (dn : Nat) (dd : Nat → Bool) (tgo : Tag) : Prop where
  rb : RB M B ids n R
  il : ids.length = n
  dnc : M[dn]? = some (.cells (cellsB n dd))
  dB : B ≤ dn
  nd : dn ∉ ids
  tail : TailOk M B tgo

theorem TailOk.grow {M M' : AMem} {B : Nat} {tg : Tag} (h : TailOk M B tg) (hk : ∀ j, j < M.length → M'[j]? = M[j]?) : TailOk M' B tg := by
  rcases h with h | ⟨j, h1, h2, h3⟩
  · exact .inl h
  · exact .inr ⟨j, h1, h2, by rw [hk j (lt_of_at h3)]; exact h3⟩
theorem RB.grow {M M' : AMem} {B : Nat} {ids : List Nat} {n : Nat} {R : Nat → Nat → Bool} (h : RB M B ids n R) (hk : ∀ j, j < M.length → M'[j]? = M[j]?) : RB M' B ids n R :=
  ⟨h.nd, h.base, fun i id hi => by rw [hk id (lt_of_at (h.rows i id hi))]; exact h.rows i id hi⟩
theorem RefSt.grow {M M' : AMem} {B : Nat} {ids : List Nat} {n : Nat} {R : Nat → Nat → Bool} {dn : Nat} {dd : Nat → Bool} {tgo : Tag} (h : RefSt M B ids n R dn dd tgo) (hk : ∀ j, j < M.length → M'[j]? = M[j]?) : RefSt M' B ids n R dn dd tgo :=
  ⟨h.rb.grow hk, h.il, by rw [hk dn (lt_of_at h.dnc)]; exact h.dnc, h.dB, h.nd, h.tail.grow hk⟩
theorem RefSt.setD {M : AMem} {B : Nat} {ids : List Nat} {n : Nat} {R : Nat → Nat → Bool} {dn : Nat} {dd : Nat → Bool} {tgo : Tag} (h : RefSt M B ids n R dn dd tgo) (f : Nat → Bool) : RefSt (M.set dn (.cells (cellsB n f))) B ids n R dn f tgo := by
  refine ⟨⟨h.rb.nd, h.rb.base, fun i id hi => ?_⟩, h.il, List.getElem?_set_self (lt_of_at h.dnc), h.dB, h.nd, ?_⟩
  · have : dn ≠ id := fun e => h.nd (e ▸ List.mem_of_getElem? hi)
    rw [List.getElem?_set_ne this]; exact h.rb.rows i id hi
  · rcases h.tail with h1 | ⟨j, h1, h2, h3⟩
    · exact .inl h1
    · refine .inr ⟨j, h1, h2, ?_⟩
      have : dn ≠ j := by intro e; subst e; have := h.dnc; rw [h3] at this; cases this
      rw [List.getElem?_set_ne this]; exact h3
theorem RefSt.app {M : AMem} {B : Nat} {ids : List Nat} {n : Nat} {R : Nat → Nat → Bool} {dn : Nat} {dd : Nat → Bool} {tgo : Tag} (h : RefSt M B ids n R dn dd tgo) (hB : B ≤ M.length) : RefSt (dropTag tgo M ++ [.tail]) B ids n R dn dd (.own M.length) := by
  refine ⟨⟨h.rb.nd, h.rb.base, fun i id hi => ?_⟩, h.il, ?_, h.dB, h.nd, .inr ⟨M.length, rfl, hB, ?_⟩⟩
  · have h1 := h.rb.rows i id hi
    rw [List.getElem?_append_left (by rw [dropTag_sz]; exact lt_of_at h1), dropTag_ne _ _ (h.tail.ne_cells h1)]; exact h1
  · rw [List.getElem?_append_left (by rw [dropTag_sz]; exact lt_of_at h.dnc), dropTag_ne _ _ (h.tail.ne_cells h.dnc)]; exact h.dnc
  · rw [List.getElem?_append_right (by rw [dropTag_sz]; exact Nat.le_refl _)]
    simp [dropTag_sz]

theorem ref_r23 {Ret : Fr → AMem → Prop} {k0 : List It} {M : AMem} {B n : Nat} {ids : List Nat} {R : Nat → Nat → Bool} {tg : Tag} (h : RB M B ids n R) (hil : ids.length = n) {i k : Nat} (hi : i < n) (hk : k < n) (F : Fr) (f7 : look F 7 = .list tg (ids.map fun j => V.arr j 0 n 1)) (f11 : look F 11 = V.int i) (f14 : look F 14 = V.int k)
    (hc : ∀ F', (∀ t, (t < 74 ∨ 94 < t) → t ≠ 15 → look F' t = look F t) → look F' 15 = V.bool (decide (k = i) || (R i k && R k i)) → W Try.prog 139 Ret k0 F' M) :
    W Try.prog 139 Ret (.code (part [1,1,1,1,1,1,0,1,1,1,1,1,1,1,1,1,0,1,1,1,0,1,1,1,1,0,1,0] body31) :: k0) F M := by
  obtain ⟨id, _, hp1, hr1⟩ := h.at (i := i) (by omega)
  obtain ⟨kd, _, hp2, hr2⟩ := h.at (i := k) (by omega)
  have hi' : (i : Int) < (n : Int) := by omega
  have hk' : (k : Int) < (n : Int) := by omega
  have hi2 : (i : Int) < (ids.length : Int) := by omega
  have hk2 : (k : Int) < (ids.length : Int) := by omega
  have c1 := cellsB_at (R i) hk
  have c2 := cellsB_at (R k) hi
  have ne : ∀ {t : Nat}, (t < 74 ∨ 94 < t) → ∀ {u : Nat}, 74 ≤ u → u ≤ 94 → (t = u) = False := fun h _ h1 h2 => eq_false (by omega)
  by_cases hki : k = i
  · have hz : ((k : Int) = (i : Int)) = True := eq_true (by omega)
    (refine W_region [] (by rfl) fun K hK => ?_; simp only [go_sem, Nat.reduceEqDiff, Nat.reduceLT, Nat.reduceAdd, Nat.reduceLeDiff, Nat.reduceMul, Nat.reduceSub, Int.reduceLE, Int.reduceLT, Int.reduceToNat, Int.reducePow, Int.reduceEq, f11, f14, hz])
    (refine WRun.done _ _ (hK _ _ ?_); clear hK)
    refine hc _ (fun t ht h15 => ?_) ?_
    · simp only [go_sem, Nat.reduceEqDiff, Nat.reduceLT, Nat.reduceAdd, Nat.reduceLeDiff, Nat.reduceMul, Nat.reduceSub, Int.reduceLE, Int.reduceLT, Int.reduceToNat, Int.reducePow, Int.reduceEq, h15, ne ht, if_false]
    · simp only [go_sem, Nat.reduceEqDiff, Nat.reduceLT, Nat.reduceAdd, Nat.reduceLeDiff, Nat.reduceMul, Nat.reduceSub, Int.reduceLE, Int.reduceLT, Int.reduceToNat, Int.reducePow, Int.reduceEq, hki, Bool.true_or]
  · have hz : ((k : Int) = (i : Int)) = False := eq_false (by omega)
    cases hik : R i k with
    | false =>
      rw [hik] at c1
      (refine W_region [] (by rfl) fun K hK => ?_; simp only [go_sem, Nat.reduceEqDiff, Nat.reduceLT, Nat.reduceAdd, Nat.reduceLeDiff, Nat.reduceMul, Nat.reduceSub, Int.reduceLE, Int.reduceLT, Int.reduceToNat, Int.reducePow, Int.reduceEq, f7, f11, f14, hz, hp1, hi2, hr1, hk', c1, List.length_map, Int.natCast_nonneg, Int.toNat_natCast, List.head?_drop, Nat.zero_add])
      (refine WRun.done _ _ (hK _ _ ?_); clear hK)
      refine hc _ (fun t ht h15 => ?_) ?_
      · simp only [go_sem, Nat.reduceEqDiff, Nat.reduceLT, Nat.reduceAdd, Nat.reduceLeDiff, Nat.reduceMul, Nat.reduceSub, Int.reduceLE, Int.reduceLT, Int.reduceToNat, Int.reducePow, Int.reduceEq, h15, ne ht, if_false]
      · simp only [go_sem, Nat.reduceEqDiff, Nat.reduceLT, Nat.reduceAdd, Nat.reduceLeDiff, Nat.reduceMul, Nat.reduceSub, Int.reduceLE, Int.reduceLT, Int.reduceToNat, Int.reducePow, Int.reduceEq, hki, hik, Bool.false_or, Bool.false_and]
    | true =>
      rw [hik] at c1
      (refine W_region [] (by rfl) fun K hK => ?_; simp only [go_sem, Nat.reduceEqDiff, Nat.reduceLT, Nat.reduceAdd, Nat.reduceLeDiff, Nat.reduceMul, Nat.reduceSub, Int.reduceLE, Int.reduceLT, Int.reduceToNat, Int.reducePow, Int.reduceEq, f7, f11, f14, hz, hp1, hi2, hr1, hk', c1, hp2, hk2, hr2, hi', c2, List.length_map, Int.natCast_nonneg, Int.toNat_natCast, List.head?_drop, Nat.zero_add])
      (refine WRun.done _ _ (hK _ _ ?_); clear hK)
      refine hc _ (fun t ht h15 => ?_) ?_
      · simp only [go_sem, Nat.reduceEqDiff, Nat.reduceLT, Nat.reduceAdd, Nat.reduceLeDiff, Nat.reduceMul, Nat.reduceSub, Int.reduceLE, Int.reduceLT, Int.reduceToNat, Int.reducePow, Int.reduceEq, h15, ne ht, if_false]
      · simp only [go_sem, Nat.reduceEqDiff, Nat.reduceLT, Nat.reduceAdd, Nat.reduceLeDiff, Nat.reduceMul, Nat.reduceSub, Int.reduceLE, Int.reduceLT, Int.reduceToNat, Int.reducePow, Int.reduceEq, hki, hik, Bool.false_or, Bool.true_and]

theorem ref_r26 {Ret : Fr → AMem → Prop} {k0 : List It} {M : AMem} {B n : Nat} {ids : List Nat} {R : Nat → Nat → Bool} {tg : Tag} {dn : Nat} {dd : Nat → Bool} (h : RB M B ids n R) (hil : ids.length = n) (hd : M[dn]? = some (.cells (cellsB n dd))) {i k : Nat} (hi : i < n) (hk : k < n) {mu : Bool}
    (F : Fr) (f7 : look F 7 = .list tg (ids.map fun j => V.arr j 0 n 1)) (f8 : look F 8 = .arr dn 0 n 1) (f11 : look F 11 = V.int i) (f14 : look F 14 = V.int k) (f15 : look F 15 = V.bool mu)
    (hc : ∀ F', (∀ t, (t < 100 ∨ 117 < t) → look F' t = look F t) → look F' 117 = V.bool (R i k && !mu && !dd k) → W Try.prog 139 Ret k0 F' M) :
    W Try.prog 139 Ret (.code (part [1,1,1,1,1,1,0,1,1,1,1,1,1,1,1,1,0,1,1,1,0,1,1,1,1,0,1,1,1,0] body31) :: k0) F M := by
  obtain ⟨id, _, hp1, hr1⟩ := h.at (i := i) (by omega)
  have hk' : (k : Int) < (n : Int) := by omega
  have hi2 : (i : Int) < (ids.length : Int) := by omega
  have c1 := cellsB_at (R i) hk
  have c2 := cellsB_at dd hk
  have ne : ∀ {t : Nat}, (t < 100 ∨ 117 < t) → ∀ {u : Nat}, 100 ≤ u → u ≤ 117 → (t = u) = False := fun h _ h1 h2 => eq_false (by omega)
  cases hik : R i k with
  | false =>
    rw [hik] at c1
    (refine W_region [] (by rfl) fun K hK => ?_; simp only [go_sem, Nat.reduceEqDiff, Nat.reduceLT, Nat.reduceAdd, Nat.reduceLeDiff, Nat.reduceMul, Nat.reduceSub, Int.reduceLE, Int.reduceLT, Int.reduceToNat, Int.reducePow, Int.reduceEq, f7, f8, f11, f14, f15, hp1, hi2, hr1, hk', c1, List.length_map, Int.natCast_nonneg, Int.toNat_natCast, List.head?_drop, Nat.zero_add])
    (refine WRun.done _ _ (hK _ _ ?_); clear hK)
    refine hc _ (fun t ht => ?_) ?_
    · simp only [go_sem, Nat.reduceEqDiff, Nat.reduceLT, Nat.reduceAdd, Nat.reduceLeDiff, Nat.reduceMul, Nat.reduceSub, Int.reduceLE, Int.reduceLT, Int.reduceToNat, Int.reducePow, Int.reduceEq, ne ht, if_false]
    · simp only [go_sem, Nat.reduceEqDiff, Nat.reduceLT, Nat.reduceAdd, Nat.reduceLeDiff, Nat.reduceMul, Nat.reduceSub, Int.reduceLE, Int.reduceLT, Int.reduceToNat, Int.reducePow, Int.reduceEq, hik, Bool.false_and]
  | true =>
    rw [hik] at c1
    cases mu with
    | true =>
      (refine W_region [] (by rfl) fun K hK => ?_; simp only [go_sem, Nat.reduceEqDiff, Nat.reduceLT, Nat.reduceAdd, Nat.reduceLeDiff, Nat.reduceMul, Nat.reduceSub, Int.reduceLE, Int.reduceLT, Int.reduceToNat, Int.reducePow, Int.reduceEq, f7, f8, f11, f14, f15, hp1, hi2, hr1, hk', c1, List.length_map, Int.natCast_nonneg, Int.toNat_natCast, List.head?_drop, Nat.zero_add])
      (refine WRun.done _ _ (hK _ _ ?_); clear hK)
      refine hc _ (fun t ht => ?_) ?_
      · simp only [go_sem, Nat.reduceEqDiff, Nat.reduceLT, Nat.reduceAdd, Nat.reduceLeDiff, Nat.reduceMul, Nat.reduceSub, Int.reduceLE, Int.reduceLT, Int.reduceToNat, Int.reducePow, Int.reduceEq, ne ht, if_false]
      · simp only [go_sem, Nat.reduceEqDiff, Nat.reduceLT, Nat.reduceAdd, Nat.reduceLeDiff, Nat.reduceMul, Nat.reduceSub, Int.reduceLE, Int.reduceLT, Int.reduceToNat, Int.reducePow, Int.reduceEq, hik, Bool.true_and, Bool.false_and]
    | false =>
      (refine W_region [] (by rfl) fun K hK => ?_; simp only [go_sem, Nat.reduceEqDiff, Nat.reduceLT, Nat.reduceAdd, Nat.reduceLeDiff, Nat.reduceMul, Nat.reduceSub, Int.reduceLE, Int.reduceLT, Int.reduceToNat, Int.reducePow, Int.reduceEq, f7, f8, f11, f14, f15, hp1, hi2, hr1, hk', c1, hd, c2, List.length_map, Int.natCast_nonneg, Int.toNat_natCast, List.head?_drop, Nat.zero_add])
      (refine WRun.done _ _ (hK _ _ ?_); clear hK)
      refine hc _ (fun t ht => ?_) ?_
      · simp only [go_sem, Nat.reduceEqDiff, Nat.reduceLT, Nat.reduceAdd, Nat.reduceLeDiff, Nat.reduceMul, Nat.reduceSub, Int.reduceLE, Int.reduceLT, Int.reduceToNat, Int.reducePow, Int.reduceEq, ne ht, if_false]
      · simp only [go_sem, Nat.reduceEqDiff, Nat.reduceLT, Nat.reduceAdd, Nat.reduceLeDiff, Nat.reduceMul, Nat.reduceSub, Int.reduceLE, Int.reduceLT, Int.reduceToNat, Int.reducePow, Int.reduceEq, hik, Bool.true_and, Bool.false_and]
end Go.Ax

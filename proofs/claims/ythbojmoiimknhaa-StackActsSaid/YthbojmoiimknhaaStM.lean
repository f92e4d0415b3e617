import Derived.Test.YthbojmoiimknhaaStL
set_option linter.unusedSimpArgs false
set_option linter.unusedVariables false
namespace Go.Ax
open Go.Proofs

theorem cell_at {ls : List LFrm} {M : AMem} {kk : Nat} (h : ListAt M ls (some kk)) {q : Nat} {y : LFrm} (hq : ls[q]? = some y) {cs : List V} (hc : M[kk]? = some (.cells cs)) (j : Nat) (hj : j < 4) : cs[q * 4 + j]? = y.cells[j]? := by
  obtain ⟨cs', h1, h2, h3, _⟩ := h.cell hq
  rw [hc] at h1
  injection h1 with h1; injection h1 with h1
  subst h1
  rw [← h3, List.getElem?_take_of_lt hj, List.getElem?_drop, Nat.mul_comm]

theorem TagNew.step {L : Nat} {tg : Tag} {M : AMem} (h : TagNew L tg M) (hL : L ≤ M.length) : TagNew L (.own M.length) (dropTag tg M ++ [.tail]) ∧ (∀ j, j < L → (dropTag tg M ++ [.tail])[j]? = M[j]?) ∧ M.length < (dropTag tg M ++ [AObj.tail]).length := by
  refine ⟨.inr ⟨M.length, rfl, hL, ?_⟩, fun j hj => ?_, by simp [dropTag_len]⟩
  · rw [List.getElem?_append_right (by rw [dropTag_len]; exact Nat.le_refl _)]; simp [dropTag_len]
  · rw [List.getElem?_append_left (by rw [dropTag_len]; omega)]
    rcases h with rfl | ⟨j', rfl, h1, _⟩
    · rfl
    · exact List.getElem?_set_ne (by omega)
theorem TagNew.write {L : Nat} {tg : Tag} {M : AMem} (h : TagNew L tg M) {j : Nat} (hj : j < L) (o : AObj) : TagNew L tg (M.set j o) := by
  rcases h with h | ⟨j', h1, h2, h3⟩
  · exact .inl h
  · exact .inr ⟨j', h1, h2, by rw [List.getElem?_set_ne (by omega)]; exact h3⟩

theorem ints_cells1 (xs : List Int) : (∀ y ∈ xs.map V.int, y.cells.length = 1) = True := eq_true (by
  intro y hy
  obtain ⟨n, _, rfl⟩ := List.mem_map.1 hy
  rfl)

/-- The pointers of one frame are changed. -/
theorem map_row {Ret : Fr → AMem → Prop} {k0 : List It} {M : AMem} {A B : List LFrm} {y : LFrm} {kk c17 L : Nat} {nn : Int} {tw : Tag} {want : List Int} (hl : ListAt M (A ++ y :: B) (some kk)) (h17 : M[c17]? = some (.cells [V.int nn])) (h17k : c17 ≠ kk) (h17y : c17 ≠ y.id) (htw : TagNew L tw M) (hL : L ≤ M.length)
    (hkL : kk < L) (hyL : y.id < L) (h17L : c17 < L) (hids : ∀ z ∈ A ++ y :: B, z.id < L) (hA : A.length ≤ 1000) (hB : B.length ≤ 1000) (hy3 : y.f.l.length ≤ 16384) (hwl : want.length ≤ 1000000)
    (nL : Nat) (hnL : nL = (A ++ y :: B).length) (F : Fr) (f7 : look F 7 = .arr kk 0 nL 4) (f17 : look F 17 = .ptr c17 0) (f19 : look F 19 = .list tw (want.map V.int)) (f20 : look F 20 = V.int A.length) (f79 : look F 79 = .arr y.id 0 y.f.l.length 1) (f80 : look F 80 = V.int y.f.l.length) (f81 : look F 81 = V.int 0)
    (hk : ∀ F' M' tw', (∀ t, t < 81 ∨ 101 < t → t ≠ 19 → t ≠ 21 → t ≠ 22 → look F' t = look F t) → look F' 19 = .list tw' ((want ++ y.f.l).map V.int) → TagNew L tw' M' → ListAt M' (A ++ ⟨{ y.f with l := y.f.l.map (newP nn) }, y.id⟩ :: B) (some kk) → (∀ j, j < L → j ≠ y.id → M'[j]? = M[j]?) → M.length ≤ M'.length → W Try.prog 301 Ret k0 F' M') :
    W Try.prog 301 Ret (.code (part [1,1,1,1,1,1,0,1,1,1,1,1,0,1,1,0,1,1,1,1,1,1,1,1,1,0,1,1,1,1,0,1,0,1] body3) :: k0) F M := by
  have ne : ∀ {t : Nat}, (t < 81 ∨ 101 < t) → ∀ {u : Nat}, 81 ≤ u → u ≤ 101 → (t = u) = False := fun h _ h1 h2 => eq_false (by omega)
  (repeat (first | refine W_seq ?_ | refine W_block ?_ | refine W_blk ?_ | refine W_skip ?_))
  refine W_loop (α := Nat × Tag) (fun q F' M' => q.1 ≤ y.f.l.length ∧ (∀ t, t < 81 ∨ 101 < t → t ≠ 19 → t ≠ 21 → t ≠ 22 → look F' t = look F t) ∧ look F' 19 = .list q.2 ((want ++ y.f.l.take q.1).map V.int) ∧ look F' 81 = V.int q.1 ∧ TagNew L q.2 M' ∧ M.length ≤ M'.length ∧ (∀ j, j < L → j ≠ y.id → M'[j]? = M[j]?) ∧
      ListAt M' (A ++ ⟨{ y.f with l := (y.f.l.take q.1).map (newP nn) ++ y.f.l.drop q.1 }, y.id⟩ :: B) (some kk))
    (fun q => y.f.l.length - q.1) (0, tw) ⟨Nat.zero_le _, fun _ _ _ _ _ => rfl, by simpa using f19, f81, htw, Nat.le_refl _, fun _ _ _ => rfl, ?_⟩ ?_
  · simpa using hl
  rintro ⟨p, tp⟩ F' M1 ⟨hp, hF, g19, g81, htp, hml, hkeep, hlp⟩
  simp only at hp g19 g81 htp hlp
  have g7 := (hF 7 (by decide) (by decide) (by decide) (by decide)).trans f7
  have g17 := (hF 17 (by decide) (by decide) (by decide) (by decide)).trans f17
  have g20 := (hF 20 (by decide) (by decide) (by decide) (by decide)).trans f20
  have g79 := (hF 79 (by decide) (by decide) (by decide) (by decide)).trans f79
  have g80 := (hF 80 (by decide) (by decide) (by decide) (by decide)).trans f80
  by_cases hlt : p < y.f.l.length
  · have hlt' : (p : Int) < (y.f.l.length : Int) := by omega
    have hw1 : IntKind.i64.wrap ((p : Int) + 1) = ((p + 1 : Nat) : Int) := by rw [wrapI _ (by omega) (by omega)]; omega
    obtain ⟨v, hv⟩ : ∃ v, y.f.l[p]? = some v := ⟨_, List.getElem?_eq_getElem hlt⟩
    have hcur : ((y.f.l.take p).map (newP nn) ++ y.f.l.drop p).length = y.f.l.length := by simp; omega
    have hcurp : ((y.f.l.take p).map (newP nn) ++ y.f.l.drop p)[p]? = some v := by
      rw [List.getElem?_append_right (by simp; omega)]
      have : ((y.f.l.take p).map (newP nn)).length = p := by simp; omega
      rw [this, Nat.sub_self, List.getElem?_drop]; simpa using hv
    obtain ⟨cy, hcy, hcyt⟩ := hlp.each ⟨{ y.f with l := (y.f.l.take p).map (newP nn) ++ y.f.l.drop p }, y.id⟩ (by simp)
    have hcyt : cy.take ((y.f.l.take p).map (newP nn) ++ y.f.l.drop p).length = ((y.f.l.take p).map (newP nn) ++ y.f.l.drop p).map V.int := hcyt
    have hcy : M1[y.id]? = some (.cells cy) := hcy
    have hcyp : cy[p]? = some (V.int v) := by
      have := congrArg (fun l : List V => l[p]?) hcyt
      simp only [List.getElem?_map, hcurp, Option.map_some] at this
      rw [List.getElem?_take_of_lt (by omega)] at this
      exact this
    have hcyl : p + 1 ≤ cy.length := (List.getElem?_eq_some_iff.1 hcyp).1
    have hok := htp.ok
    have hcx := ints_cells1 (want ++ y.f.l.take p)
    have hll : want.length + (y.f.l.take p).length ≤ 1073741823 := by simp; omega
    have hsn : (want ++ y.f.l.take p).map V.int ++ [V.int v] = (want ++ y.f.l.take (p + 1)).map V.int := by
      rw [List.take_add_one, hv]; simp
    (repeat (first | refine W_seq ?_ | refine W_block ?_ | refine W_blk ?_ | refine W_skip ?_))
    (refine W_region [] (by rfl) fun K hK => ?_; simp only [go_sem, Nat.reduceEqDiff, Nat.reduceLT, Nat.reduceAdd, Nat.reduceLeDiff, Nat.reduceMul, Nat.reduceSub, Int.reduceLE, Int.reduceLT, Int.reduceToNat, Int.reducePow, Int.reduceEq, g80, g81, hlt'])
    (refine WRun.done _ _ (hK _ _ ?_); clear hK)
    (repeat (first | refine W_seq ?_ | refine W_block ?_ | refine W_blk ?_ | refine W_skip ?_))
    refine W_cond_true (by simp only [go_sem, Nat.reduceEqDiff, Nat.reduceLT, Nat.reduceAdd, Nat.reduceLeDiff, Nat.reduceMul, Nat.reduceSub, Int.reduceLE, Int.reduceLT, Int.reduceToNat, Int.reducePow, Int.reduceEq]) ?_
    (repeat (first | refine W_seq ?_ | refine W_block ?_ | refine W_blk ?_ | refine W_skip ?_))
    (refine W_region [] (by rfl) fun K hK => ?_; simp only [go_sem, Nat.reduceEqDiff, Nat.reduceLT, Nat.reduceAdd, Nat.reduceLeDiff, Nat.reduceMul, Nat.reduceSub, Int.reduceLE, Int.reduceLT, Int.reduceToNat, Int.reducePow, Int.reduceEq, g79, g81, hlt', hcy, hcyp, Int.natCast_nonneg, Int.toNat_natCast, List.head?_drop, Nat.zero_add])
    (refine WRun.done _ _ (hK _ _ ?_); clear hK)
    (repeat (first | refine W_seq ?_ | refine W_block ?_ | refine W_blk ?_ | refine W_skip ?_))
    (refine W_region [] (by rfl) fun K hK => ?_; simp only [go_sem, Nat.reduceEqDiff, Nat.reduceLT, Nat.reduceAdd, Nat.reduceLeDiff, Nat.reduceMul, Nat.reduceSub, Int.reduceLE, Int.reduceLT, Int.reduceToNat, Int.reducePow, Int.reduceEq, g19, hok, hcx, hll, hsn, List.length_map])
    (refine WRun.done _ _ (hK _ _ ?_); clear hK)
    obtain ⟨t1, t2, t3⟩ := htp.step (by omega : L ≤ M1.length)
    have hl2 : ListAt (dropTag tp M1 ++ [.tail]) (A ++ ⟨{ y.f with l := (y.f.l.take p).map (newP nn) ++ y.f.l.drop p }, y.id⟩ :: B) (some kk) := by
      refine hlp.same (fun q e => t2 q (by injection e with e; omega)) (fun z hz => t2 _ ?_)
      rcases List.mem_append.1 hz with hz | hz
      · exact hids z (by simp [hz])
      · rcases List.mem_cons.1 hz with rfl | hz
        · exact hyL
        · exact hids z (by simp [hz])
    have hcy2 : (dropTag tp M1 ++ [.tail])[y.id]? = some (.cells cy) := (t2 _ hyL).trans hcy
    have h172 : (dropTag tp M1 ++ [.tail])[c17]? = some (.cells [V.int nn]) := (t2 _ h17L).trans ((hkeep _ h17L h17y).trans h17)
    have hkeep2 : ∀ j, j < L → j ≠ y.id → (dropTag tp M1 ++ [AObj.tail])[j]? = M[j]? := fun j h1 h2 => (t2 j h1).trans (hkeep j h1 h2)
    have hlen2 : M.length ≤ (dropTag tp M1 ++ [AObj.tail]).length := by omega
    generalize dropTag tp M1 ++ [AObj.tail] = M2 at t1 hl2 hcy2 h172 hkeep2 hlen2 ⊢
    obtain ⟨ck, hck, _⟩ := hl2.fsome kk rfl
    have hyq : (A ++ ⟨{ y.f with l := (y.f.l.take p).map (newP nn) ++ y.f.l.drop p }, y.id⟩ :: B)[A.length]? = some ⟨{ y.f with l := (y.f.l.take p).map (newP nn) ++ y.f.l.drop p }, y.id⟩ := by simp
    have hc3 := cell_at hl2 hyq hck 3 (by decide)
    have hc3 : ck[A.length * 4 + 3]? = some (V.arr y.id 0 y.f.l.length 1) := by
      rw [hc3]
      show some (V.arr y.id 0 ((y.f.l.take p).map (newP nn) ++ y.f.l.drop p).length 1) = _
      rw [hcur]
    have hAlt : (A.length : Int) < (nL : Int) := by rw [hnL]; simp; omega
    (repeat (first | refine W_seq ?_ | refine W_block ?_ | refine W_blk ?_ | refine W_skip ?_))
    (refine W_draw [] (fun X => X[kk]? = some (.cells ck) ∧ X[c17]? = some (.cells [V.int nn])) mixed_ (by rfl) ?_ fun K hK => ?_)
    · exact ⟨hck, h172⟩
    (refine DR_quiet [0, 1, 2, 3, 4, 5, 6, 7, 8, 9, 10] (by decide +kernel) (fun M_ hS_ => ?_) (fun K2 hK2 => ?_); (focus (simp only [go_sem, Nat.reduceEqDiff, Nat.reduceLT, Nat.reduceAdd, Nat.reduceLeDiff, Nat.reduceMul, Nat.reduceSub, Int.reduceLE, Int.reduceLT, Int.reduceToNat, Int.reducePow, Int.reduceEq, hS_, g7, g17, g20, hck, h172, hc3, hAlt, hlt', ne_eq, not_false_eq_true, Int.natCast_nonneg, Int.toNat_natCast, List.head?_drop, Nat.zero_add])); simp only [go_sem, Nat.reduceEqDiff, Nat.reduceLT, Nat.reduceAdd, Nat.reduceLeDiff, Nat.reduceMul, Nat.reduceSub, Int.reduceLE, Int.reduceLT, Int.reduceToNat, Int.reducePow, Int.reduceEq, g7, g17, g20, hck, h172, hc3, hAlt, hlt', ne_eq, not_false_eq_true, Int.natCast_nonneg, Int.toNat_natCast, List.head?_drop, Nat.zero_add]; refine hK2 _ ?_; clear hK2)
    (refine DR_last' 11 (by decide +kernel) (by decide +kernel) (by decide +kernel) (by simp only [go_sem, Nat.reduceEqDiff, Nat.reduceLT, Nat.reduceAdd, Nat.reduceLeDiff, Nat.reduceMul, Nat.reduceSub, Int.reduceLE, Int.reduceLT, Int.reduceToNat, Int.reducePow, Int.reduceEq, hcy2, hcyl]) ?_; simp only [go_sem, Nat.reduceEqDiff, Nat.reduceLT, Nat.reduceAdd, Nat.reduceLeDiff, Nat.reduceMul, Nat.reduceSub, Int.reduceLE, Int.reduceLT, Int.reduceToNat, Int.reducePow, Int.reduceEq, hcy2, hcyl]; refine hK _ _ ?_; clear hK)
    have hl3 := hl2.setL (y := ⟨{ y.f with l := (y.f.l.take p).map (newP nn) ++ y.f.l.drop p }, y.id⟩) hcy2 (p := p) (by show p < ((y.f.l.take p).map (newP nn) ++ y.f.l.drop p).length; omega) (newP nn v)
    have hset : ((y.f.l.take p).map (newP nn) ++ y.f.l.drop p).set p (newP nn v) = (y.f.l.take (p + 1)).map (newP nn) ++ y.f.l.drop (p + 1) := by
      have e1 : ((y.f.l.take p).map (newP nn)).length = p := by simp; omega
      rw [List.set_append_right _ _ (by omega), e1, Nat.sub_self, List.take_add_one, hv]
      have e2 : y.f.l.drop p = v :: y.f.l.drop (p + 1) := by
        rw [List.drop_eq_getElem_cons hlt, (List.getElem?_eq_some_iff.1 hv).2]
      rw [e2, List.set_cons_zero]
      simp
    have hl3 : ListAt (M2.set y.id (.cells (cy.take p ++ V.int (newP nn v) :: cy.drop (p + 1)))) (A ++ ⟨{ y.f with l := (y.f.l.take (p + 1)).map (newP nn) ++ y.f.l.drop (p + 1) }, y.id⟩ :: B) (some kk) := by
      have := hl3
      simp only [hset] at this
      exact this
    (repeat (first | refine W_seq ?_ | refine W_block ?_ | refine W_blk ?_ | refine W_skip ?_))
    (refine W_region [] (by rfl) fun K hK => ?_; simp only [go_sem, Nat.reduceEqDiff, Nat.reduceLT, Nat.reduceAdd, Nat.reduceLeDiff, Nat.reduceMul, Nat.reduceSub, Int.reduceLE, Int.reduceLT, Int.reduceToNat, Int.reducePow, Int.reduceEq, g81, hw1])
    (refine WRun.done _ _ (hK _ _ ?_); clear hK)
    refine W_stop ⟨(p + 1, .own M1.length), ⟨hlt, fun t ht h19 h21 h22 => ?_, ?_, ?_, t1.write hyL _, by simp; exact hlen2, fun j hj hne => ?_, hl3⟩, by show y.f.l.length - (p + 1) < y.f.l.length - p; omega⟩
    · simp only [go_sem, Nat.reduceEqDiff, Nat.reduceLT, Nat.reduceAdd, Nat.reduceLeDiff, Nat.reduceMul, Nat.reduceSub, Int.reduceLE, Int.reduceLT, Int.reduceToNat, Int.reducePow, Int.reduceEq, h19, h21, h22, ne ht, if_false]
      exact hF t ht h19 h21 h22
    · simp only [go_sem, Nat.reduceEqDiff, Nat.reduceLT, Nat.reduceAdd, Nat.reduceLeDiff, Nat.reduceMul, Nat.reduceSub, Int.reduceLE, Int.reduceLT, Int.reduceToNat, Int.reducePow, Int.reduceEq]
    · simp only [go_sem, Nat.reduceEqDiff, Nat.reduceLT, Nat.reduceAdd, Nat.reduceLeDiff, Nat.reduceMul, Nat.reduceSub, Int.reduceLE, Int.reduceLT, Int.reduceToNat, Int.reducePow, Int.reduceEq]
    · rw [List.getElem?_set_ne (Ne.symm hne)]; exact hkeep2 j hj hne
  · have hlt' : ¬ (p : Int) < (y.f.l.length : Int) := by omega
    have htk : y.f.l.take p = y.f.l := List.take_of_length_le (by omega)
    have hdr : y.f.l.drop p = [] := List.drop_of_length_le (by omega)
    rw [htk, hdr, List.append_nil] at hlp
    rw [htk] at g19
    (repeat (first | refine W_seq ?_ | refine W_block ?_ | refine W_blk ?_ | refine W_skip ?_))
    (refine W_region [] (by rfl) fun K hK => ?_; simp only [go_sem, Nat.reduceEqDiff, Nat.reduceLT, Nat.reduceAdd, Nat.reduceLeDiff, Nat.reduceMul, Nat.reduceSub, Int.reduceLE, Int.reduceLT, Int.reduceToNat, Int.reducePow, Int.reduceEq, g80, g81, hlt'])
    (refine WRun.done _ _ (hK _ _ ?_); clear hK)
    (repeat (first | refine W_seq ?_ | refine W_block ?_ | refine W_blk ?_ | refine W_skip ?_))
    refine W_cond_false (by simp only [go_sem, Nat.reduceEqDiff, Nat.reduceLT, Nat.reduceAdd, Nat.reduceLeDiff, Nat.reduceMul, Nat.reduceSub, Int.reduceLE, Int.reduceLT, Int.reduceToNat, Int.reducePow, Int.reduceEq]) ?_
    refine W_exit (Qof_code (Qof_stop (Qof_blk_same ?_)))
    refine hk _ M1 tp (fun t ht h19 h21 h22 => ?_) ?_ htp hlp hkeep hml
    · simp only [go_sem, Nat.reduceEqDiff, Nat.reduceLT, Nat.reduceAdd, Nat.reduceLeDiff, Nat.reduceMul, Nat.reduceSub, Int.reduceLE, Int.reduceLT, Int.reduceToNat, Int.reducePow, Int.reduceEq, ne ht, if_false]
      exact hF t ht h19 h21 h22
    · simp only [go_sem, Nat.reduceEqDiff, Nat.reduceLT, Nat.reduceAdd, Nat.reduceLeDiff, Nat.reduceMul, Nat.reduceSub, Int.reduceLE, Int.reduceLT, Int.reduceToNat, Int.reducePow, Int.reduceEq, g19]
end Go.Ax
